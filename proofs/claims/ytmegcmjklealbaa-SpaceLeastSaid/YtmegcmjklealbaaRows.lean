/-
  No cell of these rows narrows 'for every input' (looked for: loops, veiled, ifaces, maps, wideKeys, modest, calm, conditions, laid).
  DERIVED. THE GIVEN ROWS OF THIS SEAT. 6 by the template 'for every input the law returns true; each argument reads behind the call as it read before'; 0 by the template 'total and deterministic' (their statements: YtmegcmjklealbaaTotals.lean).
  GIVEN WITH THE SEED: the statements are not yours to turn. If you find one false, say at which input.
  Laid BY PROGRAM, IN A SANDBOX (cutbox-rows.mjs): the forced cells as the released guide's own fill.sh prints them over the translation 1026ec97b8106f63… (all of the seat's roots in one cut). By AI agents, Wed Nov 11 2026. No macro, syntax, notation, axiom, sorry.
-/
import Derived.Test.YtmegcmjklealbaaChecked
import GoSem.Claim
import GoSem.ClaimJoined
import GoSem.ClaimMapViews
import Derived.JoinedTies
import Derived.KernelRfl
namespace Go.Proofs.Ytmegcmjklealbaa
/- THE CELL 'sum', in the pinned program and in every row, IS THE sha256 OF THE DUMP (.gsa) THAT YtmegcmjklealbaaProg.lean LOADS. Nothing in Lean hashes anything: it is a label: what it is worth is what the hold of that sum in a sandbox is worth. -/
noncomputable def Try.pinned : Pinned := { name := "ytmegcmjklealbaa", sum := "1026ec97b8106f63a442136bb5d18b0ab9fed8778138b0e06e6e812e6b0c86a5", checked := Try.checked }
namespace Rows
def none {H : Type} : Left H := { results := [], args := [] }

/-- 'sluicegatelaw10.SpaceScripts': WHATEVER THE INPUT: true; the input reads as it did. -/
def spaceScriptsSpec : ChangeSpec := { name := "spaceScripts", fn := fun _ => fun
  | [d] => { results := [.lit (.bool true)], args := [d] }
  | _ => none }
def spaceScriptsRow : OpenClaim := { program := "ytmegcmjklealbaa", sum := "1026ec97b8106f63a442136bb5d18b0ab9fed8778138b0e06e6e812e6b0c86a5", func := "sluicegate/sluicegatelaw10.SpaceScripts", spec := "spaceScripts", unfollowed := true, recurses := true, apart := false }
def SpaceScriptsSaid : Prop := spaceScriptsRow.holds Try.pinned (OpenSpec.ofChange spaceScriptsSpec)

/-- ITS FALSE NEIGHBOUR: 'it returns false'. Refute it at one input. -/
def spaceScriptsWrong : ChangeSpec := { name := "spaceScripts", fn := fun _ => fun
  | [d] => { results := [.lit (.bool false)], args := [d] }
  | _ => none }
def SpaceScriptsWrongFalsely : Prop := spaceScriptsRow.holds Try.pinned (OpenSpec.ofChange spaceScriptsWrong)

/-- 'sluicegatelaw10.SpaceOnce': WHATEVER THE INPUT: true; the input reads as it did. -/
def spaceOnceSpec : ChangeSpec := { name := "spaceOnce", fn := fun _ => fun
  | [d] => { results := [.lit (.bool true)], args := [d] }
  | _ => none }
def spaceOnceRow : OpenClaim := { program := "ytmegcmjklealbaa", sum := "1026ec97b8106f63a442136bb5d18b0ab9fed8778138b0e06e6e812e6b0c86a5", func := "sluicegate/sluicegatelaw10.SpaceOnce", spec := "spaceOnce", unfollowed := true, recurses := true, apart := false }
def SpaceOnceSaid : Prop := spaceOnceRow.holds Try.pinned (OpenSpec.ofChange spaceOnceSpec)

/-- ITS FALSE NEIGHBOUR: 'it returns false'. Refute it at one input. -/
def spaceOnceWrong : ChangeSpec := { name := "spaceOnce", fn := fun _ => fun
  | [d] => { results := [.lit (.bool false)], args := [d] }
  | _ => none }
def SpaceOnceWrongFalsely : Prop := spaceOnceRow.holds Try.pinned (OpenSpec.ofChange spaceOnceWrong)

/-- 'sluicegatelaw10.SpaceFull': WHATEVER THE INPUT: true; the input reads as it did. -/
def spaceFullSpec : ChangeSpec := { name := "spaceFull", fn := fun _ => fun
  | [d1, d2] => { results := [.lit (.bool true)], args := [d1, d2] }
  | _ => none }
def spaceFullRow : OpenClaim := { program := "ytmegcmjklealbaa", sum := "1026ec97b8106f63a442136bb5d18b0ab9fed8778138b0e06e6e812e6b0c86a5", func := "sluicegate/sluicegatelaw10.SpaceFull", spec := "spaceFull", unfollowed := true, recurses := true, apart := false }
def SpaceFullSaid : Prop := spaceFullRow.holds Try.pinned (OpenSpec.ofChange spaceFullSpec)

/-- ITS FALSE NEIGHBOUR: 'it returns false'. Refute it at one input. -/
def spaceFullWrong : ChangeSpec := { name := "spaceFull", fn := fun _ => fun
  | [d1, d2] => { results := [.lit (.bool false)], args := [d1, d2] }
  | _ => none }
def SpaceFullWrongFalsely : Prop := spaceFullRow.holds Try.pinned (OpenSpec.ofChange spaceFullWrong)

/-- 'sluicegatelaw10.SpaceNil': WHATEVER THE INPUT: true; the input reads as it did. -/
def spaceNilSpec : ChangeSpec := { name := "spaceNil", fn := fun _ => fun
  | [d] => { results := [.lit (.bool true)], args := [d] }
  | _ => none }
def spaceNilRow : OpenClaim := { program := "ytmegcmjklealbaa", sum := "1026ec97b8106f63a442136bb5d18b0ab9fed8778138b0e06e6e812e6b0c86a5", func := "sluicegate/sluicegatelaw10.SpaceNil", spec := "spaceNil", unfollowed := true, recurses := true, apart := false }
def SpaceNilSaid : Prop := spaceNilRow.holds Try.pinned (OpenSpec.ofChange spaceNilSpec)

/-- ITS FALSE NEIGHBOUR: 'it returns false'. Refute it at one input. -/
def spaceNilWrong : ChangeSpec := { name := "spaceNil", fn := fun _ => fun
  | [d] => { results := [.lit (.bool false)], args := [d] }
  | _ => none }
def SpaceNilWrongFalsely : Prop := spaceNilRow.holds Try.pinned (OpenSpec.ofChange spaceNilWrong)

/-- 'sluicegatelaw10.SpaceLeast': WHATEVER THE INPUT: true; the input reads as it did. -/
def spaceLeastSpec : ChangeSpec := { name := "spaceLeast", fn := fun _ => fun
  | [d1, d2] => { results := [.lit (.bool true)], args := [d1, d2] }
  | _ => none }
def spaceLeastRow : OpenClaim := { program := "ytmegcmjklealbaa", sum := "1026ec97b8106f63a442136bb5d18b0ab9fed8778138b0e06e6e812e6b0c86a5", func := "sluicegate/sluicegatelaw10.SpaceLeast", spec := "spaceLeast", unfollowed := true, recurses := true, apart := false }
def SpaceLeastSaid : Prop := spaceLeastRow.holds Try.pinned (OpenSpec.ofChange spaceLeastSpec)

/-- ITS FALSE NEIGHBOUR: 'it returns false'. Refute it at one input. -/
def spaceLeastWrong : ChangeSpec := { name := "spaceLeast", fn := fun _ => fun
  | [d1, d2] => { results := [.lit (.bool false)], args := [d1, d2] }
  | _ => none }
def SpaceLeastWrongFalsely : Prop := spaceLeastRow.holds Try.pinned (OpenSpec.ofChange spaceLeastWrong)

/-- 'sluicegatelaw10.SpaceMarks': WHATEVER THE INPUT: true; the input reads as it did. -/
def spaceMarksSpec : ChangeSpec := { name := "spaceMarks", fn := fun _ => fun
  | [d] => { results := [.lit (.bool true)], args := [d] }
  | _ => none }
def spaceMarksRow : OpenClaim := { program := "ytmegcmjklealbaa", sum := "1026ec97b8106f63a442136bb5d18b0ab9fed8778138b0e06e6e812e6b0c86a5", func := "sluicegate/sluicegatelaw10.SpaceMarks", spec := "spaceMarks", unfollowed := true, recurses := true, apart := false }
def SpaceMarksSaid : Prop := spaceMarksRow.holds Try.pinned (OpenSpec.ofChange spaceMarksSpec)

/-- ITS FALSE NEIGHBOUR: 'it returns false'. Refute it at one input. -/
def spaceMarksWrong : ChangeSpec := { name := "spaceMarks", fn := fun _ => fun
  | [d] => { results := [.lit (.bool false)], args := [d] }
  | _ => none }
def SpaceMarksWrongFalsely : Prop := spaceMarksRow.holds Try.pinned (OpenSpec.ofChange spaceMarksWrong)

/- THE SECOND FORM. 'bulk': how many values and letters a reading holds, each counted each time it is reached (what is shared counts as often as it is met; a slice's spare places count too). A statement '..UptoSaid' is the law's where the arguments, and the package variables that the reading takes, are together of bulk at most 1048576: NARROWER than '..Said'. Prove '..Said' where nothing that the law and all that it calls make is longer than what came in: it says more and counts as full. Else prove '..UptoSaid'. A law counts once. -/
mutual
def uptoBulk {H : Type} : DataW H → Nat
  | .lit (.string bytes) => bytes.length + 1
  | .lit _ => 1
  | .nil => 1
  | .ptr d => uptoBulk d + 1
  | .slice elems spare => uptoBulkAll elems + uptoBulkAll spare + 1
  | .agg parts => uptoBulkAll parts + 1
  | .iface _ d => uptoBulk d + 1
  | .map entries => uptoBulkEntries entries + 1
  | .held _ => 1
def uptoBulkAll {H : Type} : List (DataW H) → Nat
  | [] => 0
  | d :: r => uptoBulk d + uptoBulkAll r
def uptoBulkEntries {H : Type} : List (Lit × DataW H) → Nat
  | [] => 0
  | x :: r => uptoBulkEntry x + uptoBulkEntries r
def uptoBulkEntry {H : Type} : Lit × DataW H → Nat
  | (.string bytes, d) => bytes.length + uptoBulk d + 1
  | (_, d) => uptoBulk d + 1
 end
def uptoSmall : (H : Type) → List (DataW H) → Bool := fun _ ds => decide (uptoBulkAll ds ≤ 1048576)
def OpenSpec.upto (s : _root_.Go.ChangeSpec) : _root_.Go.OpenSpec := { _root_.Go.OpenSpec.ofChange s with cond := some uptoSmall }

/-- 'sluicegatelaw10.SpaceScripts', WHERE WHAT IT READS IS OF BULK AT MOST 1048576: true; the input reads as it did. -/
def spaceScriptsUptoRow : OpenClaim := { program := "ytmegcmjklealbaa", sum := "1026ec97b8106f63a442136bb5d18b0ab9fed8778138b0e06e6e812e6b0c86a5", func := "sluicegate/sluicegatelaw10.SpaceScripts", spec := "spaceScripts", unfollowed := true, recurses := true, apart := false, narrowed := true }
def SpaceScriptsUptoSaid : Prop := spaceScriptsUptoRow.holds Try.pinned (OpenSpec.upto spaceScriptsSpec)

/-- 'sluicegatelaw10.SpaceOnce', WHERE WHAT IT READS IS OF BULK AT MOST 1048576: true; the input reads as it did. -/
def spaceOnceUptoRow : OpenClaim := { program := "ytmegcmjklealbaa", sum := "1026ec97b8106f63a442136bb5d18b0ab9fed8778138b0e06e6e812e6b0c86a5", func := "sluicegate/sluicegatelaw10.SpaceOnce", spec := "spaceOnce", unfollowed := true, recurses := true, apart := false, narrowed := true }
def SpaceOnceUptoSaid : Prop := spaceOnceUptoRow.holds Try.pinned (OpenSpec.upto spaceOnceSpec)

/-- 'sluicegatelaw10.SpaceFull', WHERE WHAT IT READS IS OF BULK AT MOST 1048576: true; the input reads as it did. -/
def spaceFullUptoRow : OpenClaim := { program := "ytmegcmjklealbaa", sum := "1026ec97b8106f63a442136bb5d18b0ab9fed8778138b0e06e6e812e6b0c86a5", func := "sluicegate/sluicegatelaw10.SpaceFull", spec := "spaceFull", unfollowed := true, recurses := true, apart := false, narrowed := true }
def SpaceFullUptoSaid : Prop := spaceFullUptoRow.holds Try.pinned (OpenSpec.upto spaceFullSpec)

/-- 'sluicegatelaw10.SpaceNil', WHERE WHAT IT READS IS OF BULK AT MOST 1048576: true; the input reads as it did. -/
def spaceNilUptoRow : OpenClaim := { program := "ytmegcmjklealbaa", sum := "1026ec97b8106f63a442136bb5d18b0ab9fed8778138b0e06e6e812e6b0c86a5", func := "sluicegate/sluicegatelaw10.SpaceNil", spec := "spaceNil", unfollowed := true, recurses := true, apart := false, narrowed := true }
def SpaceNilUptoSaid : Prop := spaceNilUptoRow.holds Try.pinned (OpenSpec.upto spaceNilSpec)

/-- 'sluicegatelaw10.SpaceLeast', WHERE WHAT IT READS IS OF BULK AT MOST 1048576: true; the input reads as it did. -/
def spaceLeastUptoRow : OpenClaim := { program := "ytmegcmjklealbaa", sum := "1026ec97b8106f63a442136bb5d18b0ab9fed8778138b0e06e6e812e6b0c86a5", func := "sluicegate/sluicegatelaw10.SpaceLeast", spec := "spaceLeast", unfollowed := true, recurses := true, apart := false, narrowed := true }
def SpaceLeastUptoSaid : Prop := spaceLeastUptoRow.holds Try.pinned (OpenSpec.upto spaceLeastSpec)

/-- 'sluicegatelaw10.SpaceMarks', WHERE WHAT IT READS IS OF BULK AT MOST 1048576: true; the input reads as it did. -/
def spaceMarksUptoRow : OpenClaim := { program := "ytmegcmjklealbaa", sum := "1026ec97b8106f63a442136bb5d18b0ab9fed8778138b0e06e6e812e6b0c86a5", func := "sluicegate/sluicegatelaw10.SpaceMarks", spec := "spaceMarks", unfollowed := true, recurses := true, apart := false, narrowed := true }
def SpaceMarksUptoSaid : Prop := spaceMarksUptoRow.holds Try.pinned (OpenSpec.upto spaceMarksSpec)

end Rows
end Go.Proofs.Ytmegcmjklealbaa
