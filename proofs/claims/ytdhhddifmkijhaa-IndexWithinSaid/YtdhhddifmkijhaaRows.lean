/-
  No cell of these rows narrows 'for every input' (looked for: loops, veiled, ifaces, maps, wideKeys, modest, calm, conditions, laid).
  DERIVED. THE GIVEN ROWS OF THIS SEAT. 5 by the template 'for every input the law returns true; each argument reads behind the call as it read before'; 0 by the template 'total and deterministic' (their statements: YtdhhddifmkijhaaTotals.lean).
  GIVEN WITH THE SEED: the statements are not yours to turn. If you find one false, say at which input.
  Laid BY PROGRAM, IN A SANDBOX (cutbox-rows.mjs): the forced cells as the released guide's own fill.sh prints them over the translation 7c10081c9751c5b9… (all of the seat's roots in one cut). By AI agents, Wed Nov 11 2026. No macro, syntax, notation, axiom, sorry.
-/
import Derived.Test.YtdhhddifmkijhaaChecked
import GoSem.Claim
import GoSem.ClaimJoined
import GoSem.ClaimMapViews
import Derived.JoinedTies
import Derived.KernelRfl
namespace Go.Proofs.Ytdhhddifmkijhaa
/- THE CELL 'sum', in the pinned program and in every row, IS THE sha256 OF THE DUMP (.gsa) THAT YtdhhddifmkijhaaProg.lean LOADS. Nothing in Lean hashes anything: it is a label: what it is worth is what the hold of that sum in a sandbox is worth. -/
noncomputable def Try.pinned : Pinned := { name := "ytdhhddifmkijhaa", sum := "7c10081c9751c5b9891dc0bcf8d0a39f694e1292552720cab213a520862bbb91", checked := Try.checked }
namespace Rows
def none {H : Type} : Left H := { results := [], args := [] }

/-- 'sluicegatelaw13.IndexOnce': WHATEVER THE INPUT: true; the input reads as it did. -/
def indexOnceSpec : ChangeSpec := { name := "indexOnce", fn := fun _ => fun
  | [d1, d2] => { results := [.lit (.bool true)], args := [d1, d2] }
  | _ => none }
def indexOnceRow : OpenClaim := { program := "ytdhhddifmkijhaa", sum := "7c10081c9751c5b9891dc0bcf8d0a39f694e1292552720cab213a520862bbb91", func := "sluicegate/sluicegatelaw13.IndexOnce", spec := "indexOnce", unfollowed := true, recurses := true, apart := false }
def IndexOnceSaid : Prop := indexOnceRow.holds Try.pinned (OpenSpec.ofChange indexOnceSpec)

/-- ITS FALSE NEIGHBOUR: 'it returns false'. Refute it at one input. -/
def indexOnceWrong : ChangeSpec := { name := "indexOnce", fn := fun _ => fun
  | [d1, d2] => { results := [.lit (.bool false)], args := [d1, d2] }
  | _ => none }
def IndexOnceWrongFalsely : Prop := indexOnceRow.holds Try.pinned (OpenSpec.ofChange indexOnceWrong)

/-- 'sluicegatelaw13.IndexRefused': WHATEVER THE INPUT: true; the input reads as it did. -/
def indexRefusedSpec : ChangeSpec := { name := "indexRefused", fn := fun _ => fun
  | [d1, d2] => { results := [.lit (.bool true)], args := [d1, d2] }
  | _ => none }
def indexRefusedRow : OpenClaim := { program := "ytdhhddifmkijhaa", sum := "7c10081c9751c5b9891dc0bcf8d0a39f694e1292552720cab213a520862bbb91", func := "sluicegate/sluicegatelaw13.IndexRefused", spec := "indexRefused", unfollowed := true, recurses := true, apart := false }
def IndexRefusedSaid : Prop := indexRefusedRow.holds Try.pinned (OpenSpec.ofChange indexRefusedSpec)

/-- ITS FALSE NEIGHBOUR: 'it returns false'. Refute it at one input. -/
def indexRefusedWrong : ChangeSpec := { name := "indexRefused", fn := fun _ => fun
  | [d1, d2] => { results := [.lit (.bool false)], args := [d1, d2] }
  | _ => none }
def IndexRefusedWrongFalsely : Prop := indexRefusedRow.holds Try.pinned (OpenSpec.ofChange indexRefusedWrong)

/-- 'sluicegatelaw13.IndexAgain': WHATEVER THE INPUT: true; the input reads as it did. -/
def indexAgainSpec : ChangeSpec := { name := "indexAgain", fn := fun _ => fun
  | [d] => { results := [.lit (.bool true)], args := [d] }
  | _ => none }
def indexAgainRow : OpenClaim := { program := "ytdhhddifmkijhaa", sum := "7c10081c9751c5b9891dc0bcf8d0a39f694e1292552720cab213a520862bbb91", func := "sluicegate/sluicegatelaw13.IndexAgain", spec := "indexAgain", unfollowed := true, recurses := true, apart := false }
def IndexAgainSaid : Prop := indexAgainRow.holds Try.pinned (OpenSpec.ofChange indexAgainSpec)

/-- ITS FALSE NEIGHBOUR: 'it returns false'. Refute it at one input. -/
def indexAgainWrong : ChangeSpec := { name := "indexAgain", fn := fun _ => fun
  | [d] => { results := [.lit (.bool false)], args := [d] }
  | _ => none }
def IndexAgainWrongFalsely : Prop := indexAgainRow.holds Try.pinned (OpenSpec.ofChange indexAgainWrong)

/-- 'sluicegatelaw13.IndexWithin': WHATEVER THE INPUT: true; the input reads as it did. -/
def indexWithinSpec : ChangeSpec := { name := "indexWithin", fn := fun _ => fun
  | [d] => { results := [.lit (.bool true)], args := [d] }
  | _ => none }
def indexWithinRow : OpenClaim := { program := "ytdhhddifmkijhaa", sum := "7c10081c9751c5b9891dc0bcf8d0a39f694e1292552720cab213a520862bbb91", func := "sluicegate/sluicegatelaw13.IndexWithin", spec := "indexWithin", unfollowed := true, recurses := true, apart := false }
def IndexWithinSaid : Prop := indexWithinRow.holds Try.pinned (OpenSpec.ofChange indexWithinSpec)

/-- ITS FALSE NEIGHBOUR: 'it returns false'. Refute it at one input. -/
def indexWithinWrong : ChangeSpec := { name := "indexWithin", fn := fun _ => fun
  | [d] => { results := [.lit (.bool false)], args := [d] }
  | _ => none }
def IndexWithinWrongFalsely : Prop := indexWithinRow.holds Try.pinned (OpenSpec.ofChange indexWithinWrong)

/-- 'sluicegatelaw13.IndexNil': WHATEVER THE INPUT: true; the input reads as it did. -/
def indexNilSpec : ChangeSpec := { name := "indexNil", fn := fun _ => fun
  | [d1, d2] => { results := [.lit (.bool true)], args := [d1, d2] }
  | _ => none }
def indexNilRow : OpenClaim := { program := "ytdhhddifmkijhaa", sum := "7c10081c9751c5b9891dc0bcf8d0a39f694e1292552720cab213a520862bbb91", func := "sluicegate/sluicegatelaw13.IndexNil", spec := "indexNil", unfollowed := true, recurses := true, apart := false }
def IndexNilSaid : Prop := indexNilRow.holds Try.pinned (OpenSpec.ofChange indexNilSpec)

/-- ITS FALSE NEIGHBOUR: 'it returns false'. Refute it at one input. -/
def indexNilWrong : ChangeSpec := { name := "indexNil", fn := fun _ => fun
  | [d1, d2] => { results := [.lit (.bool false)], args := [d1, d2] }
  | _ => none }
def IndexNilWrongFalsely : Prop := indexNilRow.holds Try.pinned (OpenSpec.ofChange indexNilWrong)

/- THE SECOND FORM. 'bulk': how many values and letters a reading holds, each counted each time it is reached (what is shared counts as often as it is met; a slice's spare places count too). A statement '..UptoSaid' is the law's where the arguments, and the package variables that the reading takes, are together of bulk at most 1048576: NARROWER than '..Said'. Prove '..Said' where nothing that the law and all that it calls make is longer than what came in: it says more and counts as full. Else prove '..UptoSaid'. A law counts once. -/
mutual
def uptoBulk {H : Type} : DataW H → Nat
  | .lit (.string bytes) => bytes.length + 1
  | .lit _ => 1
  | .nil => 1
  | .ptr d => uptoBulk d + 1
  | .slice elems spare => uptoBulkAll elems + uptoBulkAll spare + 1
  | .agg parts => uptoBulkAll parts + 1
  | .iface _ d => uptoBulk d + 1
  | .map entries => uptoBulkEntries entries + 1
  | .held _ => 1
def uptoBulkAll {H : Type} : List (DataW H) → Nat
  | [] => 0
  | d :: r => uptoBulk d + uptoBulkAll r
def uptoBulkEntries {H : Type} : List (Lit × DataW H) → Nat
  | [] => 0
  | x :: r => uptoBulkEntry x + uptoBulkEntries r
def uptoBulkEntry {H : Type} : Lit × DataW H → Nat
  | (.string bytes, d) => bytes.length + uptoBulk d + 1
  | (_, d) => uptoBulk d + 1
 end
def uptoSmall : (H : Type) → List (DataW H) → Bool := fun _ ds => decide (uptoBulkAll ds ≤ 1048576)
def OpenSpec.upto (s : _root_.Go.ChangeSpec) : _root_.Go.OpenSpec := { _root_.Go.OpenSpec.ofChange s with cond := some uptoSmall }

/-- 'sluicegatelaw13.IndexOnce', WHERE WHAT IT READS IS OF BULK AT MOST 1048576: true; the input reads as it did. -/
def indexOnceUptoRow : OpenClaim := { program := "ytdhhddifmkijhaa", sum := "7c10081c9751c5b9891dc0bcf8d0a39f694e1292552720cab213a520862bbb91", func := "sluicegate/sluicegatelaw13.IndexOnce", spec := "indexOnce", unfollowed := true, recurses := true, apart := false, narrowed := true }
def IndexOnceUptoSaid : Prop := indexOnceUptoRow.holds Try.pinned (OpenSpec.upto indexOnceSpec)

/-- 'sluicegatelaw13.IndexRefused', WHERE WHAT IT READS IS OF BULK AT MOST 1048576: true; the input reads as it did. -/
def indexRefusedUptoRow : OpenClaim := { program := "ytdhhddifmkijhaa", sum := "7c10081c9751c5b9891dc0bcf8d0a39f694e1292552720cab213a520862bbb91", func := "sluicegate/sluicegatelaw13.IndexRefused", spec := "indexRefused", unfollowed := true, recurses := true, apart := false, narrowed := true }
def IndexRefusedUptoSaid : Prop := indexRefusedUptoRow.holds Try.pinned (OpenSpec.upto indexRefusedSpec)

/-- 'sluicegatelaw13.IndexAgain', WHERE WHAT IT READS IS OF BULK AT MOST 1048576: true; the input reads as it did. -/
def indexAgainUptoRow : OpenClaim := { program := "ytdhhddifmkijhaa", sum := "7c10081c9751c5b9891dc0bcf8d0a39f694e1292552720cab213a520862bbb91", func := "sluicegate/sluicegatelaw13.IndexAgain", spec := "indexAgain", unfollowed := true, recurses := true, apart := false, narrowed := true }
def IndexAgainUptoSaid : Prop := indexAgainUptoRow.holds Try.pinned (OpenSpec.upto indexAgainSpec)

/-- 'sluicegatelaw13.IndexWithin', WHERE WHAT IT READS IS OF BULK AT MOST 1048576: true; the input reads as it did. -/
def indexWithinUptoRow : OpenClaim := { program := "ytdhhddifmkijhaa", sum := "7c10081c9751c5b9891dc0bcf8d0a39f694e1292552720cab213a520862bbb91", func := "sluicegate/sluicegatelaw13.IndexWithin", spec := "indexWithin", unfollowed := true, recurses := true, apart := false, narrowed := true }
def IndexWithinUptoSaid : Prop := indexWithinUptoRow.holds Try.pinned (OpenSpec.upto indexWithinSpec)

/-- 'sluicegatelaw13.IndexNil', WHERE WHAT IT READS IS OF BULK AT MOST 1048576: true; the input reads as it did. -/
def indexNilUptoRow : OpenClaim := { program := "ytdhhddifmkijhaa", sum := "7c10081c9751c5b9891dc0bcf8d0a39f694e1292552720cab213a520862bbb91", func := "sluicegate/sluicegatelaw13.IndexNil", spec := "indexNil", unfollowed := true, recurses := true, apart := false, narrowed := true }
def IndexNilUptoSaid : Prop := indexNilUptoRow.holds Try.pinned (OpenSpec.upto indexNilSpec)

end Rows
end Go.Proofs.Ytdhhddifmkijhaa
