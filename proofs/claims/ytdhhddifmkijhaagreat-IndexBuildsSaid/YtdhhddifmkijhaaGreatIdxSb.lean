/-
  What both statements on the document's index need: arguments of keys, volumes that were told, across a turn of the document's.
-/
import Derived.Test.YtdhhddifmkijhaaGreatIdxSa
import Derived.Test.YtdhhddifmkijhaaGreatIdxLv
import Derived.Test.YtdhhddifmkijhaaGreatIdxBd
import Derived.Test.YtdhhddifmkijhaaGreatIdxAp
namespace Go.Proofs.YtdhhddifmkijhaaGreat
open Go.RowKit Go.ChangeMaps Go.Maps Go.WideShapes Go.WideMaps Go.WideElems Go.MapKept Go.ChangeShapes Go.ChangeAt

theorem flat_keys : ∀ xs : List ByteArray, xs.flatMap (fun a => [Value.string a]) = xs.map Value.string
  | [] => rfl
  | x :: xs => by rw [List.flatMap_cons, flat_keys xs]; rfl
theorem keys_arg {W : World} {v : Value} (h : Rd Tryz.prog W 23 v.cells.toList) {av : Option Addr} {l c : Nat} (hv : v = .slice av l c) :
    ∃ ks : List ByteArray, SliceAt W.heap.size W v 1 ks.length (ks.map Value.string) ∧ ∀ s ∈ ks, s.size ≤ maxLen := by
  subst hv
  have h1 : Tryz.prog.cellsOf 9 = 1 := by kernel_rfl
  obtain ⟨xs, v, e, hs, hq⟩ := rd_list Tryz.underlying23 h (fun a : ByteArray => [Value.string a]) 1 h1 (by decide) (fun _ => rfl) (fun s => s.size ≤ maxLen) (fun es he => rd_string Tryz.underlying9 he)
  rw [flat_keys] at hs
  have e1 : Value.slice av l c = v := by
    have : [Value.slice av l c] = [v] := e
    simpa using this
  subst e1
  exact ⟨xs, hs, hq⟩
theorem Turn.olds {B : Nat} {w w' : World} (h : Turn B w w') {X : List Nat} {base : Nat} {v : Value} {vs : List VolD} (ho : OldsAt X base w v vs) : VolsAt w'.heap.size w' v vs := by
  obtain ⟨Y, k1, h1⟩ := h
  obtain ⟨vls, av, cv, rfl, e, hO, hL⟩ := ho
  have hO' : w'.ownsRow base 36 4 (.slice av vs.length cv) vs.length (vls.flatMap volC) := owns_other hO k1 (fun g hg hm => by
    obtain ⟨-, cur, t, z, e1, -, -, e3⟩ := h1 g hm
    obtain ⟨-, cur2, e2⟩ := owns_cells hO g hg
    rw [e2] at e1
    simp only [Option.some.injEq, Obj.cells.injEq] at e1
    exact e3 e1.2.1.symm)
  refine ⟨vls, av, cv, rfl, e, SliceAt.of_owns hO', fun q hq => ?_⟩
  obtain ⟨hl, ht⟩ := hL q hq
  obtain ⟨la, lc, hv, hi⟩ := hl
  rw [hv] at ht ⊢
  refine ⟨locV_len _, la, lc, rfl, fun h0 => ?_⟩
  obtain ⟨b, o, e1, e2, e3, e4, e5⟩ := hi h0
  have hb : b ∉ Y := fun hm => by
    obtain ⟨cur, z, e6⟩ := ht b (by rw [e1]; rfl) h0
    obtain ⟨-, cur', t, z', e7, e8, -⟩ := h1 b hm
    rw [e6] at e7
    simp only [Option.some.injEq, Obj.cells.injEq] at e7
    exact e8 e7.2.1.symm
  exact ⟨b, o, e1, e2, Nat.lt_of_lt_of_le e4 k1.size, Nat.lt_of_lt_of_le e4 k1.size, fun j u hu => (k1.cell e4 hb).trans (e5 j u hu)⟩
theorem vget_few {V : List (Int × VolD)} (h : ∀ p ∈ V, p.2.locs.length ≤ 9) (id : Int) : (vget id V).locs.length ≤ 9 := by
  unfold vget
  cases e : aGet id V with
  | none => exact Nat.zero_le _
  | some v => exact h _ (aGet_mem e)
theorem takeL_few : ∀ (ids : List Int) (V : List (Int × VolD)), (∀ p ∈ V, p.2.locs.length ≤ 9) → ∀ v ∈ (takeL ids V).1, v.locs.length ≤ 9
  | [], _, _, _, hv => by cases hv
  | id :: r, V, h, v, hv => by
    rcases List.mem_cons.1 hv with e | e
    · subst e; exact vget_few h id
    · exact takeL_few r _ (fun p hp => h p (aDel_mem hp)) v e
theorem apply_olds {x : Ix} (hi : Inv x) (r : RecD) : (x.apply r).2.1.length ≤ 2 ∧ ∀ v ∈ (x.apply r).2.1, v.locs.length ≤ 9 := by
  have hV : ∀ p ∈ x.V, p.2.locs.length ≤ 9 := fun p hp => Nat.le_of_eq (vol_nine (hi.fit.vols p hp).2.2)
  unfold Ix.apply
  split
  · exact ⟨Nat.zero_le _, by simp⟩
  split
  · exact ⟨Nat.zero_le _, by simp⟩
  split
  · show (x.remove r.key).1.length ≤ 2 ∧ ∀ v ∈ (x.remove r.key).1, v.locs.length ≤ 9
    unfold Ix.remove
    dsimp only
    split
    · exact ⟨Nat.zero_le _, by simp⟩
    · exact ⟨by rw [takeL_len]; simp, takeL_few _ _ hV⟩
  split
  · exact ⟨by rw [takeL_len]; simp, takeL_few _ _ hV⟩
  · exact ⟨by unfold Ix.merge; rw [takeL_len]; simp, takeL_few _ _ hV⟩
end Go.Proofs.YtdhhddifmkijhaaGreat
