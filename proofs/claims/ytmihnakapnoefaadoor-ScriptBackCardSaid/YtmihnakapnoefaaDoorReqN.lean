/-
  A number's digits: the document's Number; ref02.Small.
-/
import Derived.Test.YtmihnakapnoefaaDoorReqP
namespace Go.Proofs.YtmihnakapnoefaaDoor
open Go.RowKit Go.WideShapes

theorem nDig_pow : ∀ (k u : Nat), u < 10 ^ (k + 1) → Lib.nDigits u ≤ k + 1
  | 0, u, h => by rw [Lib.nDigits, dif_pos (by simpa using h)]; exact Nat.le_refl _
  | k + 1, u, h => by
    rw [Lib.nDigits]
    split
    · omega
    · have := nDig_pow k (u / 10) (by rw [Nat.pow_succ] at h; omega)
      omega
theorem nDig_le (u : Nat) (h : u ≤ 9223372036854775807) : Lib.nDigits u ≤ 30 := nDig_pow 29 u (by have : (10 : Nat) ^ 30 = 1000000000000000000000000000000 := rfl; omega)
theorem kp_grow (w : World) (k : Nat) (os : Array Obj) : Kp [] w (Go.Sort.grow (w.drewN k) os) := by
  have h1 := (Kp.refl [] w).drewN k
  refine ⟨h1.os, h1.tape, h1.output, ?_, fun i hi _ => ?_⟩
  · show w.heap.size ≤ (w.heap ++ os).size
    simp
  · show (w.heap ++ os)[i]? = w.heap[i]?
    rw [Array.getElem?_append_left hi]
theorem itoa_nat (n : Nat) (hn : n ≤ 9223372036854775807) (w : World) (htab : Lib.TabIs Tryd.prog w "internal/strconv.uint64pow10" .u64 Lib.pow10Tab) :
    Calls Tryd.prog 28 #[.int .i64 n] w fun e w' => e = .returned (.string (SB (Lib.decDigits n))) ∧ Kp [] w w' := by
  refine (Tryd.strconv_Itoa n (by omega) (by omega) w htab).mono ?_
  rintro e w' ⟨rfl, k, os, rfl⟩
  refine ⟨?_, kp_grow _ _ _⟩
  have : Lib.itoa (n : Int) = Lib.decDigits n := by
    unfold Lib.itoa
    rw [if_neg (by omega)]
    rfl
  rw [this]

theorem _root_.Go.Lib.TabIs.keep {P : Program} {w w' : World} {name : String} {k : IntKind} {zs : List Int} (h : Lib.TabIs P w name k zs) (kp : Kp [] w w') : Lib.TabIs P w' name k zs := by
  unfold Lib.TabIs World.var? at h ⊢
  cases hg : P.globalNamed name with
  | none => rw [hg] at h; cases h
  | some g =>
    rw [hg] at h
    simp only [Option.bind_some] at h ⊢
    cases hb : w.heap[g]? with
    | none => rw [hb] at h; cases h
    | some o => rw [kp.block g (lt_of_block hb) (by simp), hb]; rw [hb] at h; exact h
/-- element i of a list of texts -/
theorem strs_at {B : Nat} {w : World} {v : Value} {xs : List ByteArray} (h : SliceAt B w v 1 xs.length (xs.map Value.string)) (i : Nat) (hi : i < xs.length) :
    ∃ g o c, v = .slice (some ⟨g, o, none⟩) xs.length c ∧ w.cell? ⟨g, o + i, none⟩ = some (.string xs[i]) := by
  obtain ⟨av, cap, rfl⟩ := slice_ex h
  obtain ⟨g, o, rfl, hc, -, hb, hcell⟩ := h.cells (by omega)
  exact ⟨g, o, cap, rfl, hcell i _ (by rw [List.getElem?_map, List.getElem?_eq_getElem hi]; rfl)⟩
end Go.Proofs.YtmihnakapnoefaaDoor
