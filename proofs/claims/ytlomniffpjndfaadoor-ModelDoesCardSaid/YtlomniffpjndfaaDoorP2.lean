/-
  A request's line: Print, the program's and the document's.
  A number's digits: the document's Number; ref02.Small.
-/
import Derived.Test.YtlomniffpjndfaaDoorReqC
import Derived.Test.YtlomniffpjndfaaDoorReqH
namespace Go.Proofs.YtlomniffpjndfaaDoor
open Go.RowKit Go.WideShapes

abbrev SB (l : List UInt8) : ByteArray := ⟨l.toArray⟩
def wordList : List (List UInt8) := [[112, 117, 116], [103, 101, 116], [100, 101, 108], [115, 116, 97, 116], [108, 105, 115, 116]]
def wordL (n : Nat) : List UInt8 := wordList.getD n []
theorem SB_data (s : ByteArray) : SB s.data.toList = s := bytes_inj (by simp)
theorem SB_size (l : List UInt8) : (SB l).size = l.length := List.size_toArray
theorem word_len (n : Nat) : (wordL n).length ≤ 4 := by
  unfold wordL wordList
  match n with
  | 0 => decide
  | 1 => decide
  | 2 => decide
  | 3 => decide
  | 4 => decide
  | n + 5 => simp

end Go.Proofs.YtlomniffpjndfaaDoor

namespace Go.Proofs.YtlomniffpjndfaaDoor
open Go.RowKit Go.WideShapes

theorem nDig_pow : ∀ (k u : Nat), u < 10 ^ (k + 1) → Lib.nDigits u ≤ k + 1
  | 0, u, h => by rw [Lib.nDigits, dif_pos (by simpa using h)]; exact Nat.le_refl _
  | k + 1, u, h => by
    rw [Lib.nDigits]
    split
    · omega
    · have := nDig_pow k (u / 10) (by rw [Nat.pow_succ] at h; omega)
      omega
theorem nDig_le (u : Nat) (h : u ≤ 9223372036854775807) : Lib.nDigits u ≤ 30 := nDig_pow 29 u (by have : (10 : Nat) ^ 30 = 1000000000000000000000000000000 := rfl; omega)
set_option maxHeartbeats 1000000 in
set_option maxRecDepth 20000 in
theorem rnumber (n : Nat) (hn : n ≤ 9223372036854775807) (w : World) : Calls Tryd.prog 30 #[.int .i64 n] w fun e w' => e = .returned (.string (SB (Lib.decDigits n))) ∧ Kp [] w w' := by
  obtain ⟨x, hx⟩ : ∃ x : UInt8, x = UInt8.ofNat (48 + n % 10) := ⟨_, rfl⟩
  have hxt : x.toNat = 48 + n % 10 := by rw [hx, UInt8.toNat_ofNat']; omega
  have f1 : 48 + (n : Int) % 10 = (x.toNat : Int) := by rw [hxt]; omega
  obtain ⟨D, hD⟩ : ∃ D : ByteArray, D = ⟨#[x]⟩ := ⟨_, rfl⟩
  have hDz : D.size = 1 := by rw [hD]; rfl
  have hcv : (convert 60 9 (.slice (some ⟨w.heap.size, 0, none⟩) 1 1)).run Tryd.prog (w.alloc (.cells #[BV x] 5)) = .ok (.string D) (w.alloc (.cells #[BV x] 5)) := by
    rw [hD]
    exact run_convert_bytes_back _ _ _ _ ⟨w.heap.size, 0, none⟩ 1 [x] Tryd.underlying60 Tryd.underlying5 Tryd.underlying9 (fun j hj => by
      obtain rfl : j = 0 := by simp at hj; omega
      exact cell_of_cells (block_new _ _) rfl)
  by_cases h10 : n < 10
  · have hR : SB (Lib.decDigits n) = D := by
      rw [Lib.decDigits, dif_pos h10, hD, hx, Nat.mod_eq_of_lt h10]
    rw [hR]
    have g1 : ¬ (n : Int) ≥ 10 := by omega
    clear hR hx hxt hD
    go_enter Tryd.func30, Tryd.ntmps30
    go_wp2_with fail
    go_ret
    exact ⟨rfl, (Kp.refl _ _).alloc _⟩
  · obtain ⟨q, hq⟩ : ∃ q : Nat, q = n / 10 := ⟨_, rfl⟩
    have hqn : q < n := by omega
    have ih := rnumber q (by omega) (w.alloc (.cells #[BV x] 5))
    obtain ⟨S0, hS0⟩ : ∃ S0, S0 = SB (Lib.decDigits q) := ⟨_, rfl⟩
    have hz : S0.size ≤ 30 := by
      rw [hS0, SB_size, Lib.decDigits_length]
      exact nDig_le q (by omega)
    have hR : SB (Lib.decDigits n) = S0 ++ D := by
      rw [Lib.decDigits, dif_neg h10, hS0, hD, hx, hq]
      exact bytes_inj (by simp [ByteArray.data_append])
    rw [hR]
    have hqI : (n : Int) / 10 = (q : Int) := by omega
    have g1 : (n : Int) ≥ 10 := by omega
    have hm : S0.size + D.size ≤ 9223372036854775807 := by omega
    rw [← hS0] at ih
    clear hR hx hxt hD hS0 hq hqn
    go_enter Tryd.func30, Tryd.ntmps30
    go_wp2_with fail
    refine ih.mono ?_
    rintro e w1 ⟨rfl, k1⟩
    go_wp2_with fail
    go_ret
    exact ⟨rfl, ((Kp.refl _ _).alloc _).trans k1⟩
termination_by n
decreasing_by omega

theorem kp_grow (w : World) (k : Nat) (os : Array Obj) : Kp [] w (Go.Sort.grow (w.drewN k) os) := by
  have h1 := (Kp.refl [] w).drewN k
  refine ⟨h1.os, h1.tape, h1.output, ?_, fun i hi _ => ?_⟩
  · show w.heap.size ≤ (w.heap ++ os).size
    simp
  · show (w.heap ++ os)[i]? = w.heap[i]?
    rw [Array.getElem?_append_left hi]
theorem itoa_nat (n : Nat) (hn : n ≤ 9223372036854775807) (w : World) (htab : Lib.TabIs Tryd.prog w "internal/strconv.uint64pow10" .u64 Lib.pow10Tab) :
    Calls Tryd.prog 44 #[.int .i64 n] w fun e w' => e = .returned (.string (SB (Lib.decDigits n))) ∧ Kp [] w w' := by
  refine (Tryd.strconv_Itoa n (by omega) (by omega) w htab).mono ?_
  rintro e w' ⟨rfl, k, os, rfl⟩
  refine ⟨?_, kp_grow _ _ _⟩
  have : Lib.itoa (n : Int) = Lib.decDigits n := by
    unfold Lib.itoa
    rw [if_neg (by omega)]
    rfl
  rw [this]

theorem _root_.Go.Lib.TabIs.keep {P : Program} {w w' : World} {name : String} {k : IntKind} {zs : List Int} (h : Lib.TabIs P w name k zs) (kp : Kp [] w w') : Lib.TabIs P w' name k zs := by
  unfold Lib.TabIs World.var? at h ⊢
  cases hg : P.globalNamed name with
  | none => rw [hg] at h; cases h
  | some g =>
    rw [hg] at h
    simp only [Option.bind_some] at h ⊢
    cases hb : w.heap[g]? with
    | none => rw [hb] at h; cases h
    | some o => rw [kp.block g (lt_of_block hb) (by simp), hb]; rw [hb] at h; exact h
/-- element i of a list of texts -/
theorem strs_at {B : Nat} {w : World} {v : Value} {xs : List ByteArray} (h : SliceAt B w v 1 xs.length (xs.map Value.string)) (i : Nat) (hi : i < xs.length) :
    ∃ g o c, v = .slice (some ⟨g, o, none⟩) xs.length c ∧ w.cell? ⟨g, o + i, none⟩ = some (.string xs[i]) := by
  obtain ⟨av, cap, rfl⟩ := slice_ex h
  obtain ⟨g, o, rfl, hc, -, hb, hcell⟩ := h.cells (by omega)
  exact ⟨g, o, cap, rfl, hcell i _ (by rw [List.getElem?_map, List.getElem?_eq_getElem hi]; rfl)⟩
end Go.Proofs.YtlomniffpjndfaaDoor
