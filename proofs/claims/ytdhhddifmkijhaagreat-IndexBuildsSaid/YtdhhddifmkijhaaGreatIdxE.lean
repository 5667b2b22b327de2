/-
  record.Check: may a record be one?
-/
import Derived.Test.YtdhhddifmkijhaaGreatIdxD
namespace Go.Proofs.YtdhhddifmkijhaaGreat
open Go.RowKit Go.ChangeMaps Go.Maps Go.WideShapes Go.WideMaps Go.WideElems Go.MapKept Go.ChangeShapes

theorem named_locs {B : Nat} {w : World} {c : RecD} {lv : Value} (h : LocsAt B w lv c.vol.locs) : LocsAt B w (namedV c.kind lv) (namedR c).vol.locs := by
  unfold namedR namedV
  by_cases e : c.kind = 1
  · rw [if_pos e, if_pos e]; exact nil_locs _ _
  · rw [if_neg e, if_neg e]
    split
    · exact h
    · split <;> exact h
theorem inB_true {n m : Int} (h : inB n m = true) : 0 ≤ n ∧ n ≤ m := by simpa only [inB, Bool.and_eq_true, decide_eq_true_eq] using h
theorem vol_len {x0 x1 x2 : Int} {ls : List (Int × Int)} (h : volOk ⟨x0, x1, x2, ls⟩ = true) : 0 ≤ x2 ∧ x2 ≤ 384 := by
  unfold volOk at h
  simp only [Bool.and_eq_true] at h
  exact inB_true h.2.1.1.2
set_option maxHeartbeats 4000000 in
set_option maxRecDepth 20000 in
theorem rcheck_seq (x0 x1 x2 x3 x4 x7 x8 x9 xc xd : Int) (lx : List (Int × Int)) (x6 xa xb : ByteArray) (la : Option Addr) (ln lc : Nat) (B : Nat) (w : World) (hl : LocsAt B w (.slice la ln lc) lx) (_ : lx.length ≤ 1000) (_ : x6.size < 16384) (_ : xb.size < 16384) (hs : inB x0 63 = false) :
    Calls Tryz.prog 24 #[.agg #[.int .i64 x0, .int .i64 x1, .int .i64 x2, .int .i64 x3, .int .i64 x4, .slice la ln lc, .string x6, .int .i64 x7, .int .i64 x8, .int .i64 x9, .string xa, .string xb, .int .i64 xc, .int .i64 xd]] w fun e w' => e = .returned (.int .i64 (recCheck ⟨x0, x1, ⟨x2, x3, x4, lx⟩, ⟨x6, x7, x8, x9, xa⟩, xb, xc, xd⟩)) ∧ Kp [] w w' := by
  obtain ⟨R, hR⟩ : ∃ R, R = recCheck ⟨x0, x1, ⟨x2, x3, x4, lx⟩, ⟨x6, x7, x8, x9, xa⟩, xb, xc, xd⟩ := ⟨_, rfl⟩
  rw [← hR]
  have HR := Lib.hid hR
  clear hR
  obtain ⟨w1, hw1⟩ : ∃ w1, w1 = w.alloc (.cells #[.int .i64 x0, .int .i64 x1, .int .i64 x2, .int .i64 x3, .int .i64 x4, .slice la ln lc, .string x6, .int .i64 x7, .int .i64 x8, .int .i64 x9, .string xa, .string xb, .int .i64 xc, .int .i64 xd] 43) := ⟨_, rfl⟩
  have k1 : Kp [] w w1 := hw1 ▸ (Kp.refl _ _).alloc _
  have b1 : w1.heap[w.heap.size]? = some (.cells #[.int .i64 x0, .int .i64 x1, .int .i64 x2, .int .i64 x3, .int .i64 x4, .slice la ln lc, .string x6, .int .i64 x7, .int .i64 x8, .int .i64 x9, .string xa, .string xb, .int .i64 xc, .int .i64 xd] 43 (0, 0)) := by rw [hw1]; exact block_new _ _
  obtain ⟨M, hM⟩ : ∃ M, M = w1.heap.size := ⟨_, rfl⟩
  obtain ⟨w2, hw2⟩ : ∃ w2, w2 = w1.alloc (.cells #[.string x6, .int .i64 x7, .int .i64 x8, .int .i64 x9, .string xa] 38) := ⟨_, rfl⟩
  have k2 : Kp [] w1 w2 := hw2 ▸ (Kp.refl _ _).alloc _
  have b2 : w2.heap[M]? = some (.cells #[.string x6, .int .i64 x7, .int .i64 x8, .int .i64 x9, .string xa] 38 (0, 0)) := by rw [hw2, hM]; exact block_new _ _
  have kw := k1.trans k2
  have hl2 : LocsAt B w2 (.slice la ln lc) lx := hl.keep0 kw
  have b12 := (k2.block _ (lt_of_block b1) (by simp)).trans b1
  have c0 := Kp.cellAt (X := []) (w0 := w2) (p := ⟨w.heap.size, 0, none⟩) (v := .int .i64 x0) (cell_of_cells b12 rfl) (by simp)
  have c1 := Kp.cellAt (X := []) (w0 := w2) (p := ⟨w.heap.size, 1, none⟩) (v := .int .i64 x1) (cell_of_cells b12 rfl) (by simp)
  have c2 := Kp.cellAt (X := []) (w0 := w2) (p := ⟨w.heap.size, 2, none⟩) (v := .int .i64 x2) (cell_of_cells b12 rfl) (by simp)
  have c3 := Kp.cellAt (X := []) (w0 := w2) (p := ⟨w.heap.size, 3, none⟩) (v := .int .i64 x3) (cell_of_cells b12 rfl) (by simp)
  have c4 := Kp.cellAt (X := []) (w0 := w2) (p := ⟨w.heap.size, 4, none⟩) (v := .int .i64 x4) (cell_of_cells b12 rfl) (by simp)
  have c5 := Kp.cellAt (X := []) (w0 := w2) (p := ⟨w.heap.size, 5, none⟩) (v := .slice la ln lc) (cell_of_cells b12 rfl) (by simp)
  have c6 := Kp.cellAt (X := []) (w0 := w2) (p := ⟨w.heap.size, 6, none⟩) (v := .string x6) (cell_of_cells b12 rfl) (by simp)
  have c7 := Kp.cellAt (X := []) (w0 := w2) (p := ⟨w.heap.size, 7, none⟩) (v := .int .i64 x7) (cell_of_cells b12 rfl) (by simp)
  have c8 := Kp.cellAt (X := []) (w0 := w2) (p := ⟨w.heap.size, 8, none⟩) (v := .int .i64 x8) (cell_of_cells b12 rfl) (by simp)
  have c9 := Kp.cellAt (X := []) (w0 := w2) (p := ⟨w.heap.size, 9, none⟩) (v := .int .i64 x9) (cell_of_cells b12 rfl) (by simp)
  have c10 := Kp.cellAt (X := []) (w0 := w2) (p := ⟨w.heap.size, 10, none⟩) (v := .string xa) (cell_of_cells b12 rfl) (by simp)
  have c11 := Kp.cellAt (X := []) (w0 := w2) (p := ⟨w.heap.size, 11, none⟩) (v := .string xb) (cell_of_cells b12 rfl) (by simp)
  have c12 := Kp.cellAt (X := []) (w0 := w2) (p := ⟨w.heap.size, 12, none⟩) (v := .int .i64 xc) (cell_of_cells b12 rfl) (by simp)
  have c13 := Kp.cellAt (X := []) (w0 := w2) (p := ⟨w.heap.size, 13, none⟩) (v := .int .i64 xd) (cell_of_cells b12 rfl) (by simp)
  have e0 := Kp.cellAt (X := []) (w0 := w2) (p := ⟨M, 0, none⟩) (v := .string x6) (cell_of_cells b2 rfl) (by simp)
  have e1 := Kp.cellAt (X := []) (w0 := w2) (p := ⟨M, 1, none⟩) (v := .int .i64 x7) (cell_of_cells b2 rfl) (by simp)
  have e2 := Kp.cellAt (X := []) (w0 := w2) (p := ⟨M, 2, none⟩) (v := .int .i64 x8) (cell_of_cells b2 rfl) (by simp)
  have e3 := Kp.cellAt (X := []) (w0 := w2) (p := ⟨M, 3, none⟩) (v := .int .i64 x9) (cell_of_cells b2 rfl) (by simp)
  have e4 := Kp.cellAt (X := []) (w0 := w2) (p := ⟨M, 4, none⟩) (v := .string xa) (cell_of_cells b2 rfl) (by simp)
  have hK := Kp.refl [] w2
  have Hw1 := Lib.hid hw1
  have Hw2 := Lib.hid hw2
  have HM := Lib.hid hM
  clear hw1 hw2 hM b1 b2 b12
  have HMn : w.heap.size + 1 = M := by rw [HM.out, Hw1.out, World.size_alloc]
  have HM2 := Lib.hid HMn
  clear HMn
  go_enter Tryz.func24, Tryz.ntmps24
  go_wp2_with fail
  rw [← Hw1.out, ← Hw2.out, HM2.out]
  refine (rin x0 63 _).mono ?_
  rintro e wz ⟨rfl, hwz⟩
  rw [hwz, hs]
  clear hwz wz
  have hr : R = 1 := by rw [HR.out]; simp [recCheck, hs]
  have HRR := Lib.hid hr
  clear hr
  go_wp2_with fail
  go_ret
  exact ⟨by rw [HRR.out]; rfl, kw.trans hK⟩
set_option maxHeartbeats 4000000 in
set_option maxRecDepth 20000 in
theorem rcheck_kind (x0 x1 x2 x3 x4 x7 x8 x9 xc xd : Int) (lx : List (Int × Int)) (x6 xa xb : ByteArray) (la : Option Addr) (ln lc : Nat) (B : Nat) (w : World) (hl : LocsAt B w (.slice la ln lc) lx) (_ : lx.length ≤ 1000) (_ : x6.size < 16384) (_ : xb.size < 16384) (hs : inB x0 63 = true) (hk : inB x1 3 = false) :
    Calls Tryz.prog 24 #[.agg #[.int .i64 x0, .int .i64 x1, .int .i64 x2, .int .i64 x3, .int .i64 x4, .slice la ln lc, .string x6, .int .i64 x7, .int .i64 x8, .int .i64 x9, .string xa, .string xb, .int .i64 xc, .int .i64 xd]] w fun e w' => e = .returned (.int .i64 (recCheck ⟨x0, x1, ⟨x2, x3, x4, lx⟩, ⟨x6, x7, x8, x9, xa⟩, xb, xc, xd⟩)) ∧ Kp [] w w' := by
  obtain ⟨R, hR⟩ : ∃ R, R = recCheck ⟨x0, x1, ⟨x2, x3, x4, lx⟩, ⟨x6, x7, x8, x9, xa⟩, xb, xc, xd⟩ := ⟨_, rfl⟩
  rw [← hR]
  have HR := Lib.hid hR
  clear hR
  obtain ⟨w1, hw1⟩ : ∃ w1, w1 = w.alloc (.cells #[.int .i64 x0, .int .i64 x1, .int .i64 x2, .int .i64 x3, .int .i64 x4, .slice la ln lc, .string x6, .int .i64 x7, .int .i64 x8, .int .i64 x9, .string xa, .string xb, .int .i64 xc, .int .i64 xd] 43) := ⟨_, rfl⟩
  have k1 : Kp [] w w1 := hw1 ▸ (Kp.refl _ _).alloc _
  have b1 : w1.heap[w.heap.size]? = some (.cells #[.int .i64 x0, .int .i64 x1, .int .i64 x2, .int .i64 x3, .int .i64 x4, .slice la ln lc, .string x6, .int .i64 x7, .int .i64 x8, .int .i64 x9, .string xa, .string xb, .int .i64 xc, .int .i64 xd] 43 (0, 0)) := by rw [hw1]; exact block_new _ _
  obtain ⟨M, hM⟩ : ∃ M, M = w1.heap.size := ⟨_, rfl⟩
  obtain ⟨w2, hw2⟩ : ∃ w2, w2 = w1.alloc (.cells #[.string x6, .int .i64 x7, .int .i64 x8, .int .i64 x9, .string xa] 38) := ⟨_, rfl⟩
  have k2 : Kp [] w1 w2 := hw2 ▸ (Kp.refl _ _).alloc _
  have b2 : w2.heap[M]? = some (.cells #[.string x6, .int .i64 x7, .int .i64 x8, .int .i64 x9, .string xa] 38 (0, 0)) := by rw [hw2, hM]; exact block_new _ _
  have kw := k1.trans k2
  have hl2 : LocsAt B w2 (.slice la ln lc) lx := hl.keep0 kw
  have b12 := (k2.block _ (lt_of_block b1) (by simp)).trans b1
  have c0 := Kp.cellAt (X := []) (w0 := w2) (p := ⟨w.heap.size, 0, none⟩) (v := .int .i64 x0) (cell_of_cells b12 rfl) (by simp)
  have c1 := Kp.cellAt (X := []) (w0 := w2) (p := ⟨w.heap.size, 1, none⟩) (v := .int .i64 x1) (cell_of_cells b12 rfl) (by simp)
  have c2 := Kp.cellAt (X := []) (w0 := w2) (p := ⟨w.heap.size, 2, none⟩) (v := .int .i64 x2) (cell_of_cells b12 rfl) (by simp)
  have c3 := Kp.cellAt (X := []) (w0 := w2) (p := ⟨w.heap.size, 3, none⟩) (v := .int .i64 x3) (cell_of_cells b12 rfl) (by simp)
  have c4 := Kp.cellAt (X := []) (w0 := w2) (p := ⟨w.heap.size, 4, none⟩) (v := .int .i64 x4) (cell_of_cells b12 rfl) (by simp)
  have c5 := Kp.cellAt (X := []) (w0 := w2) (p := ⟨w.heap.size, 5, none⟩) (v := .slice la ln lc) (cell_of_cells b12 rfl) (by simp)
  have c6 := Kp.cellAt (X := []) (w0 := w2) (p := ⟨w.heap.size, 6, none⟩) (v := .string x6) (cell_of_cells b12 rfl) (by simp)
  have c7 := Kp.cellAt (X := []) (w0 := w2) (p := ⟨w.heap.size, 7, none⟩) (v := .int .i64 x7) (cell_of_cells b12 rfl) (by simp)
  have c8 := Kp.cellAt (X := []) (w0 := w2) (p := ⟨w.heap.size, 8, none⟩) (v := .int .i64 x8) (cell_of_cells b12 rfl) (by simp)
  have c9 := Kp.cellAt (X := []) (w0 := w2) (p := ⟨w.heap.size, 9, none⟩) (v := .int .i64 x9) (cell_of_cells b12 rfl) (by simp)
  have c10 := Kp.cellAt (X := []) (w0 := w2) (p := ⟨w.heap.size, 10, none⟩) (v := .string xa) (cell_of_cells b12 rfl) (by simp)
  have c11 := Kp.cellAt (X := []) (w0 := w2) (p := ⟨w.heap.size, 11, none⟩) (v := .string xb) (cell_of_cells b12 rfl) (by simp)
  have c12 := Kp.cellAt (X := []) (w0 := w2) (p := ⟨w.heap.size, 12, none⟩) (v := .int .i64 xc) (cell_of_cells b12 rfl) (by simp)
  have c13 := Kp.cellAt (X := []) (w0 := w2) (p := ⟨w.heap.size, 13, none⟩) (v := .int .i64 xd) (cell_of_cells b12 rfl) (by simp)
  have e0 := Kp.cellAt (X := []) (w0 := w2) (p := ⟨M, 0, none⟩) (v := .string x6) (cell_of_cells b2 rfl) (by simp)
  have e1 := Kp.cellAt (X := []) (w0 := w2) (p := ⟨M, 1, none⟩) (v := .int .i64 x7) (cell_of_cells b2 rfl) (by simp)
  have e2 := Kp.cellAt (X := []) (w0 := w2) (p := ⟨M, 2, none⟩) (v := .int .i64 x8) (cell_of_cells b2 rfl) (by simp)
  have e3 := Kp.cellAt (X := []) (w0 := w2) (p := ⟨M, 3, none⟩) (v := .int .i64 x9) (cell_of_cells b2 rfl) (by simp)
  have e4 := Kp.cellAt (X := []) (w0 := w2) (p := ⟨M, 4, none⟩) (v := .string xa) (cell_of_cells b2 rfl) (by simp)
  have hK := Kp.refl [] w2
  have Hw1 := Lib.hid hw1
  have Hw2 := Lib.hid hw2
  have HM := Lib.hid hM
  clear hw1 hw2 hM b1 b2 b12
  have HMn : w.heap.size + 1 = M := by rw [HM.out, Hw1.out, World.size_alloc]
  have HM2 := Lib.hid HMn
  clear HMn
  go_enter Tryz.func24, Tryz.ntmps24
  go_wp2_with fail
  rw [← Hw1.out, ← Hw2.out, HM2.out]
  refine (rin x0 63 _).mono ?_
  rintro e wz ⟨rfl, hwz⟩
  rw [hwz, hs]
  clear hwz wz
  go_wp2_with fail
  refine (rin x1 3 _).mono ?_
  rintro e wz ⟨rfl, hwz⟩
  rw [hwz, hk]
  clear hwz wz
  have hr : R = 1 := by rw [HR.out]; simp [recCheck, hs, hk]
  have HRR := Lib.hid hr
  clear hr
  go_wp2_with fail
  go_ret
  exact ⟨by rw [HRR.out]; rfl, kw.trans hK⟩
theorem named_len {c : RecD} {n : Nat} (h : c.vol.locs.length ≤ n) : (namedR c).vol.locs.length ≤ n := by
  unfold namedR
  split
  · exact Nat.zero_le _
  · split
    · exact h
    · split <;> exact h
set_option maxHeartbeats 4000000 in
set_option maxRecDepth 20000 in
theorem rcheck2 (x0 x2 x3 x4 x7 x8 x9 xc xd : Int) (lx : List (Int × Int)) (x6 xa xb : ByteArray) (la : Option Addr) (ln lc : Nat) (B : Nat) (w : World) (hl : LocsAt B w (.slice la ln lc) lx) (hz : lx.length ≤ 1000) (_ : x6.size < 16384) (_ : xb.size < 16384) (hs : inB x0 63 = true) :
    Calls Tryz.prog 24 #[.agg #[.int .i64 x0, .int .i64 2, .int .i64 x2, .int .i64 x3, .int .i64 x4, .slice la ln lc, .string x6, .int .i64 x7, .int .i64 x8, .int .i64 x9, .string xa, .string xb, .int .i64 xc, .int .i64 xd]] w fun e w' => e = .returned (.int .i64 (recCheck ⟨x0, 2, ⟨x2, x3, x4, lx⟩, ⟨x6, x7, x8, x9, xa⟩, xb, xc, xd⟩)) ∧ Kp [] w w' := by
  obtain ⟨R, hR⟩ : ∃ R, R = recCheck ⟨x0, 2, ⟨x2, x3, x4, lx⟩, ⟨x6, x7, x8, x9, xa⟩, xb, xc, xd⟩ := ⟨_, rfl⟩
  rw [← hR]
  have HR := Lib.hid hR
  clear hR
  obtain ⟨w1, hw1⟩ : ∃ w1, w1 = w.alloc (.cells #[.int .i64 x0, .int .i64 2, .int .i64 x2, .int .i64 x3, .int .i64 x4, .slice la ln lc, .string x6, .int .i64 x7, .int .i64 x8, .int .i64 x9, .string xa, .string xb, .int .i64 xc, .int .i64 xd] 43) := ⟨_, rfl⟩
  have k1 : Kp [] w w1 := hw1 ▸ (Kp.refl _ _).alloc _
  have b1 : w1.heap[w.heap.size]? = some (.cells #[.int .i64 x0, .int .i64 2, .int .i64 x2, .int .i64 x3, .int .i64 x4, .slice la ln lc, .string x6, .int .i64 x7, .int .i64 x8, .int .i64 x9, .string xa, .string xb, .int .i64 xc, .int .i64 xd] 43 (0, 0)) := by rw [hw1]; exact block_new _ _
  obtain ⟨M, hM⟩ : ∃ M, M = w1.heap.size := ⟨_, rfl⟩
  obtain ⟨w2, hw2⟩ : ∃ w2, w2 = w1.alloc (.cells #[.string x6, .int .i64 x7, .int .i64 x8, .int .i64 x9, .string xa] 38) := ⟨_, rfl⟩
  have k2 : Kp [] w1 w2 := hw2 ▸ (Kp.refl _ _).alloc _
  have b2 : w2.heap[M]? = some (.cells #[.string x6, .int .i64 x7, .int .i64 x8, .int .i64 x9, .string xa] 38 (0, 0)) := by rw [hw2, hM]; exact block_new _ _
  have kw := k1.trans k2
  have hl2 : LocsAt B w2 (.slice la ln lc) lx := hl.keep0 kw
  have b12 := (k2.block _ (lt_of_block b1) (by simp)).trans b1
  have c0 := Kp.cellAt (X := []) (w0 := w2) (p := ⟨w.heap.size, 0, none⟩) (v := .int .i64 x0) (cell_of_cells b12 rfl) (by simp)
  have c1 := Kp.cellAt (X := []) (w0 := w2) (p := ⟨w.heap.size, 1, none⟩) (v := .int .i64 2) (cell_of_cells b12 rfl) (by simp)
  have c2 := Kp.cellAt (X := []) (w0 := w2) (p := ⟨w.heap.size, 2, none⟩) (v := .int .i64 x2) (cell_of_cells b12 rfl) (by simp)
  have c3 := Kp.cellAt (X := []) (w0 := w2) (p := ⟨w.heap.size, 3, none⟩) (v := .int .i64 x3) (cell_of_cells b12 rfl) (by simp)
  have c4 := Kp.cellAt (X := []) (w0 := w2) (p := ⟨w.heap.size, 4, none⟩) (v := .int .i64 x4) (cell_of_cells b12 rfl) (by simp)
  have c5 := Kp.cellAt (X := []) (w0 := w2) (p := ⟨w.heap.size, 5, none⟩) (v := .slice la ln lc) (cell_of_cells b12 rfl) (by simp)
  have c6 := Kp.cellAt (X := []) (w0 := w2) (p := ⟨w.heap.size, 6, none⟩) (v := .string x6) (cell_of_cells b12 rfl) (by simp)
  have c7 := Kp.cellAt (X := []) (w0 := w2) (p := ⟨w.heap.size, 7, none⟩) (v := .int .i64 x7) (cell_of_cells b12 rfl) (by simp)
  have c8 := Kp.cellAt (X := []) (w0 := w2) (p := ⟨w.heap.size, 8, none⟩) (v := .int .i64 x8) (cell_of_cells b12 rfl) (by simp)
  have c9 := Kp.cellAt (X := []) (w0 := w2) (p := ⟨w.heap.size, 9, none⟩) (v := .int .i64 x9) (cell_of_cells b12 rfl) (by simp)
  have c10 := Kp.cellAt (X := []) (w0 := w2) (p := ⟨w.heap.size, 10, none⟩) (v := .string xa) (cell_of_cells b12 rfl) (by simp)
  have c11 := Kp.cellAt (X := []) (w0 := w2) (p := ⟨w.heap.size, 11, none⟩) (v := .string xb) (cell_of_cells b12 rfl) (by simp)
  have c12 := Kp.cellAt (X := []) (w0 := w2) (p := ⟨w.heap.size, 12, none⟩) (v := .int .i64 xc) (cell_of_cells b12 rfl) (by simp)
  have c13 := Kp.cellAt (X := []) (w0 := w2) (p := ⟨w.heap.size, 13, none⟩) (v := .int .i64 xd) (cell_of_cells b12 rfl) (by simp)
  have e0 := Kp.cellAt (X := []) (w0 := w2) (p := ⟨M, 0, none⟩) (v := .string x6) (cell_of_cells b2 rfl) (by simp)
  have e1 := Kp.cellAt (X := []) (w0 := w2) (p := ⟨M, 1, none⟩) (v := .int .i64 x7) (cell_of_cells b2 rfl) (by simp)
  have e2 := Kp.cellAt (X := []) (w0 := w2) (p := ⟨M, 2, none⟩) (v := .int .i64 x8) (cell_of_cells b2 rfl) (by simp)
  have e3 := Kp.cellAt (X := []) (w0 := w2) (p := ⟨M, 3, none⟩) (v := .int .i64 x9) (cell_of_cells b2 rfl) (by simp)
  have e4 := Kp.cellAt (X := []) (w0 := w2) (p := ⟨M, 4, none⟩) (v := .string xa) (cell_of_cells b2 rfl) (by simp)
  have hK := Kp.refl [] w2
  have Hw1 := Lib.hid hw1
  have Hw2 := Lib.hid hw2
  have HM := Lib.hid hM
  clear hw1 hw2 hM b1 b2 b12
  have HMn : w.heap.size + 1 = M := by rw [HM.out, Hw1.out, World.size_alloc]
  have HM2 := Lib.hid HMn
  clear HMn
  go_enter Tryz.func24, Tryz.ntmps24
  go_wp2_with fail
  rw [← Hw1.out, ← Hw2.out, HM2.out]
  have hk : inB 2 3 = true := by decide
  refine (rin x0 63 _).mono ?_
  rintro e wz ⟨rfl, hwz⟩
  rw [hwz, hs]
  clear hwz wz
  go_wp2_with fail
  refine (rin 2 3 _).mono ?_
  rintro e wz ⟨rfl, hwz⟩
  rw [hwz, hk]
  clear hwz wz
  go_wp2_with fail
  refine (rvol ⟨x2, x3, x4, lx⟩ _ B _ (hl2.keep0 hK) hz).mono ?_
  rintro e wv ⟨rfl, kv⟩
  replace hK := hK.trans kv
  cases hv : volOk ⟨x2, x3, x4, lx⟩ with
  | false =>
    have hr : R = 1 := by rw [HR.out]; simp [recCheck, hs, hk, hv]
    have HRR := Lib.hid hr
    clear hr
    go_wp2_with fail
    go_ret
    exact ⟨by rw [HRR.out]; rfl, kw.trans hK⟩
  | true =>
    obtain ⟨nm, hnm⟩ : ∃ nm, nm = namedR ⟨x0, 2, ⟨x2, x3, x4, lx⟩, ⟨x6, x7, x8, x9, xa⟩, xb, xc, xd⟩ := ⟨_, rfl⟩
    have hln := named_locs (c := ⟨x0, 2, ⟨x2, x3, x4, lx⟩, ⟨x6, x7, x8, x9, xa⟩, xb, xc, xd⟩) hl2
    obtain ⟨nv, hnv⟩ : ∃ nv, nv = namedV 2 (.slice la ln lc) := ⟨_, rfl⟩
    have hln2 : LocsAt B w2 nv nm.vol.locs := by rw [hnv, hnm]; exact hln
    have hlz : nm.vol.locs.length ≤ 9223372036854775807 := by rw [hnm]; exact named_len (c := ⟨x0, 2, ⟨x2, x3, x4, lx⟩, ⟨x6, x7, x8, x9, xa⟩, xb, xc, xd⟩) (Nat.le_trans hz (by decide))
    obtain ⟨D, hD⟩ : ∃ D, D = decide (nm = ⟨x0, 2, ⟨x2, x3, x4, lx⟩, ⟨x6, x7, x8, x9, xa⟩, xb, xc, xd⟩) := ⟨_, rfl⟩
    have hr : R = if D then 0 else 1 := by rw [HR.out, hD, hnm]; simp [recCheck, hs, hk, hv]
    have HD := Lib.hid hD
    have HRR := Lib.hid hr
    have HNM := Lib.hid hnm
    have HNV := Lib.hid hnv
    clear hr hD hnm hnv hln
    go_wp2_with fail
    refine wpB_begin 999 (Kp [] w2) (by kernel_rfl) (by exact hK.drew) (fun hHeld => ?_)
    refine wpB_take 0 _ ?_ rfl (by kernel_rfl) (fun _ _ _ h => h) rfl hHeld ?_ ?_
    rotate_left
    · (intro W hW; go_simp; try with_reducible rfl)
    try simp only [Act.put, List.setIfInBounds_toArray, List.set_cons_zero, List.set_cons_succ]
    refine wpB_take 2 _ ?_ rfl (by kernel_rfl) (fun _ _ _ h => h) rfl hHeld ?_ ?_
    rotate_left
    · (intro W hW; go_simp; try with_reducible rfl)
    try simp only [Act.put, List.setIfInBounds_toArray, List.set_cons_zero, List.set_cons_succ]
    refine wpB_step 1 _ rfl (by kernel_rfl) rfl rfl (fun K hK_ => ?_)
    go_simp
    refine (rnamed ⟨x0, 2, ⟨x2, x3, x4, lx⟩, ⟨x6, x7, x8, x9, xa⟩, xb, xc, xd⟩ _ _ _ _).mono ?_
    rintro e w5 ⟨rfl, k5⟩
    rw [← HNM.out, ← HNV.out]
    refine hK_.out _ _ (by exact hHeld.trans k5) (fun hHeld => ?_)
    clear hK_ K
    try simp only [Act.put, List.setIfInBounds_toArray, List.set_cons_zero, List.set_cons_succ]
    refine wpB_step 3 _ rfl (by kernel_rfl) rfl rfl (fun K hK_ => ?_)
    go_simp
    refine (rsame nm ⟨x0, 2, ⟨x2, x3, x4, lx⟩, ⟨x6, x7, x8, x9, xa⟩, xb, xc, xd⟩ _ _ B _ (hln2.keep0 hHeld) (hl2.keep0 hHeld) hlz).mono ?_
    rintro e w6 ⟨rfl, k6⟩
    rw [← HD.out]
    refine hK_.out _ _ (by exact hHeld.trans k6) (fun hHeld => ?_)
    clear hK_ K
    try simp only [Act.put, List.setIfInBounds_toArray, List.set_cons_zero, List.set_cons_succ]
    refine wpB_take 4 _ ?_ rfl (by kernel_rfl) (fun _ _ _ h => h) rfl hHeld ?_ ?_
    rotate_left
    · (intro W hW; go_simp; try with_reducible rfl)
    try simp only [Act.put, List.setIfInBounds_toArray, List.set_cons_zero, List.set_cons_succ]
    refine wpB_take 5 _ ?_ rfl (by kernel_rfl) (fun _ _ _ h => h) rfl hHeld ?_ ?_
    rotate_left
    · (intro W hW; go_simp; try with_reducible rfl)
    try simp only [Act.put, List.setIfInBounds_toArray, List.set_cons_zero, List.set_cons_succ]
    refine wpB_done (by kernel_rfl) ?_ _
    cases D with
    | false =>
      go_wp2_with fail
      go_ret
      exact ⟨by rw [HRR.out]; rfl, kw.trans hHeld⟩
    | true =>
      go_wp2_with fail
      go_ret
      exact ⟨by rw [HRR.out]; rfl, kw.trans hHeld⟩
set_option maxHeartbeats 4000000 in
set_option maxRecDepth 20000 in
theorem rcheck1 (x0 x2 x3 x4 x7 x8 x9 xc xd : Int) (lx : List (Int × Int)) (x6 xa xb : ByteArray) (la : Option Addr) (ln lc : Nat) (B : Nat) (w : World) (hl : LocsAt B w (.slice la ln lc) lx) (hz : lx.length ≤ 1000) (_ : x6.size < 16384) (hxb : xb.size < 16384) (hs : inB x0 63 = true) :
    Calls Tryz.prog 24 #[.agg #[.int .i64 x0, .int .i64 1, .int .i64 x2, .int .i64 x3, .int .i64 x4, .slice la ln lc, .string x6, .int .i64 x7, .int .i64 x8, .int .i64 x9, .string xa, .string xb, .int .i64 xc, .int .i64 xd]] w fun e w' => e = .returned (.int .i64 (recCheck ⟨x0, 1, ⟨x2, x3, x4, lx⟩, ⟨x6, x7, x8, x9, xa⟩, xb, xc, xd⟩)) ∧ Kp [] w w' := by
  obtain ⟨R, hR⟩ : ∃ R, R = recCheck ⟨x0, 1, ⟨x2, x3, x4, lx⟩, ⟨x6, x7, x8, x9, xa⟩, xb, xc, xd⟩ := ⟨_, rfl⟩
  rw [← hR]
  have HR := Lib.hid hR
  clear hR
  obtain ⟨w1, hw1⟩ : ∃ w1, w1 = w.alloc (.cells #[.int .i64 x0, .int .i64 1, .int .i64 x2, .int .i64 x3, .int .i64 x4, .slice la ln lc, .string x6, .int .i64 x7, .int .i64 x8, .int .i64 x9, .string xa, .string xb, .int .i64 xc, .int .i64 xd] 43) := ⟨_, rfl⟩
  have k1 : Kp [] w w1 := hw1 ▸ (Kp.refl _ _).alloc _
  have b1 : w1.heap[w.heap.size]? = some (.cells #[.int .i64 x0, .int .i64 1, .int .i64 x2, .int .i64 x3, .int .i64 x4, .slice la ln lc, .string x6, .int .i64 x7, .int .i64 x8, .int .i64 x9, .string xa, .string xb, .int .i64 xc, .int .i64 xd] 43 (0, 0)) := by rw [hw1]; exact block_new _ _
  obtain ⟨M, hM⟩ : ∃ M, M = w1.heap.size := ⟨_, rfl⟩
  obtain ⟨w2, hw2⟩ : ∃ w2, w2 = w1.alloc (.cells #[.string x6, .int .i64 x7, .int .i64 x8, .int .i64 x9, .string xa] 38) := ⟨_, rfl⟩
  have k2 : Kp [] w1 w2 := hw2 ▸ (Kp.refl _ _).alloc _
  have b2 : w2.heap[M]? = some (.cells #[.string x6, .int .i64 x7, .int .i64 x8, .int .i64 x9, .string xa] 38 (0, 0)) := by rw [hw2, hM]; exact block_new _ _
  have kw := k1.trans k2
  have hl2 : LocsAt B w2 (.slice la ln lc) lx := hl.keep0 kw
  have b12 := (k2.block _ (lt_of_block b1) (by simp)).trans b1
  have c0 := Kp.cellAt (X := []) (w0 := w2) (p := ⟨w.heap.size, 0, none⟩) (v := .int .i64 x0) (cell_of_cells b12 rfl) (by simp)
  have c1 := Kp.cellAt (X := []) (w0 := w2) (p := ⟨w.heap.size, 1, none⟩) (v := .int .i64 1) (cell_of_cells b12 rfl) (by simp)
  have c2 := Kp.cellAt (X := []) (w0 := w2) (p := ⟨w.heap.size, 2, none⟩) (v := .int .i64 x2) (cell_of_cells b12 rfl) (by simp)
  have c3 := Kp.cellAt (X := []) (w0 := w2) (p := ⟨w.heap.size, 3, none⟩) (v := .int .i64 x3) (cell_of_cells b12 rfl) (by simp)
  have c4 := Kp.cellAt (X := []) (w0 := w2) (p := ⟨w.heap.size, 4, none⟩) (v := .int .i64 x4) (cell_of_cells b12 rfl) (by simp)
  have c5 := Kp.cellAt (X := []) (w0 := w2) (p := ⟨w.heap.size, 5, none⟩) (v := .slice la ln lc) (cell_of_cells b12 rfl) (by simp)
  have c6 := Kp.cellAt (X := []) (w0 := w2) (p := ⟨w.heap.size, 6, none⟩) (v := .string x6) (cell_of_cells b12 rfl) (by simp)
  have c7 := Kp.cellAt (X := []) (w0 := w2) (p := ⟨w.heap.size, 7, none⟩) (v := .int .i64 x7) (cell_of_cells b12 rfl) (by simp)
  have c8 := Kp.cellAt (X := []) (w0 := w2) (p := ⟨w.heap.size, 8, none⟩) (v := .int .i64 x8) (cell_of_cells b12 rfl) (by simp)
  have c9 := Kp.cellAt (X := []) (w0 := w2) (p := ⟨w.heap.size, 9, none⟩) (v := .int .i64 x9) (cell_of_cells b12 rfl) (by simp)
  have c10 := Kp.cellAt (X := []) (w0 := w2) (p := ⟨w.heap.size, 10, none⟩) (v := .string xa) (cell_of_cells b12 rfl) (by simp)
  have c11 := Kp.cellAt (X := []) (w0 := w2) (p := ⟨w.heap.size, 11, none⟩) (v := .string xb) (cell_of_cells b12 rfl) (by simp)
  have c12 := Kp.cellAt (X := []) (w0 := w2) (p := ⟨w.heap.size, 12, none⟩) (v := .int .i64 xc) (cell_of_cells b12 rfl) (by simp)
  have c13 := Kp.cellAt (X := []) (w0 := w2) (p := ⟨w.heap.size, 13, none⟩) (v := .int .i64 xd) (cell_of_cells b12 rfl) (by simp)
  have e0 := Kp.cellAt (X := []) (w0 := w2) (p := ⟨M, 0, none⟩) (v := .string x6) (cell_of_cells b2 rfl) (by simp)
  have e1 := Kp.cellAt (X := []) (w0 := w2) (p := ⟨M, 1, none⟩) (v := .int .i64 x7) (cell_of_cells b2 rfl) (by simp)
  have e2 := Kp.cellAt (X := []) (w0 := w2) (p := ⟨M, 2, none⟩) (v := .int .i64 x8) (cell_of_cells b2 rfl) (by simp)
  have e3 := Kp.cellAt (X := []) (w0 := w2) (p := ⟨M, 3, none⟩) (v := .int .i64 x9) (cell_of_cells b2 rfl) (by simp)
  have e4 := Kp.cellAt (X := []) (w0 := w2) (p := ⟨M, 4, none⟩) (v := .string xa) (cell_of_cells b2 rfl) (by simp)
  have hK := Kp.refl [] w2
  have Hw1 := Lib.hid hw1
  have Hw2 := Lib.hid hw2
  have HM := Lib.hid hM
  clear hw1 hw2 hM b1 b2 b12
  have HMn : w.heap.size + 1 = M := by rw [HM.out, Hw1.out, World.size_alloc]
  have HM2 := Lib.hid HMn
  clear HMn
  go_enter Tryz.func24, Tryz.ntmps24
  go_wp2_with fail
  rw [← Hw1.out, ← Hw2.out, HM2.out]
  have hk : inB 1 3 = true := by decide
  refine (rin x0 63 _).mono ?_
  rintro e wz ⟨rfl, hwz⟩
  rw [hwz, hs]
  clear hwz wz
  go_wp2_with fail
  refine (rin 1 3 _).mono ?_
  rintro e wz ⟨rfl, hwz⟩
  rw [hwz, hk]
  clear hwz wz
  go_wp2_with fail
  refine (rplain xb hxb _).mono ?_
  rintro e wp ⟨rfl, kp⟩
  replace hK := hK.trans kp
  cases hp : keyOk xb with
  | false =>
    have hr : R = 11 := by rw [HR.out]; simp [recCheck, hs, hk, hp]
    have HRR := Lib.hid hr
    clear hr
    go_wp2_with fail
    go_ret
    exact ⟨by rw [HRR.out]; rfl, kw.trans hK⟩
  | true =>
    obtain ⟨nm, hnm⟩ : ∃ nm, nm = namedR ⟨x0, 1, ⟨x2, x3, x4, lx⟩, ⟨x6, x7, x8, x9, xa⟩, xb, xc, xd⟩ := ⟨_, rfl⟩
    have hln := named_locs (c := ⟨x0, 1, ⟨x2, x3, x4, lx⟩, ⟨x6, x7, x8, x9, xa⟩, xb, xc, xd⟩) hl2
    obtain ⟨nv, hnv⟩ : ∃ nv, nv = namedV 1 (.slice la ln lc) := ⟨_, rfl⟩
    have hln2 : LocsAt B w2 nv nm.vol.locs := by rw [hnv, hnm]; exact hln
    have hlz : nm.vol.locs.length ≤ 9223372036854775807 := by rw [hnm]; exact named_len (c := ⟨x0, 1, ⟨x2, x3, x4, lx⟩, ⟨x6, x7, x8, x9, xa⟩, xb, xc, xd⟩) (Nat.le_trans hz (by decide))
    obtain ⟨D, hD⟩ : ∃ D, D = decide (nm = ⟨x0, 1, ⟨x2, x3, x4, lx⟩, ⟨x6, x7, x8, x9, xa⟩, xb, xc, xd⟩) := ⟨_, rfl⟩
    have hr : R = if D then 0 else 1 := by rw [HR.out, hD, hnm]; simp [recCheck, hs, hk, hp]
    have HD := Lib.hid hD
    have HRR := Lib.hid hr
    have HNM := Lib.hid hnm
    have HNV := Lib.hid hnv
    clear hr hD hnm hnv hln
    go_wp2_with fail
    refine wpB_begin 999 (Kp [] w2) (by kernel_rfl) (by exact hK.drew) (fun hHeld => ?_)
    refine wpB_take 0 _ ?_ rfl (by kernel_rfl) (fun _ _ _ h => h) rfl hHeld ?_ ?_
    rotate_left
    · (intro W hW; go_simp; try with_reducible rfl)
    try simp only [Act.put, List.setIfInBounds_toArray, List.set_cons_zero, List.set_cons_succ]
    refine wpB_take 2 _ ?_ rfl (by kernel_rfl) (fun _ _ _ h => h) rfl hHeld ?_ ?_
    rotate_left
    · (intro W hW; go_simp; try with_reducible rfl)
    try simp only [Act.put, List.setIfInBounds_toArray, List.set_cons_zero, List.set_cons_succ]
    refine wpB_step 1 _ rfl (by kernel_rfl) rfl rfl (fun K hK_ => ?_)
    go_simp
    refine (rnamed ⟨x0, 1, ⟨x2, x3, x4, lx⟩, ⟨x6, x7, x8, x9, xa⟩, xb, xc, xd⟩ _ _ _ _).mono ?_
    rintro e w5 ⟨rfl, k5⟩
    rw [← HNM.out, ← HNV.out]
    refine hK_.out _ _ (by exact hHeld.trans k5) (fun hHeld => ?_)
    clear hK_ K
    try simp only [Act.put, List.setIfInBounds_toArray, List.set_cons_zero, List.set_cons_succ]
    refine wpB_step 3 _ rfl (by kernel_rfl) rfl rfl (fun K hK_ => ?_)
    go_simp
    refine (rsame nm ⟨x0, 1, ⟨x2, x3, x4, lx⟩, ⟨x6, x7, x8, x9, xa⟩, xb, xc, xd⟩ _ _ B _ (hln2.keep0 hHeld) (hl2.keep0 hHeld) hlz).mono ?_
    rintro e w6 ⟨rfl, k6⟩
    rw [← HD.out]
    refine hK_.out _ _ (by exact hHeld.trans k6) (fun hHeld => ?_)
    clear hK_ K
    try simp only [Act.put, List.setIfInBounds_toArray, List.set_cons_zero, List.set_cons_succ]
    refine wpB_take 4 _ ?_ rfl (by kernel_rfl) (fun _ _ _ h => h) rfl hHeld ?_ ?_
    rotate_left
    · (intro W hW; go_simp; try with_reducible rfl)
    try simp only [Act.put, List.setIfInBounds_toArray, List.set_cons_zero, List.set_cons_succ]
    refine wpB_take 5 _ ?_ rfl (by kernel_rfl) (fun _ _ _ h => h) rfl hHeld ?_ ?_
    rotate_left
    · (intro W hW; go_simp; try with_reducible rfl)
    try simp only [Act.put, List.setIfInBounds_toArray, List.set_cons_zero, List.set_cons_succ]
    refine wpB_done (by kernel_rfl) ?_ _
    cases D with
    | false =>
      go_wp2_with fail
      go_ret
      exact ⟨by rw [HRR.out]; rfl, kw.trans hHeld⟩
    | true =>
      go_wp2_with fail
      go_ret
      exact ⟨by rw [HRR.out]; rfl, kw.trans hHeld⟩
set_option maxHeartbeats 4000000 in
set_option maxRecDepth 20000 in
theorem rcheck3 (x0 x2 x3 x4 x7 x8 x9 xc xd : Int) (lx : List (Int × Int)) (x6 xa xb : ByteArray) (la : Option Addr) (ln lc : Nat) (B : Nat) (w : World) (hl : LocsAt B w (.slice la ln lc) lx) (hz : lx.length ≤ 1000) (_ : x6.size < 16384) (_ : xb.size < 16384) (hs : inB x0 63 = true) :
    Calls Tryz.prog 24 #[.agg #[.int .i64 x0, .int .i64 3, .int .i64 x2, .int .i64 x3, .int .i64 x4, .slice la ln lc, .string x6, .int .i64 x7, .int .i64 x8, .int .i64 x9, .string xa, .string xb, .int .i64 xc, .int .i64 xd]] w fun e w' => e = .returned (.int .i64 (recCheck ⟨x0, 3, ⟨x2, x3, x4, lx⟩, ⟨x6, x7, x8, x9, xa⟩, xb, xc, xd⟩)) ∧ Kp [] w w' := by
  obtain ⟨R, hR⟩ : ∃ R, R = recCheck ⟨x0, 3, ⟨x2, x3, x4, lx⟩, ⟨x6, x7, x8, x9, xa⟩, xb, xc, xd⟩ := ⟨_, rfl⟩
  rw [← hR]
  have HR := Lib.hid hR
  clear hR
  obtain ⟨w1, hw1⟩ : ∃ w1, w1 = w.alloc (.cells #[.int .i64 x0, .int .i64 3, .int .i64 x2, .int .i64 x3, .int .i64 x4, .slice la ln lc, .string x6, .int .i64 x7, .int .i64 x8, .int .i64 x9, .string xa, .string xb, .int .i64 xc, .int .i64 xd] 43) := ⟨_, rfl⟩
  have k1 : Kp [] w w1 := hw1 ▸ (Kp.refl _ _).alloc _
  have b1 : w1.heap[w.heap.size]? = some (.cells #[.int .i64 x0, .int .i64 3, .int .i64 x2, .int .i64 x3, .int .i64 x4, .slice la ln lc, .string x6, .int .i64 x7, .int .i64 x8, .int .i64 x9, .string xa, .string xb, .int .i64 xc, .int .i64 xd] 43 (0, 0)) := by rw [hw1]; exact block_new _ _
  obtain ⟨M, hM⟩ : ∃ M, M = w1.heap.size := ⟨_, rfl⟩
  obtain ⟨w2, hw2⟩ : ∃ w2, w2 = w1.alloc (.cells #[.string x6, .int .i64 x7, .int .i64 x8, .int .i64 x9, .string xa] 38) := ⟨_, rfl⟩
  have k2 : Kp [] w1 w2 := hw2 ▸ (Kp.refl _ _).alloc _
  have b2 : w2.heap[M]? = some (.cells #[.string x6, .int .i64 x7, .int .i64 x8, .int .i64 x9, .string xa] 38 (0, 0)) := by rw [hw2, hM]; exact block_new _ _
  have kw := k1.trans k2
  have hl2 : LocsAt B w2 (.slice la ln lc) lx := hl.keep0 kw
  have b12 := (k2.block _ (lt_of_block b1) (by simp)).trans b1
  have c0 := Kp.cellAt (X := []) (w0 := w2) (p := ⟨w.heap.size, 0, none⟩) (v := .int .i64 x0) (cell_of_cells b12 rfl) (by simp)
  have c1 := Kp.cellAt (X := []) (w0 := w2) (p := ⟨w.heap.size, 1, none⟩) (v := .int .i64 3) (cell_of_cells b12 rfl) (by simp)
  have c2 := Kp.cellAt (X := []) (w0 := w2) (p := ⟨w.heap.size, 2, none⟩) (v := .int .i64 x2) (cell_of_cells b12 rfl) (by simp)
  have c3 := Kp.cellAt (X := []) (w0 := w2) (p := ⟨w.heap.size, 3, none⟩) (v := .int .i64 x3) (cell_of_cells b12 rfl) (by simp)
  have c4 := Kp.cellAt (X := []) (w0 := w2) (p := ⟨w.heap.size, 4, none⟩) (v := .int .i64 x4) (cell_of_cells b12 rfl) (by simp)
  have c5 := Kp.cellAt (X := []) (w0 := w2) (p := ⟨w.heap.size, 5, none⟩) (v := .slice la ln lc) (cell_of_cells b12 rfl) (by simp)
  have c6 := Kp.cellAt (X := []) (w0 := w2) (p := ⟨w.heap.size, 6, none⟩) (v := .string x6) (cell_of_cells b12 rfl) (by simp)
  have c7 := Kp.cellAt (X := []) (w0 := w2) (p := ⟨w.heap.size, 7, none⟩) (v := .int .i64 x7) (cell_of_cells b12 rfl) (by simp)
  have c8 := Kp.cellAt (X := []) (w0 := w2) (p := ⟨w.heap.size, 8, none⟩) (v := .int .i64 x8) (cell_of_cells b12 rfl) (by simp)
  have c9 := Kp.cellAt (X := []) (w0 := w2) (p := ⟨w.heap.size, 9, none⟩) (v := .int .i64 x9) (cell_of_cells b12 rfl) (by simp)
  have c10 := Kp.cellAt (X := []) (w0 := w2) (p := ⟨w.heap.size, 10, none⟩) (v := .string xa) (cell_of_cells b12 rfl) (by simp)
  have c11 := Kp.cellAt (X := []) (w0 := w2) (p := ⟨w.heap.size, 11, none⟩) (v := .string xb) (cell_of_cells b12 rfl) (by simp)
  have c12 := Kp.cellAt (X := []) (w0 := w2) (p := ⟨w.heap.size, 12, none⟩) (v := .int .i64 xc) (cell_of_cells b12 rfl) (by simp)
  have c13 := Kp.cellAt (X := []) (w0 := w2) (p := ⟨w.heap.size, 13, none⟩) (v := .int .i64 xd) (cell_of_cells b12 rfl) (by simp)
  have e0 := Kp.cellAt (X := []) (w0 := w2) (p := ⟨M, 0, none⟩) (v := .string x6) (cell_of_cells b2 rfl) (by simp)
  have e1 := Kp.cellAt (X := []) (w0 := w2) (p := ⟨M, 1, none⟩) (v := .int .i64 x7) (cell_of_cells b2 rfl) (by simp)
  have e2 := Kp.cellAt (X := []) (w0 := w2) (p := ⟨M, 2, none⟩) (v := .int .i64 x8) (cell_of_cells b2 rfl) (by simp)
  have e3 := Kp.cellAt (X := []) (w0 := w2) (p := ⟨M, 3, none⟩) (v := .int .i64 x9) (cell_of_cells b2 rfl) (by simp)
  have e4 := Kp.cellAt (X := []) (w0 := w2) (p := ⟨M, 4, none⟩) (v := .string xa) (cell_of_cells b2 rfl) (by simp)
  have hK := Kp.refl [] w2
  have Hw1 := Lib.hid hw1
  have Hw2 := Lib.hid hw2
  have HM := Lib.hid hM
  clear hw1 hw2 hM b1 b2 b12
  have HMn : w.heap.size + 1 = M := by rw [HM.out, Hw1.out, World.size_alloc]
  have HM2 := Lib.hid HMn
  clear HMn
  go_enter Tryz.func24, Tryz.ntmps24
  go_wp2_with fail
  rw [← Hw1.out, ← Hw2.out, HM2.out]
  have hk : inB 3 3 = true := by decide
  refine (rin x0 63 _).mono ?_
  rintro e wz ⟨rfl, hwz⟩
  rw [hwz, hs]
  clear hwz wz
  go_wp2_with fail
  refine (rin 3 3 _).mono ?_
  rintro e wz ⟨rfl, hwz⟩
  rw [hwz, hk]
  clear hwz wz
  go_wp2_with fail
  refine (rvol ⟨x2, x3, x4, lx⟩ _ B _ (hl2.keep0 hK) hz).mono ?_
  rintro e wv ⟨rfl, kv⟩
  replace hK := hK.trans kv
  cases hv : volOk ⟨x2, x3, x4, lx⟩ with
  | false =>
    have hr : R = 1 := by rw [HR.out]; simp [recCheck, hs, hk, hv]
    have HRR := Lib.hid hr
    clear hr
    go_wp2_with fail
    go_ret
    exact ⟨by rw [HRR.out]; rfl, kw.trans hK⟩
  | true =>
    go_wp2_with fail
    refine (rin xc 1099511627776 _).mono ?_
    rintro e wz ⟨rfl, hwz⟩
    rw [hwz]
    clear hwz wz
    cases g1 : inB xc 1099511627776 with
    | false =>
      have hr : R = 1 := by rw [HR.out]; simp [recCheck, hs, hk, hv, fromOk, g1]
      have HRR := Lib.hid hr
      clear hr
      go_wp2_with fail
      go_ret
      exact ⟨by rw [HRR.out]; rfl, kw.trans hK⟩
    | true =>
      go_wp2_with fail
      refine (rin xd 1099511627776 _).mono ?_
      rintro e wz ⟨rfl, hwz⟩
      rw [hwz]
      clear hwz wz
      cases g2 : inB xd 1099511627776 with
      | false =>
        have hr : R = 1 := by rw [HR.out]; simp [recCheck, hs, hk, hv, fromOk, g1, g2]
        have HRR := Lib.hid hr
        clear hr
        go_wp2_with fail
        go_ret
        exact ⟨by rw [HRR.out]; rfl, kw.trans hK⟩
      | true =>
        by_cases heq : xc = xd
        · have hb : (xc == xd) = true := by simpa using heq
          have hr : R = 1 := by rw [HR.out]; simp [recCheck, hs, hk, hv, fromOk, g2, heq]
          have HRR := Lib.hid hr
          clear hr
          go_wp2_with fail
          go_ret
          exact ⟨by rw [HRR.out]; rfl, kw.trans hK⟩
        · have hb := int_ne heq
          have hd : decide (xc = xd) = false := decide_eq_false heq
          have hfo : fromOk ⟨x0, 3, ⟨x2, x3, x4, lx⟩, ⟨x6, x7, x8, x9, xa⟩, xb, xc, xd⟩ = true := by simp [fromOk, g1, g2, hd]
          obtain ⟨nm, hnm⟩ : ∃ nm, nm = namedR ⟨x0, 3, ⟨x2, x3, x4, lx⟩, ⟨x6, x7, x8, x9, xa⟩, xb, xc, xd⟩ := ⟨_, rfl⟩
          have hln := named_locs (c := ⟨x0, 3, ⟨x2, x3, x4, lx⟩, ⟨x6, x7, x8, x9, xa⟩, xb, xc, xd⟩) hl2
          obtain ⟨nv, hnv⟩ : ∃ nv, nv = namedV 3 (.slice la ln lc) := ⟨_, rfl⟩
          have hln2 : LocsAt B w2 nv nm.vol.locs := by rw [hnv, hnm]; exact hln
          have hlz : nm.vol.locs.length ≤ 9223372036854775807 := by rw [hnm]; exact named_len (c := ⟨x0, 3, ⟨x2, x3, x4, lx⟩, ⟨x6, x7, x8, x9, xa⟩, xb, xc, xd⟩) (Nat.le_trans hz (by decide))
          obtain ⟨D, hD⟩ : ∃ D, D = decide (nm = ⟨x0, 3, ⟨x2, x3, x4, lx⟩, ⟨x6, x7, x8, x9, xa⟩, xb, xc, xd⟩) := ⟨_, rfl⟩
          have hr : R = if D then 0 else 1 := by rw [HR.out, hD, hnm]; simp [recCheck, hs, hk, hv, hfo]
          have HD := Lib.hid hD
          have HRR := Lib.hid hr
          have HNM := Lib.hid hnm
          have HNV := Lib.hid hnv
          clear hr hD hnm hnv hln
          go_wp2_with fail
          refine wpB_begin 999 (Kp [] w2) (by kernel_rfl) (by exact hK.drew) (fun hHeld => ?_)
          refine wpB_take 0 _ ?_ rfl (by kernel_rfl) (fun _ _ _ h => h) rfl hHeld ?_ ?_
          rotate_left
          · (intro W hW; go_simp; try with_reducible rfl)
          try simp only [Act.put, List.setIfInBounds_toArray, List.set_cons_zero, List.set_cons_succ]
          refine wpB_take 2 _ ?_ rfl (by kernel_rfl) (fun _ _ _ h => h) rfl hHeld ?_ ?_
          rotate_left
          · (intro W hW; go_simp; try with_reducible rfl)
          try simp only [Act.put, List.setIfInBounds_toArray, List.set_cons_zero, List.set_cons_succ]
          refine wpB_step 1 _ rfl (by kernel_rfl) rfl rfl (fun K hK_ => ?_)
          go_simp
          refine (rnamed ⟨x0, 3, ⟨x2, x3, x4, lx⟩, ⟨x6, x7, x8, x9, xa⟩, xb, xc, xd⟩ _ _ _ _).mono ?_
          rintro e w5 ⟨rfl, k5⟩
          rw [← HNM.out, ← HNV.out]
          refine hK_.out _ _ (by exact hHeld.trans k5) (fun hHeld => ?_)
          clear hK_ K
          try simp only [Act.put, List.setIfInBounds_toArray, List.set_cons_zero, List.set_cons_succ]
          refine wpB_step 3 _ rfl (by kernel_rfl) rfl rfl (fun K hK_ => ?_)
          go_simp
          refine (rsame nm ⟨x0, 3, ⟨x2, x3, x4, lx⟩, ⟨x6, x7, x8, x9, xa⟩, xb, xc, xd⟩ _ _ B _ (hln2.keep0 hHeld) (hl2.keep0 hHeld) hlz).mono ?_
          rintro e w6 ⟨rfl, k6⟩
          rw [← HD.out]
          refine hK_.out _ _ (by exact hHeld.trans k6) (fun hHeld => ?_)
          clear hK_ K
          try simp only [Act.put, List.setIfInBounds_toArray, List.set_cons_zero, List.set_cons_succ]
          refine wpB_take 4 _ ?_ rfl (by kernel_rfl) (fun _ _ _ h => h) rfl hHeld ?_ ?_
          rotate_left
          · (intro W hW; go_simp; try with_reducible rfl)
          try simp only [Act.put, List.setIfInBounds_toArray, List.set_cons_zero, List.set_cons_succ]
          refine wpB_take 5 _ ?_ rfl (by kernel_rfl) (fun _ _ _ h => h) rfl hHeld ?_ ?_
          rotate_left
          · (intro W hW; go_simp; try with_reducible rfl)
          try simp only [Act.put, List.setIfInBounds_toArray, List.set_cons_zero, List.set_cons_succ]
          refine wpB_done (by kernel_rfl) ?_ _
          cases D with
          | false =>
            go_wp2_with fail
            go_ret
            exact ⟨by rw [HRR.out]; rfl, kw.trans hHeld⟩
          | true =>
            go_wp2_with fail
            go_ret
            exact ⟨by rw [HRR.out]; rfl, kw.trans hHeld⟩
set_option maxHeartbeats 4000000 in
set_option maxRecDepth 20000 in
theorem rcheck0 (x0 x2 x3 x4 x7 x8 x9 xc xd : Int) (lx : List (Int × Int)) (x6 xa xb : ByteArray) (la : Option Addr) (ln lc : Nat) (B : Nat) (w : World) (hl : LocsAt B w (.slice la ln lc) lx) (hz : lx.length ≤ 1000) (h6 : x6.size < 16384) (_ : xb.size < 16384) (hs : inB x0 63 = true) :
    Calls Tryz.prog 24 #[.agg #[.int .i64 x0, .int .i64 0, .int .i64 x2, .int .i64 x3, .int .i64 x4, .slice la ln lc, .string x6, .int .i64 x7, .int .i64 x8, .int .i64 x9, .string xa, .string xb, .int .i64 xc, .int .i64 xd]] w fun e w' => e = .returned (.int .i64 (recCheck ⟨x0, 0, ⟨x2, x3, x4, lx⟩, ⟨x6, x7, x8, x9, xa⟩, xb, xc, xd⟩)) ∧ Kp [] w w' := by
  obtain ⟨R, hR⟩ : ∃ R, R = recCheck ⟨x0, 0, ⟨x2, x3, x4, lx⟩, ⟨x6, x7, x8, x9, xa⟩, xb, xc, xd⟩ := ⟨_, rfl⟩
  rw [← hR]
  have HR := Lib.hid hR
  clear hR
  obtain ⟨w1, hw1⟩ : ∃ w1, w1 = w.alloc (.cells #[.int .i64 x0, .int .i64 0, .int .i64 x2, .int .i64 x3, .int .i64 x4, .slice la ln lc, .string x6, .int .i64 x7, .int .i64 x8, .int .i64 x9, .string xa, .string xb, .int .i64 xc, .int .i64 xd] 43) := ⟨_, rfl⟩
  have k1 : Kp [] w w1 := hw1 ▸ (Kp.refl _ _).alloc _
  have b1 : w1.heap[w.heap.size]? = some (.cells #[.int .i64 x0, .int .i64 0, .int .i64 x2, .int .i64 x3, .int .i64 x4, .slice la ln lc, .string x6, .int .i64 x7, .int .i64 x8, .int .i64 x9, .string xa, .string xb, .int .i64 xc, .int .i64 xd] 43 (0, 0)) := by rw [hw1]; exact block_new _ _
  obtain ⟨M, hM⟩ : ∃ M, M = w1.heap.size := ⟨_, rfl⟩
  obtain ⟨w2, hw2⟩ : ∃ w2, w2 = w1.alloc (.cells #[.string x6, .int .i64 x7, .int .i64 x8, .int .i64 x9, .string xa] 38) := ⟨_, rfl⟩
  have k2 : Kp [] w1 w2 := hw2 ▸ (Kp.refl _ _).alloc _
  have b2 : w2.heap[M]? = some (.cells #[.string x6, .int .i64 x7, .int .i64 x8, .int .i64 x9, .string xa] 38 (0, 0)) := by rw [hw2, hM]; exact block_new _ _
  have kw := k1.trans k2
  have hl2 : LocsAt B w2 (.slice la ln lc) lx := hl.keep0 kw
  have b12 := (k2.block _ (lt_of_block b1) (by simp)).trans b1
  have c0 := Kp.cellAt (X := []) (w0 := w2) (p := ⟨w.heap.size, 0, none⟩) (v := .int .i64 x0) (cell_of_cells b12 rfl) (by simp)
  have c1 := Kp.cellAt (X := []) (w0 := w2) (p := ⟨w.heap.size, 1, none⟩) (v := .int .i64 0) (cell_of_cells b12 rfl) (by simp)
  have c2 := Kp.cellAt (X := []) (w0 := w2) (p := ⟨w.heap.size, 2, none⟩) (v := .int .i64 x2) (cell_of_cells b12 rfl) (by simp)
  have c3 := Kp.cellAt (X := []) (w0 := w2) (p := ⟨w.heap.size, 3, none⟩) (v := .int .i64 x3) (cell_of_cells b12 rfl) (by simp)
  have c4 := Kp.cellAt (X := []) (w0 := w2) (p := ⟨w.heap.size, 4, none⟩) (v := .int .i64 x4) (cell_of_cells b12 rfl) (by simp)
  have c5 := Kp.cellAt (X := []) (w0 := w2) (p := ⟨w.heap.size, 5, none⟩) (v := .slice la ln lc) (cell_of_cells b12 rfl) (by simp)
  have c6 := Kp.cellAt (X := []) (w0 := w2) (p := ⟨w.heap.size, 6, none⟩) (v := .string x6) (cell_of_cells b12 rfl) (by simp)
  have c7 := Kp.cellAt (X := []) (w0 := w2) (p := ⟨w.heap.size, 7, none⟩) (v := .int .i64 x7) (cell_of_cells b12 rfl) (by simp)
  have c8 := Kp.cellAt (X := []) (w0 := w2) (p := ⟨w.heap.size, 8, none⟩) (v := .int .i64 x8) (cell_of_cells b12 rfl) (by simp)
  have c9 := Kp.cellAt (X := []) (w0 := w2) (p := ⟨w.heap.size, 9, none⟩) (v := .int .i64 x9) (cell_of_cells b12 rfl) (by simp)
  have c10 := Kp.cellAt (X := []) (w0 := w2) (p := ⟨w.heap.size, 10, none⟩) (v := .string xa) (cell_of_cells b12 rfl) (by simp)
  have c11 := Kp.cellAt (X := []) (w0 := w2) (p := ⟨w.heap.size, 11, none⟩) (v := .string xb) (cell_of_cells b12 rfl) (by simp)
  have c12 := Kp.cellAt (X := []) (w0 := w2) (p := ⟨w.heap.size, 12, none⟩) (v := .int .i64 xc) (cell_of_cells b12 rfl) (by simp)
  have c13 := Kp.cellAt (X := []) (w0 := w2) (p := ⟨w.heap.size, 13, none⟩) (v := .int .i64 xd) (cell_of_cells b12 rfl) (by simp)
  have e0 := Kp.cellAt (X := []) (w0 := w2) (p := ⟨M, 0, none⟩) (v := .string x6) (cell_of_cells b2 rfl) (by simp)
  have e1 := Kp.cellAt (X := []) (w0 := w2) (p := ⟨M, 1, none⟩) (v := .int .i64 x7) (cell_of_cells b2 rfl) (by simp)
  have e2 := Kp.cellAt (X := []) (w0 := w2) (p := ⟨M, 2, none⟩) (v := .int .i64 x8) (cell_of_cells b2 rfl) (by simp)
  have e3 := Kp.cellAt (X := []) (w0 := w2) (p := ⟨M, 3, none⟩) (v := .int .i64 x9) (cell_of_cells b2 rfl) (by simp)
  have e4 := Kp.cellAt (X := []) (w0 := w2) (p := ⟨M, 4, none⟩) (v := .string xa) (cell_of_cells b2 rfl) (by simp)
  have hK := Kp.refl [] w2
  have Hw1 := Lib.hid hw1
  have Hw2 := Lib.hid hw2
  have HM := Lib.hid hM
  clear hw1 hw2 hM b1 b2 b12
  have HMn : w.heap.size + 1 = M := by rw [HM.out, Hw1.out, World.size_alloc]
  have HM2 := Lib.hid HMn
  clear HMn
  go_enter Tryz.func24, Tryz.ntmps24
  go_wp2_with fail
  rw [← Hw1.out, ← Hw2.out, HM2.out]
  have hk : inB 0 3 = true := by decide
  refine (rin x0 63 _).mono ?_
  rintro e wz ⟨rfl, hwz⟩
  rw [hwz, hs]
  clear hwz wz
  go_wp2_with fail
  refine (rin 0 3 _).mono ?_
  rintro e wz ⟨rfl, hwz⟩
  rw [hwz, hk]
  clear hwz wz
  go_wp2_with fail
  refine (rvol ⟨x2, x3, x4, lx⟩ _ B _ (hl2.keep0 hK) hz).mono ?_
  rintro e wv ⟨rfl, kv⟩
  replace hK := hK.trans kv
  cases hv : volOk ⟨x2, x3, x4, lx⟩ with
  | false =>
    have hr : R = 1 := by rw [HR.out]; simp [recCheck, hs, hk, hv]
    have HRR := Lib.hid hr
    clear hr
    go_wp2_with fail
    go_ret
    exact ⟨by rw [HRR.out]; rfl, kw.trans hK⟩
  | true =>
    go_wp2_with fail
    refine (rplain x6 h6 _).mono ?_
    rintro e wp ⟨rfl, kp⟩
    replace hK := hK.trans kp
    cases hp : keyOk x6 with
    | false =>
      have hr : R = 11 := by rw [HR.out]; simp [recCheck, hs, hk, hv, hp]
      have HRR := Lib.hid hr
      clear hr
      go_wp2_with fail
      go_ret
      exact ⟨by rw [HRR.out]; rfl, kw.trans hK⟩
    | true =>
      have hvl := vol_len hv
      by_cases heq : x7 = x2
      · subst heq
        go_wp2_with fail
        refine (rin x8 x4 _).mono ?_
        rintro e wz ⟨rfl, hwz⟩
        rw [hwz]
        clear hwz wz
        cases g1 : inB x8 x4 with
        | false =>
          have hr : R = 1 := by rw [HR.out]; simp [recCheck, hs, hk, hv, hp, entOk, g1]
          have HRR := Lib.hid hr
          clear hr
          go_wp2_with fail
          go_ret
          exact ⟨by rw [HRR.out]; rfl, kw.trans hK⟩
        | true =>
          have hg1 := inB_true g1
          go_wp2_with fail
          refine (rin x9 (x4 - x8) _).mono ?_
          rintro e wz ⟨rfl, hwz⟩
          rw [hwz]
          clear hwz wz
          cases g2 : inB x9 (x4 - x8) with
          | false =>
            have hr : R = 1 := by rw [HR.out]; simp [recCheck, hs, hk, hv, hp, entOk, g1, g2]
            have HRR := Lib.hid hr
            clear hr
            go_wp2_with fail
            go_ret
            exact ⟨by rw [HRR.out]; rfl, kw.trans hK⟩
          | true =>
            by_cases h32 : xa.size = 32
            · have hb : ((xa.size : Int) != 32) = false := by simp; omega
              have hd : decide (xa.size = 32) = true := decide_eq_true h32
              clear h32
              have heo : entOk ⟨x0, 0, ⟨x7, x3, x4, lx⟩, ⟨x6, x7, x8, x9, xa⟩, xb, xc, xd⟩ = true := by simp [entOk, g1, g2, hd]
              obtain ⟨nm, hnm⟩ : ∃ nm, nm = namedR ⟨x0, 0, ⟨x7, x3, x4, lx⟩, ⟨x6, x7, x8, x9, xa⟩, xb, xc, xd⟩ := ⟨_, rfl⟩
              have hln := named_locs (c := ⟨x0, 0, ⟨x7, x3, x4, lx⟩, ⟨x6, x7, x8, x9, xa⟩, xb, xc, xd⟩) hl2
              obtain ⟨nv, hnv⟩ : ∃ nv, nv = namedV 0 (.slice la ln lc) := ⟨_, rfl⟩
              have hln2 : LocsAt B w2 nv nm.vol.locs := by rw [hnv, hnm]; exact hln
              have hlz : nm.vol.locs.length ≤ 9223372036854775807 := by rw [hnm]; exact named_len (c := ⟨x0, 0, ⟨x7, x3, x4, lx⟩, ⟨x6, x7, x8, x9, xa⟩, xb, xc, xd⟩) (Nat.le_trans hz (by decide))
              obtain ⟨D, hD⟩ : ∃ D, D = decide (nm = ⟨x0, 0, ⟨x7, x3, x4, lx⟩, ⟨x6, x7, x8, x9, xa⟩, xb, xc, xd⟩) := ⟨_, rfl⟩
              have hr : R = if D then 0 else 1 := by rw [HR.out, hD, hnm]; simp [recCheck, hs, hk, hv, hp, heo]
              have HD := Lib.hid hD
              have HRR := Lib.hid hr
              have HNM := Lib.hid hnm
              have HNV := Lib.hid hnv
              clear hr hD hnm hnv hln
              go_wp2_with fail
              refine wpB_begin 999 (Kp [] w2) (by kernel_rfl) (by exact hK.drew) (fun hHeld => ?_)
              refine wpB_take 0 _ ?_ rfl (by kernel_rfl) (fun _ _ _ h => h) rfl hHeld ?_ ?_
              rotate_left
              · (intro W hW; go_simp; try with_reducible rfl)
              try simp only [Act.put, List.setIfInBounds_toArray, List.set_cons_zero, List.set_cons_succ]
              refine wpB_take 2 _ ?_ rfl (by kernel_rfl) (fun _ _ _ h => h) rfl hHeld ?_ ?_
              rotate_left
              · (intro W hW; go_simp; try with_reducible rfl)
              try simp only [Act.put, List.setIfInBounds_toArray, List.set_cons_zero, List.set_cons_succ]
              refine wpB_step 1 _ rfl (by kernel_rfl) rfl rfl (fun K hK_ => ?_)
              go_simp
              refine (rnamed ⟨x0, 0, ⟨x7, x3, x4, lx⟩, ⟨x6, x7, x8, x9, xa⟩, xb, xc, xd⟩ _ _ _ _).mono ?_
              rintro e w5 ⟨rfl, k5⟩
              rw [← HNM.out, ← HNV.out]
              refine hK_.out _ _ (by exact hHeld.trans k5) (fun hHeld => ?_)
              clear hK_ K
              try simp only [Act.put, List.setIfInBounds_toArray, List.set_cons_zero, List.set_cons_succ]
              refine wpB_step 3 _ rfl (by kernel_rfl) rfl rfl (fun K hK_ => ?_)
              go_simp
              refine (rsame nm ⟨x0, 0, ⟨x7, x3, x4, lx⟩, ⟨x6, x7, x8, x9, xa⟩, xb, xc, xd⟩ _ _ B _ (hln2.keep0 hHeld) (hl2.keep0 hHeld) hlz).mono ?_
              rintro e w6 ⟨rfl, k6⟩
              rw [← HD.out]
              refine hK_.out _ _ (by exact hHeld.trans k6) (fun hHeld => ?_)
              clear hK_ K
              try simp only [Act.put, List.setIfInBounds_toArray, List.set_cons_zero, List.set_cons_succ]
              refine wpB_take 4 _ ?_ rfl (by kernel_rfl) (fun _ _ _ h => h) rfl hHeld ?_ ?_
              rotate_left
              · (intro W hW; go_simp; try with_reducible rfl)
              try simp only [Act.put, List.setIfInBounds_toArray, List.set_cons_zero, List.set_cons_succ]
              refine wpB_take 5 _ ?_ rfl (by kernel_rfl) (fun _ _ _ h => h) rfl hHeld ?_ ?_
              rotate_left
              · (intro W hW; go_simp; try with_reducible rfl)
              try simp only [Act.put, List.setIfInBounds_toArray, List.set_cons_zero, List.set_cons_succ]
              refine wpB_done (by kernel_rfl) ?_ _
              cases D with
              | false =>
                go_wp2_with fail
                go_ret
                exact ⟨by rw [HRR.out]; rfl, kw.trans hHeld⟩
              | true =>
                go_wp2_with fail
                go_ret
                exact ⟨by rw [HRR.out]; rfl, kw.trans hHeld⟩
            · have hb : ((xa.size : Int) != 32) = true := by simp; omega
              have hd : decide (xa.size = 32) = false := decide_eq_false h32
              clear h32
              have hr : R = 1 := by rw [HR.out]; simp [recCheck, hs, hk, hv, hp, entOk, g1, g2, hd]
              have HRR := Lib.hid hr
              clear hr
              go_wp2_with fail
              go_ret
              exact ⟨by rw [HRR.out]; rfl, kw.trans hK⟩
      · have hb : (x7 != x2) = true := by simpa using heq
        have hd : decide (x7 = x2) = false := decide_eq_false heq
        have hr : R = 1 := by rw [HR.out]; simp [recCheck, hs, hk, hv, hp, entOk, hd]
        have HRR := Lib.hid hr
        clear hr
        go_wp2_with fail
        go_ret
        exact ⟨by rw [HRR.out]; rfl, kw.trans hK⟩
theorem rcheck (c : RecD) (lv : Value) (B : Nat) (w : World) (hl : LocsAt B w lv c.vol.locs) (hz : c.vol.locs.length ≤ 1000) (h6 : c.ent.key.size < 16384) (hxb : c.key.size < 16384) :
    Calls Tryz.prog 24 #[.agg (RecV c lv)] w fun e w' => e = .returned (.int .i64 (recCheck c)) ∧ Kp [] w w' := by
  obtain ⟨la, lc, rfl⟩ := slice_ex hl
  obtain ⟨x0, x1, ⟨x2, x3, x4, lx⟩, ⟨x6, x7, x8, x9, xa⟩, xb, xc, xd⟩ := c
  simp only [RecV]
  simp only at hl hz h6 hxb
  cases hs : inB x0 63 with
  | false => exact rcheck_seq x0 x1 x2 x3 x4 x7 x8 x9 xc xd lx x6 xa xb la lx.length lc B w hl hz h6 hxb hs
  | true =>
    cases hk : inB x1 3 with
    | false => exact rcheck_kind x0 x1 x2 x3 x4 x7 x8 x9 xc xd lx x6 xa xb la lx.length lc B w hl hz h6 hxb hs hk
    | true =>
      have hb := inB_true hk
      rcases (by omega : x1 = 0 ∨ x1 = 1 ∨ x1 = 2 ∨ x1 = 3) with rfl | rfl | rfl | rfl
      · exact rcheck0 x0 x2 x3 x4 x7 x8 x9 xc xd lx x6 xa xb la lx.length lc B w hl hz h6 hxb hs
      · exact rcheck1 x0 x2 x3 x4 x7 x8 x9 xc xd lx x6 xa xb la lx.length lc B w hl hz h6 hxb hs
      · exact rcheck2 x0 x2 x3 x4 x7 x8 x9 xc xd lx x6 xa xb la lx.length lc B w hl hz h6 hxb hs
      · exact rcheck3 x0 x2 x3 x4 x7 x8 x9 xc xd lx x6 xa xb la lx.length lc B w hl hz h6 hxb hs
end Go.Proofs.YtdhhddifmkijhaaGreat
