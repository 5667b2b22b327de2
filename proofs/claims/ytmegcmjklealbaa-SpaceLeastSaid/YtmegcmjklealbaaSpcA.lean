/-
  What the program's space does, call by call: is, Taken, Mark, Give, New.
-/
import Derived.Test.YtmegcmjklealbaaBase
import Derived.Test.YtmegcmjklealbaaReg
import Derived.Test.YtmegcmjklealbaaSpcBits
import Derived.Test.YtmegcmjklealbaaRows
namespace Go.Proofs.Ytmegcmjklealbaa
open Go.RowKit

def IsB (d s : Int) : Bool := decide (0 ≤ d ∧ d < 12 ∧ 0 ≤ s ∧ s < 48)
theorem IsB_yes {d s : Int} (h : IsB d s = true) : ∃ a b : Nat, d = a ∧ s = b ∧ a < 12 ∧ b < 48 := by
  simp only [IsB, decide_eq_true_eq] at h
  exact ⟨d.toNat, s.toNat, by omega, by omega, by omega, by omega⟩
theorem IsB_nat (a b : Nat) (ha : a < 12) (hb : b < 48) : IsB (a : Int) (b : Int) = true := by
  simp only [IsB, decide_eq_true_eq]; omega

/-- the twelve words -/
def Words (xs : List Nat) (f : Int → Int → Bool) : Prop := xs.length = 12 ∧ ∀ d : Nat, d < 12 → xs.getD d 0 < 18446744073709551616 ∧ ∀ s : Nat, s < 48 → (xs.getD d 0).testBit s = f d s
def SpaceAt (W : World) (b : Nat) (f : Int → Int → Bool) : Prop := ∃ xs, Words xs f ∧ W.heap[b]? = some (.cells (xs.map fun x : Nat => Value.int .u64 (x : Int)).toArray 52 (0, 0))
theorem SpaceAt.keep {X : List Nat} {w w' : World} {b : Nat} {f : Int → Int → Bool} (h : SpaceAt w b f) (k : Kp X w w') (hx : b ∉ X) : SpaceAt w' b f := by
  obtain ⟨xs, hx1, hb⟩ := h
  exact ⟨xs, hx1, (k.block b (lt_of_block hb) hx).trans hb⟩
theorem SpaceAt.lt {w : World} {b : Nat} {f : Int → Int → Bool} (h : SpaceAt w b f) : b < w.heap.size := by
  obtain ⟨xs, hx1, hb⟩ := h
  exact lt_of_block hb
theorem SpaceAt.cell {w : World} {b : Nat} {f : Int → Int → Bool} (h : SpaceAt w b f) (d : Nat) (hd : d < 12) : ∃ x : Nat, w.cell? ⟨b, d, none⟩ = some (.int .u64 (x : Int)) ∧ x < 18446744073709551616 ∧ (∀ s : Nat, s < 48 → x.testBit s = f d s) ∧ w.frozen? ⟨b, d, none⟩ = false ∧
    ∀ y : Nat, y < 18446744073709551616 → ∀ g : Int → Int → Bool, (∀ s : Nat, s < 48 → y.testBit s = g d s) → (∀ e s : Nat, e ≠ d → f e s = g e s) → SpaceAt (w.setCell ⟨b, d, none⟩ (.int .u64 (y : Int))) b g := by
  obtain ⟨xs, ⟨hl, hx1⟩, hb⟩ := h
  refine ⟨xs.getD d 0, ?_, (hx1 d hd).1, (hx1 d hd).2, frozen_of_cells hb _, ?_⟩
  · refine cell_of_cells hb ?_
    have hlt : d < xs.length := by omega
    simp [hlt]
  · intro y hy g hg hfg
    refine ⟨xs.set d y, ⟨by simp [hl], fun e he => ?_⟩, ?_⟩
    · by_cases hed : e = d
      · subst hed
        have : (xs.set e y).getD e 0 = y := by simp [List.getD, hl, he]
        rw [this]; exact ⟨hy, hg⟩
      · have : (xs.set d y).getD e 0 = xs.getD e 0 := by simp [List.getD, List.getElem?_set_ne (Ne.symm hed)]
        rw [this]
        exact ⟨(hx1 e he).1, fun s hs => ((hx1 e he).2 s hs).trans (hfg e s hed)⟩
    · rw [block_setCell hb]
      congr 2
      rw [List.map_set]
      simp

theorem is_nil (d s : Int) (w : World) :
    Calls Try.prog 26 #[.pointer none, .agg #[.int .i64 d, .int .i64 s]] w fun e w' => e = .returned (.bool false) ∧ Kp [] w w' := by
  go_enter Try.func26, Try.ntmps26
  go_wp2
  go_ret
  exact ⟨rfl, (Kp.refl _ _).alloc _⟩

theorem is_any (a : Addr) (d s : Int) (w : World) :
    Calls Try.prog 26 #[.pointer (some a), .agg #[.int .i64 d, .int .i64 s]] w fun e w' => e = .returned (.bool (IsB d s)) ∧ Kp [] w w' := by
  by_cases h1 : 0 ≤ d
  · by_cases h2 : d < 12
    · by_cases h3 : 0 ≤ s
      · have e : IsB d s = decide (s < 48) := by simp [IsB, *]
        rw [e]; clear e
        go_enter Try.func26, Try.ntmps26
        go_wp2
        go_ret
        exact ⟨rfl, (Kp.refl _ _).alloc _⟩
      · have e : IsB d s = false := by simp [IsB, *]
        rw [e]; clear e
        have h3' : s < 0 := by omega
        go_enter Try.func26, Try.ntmps26
        go_wp2
        go_ret
        exact ⟨rfl, (Kp.refl _ _).alloc _⟩
    · have e : IsB d s = false := by simp [IsB, *]
      rw [e]; clear e
      go_enter Try.func26, Try.ntmps26
      go_wp2
      go_ret
      exact ⟨rfl, (Kp.refl _ _).alloc _⟩
  · have e : IsB d s = false := by simp [IsB, *]
    rw [e]; clear e
    go_enter Try.func26, Try.ntmps26
    go_wp2
    go_ret
    exact ⟨rfl, (Kp.refl _ _).alloc _⟩

theorem taken_nil (d s : Int) (w : World) :
    Calls Try.prog 14 #[.pointer none, .agg #[.int .i64 d, .int .i64 s]] w fun e w' => e = .returned (.bool false) ∧ Kp [] w w' := by
  go_enter Try.func14, Try.ntmps14
  obtain ⟨w0, hw0⟩ : ∃ w0, w0 = (w.alloc (Obj.cells #[Value.int IntKind.i64 d, Value.int IntKind.i64 s] 31)) := ⟨_, rfl⟩
  have kw0 : Kp [] w w0 := hw0 ▸ (Kp.refl _ _).alloc _
  have c2 := Kp.cellAt (X := []) (w0 := w0) (p := ⟨w.heap.size, 0, none⟩) (v := .int .i64 d) (by rw [hw0]; exact cell_of_cells (block_new _ _) rfl) (by simp)
  have c3 := Kp.cellAt (X := []) (w0 := w0) (p := ⟨w.heap.size, 1, none⟩) (v := .int .i64 s) (by rw [hw0]; exact cell_of_cells (block_new _ _) rfl) (by simp)
  have Hw0 := Lib.hid hw0
  clear hw0
  go_wp2_with fail
  rw [← Hw0.out]
  refine wpB_begin 999 (Kp [] w0) (by kernel_rfl) (by first | exact hK.drew | exact Kp.drew (Kp.refl _ _)) (fun hHeld => ?_)
  refine wpB_take 0 _ ?_ rfl (by kernel_rfl) (fun _ _ _ h => h) rfl hHeld ?_ ?_
  rotate_left
  · (intro W hW; go_simp; try with_reducible rfl)
  try simp only [Act.put, List.setIfInBounds_toArray, List.set_cons_zero, List.set_cons_succ]
  refine wpB_take 1 _ ?_ rfl (by kernel_rfl) (fun _ _ _ h => h) rfl hHeld ?_ ?_
  rotate_left
  · (intro W hW; go_simp; try with_reducible rfl)
  try simp only [Act.put, List.setIfInBounds_toArray, List.set_cons_zero, List.set_cons_succ]
  refine wpB_step 2 _ rfl (by kernel_rfl) rfl rfl (fun K hK_ => ?_)
  go_simp
  refine (is_nil _ _ _).mono ?_
  rintro e w1 ⟨rfl, h1⟩
  refine hK_.out _ _ (by first | exact hHeld | exact hHeld.call ‹_› | exact hHeld.alloc _) (fun hHeld => ?_)
  clear hK_ K
  try simp only [Act.put, List.setIfInBounds_toArray, List.set_cons_zero, List.set_cons_succ]
  refine wpB_take 3 _ ?_ rfl (by kernel_rfl) (fun _ _ _ h => h) rfl hHeld ?_ ?_
  rotate_left
  · (intro W hW; go_simp; try with_reducible rfl)
  try simp only [Act.put, List.setIfInBounds_toArray, List.set_cons_zero, List.set_cons_succ]
  refine wpB_skip 4 _ rfl (by kernel_rfl) (fun _ _ _ h => h) rfl hHeld ?_
  try simp only [Act.put, List.setIfInBounds_toArray, List.set_cons_zero, List.set_cons_succ]
  refine wpB_skip 5 _ rfl (by kernel_rfl) (fun _ _ _ h => h) rfl hHeld ?_
  try simp only [Act.put, List.setIfInBounds_toArray, List.set_cons_zero, List.set_cons_succ]
  refine wpB_skip 6 _ rfl (by kernel_rfl) (fun _ _ _ h => h) rfl hHeld ?_
  try simp only [Act.put, List.setIfInBounds_toArray, List.set_cons_zero, List.set_cons_succ]
  refine wpB_skip 7 _ rfl (by kernel_rfl) (fun _ _ _ h => h) rfl hHeld ?_
  try simp only [Act.put, List.setIfInBounds_toArray, List.set_cons_zero, List.set_cons_succ]
  refine wpB_skip 8 _ rfl (by kernel_rfl) (fun _ _ _ h => h) rfl hHeld ?_
  try simp only [Act.put, List.setIfInBounds_toArray, List.set_cons_zero, List.set_cons_succ]
  refine wpB_skip 9 _ rfl (by kernel_rfl) (fun _ _ _ h => h) rfl hHeld ?_
  try simp only [Act.put, List.setIfInBounds_toArray, List.set_cons_zero, List.set_cons_succ]
  refine wpB_skip 10 _ rfl (by kernel_rfl) (fun _ _ _ h => h) rfl hHeld ?_
  try simp only [Act.put, List.setIfInBounds_toArray, List.set_cons_zero, List.set_cons_succ]
  refine wpB_skip 11 _ rfl (by kernel_rfl) (fun _ _ _ h => h) rfl hHeld ?_
  try simp only [Act.put, List.setIfInBounds_toArray, List.set_cons_zero, List.set_cons_succ]
  refine wpB_skip 12 _ rfl (by kernel_rfl) (fun _ _ _ h => h) rfl hHeld ?_
  try simp only [Act.put, List.setIfInBounds_toArray, List.set_cons_zero, List.set_cons_succ]
  refine wpB_skip 13 _ rfl (by kernel_rfl) (fun _ _ _ h => h) rfl hHeld ?_
  try simp only [Act.put, List.setIfInBounds_toArray, List.set_cons_zero, List.set_cons_succ]
  refine wpB_skip 14 _ rfl (by kernel_rfl) (fun _ _ _ h => h) rfl hHeld ?_
  try simp only [Act.put, List.setIfInBounds_toArray, List.set_cons_zero, List.set_cons_succ]
  refine wpB_skip 15 _ rfl (by kernel_rfl) (fun _ _ _ h => h) rfl hHeld ?_
  try simp only [Act.put, List.setIfInBounds_toArray, List.set_cons_zero, List.set_cons_succ]
  refine wpB_take 16 _ ?_ rfl (by kernel_rfl) (fun _ _ _ h => h) rfl hHeld ?_ ?_
  rotate_left
  · (intro W hW; go_simp; try with_reducible rfl)
  try simp only [Act.put, List.setIfInBounds_toArray, List.set_cons_zero, List.set_cons_succ]
  refine wpB_take 17 _ ?_ rfl (by kernel_rfl) (fun _ _ _ h => h) rfl hHeld ?_ ?_
  rotate_left
  · (intro W hW; go_simp; try with_reducible rfl)
  try simp only [Act.put, List.setIfInBounds_toArray, List.set_cons_zero, List.set_cons_succ]
  refine wpB_done (by kernel_rfl) ?_ _
  go_wp2
  go_ret
  exact ⟨rfl, kw0.trans hHeld⟩

theorem taken_out (b : Nat) (d s : Int) (hI : IsB d s = false) (w : World) :
    Calls Try.prog 14 #[.pointer (some ⟨b, 0, none⟩), .agg #[.int .i64 d, .int .i64 s]] w fun e w' => e = .returned (.bool false) ∧ Kp [] w w' := by
  have HI := Lib.hid hI
  clear hI
  go_enter Try.func14, Try.ntmps14
  obtain ⟨w0, hw0⟩ : ∃ w0, w0 = (w.alloc (Obj.cells #[Value.int IntKind.i64 d, Value.int IntKind.i64 s] 31)) := ⟨_, rfl⟩
  have kw0 : Kp [] w w0 := hw0 ▸ (Kp.refl _ _).alloc _
  have c2 := Kp.cellAt (X := []) (w0 := w0) (p := ⟨w.heap.size, 0, none⟩) (v := .int .i64 d) (by rw [hw0]; exact cell_of_cells (block_new _ _) rfl) (by simp)
  have c3 := Kp.cellAt (X := []) (w0 := w0) (p := ⟨w.heap.size, 1, none⟩) (v := .int .i64 s) (by rw [hw0]; exact cell_of_cells (block_new _ _) rfl) (by simp)
  have Hw0 := Lib.hid hw0
  clear hw0
  go_wp2_with fail
  rw [← Hw0.out]
  refine wpB_begin 999 (Kp [] w0) (by kernel_rfl) (by first | exact hK.drew | exact Kp.drew (Kp.refl _ _)) (fun hHeld => ?_)
  refine wpB_take 0 _ ?_ rfl (by kernel_rfl) (fun _ _ _ h => h) rfl hHeld ?_ ?_
  rotate_left
  · (intro W hW; go_simp; try with_reducible rfl)
  try simp only [Act.put, List.setIfInBounds_toArray, List.set_cons_zero, List.set_cons_succ]
  refine wpB_take 1 _ ?_ rfl (by kernel_rfl) (fun _ _ _ h => h) rfl hHeld ?_ ?_
  rotate_left
  · (intro W hW; go_simp; try with_reducible rfl)
  try simp only [Act.put, List.setIfInBounds_toArray, List.set_cons_zero, List.set_cons_succ]
  refine wpB_step 2 _ rfl (by kernel_rfl) rfl rfl (fun K hK_ => ?_)
  go_simp
  refine (is_any _ _ _ _).mono ?_
  rintro e w1 ⟨rfl, h1⟩
  rw [HI.out]
  refine hK_.out _ _ (by first | exact hHeld | exact hHeld.call ‹_› | exact hHeld.alloc _) (fun hHeld => ?_)
  clear hK_ K
  try simp only [Act.put, List.setIfInBounds_toArray, List.set_cons_zero, List.set_cons_succ]
  refine wpB_take 3 _ ?_ rfl (by kernel_rfl) (fun _ _ _ h => h) rfl hHeld ?_ ?_
  rotate_left
  · (intro W hW; go_simp; try with_reducible rfl)
  try simp only [Act.put, List.setIfInBounds_toArray, List.set_cons_zero, List.set_cons_succ]
  refine wpB_skip 4 _ rfl (by kernel_rfl) (fun _ _ _ h => h) rfl hHeld ?_
  try simp only [Act.put, List.setIfInBounds_toArray, List.set_cons_zero, List.set_cons_succ]
  refine wpB_skip 5 _ rfl (by kernel_rfl) (fun _ _ _ h => h) rfl hHeld ?_
  try simp only [Act.put, List.setIfInBounds_toArray, List.set_cons_zero, List.set_cons_succ]
  refine wpB_skip 6 _ rfl (by kernel_rfl) (fun _ _ _ h => h) rfl hHeld ?_
  try simp only [Act.put, List.setIfInBounds_toArray, List.set_cons_zero, List.set_cons_succ]
  refine wpB_skip 7 _ rfl (by kernel_rfl) (fun _ _ _ h => h) rfl hHeld ?_
  try simp only [Act.put, List.setIfInBounds_toArray, List.set_cons_zero, List.set_cons_succ]
  refine wpB_skip 8 _ rfl (by kernel_rfl) (fun _ _ _ h => h) rfl hHeld ?_
  try simp only [Act.put, List.setIfInBounds_toArray, List.set_cons_zero, List.set_cons_succ]
  refine wpB_skip 9 _ rfl (by kernel_rfl) (fun _ _ _ h => h) rfl hHeld ?_
  try simp only [Act.put, List.setIfInBounds_toArray, List.set_cons_zero, List.set_cons_succ]
  refine wpB_skip 10 _ rfl (by kernel_rfl) (fun _ _ _ h => h) rfl hHeld ?_
  try simp only [Act.put, List.setIfInBounds_toArray, List.set_cons_zero, List.set_cons_succ]
  refine wpB_skip 11 _ rfl (by kernel_rfl) (fun _ _ _ h => h) rfl hHeld ?_
  try simp only [Act.put, List.setIfInBounds_toArray, List.set_cons_zero, List.set_cons_succ]
  refine wpB_skip 12 _ rfl (by kernel_rfl) (fun _ _ _ h => h) rfl hHeld ?_
  try simp only [Act.put, List.setIfInBounds_toArray, List.set_cons_zero, List.set_cons_succ]
  refine wpB_skip 13 _ rfl (by kernel_rfl) (fun _ _ _ h => h) rfl hHeld ?_
  try simp only [Act.put, List.setIfInBounds_toArray, List.set_cons_zero, List.set_cons_succ]
  refine wpB_skip 14 _ rfl (by kernel_rfl) (fun _ _ _ h => h) rfl hHeld ?_
  try simp only [Act.put, List.setIfInBounds_toArray, List.set_cons_zero, List.set_cons_succ]
  refine wpB_skip 15 _ rfl (by kernel_rfl) (fun _ _ _ h => h) rfl hHeld ?_
  try simp only [Act.put, List.setIfInBounds_toArray, List.set_cons_zero, List.set_cons_succ]
  refine wpB_take 16 _ ?_ rfl (by kernel_rfl) (fun _ _ _ h => h) rfl hHeld ?_ ?_
  rotate_left
  · (intro W hW; go_simp; try with_reducible rfl)
  try simp only [Act.put, List.setIfInBounds_toArray, List.set_cons_zero, List.set_cons_succ]
  refine wpB_take 17 _ ?_ rfl (by kernel_rfl) (fun _ _ _ h => h) rfl hHeld ?_ ?_
  rotate_left
  · (intro W hW; go_simp; try with_reducible rfl)
  try simp only [Act.put, List.setIfInBounds_toArray, List.set_cons_zero, List.set_cons_succ]
  refine wpB_done (by kernel_rfl) ?_ _
  go_wp2
  go_ret
  exact ⟨rfl, kw0.trans hHeld⟩

theorem taken_in (b : Nat) (f : Int → Int → Bool) (d s : Nat) (hd : d < 12) (hs : s < 48) (w : World) (hsp : SpaceAt w b f) :
    Calls Try.prog 14 #[.pointer (some ⟨b, 0, none⟩), .agg #[.int .i64 d, .int .i64 s]] w fun e w' => e = .returned (.bool (f d s)) ∧ Kp [] w w' := by
  have HI := Lib.hid (IsB_nat d s hd hs)
  have hdI : (d : Int) < 12 := by omega
  have hsI : (s : Int) < 48 := by omega
  obtain ⟨x, hc, hx, hxf, -, -⟩ := hsp.cell d hd
  have HX := Lib.hid ((bits_and_one x s hx).trans (hxf s hs))
  clear hx hxf
  go_enter Try.func14, Try.ntmps14
  obtain ⟨w0, hw0⟩ : ∃ w0, w0 = (w.alloc (Obj.cells #[Value.int IntKind.i64 d, Value.int IntKind.i64 s] 31)) := ⟨_, rfl⟩
  have kw0 : Kp [] w w0 := hw0 ▸ (Kp.refl _ _).alloc _
  have c1 := Kp.cellAt (X := []) ((kw0.cell (lt_of_cell hc) (by simp)).trans hc) (by simp)
  have c2 := Kp.cellAt (X := []) (w0 := w0) (p := ⟨w.heap.size, 0, none⟩) (v := .int .i64 d) (by rw [hw0]; exact cell_of_cells (block_new _ _) rfl) (by simp)
  have c3 := Kp.cellAt (X := []) (w0 := w0) (p := ⟨w.heap.size, 1, none⟩) (v := .int .i64 s) (by rw [hw0]; exact cell_of_cells (block_new _ _) rfl) (by simp)
  have Hw0 := Lib.hid hw0
  clear hw0
  clear hc
  go_wp2_with fail
  rw [← Hw0.out]
  refine wpB_begin 999 (Kp [] w0) (by kernel_rfl) (by first | exact hK.drew | exact Kp.drew (Kp.refl _ _)) (fun hHeld => ?_)
  refine wpB_take 0 _ ?_ rfl (by kernel_rfl) (fun _ _ _ h => h) rfl hHeld ?_ ?_
  rotate_left
  · (intro W hW; go_simp; try with_reducible rfl)
  try simp only [Act.put, List.setIfInBounds_toArray, List.set_cons_zero, List.set_cons_succ]
  refine wpB_take 1 _ ?_ rfl (by kernel_rfl) (fun _ _ _ h => h) rfl hHeld ?_ ?_
  rotate_left
  · (intro W hW; go_simp; try with_reducible rfl)
  try simp only [Act.put, List.setIfInBounds_toArray, List.set_cons_zero, List.set_cons_succ]
  refine wpB_step 2 _ rfl (by kernel_rfl) rfl rfl (fun K hK_ => ?_)
  go_simp
  refine (is_any _ _ _ _).mono ?_
  rintro e w1 ⟨rfl, h1⟩
  rw [HI.out]
  refine hK_.out _ _ (by first | exact hHeld | exact hHeld.call ‹_› | exact hHeld.alloc _) (fun hHeld => ?_)
  clear hK_ K
  try simp only [Act.put, List.setIfInBounds_toArray, List.set_cons_zero, List.set_cons_succ]
  refine wpB_take 3 _ ?_ rfl (by kernel_rfl) (fun _ _ _ h => h) rfl hHeld ?_ ?_
  rotate_left
  · (intro W hW; go_simp; try with_reducible rfl)
  try simp only [Act.put, List.setIfInBounds_toArray, List.set_cons_zero, List.set_cons_succ]
  refine wpB_take 4 _ ?_ rfl (by kernel_rfl) (fun _ _ _ h => h) rfl hHeld ?_ ?_
  rotate_left
  · (intro W hW; go_simp; try with_reducible rfl)
  try simp only [Act.put, List.setIfInBounds_toArray, List.set_cons_zero, List.set_cons_succ]
  refine wpB_take 5 _ ?_ rfl (by kernel_rfl) (fun _ _ _ h => h) rfl hHeld ?_ ?_
  rotate_left
  · (intro W hW; go_simp; try with_reducible rfl)
  try simp only [Act.put, List.setIfInBounds_toArray, List.set_cons_zero, List.set_cons_succ]
  refine wpB_take 6 _ ?_ rfl (by kernel_rfl) (fun _ _ _ h => h) rfl hHeld ?_ ?_
  rotate_left
  · (intro W hW; go_simp; try with_reducible rfl)
  try simp only [Act.put, List.setIfInBounds_toArray, List.set_cons_zero, List.set_cons_succ]
  refine wpB_take 7 _ ?_ rfl (by kernel_rfl) (fun _ _ _ h => h) rfl hHeld ?_ ?_
  rotate_left
  · (intro W hW; go_simp; try with_reducible rfl)
  try simp only [Act.put, List.setIfInBounds_toArray, List.set_cons_zero, List.set_cons_succ]
  refine wpB_take 8 _ ?_ rfl (by kernel_rfl) (fun _ _ _ h => h) rfl hHeld ?_ ?_
  rotate_left
  · (intro W hW; go_simp; try with_reducible rfl)
  try simp only [Act.put, List.setIfInBounds_toArray, List.set_cons_zero, List.set_cons_succ]
  refine wpB_take 9 _ ?_ rfl (by kernel_rfl) (fun _ _ _ h => h) rfl hHeld ?_ ?_
  rotate_left
  · (intro W hW; go_simp; try with_reducible rfl)
  try simp only [Act.put, List.setIfInBounds_toArray, List.set_cons_zero, List.set_cons_succ]
  refine wpB_take 10 _ ?_ rfl (by kernel_rfl) (fun _ _ _ h => h) rfl hHeld ?_ ?_
  rotate_left
  · (intro W hW; go_simp; try with_reducible rfl)
  try simp only [Act.put, List.setIfInBounds_toArray, List.set_cons_zero, List.set_cons_succ]
  refine wpB_take 11 _ ?_ rfl (by kernel_rfl) (fun _ _ _ h => h) rfl hHeld ?_ ?_
  rotate_left
  · (intro W hW; go_simp; try with_reducible rfl)
  try simp only [Act.put, List.setIfInBounds_toArray, List.set_cons_zero, List.set_cons_succ]
  refine wpB_take 12 _ ?_ rfl (by kernel_rfl) (fun _ _ _ h => h) rfl hHeld ?_ ?_
  rotate_left
  · (intro W hW; go_simp; try with_reducible rfl)
  try simp only [Act.put, List.setIfInBounds_toArray, List.set_cons_zero, List.set_cons_succ]
  refine wpB_take 13 _ ?_ rfl (by kernel_rfl) (fun _ _ _ h => h) rfl hHeld ?_ ?_
  rotate_left
  · (intro W hW; go_simp; try with_reducible rfl)
  try simp only [Act.put, List.setIfInBounds_toArray, List.set_cons_zero, List.set_cons_succ]
  refine wpB_take 14 _ ?_ rfl (by kernel_rfl) (fun _ _ _ h => h) rfl hHeld ?_ ?_
  rotate_left
  · (intro W hW; go_simp; try with_reducible rfl)
  try simp only [Act.put, List.setIfInBounds_toArray, List.set_cons_zero, List.set_cons_succ]
  refine wpB_take 15 _ ?_ rfl (by kernel_rfl) (fun _ _ _ h => h) rfl hHeld ?_ ?_
  rotate_left
  · (intro W hW; go_simp; try with_reducible rfl)
  try simp only [Act.put, List.setIfInBounds_toArray, List.set_cons_zero, List.set_cons_succ]
  refine wpB_take 16 _ ?_ rfl (by kernel_rfl) (fun _ _ _ h => h) rfl hHeld ?_ ?_
  rotate_left
  · (intro W hW; go_simp; try with_reducible rfl)
  try simp only [Act.put, List.setIfInBounds_toArray, List.set_cons_zero, List.set_cons_succ]
  refine wpB_take 17 _ ?_ rfl (by kernel_rfl) (fun _ _ _ h => h) rfl hHeld ?_ ?_
  rotate_left
  · (intro W hW; go_simp; try with_reducible rfl)
  try simp only [Act.put, List.setIfInBounds_toArray, List.set_cons_zero, List.set_cons_succ]
  refine wpB_done (by kernel_rfl) ?_ _
  go_wp2
  go_ret
  exact ⟨by rw [HX.out]; rfl, kw0.trans hHeld⟩

/-- Taken, whatever is asked -/
theorem taken_any (b : Nat) (f : Int → Int → Bool) (d s : Int) (w : World) (hsp : SpaceAt w b f) :
    Calls Try.prog 14 #[.pointer (some ⟨b, 0, none⟩), .agg #[.int .i64 d, .int .i64 s]] w fun e w' => e = .returned (.bool (IsB d s && f d s)) ∧ Kp [] w w' := by
  cases hI : IsB d s with
  | false => exact taken_out b d s hI w
  | true =>
    obtain ⟨d', s', rfl, rfl, hd, hs⟩ := IsB_yes hI
    exact taken_in b f d' s' hd hs w hsp

def upd (f : Int → Int → Bool) (d s : Int) (v : Bool) : Int → Int → Bool := fun d' s' => if d' = d ∧ s' = s then v else f d' s'
def markE (f : Int → Int → Bool) (d s : Int) : Int := if IsB d s then (if f d s then 13 else 0) else 1
def markF (f : Int → Int → Bool) (d s : Int) : Int → Int → Bool := if IsB d s then (if f d s then f else upd f d s true) else f
def giveE (f : Int → Int → Bool) (d s : Int) : Int := if IsB d s && f d s then 0 else 1
def giveF (f : Int → Int → Bool) (d s : Int) : Int → Int → Bool := if IsB d s && f d s then upd f d s false else f

theorem mark_nil (d s : Int) (w : World) :
    Calls Try.prog 17 #[.pointer none, .agg #[.int .i64 d, .int .i64 s]] w fun e w' => e = .returned (.int .i64 1) ∧ Kp [] w w' := by
  go_enter Try.func17, Try.ntmps17
  obtain ⟨w0, hw0⟩ : ∃ w0, w0 = (w.alloc (Obj.cells #[Value.int IntKind.i64 d, Value.int IntKind.i64 s] 31)) := ⟨_, rfl⟩
  have kw0 : Kp [] w w0 := hw0 ▸ (Kp.refl _ _).alloc _
  have c2 := Kp.cellAt (X := []) (w0 := w0) (p := ⟨w.heap.size, 0, none⟩) (v := .int .i64 d) (by rw [hw0]; exact cell_of_cells (block_new _ _) rfl) (by simp)
  have c3 := Kp.cellAt (X := []) (w0 := w0) (p := ⟨w.heap.size, 1, none⟩) (v := .int .i64 s) (by rw [hw0]; exact cell_of_cells (block_new _ _) rfl) (by simp)
  have Hw0 := Lib.hid hw0
  clear hw0
  have hK := Kp.refl [] w0
  go_wp2_with fail
  rw [← Hw0.out]
  refine (is_nil _ _ _).mono ?_
  rintro e w1 ⟨rfl, h1⟩
  go_wp2
  go_ret
  exact ⟨rfl, kw0.trans h1⟩

theorem mark_out (b : Nat) (d s : Int) (hI : IsB d s = false) (w : World) :
    Calls Try.prog 17 #[.pointer (some ⟨b, 0, none⟩), .agg #[.int .i64 d, .int .i64 s]] w fun e w' => e = .returned (.int .i64 1) ∧ Kp [] w w' := by
  have HI := Lib.hid hI
  clear hI
  go_enter Try.func17, Try.ntmps17
  obtain ⟨w0, hw0⟩ : ∃ w0, w0 = (w.alloc (Obj.cells #[Value.int IntKind.i64 d, Value.int IntKind.i64 s] 31)) := ⟨_, rfl⟩
  have kw0 : Kp [] w w0 := hw0 ▸ (Kp.refl _ _).alloc _
  have c2 := Kp.cellAt (X := []) (w0 := w0) (p := ⟨w.heap.size, 0, none⟩) (v := .int .i64 d) (by rw [hw0]; exact cell_of_cells (block_new _ _) rfl) (by simp)
  have c3 := Kp.cellAt (X := []) (w0 := w0) (p := ⟨w.heap.size, 1, none⟩) (v := .int .i64 s) (by rw [hw0]; exact cell_of_cells (block_new _ _) rfl) (by simp)
  have Hw0 := Lib.hid hw0
  clear hw0
  have hK := Kp.refl [] w0
  go_wp2_with fail
  rw [← Hw0.out]
  refine (is_any _ _ _ _).mono ?_
  rintro e w1 ⟨rfl, h1⟩
  rw [HI.out]
  go_wp2
  go_ret
  exact ⟨rfl, kw0.trans h1⟩

theorem mark_held (b : Nat) (f : Int → Int → Bool) (d s : Nat) (hd : d < 12) (hs : s < 48) (w : World) (hsp : SpaceAt w b f) (hf : f d s = true) :
    Calls Try.prog 17 #[.pointer (some ⟨b, 0, none⟩), .agg #[.int .i64 d, .int .i64 s]] w fun e w' => e = .returned (.int .i64 13) ∧ Kp [] w w' := by
  have HI := Lib.hid (IsB_nat d s hd hs)
  have hdI : (d : Int) < 12 := by omega
  have hsI : (s : Int) < 48 := by omega
  have HF := Lib.hid hf
  clear hf
  go_enter Try.func17, Try.ntmps17
  obtain ⟨w0, hw0⟩ : ∃ w0, w0 = (w.alloc (Obj.cells #[Value.int IntKind.i64 d, Value.int IntKind.i64 s] 31)) := ⟨_, rfl⟩
  have kw0 : Kp [] w w0 := hw0 ▸ (Kp.refl _ _).alloc _
  have c2 := Kp.cellAt (X := []) (w0 := w0) (p := ⟨w.heap.size, 0, none⟩) (v := .int .i64 d) (by rw [hw0]; exact cell_of_cells (block_new _ _) rfl) (by simp)
  have c3 := Kp.cellAt (X := []) (w0 := w0) (p := ⟨w.heap.size, 1, none⟩) (v := .int .i64 s) (by rw [hw0]; exact cell_of_cells (block_new _ _) rfl) (by simp)
  have Hw0 := Lib.hid hw0
  clear hw0
  go_wp2_with fail
  rw [← Hw0.out]
  refine (is_any _ _ _ _).mono ?_
  rintro e w1 ⟨rfl, h1⟩
  rw [HI.out]
  go_wp2_with fail
  refine (taken_in b f d s hd hs _ ((hsp.keep kw0 (by simp)).keep h1 (by simp))).mono ?_
  rintro e w2 ⟨rfl, h2⟩
  rw [HF.out]
  go_wp2
  go_ret
  exact ⟨rfl, (kw0.trans h1).trans h2⟩

theorem mark_free (b : Nat) (f : Int → Int → Bool) (d s : Nat) (hd : d < 12) (hs : s < 48) (w : World) (hsp : SpaceAt w b f) (hf : f d s = false) :
    Calls Try.prog 17 #[.pointer (some ⟨b, 0, none⟩), .agg #[.int .i64 d, .int .i64 s]] w fun e w' => e = .returned (.int .i64 0) ∧ Kp [b] w w' ∧ SpaceAt w' b (upd f d s true) := by
  have HI := Lib.hid (IsB_nat d s hd hs)
  have hdI : (d : Int) < 12 := by omega
  have hsI : (s : Int) < 48 := by omega
  have HF := Lib.hid hf
  clear hf
  have hlt := hsp.lt
  go_enter Try.func17, Try.ntmps17
  obtain ⟨w0, hw0⟩ : ∃ w0, w0 = (w.alloc (Obj.cells #[Value.int IntKind.i64 d, Value.int IntKind.i64 s] 31)) := ⟨_, rfl⟩
  have kw0 : Kp [] w w0 := hw0 ▸ (Kp.refl _ _).alloc _
  have c2 := Kp.cellAt (X := []) (w0 := w0) (p := ⟨w.heap.size, 0, none⟩) (v := .int .i64 d) (by rw [hw0]; exact cell_of_cells (block_new _ _) rfl) (by simp)
  have c3 := Kp.cellAt (X := []) (w0 := w0) (p := ⟨w.heap.size, 1, none⟩) (v := .int .i64 s) (by rw [hw0]; exact cell_of_cells (block_new _ _) rfl) (by simp)
  have Hw0 := Lib.hid hw0
  clear hw0
  go_wp2_with fail
  rw [← Hw0.out]
  refine (is_any _ _ _ _).mono ?_
  rintro e w1 ⟨rfl, h1⟩
  rw [HI.out]
  go_wp2_with fail
  refine (taken_in b f d s hd hs _ ((hsp.keep kw0 (by simp)).keep h1 (by simp))).mono ?_
  rintro e w2 ⟨rfl, h2⟩
  rw [HF.out]
  have hK := h1.trans h2
  have hsp2 := (hsp.keep kw0 (by simp)).keep hK (by simp)
  obtain ⟨x, hc, hx, hxf, hfr, hst⟩ := hsp2.cell d hd
  have c1 := Kp.cellAt (X := []) hc (by simp)
  have c1f := Kp.frozenAt (X := []) hc hfr (by simp)
  have HOR := Lib.hid (bits_or_pow x s hx hs)
  have HST := Lib.hid (hst (setB x s) (setB_lt x s hx hs) (upd f d s true) (by
    intro t ht
    rw [testBit_setB, hxf t ht]
    by_cases e : t = s
    · subst e; simp [upd]
    · have : ¬ ((t : Int) = (s : Int)) := by omega
      simp [upd, e, this]) (by
    intro e t he
    have : ¬ ((e : Int) = (d : Int)) := by omega
    simp [upd, this]))
  clear hc hx hxf hfr hst
  have hKw := kw0.trans hK
  have k22 := Kp.refl [] w2
  go_wp2_with fail
  go_region
  go_wp2
  go_ret
  rw [HOR.out]
  exact ⟨rfl, (((hKw.weaken (Y := [b]) (fun _ _ h => by cases h)).setCell (.inl (by simp)) _).drew), HST.out⟩

/-- Mark, whatever is asked -/
theorem mark_any (b : Nat) (f : Int → Int → Bool) (d s : Int) (w : World) (hsp : SpaceAt w b f) :
    Calls Try.prog 17 #[.pointer (some ⟨b, 0, none⟩), .agg #[.int .i64 d, .int .i64 s]] w fun e w' => e = .returned (.int .i64 (markE f d s)) ∧ Kp [b] w w' ∧ SpaceAt w' b (markF f d s) := by
  have hw : ∀ {w' : World}, Kp [] w w' → Kp [b] w w' ∧ SpaceAt w' b f := fun h => ⟨h.weaken (fun _ _ h => by cases h), hsp.keep h (by simp)⟩
  cases hI : IsB d s with
  | false =>
    refine (mark_out b d s hI w).mono ?_
    rintro e w' ⟨rfl, h⟩
    simp only [markE, markF, hI, Bool.false_eq_true, if_false]
    exact ⟨by trivial, hw h⟩
  | true =>
    obtain ⟨d', s', rfl, rfl, hd, hs⟩ := IsB_yes hI
    cases hf : f d' s' with
    | true =>
      refine (mark_held b f d' s' hd hs w hsp hf).mono ?_
      rintro e w' ⟨rfl, h⟩
      simp only [markE, markF, hI, hf, if_true]
      exact ⟨by trivial, hw h⟩
    | false =>
      refine (mark_free b f d' s' hd hs w hsp hf).mono ?_
      rintro e w' ⟨rfl, h, h2⟩
      simp only [markE, markF, hI, hf, if_true, Bool.false_eq_true, if_false]
      exact ⟨by trivial, h, h2⟩

theorem give_nil (d s : Int) (w : World) :
    Calls Try.prog 18 #[.pointer none, .agg #[.int .i64 d, .int .i64 s]] w fun e w' => e = .returned (.int .i64 1) ∧ Kp [] w w' := by
  go_enter Try.func18, Try.ntmps18
  obtain ⟨w0, hw0⟩ : ∃ w0, w0 = (w.alloc (Obj.cells #[Value.int IntKind.i64 d, Value.int IntKind.i64 s] 31)) := ⟨_, rfl⟩
  have kw0 : Kp [] w w0 := hw0 ▸ (Kp.refl _ _).alloc _
  have c2 := Kp.cellAt (X := []) (w0 := w0) (p := ⟨w.heap.size, 0, none⟩) (v := .int .i64 d) (by rw [hw0]; exact cell_of_cells (block_new _ _) rfl) (by simp)
  have c3 := Kp.cellAt (X := []) (w0 := w0) (p := ⟨w.heap.size, 1, none⟩) (v := .int .i64 s) (by rw [hw0]; exact cell_of_cells (block_new _ _) rfl) (by simp)
  have Hw0 := Lib.hid hw0
  clear hw0
  have hK := Kp.refl [] w0
  go_wp2_with fail
  rw [← Hw0.out]
  refine (taken_nil _ _ _).mono ?_
  rintro e w1 ⟨rfl, h1⟩
  go_wp2
  go_ret
  exact ⟨rfl, kw0.trans h1⟩

theorem give_out (b : Nat) (f : Int → Int → Bool) (d s : Int) (hI : (IsB d s && f d s) = false) (w : World) (hsp : SpaceAt w b f) :
    Calls Try.prog 18 #[.pointer (some ⟨b, 0, none⟩), .agg #[.int .i64 d, .int .i64 s]] w fun e w' => e = .returned (.int .i64 1) ∧ Kp [] w w' := by
  have HI := Lib.hid hI
  clear hI
  go_enter Try.func18, Try.ntmps18
  obtain ⟨w0, hw0⟩ : ∃ w0, w0 = (w.alloc (Obj.cells #[Value.int IntKind.i64 d, Value.int IntKind.i64 s] 31)) := ⟨_, rfl⟩
  have kw0 : Kp [] w w0 := hw0 ▸ (Kp.refl _ _).alloc _
  have c2 := Kp.cellAt (X := []) (w0 := w0) (p := ⟨w.heap.size, 0, none⟩) (v := .int .i64 d) (by rw [hw0]; exact cell_of_cells (block_new _ _) rfl) (by simp)
  have c3 := Kp.cellAt (X := []) (w0 := w0) (p := ⟨w.heap.size, 1, none⟩) (v := .int .i64 s) (by rw [hw0]; exact cell_of_cells (block_new _ _) rfl) (by simp)
  have Hw0 := Lib.hid hw0
  clear hw0
  have hK := Kp.refl [] w0
  go_wp2_with fail
  rw [← Hw0.out]
  refine (taken_any b f _ _ _ (hsp.keep kw0 (by simp))).mono ?_
  rintro e w1 ⟨rfl, h1⟩
  rw [HI.out]
  go_wp2
  go_ret
  exact ⟨rfl, kw0.trans h1⟩

theorem give_in (b : Nat) (f : Int → Int → Bool) (d s : Nat) (hd : d < 12) (hs : s < 48) (w : World) (hsp : SpaceAt w b f) (hf : f d s = true) :
    Calls Try.prog 18 #[.pointer (some ⟨b, 0, none⟩), .agg #[.int .i64 d, .int .i64 s]] w fun e w' => e = .returned (.int .i64 0) ∧ Kp [b] w w' ∧ SpaceAt w' b (upd f d s false) := by
  have hdI : (d : Int) < 12 := by omega
  have hsI : (s : Int) < 48 := by omega
  have HF := Lib.hid hf
  clear hf
  go_enter Try.func18, Try.ntmps18
  obtain ⟨w0, hw0⟩ : ∃ w0, w0 = (w.alloc (Obj.cells #[Value.int IntKind.i64 d, Value.int IntKind.i64 s] 31)) := ⟨_, rfl⟩
  have kw0 : Kp [] w w0 := hw0 ▸ (Kp.refl _ _).alloc _
  have c2 := Kp.cellAt (X := []) (w0 := w0) (p := ⟨w.heap.size, 0, none⟩) (v := .int .i64 d) (by rw [hw0]; exact cell_of_cells (block_new _ _) rfl) (by simp)
  have c3 := Kp.cellAt (X := []) (w0 := w0) (p := ⟨w.heap.size, 1, none⟩) (v := .int .i64 s) (by rw [hw0]; exact cell_of_cells (block_new _ _) rfl) (by simp)
  have Hw0 := Lib.hid hw0
  clear hw0
  go_wp2_with fail
  rw [← Hw0.out]
  refine (taken_in b f d s hd hs _ (hsp.keep kw0 (by simp))).mono ?_
  rintro e w2 ⟨rfl, h1⟩
  rw [HF.out]
  have hsp2 := (hsp.keep kw0 (by simp)).keep h1 (by simp)
  obtain ⟨x, hc, hx, hxf, hfr, hst⟩ := hsp2.cell d hd
  have c1 := Kp.cellAt (X := []) hc (by simp)
  have c1f := Kp.frozenAt (X := []) hc hfr (by simp)
  have HOR := Lib.hid (bits_clr_pow x s hs)
  have HST := Lib.hid (hst (clrB x s) (clrB_lt x s) (upd f d s false) (by
    intro t ht
    rw [testBit_clrB x s t ht, hxf t ht]
    by_cases e : t = s
    · subst e; simp [upd]
    · have : ¬ ((t : Int) = (s : Int)) := by omega
      simp [upd, e, this]) (by
    intro e t he
    have : ¬ ((e : Int) = (d : Int)) := by omega
    simp [upd, this]))
  clear hc hx hxf hfr hst
  have hKw := kw0.trans h1
  have k22 := Kp.refl [] w2
  go_wp2_with fail
  go_region
  go_wp2
  go_ret
  rw [HOR.out]
  exact ⟨rfl, (((hKw.weaken (Y := [b]) (fun _ _ h => by cases h)).setCell (.inl (by simp)) _).drew), HST.out⟩

/-- Give, whatever is asked -/
theorem give_any (b : Nat) (f : Int → Int → Bool) (d s : Int) (w : World) (hsp : SpaceAt w b f) :
    Calls Try.prog 18 #[.pointer (some ⟨b, 0, none⟩), .agg #[.int .i64 d, .int .i64 s]] w fun e w' => e = .returned (.int .i64 (giveE f d s)) ∧ Kp [b] w w' ∧ SpaceAt w' b (giveF f d s) := by
  have hw : ∀ {w' : World}, Kp [] w w' → Kp [b] w w' ∧ SpaceAt w' b f := fun h => ⟨h.weaken (fun _ _ h => by cases h), hsp.keep h (by simp)⟩
  cases hI : (IsB d s && f d s) with
  | false =>
    refine (give_out b f d s hI w hsp).mono ?_
    rintro e w' ⟨rfl, h⟩
    simp only [giveE, giveF, hI, Bool.false_eq_true, if_false]
    exact ⟨by trivial, hw h⟩
  | true =>
    have hI2 := hI
    rw [Bool.and_eq_true] at hI2
    obtain ⟨d', s', rfl, rfl, hd, hs⟩ := IsB_yes hI2.1
    refine (give_in b f d' s' hd hs w hsp hI2.2).mono ?_
    rintro e w' ⟨rfl, h⟩
    simp only [giveE, giveF, hI, if_true]
    exact ⟨by trivial, h⟩

def noneTaken : Int → Int → Bool := fun _ _ => false
theorem new_any (w : World) :
    Calls Try.prog 10 #[] w fun e w' => e = .returned (.pointer (some ⟨w.heap.size, 0, none⟩)) ∧ Kp [] w w' ∧ SpaceAt w' w.heap.size noneTaken ∧ w'.heap.size = w.heap.size + 1 := by
  go_enter Try.func10, Try.ntmps10
  go_wp2
  go_ret
  refine ⟨rfl, (Kp.refl _ _).alloc _, ⟨List.replicate 12 0, ⟨rfl, fun d hd => ?_⟩, block_new _ _⟩, by simp⟩
  have e : (List.replicate 12 0).getD d 0 = 0 := by
    rw [List.getD_eq_getElem?_getD, List.getElem?_replicate]
    simp [hd]
  rw [e]
  simp [noneTaken]
end Go.Proofs.Ytmegcmjklealbaa
