/-
  A part's word; a command with what its line has alone; whether a command may be.
-/
import Derived.Test.YtmihnakapnoefaaGreatDoorScrB
namespace Go.Proofs.YtmihnakapnoefaaGreatDoor
open Go.RowKit Go.WideShapes

set_option maxHeartbeats 1000000 in
set_option maxRecDepth 20000 in
theorem word_num (b o : Nat) (n : Int) (w : World) (hc : w.cell? ⟨b, o, none⟩ = some (.int .i64 n)) (h0 : 0 ≤ n) (h1 : n ≤ 9223372036854775807) (htab : Lib.TabIs Tryz.prog w "internal/strconv.uint64pow10" .u64 Lib.pow10Tab) :
    Calls Tryz.prog 19 #[.agg (tri b (0, o)).toArray] w fun e w' => e = .returned (.string (SB (numL n))) ∧ Kp [] w w' := by
  show Calls Tryz.prog 19 #[.agg #[.pointer (some ⟨b, o, none⟩), .pointer none, .pointer none]] w _
  obtain ⟨m, rfl⟩ : ∃ m : Nat, n = m := ⟨n.toNat, by omega⟩
  obtain ⟨w0, hw0⟩ : ∃ w0, w0 = w.alloc (.cells #[.pointer (some ⟨b, o, none⟩), .pointer none, .pointer none] 54) := ⟨_, rfl⟩
  have kw0 : Kp [] w w0 := hw0 ▸ (Kp.refl _ _).alloc _
  obtain ⟨c0, c1, c2⟩ := cells3 (show w0.heap[w.heap.size]? = some (.cells #[.pointer (some ⟨b, o, none⟩), .pointer none, .pointer none] 54 (0, 0)) by rw [hw0]; exact block_new _ _)
  have d0 := Kp.cellAt (X := []) (w0 := w0) ((kw0.cell (lt_of_cell hc) (by simp)).trans hc) (by simp)
  have hK := Kp.refl [] w0
  have e0 := d0 w0 hK
  rw [hw0] at e0
  have Hw0 := Lib.hid hw0
  clear hw0 d0
  go_enter Tryz.func19, Tryz.ntmps19
  go_wp2_with fail
  rw [← Hw0.out]
  refine (itoa_nat m (by omega) _ (htab.keep kw0)).mono ?_
  rintro e w1 ⟨rfl, k1⟩
  go_wp2_with fail
  go_ret
  exact ⟨rfl, kw0.trans k1⟩
set_option maxHeartbeats 1000000 in
set_option maxRecDepth 20000 in
theorem word_text (b o : Nat) (t : ByteArray) (w : World) (hc : w.cell? ⟨b, o, none⟩ = some (.string t)) (ht : t.size < 16384) :
    Calls Tryz.prog 19 #[.agg (tri b (1, o)).toArray] w fun e w' => e = .returned (.string (SB (digitsL t.data.toList))) ∧ Kp [] w w' := by
  show Calls Tryz.prog 19 #[.agg #[.pointer none, .pointer (some ⟨b, o, none⟩), .pointer none]] w _
  obtain ⟨R, hR⟩ : ∃ R, R = SB (digitsL t.data.toList) := ⟨_, rfl⟩
  obtain ⟨H, hH⟩ : ∃ H, H = SB (hexL t.data.toList) := ⟨_, rfl⟩
  rw [← hR]
  have hRH : R = if t.data.toList = [] then SB [45] else H := by
    rw [hR, hH]; unfold digitsL; split <;> rfl
  have hHe : H.toList.isEmpty = decide (t.data.toList = []) := by
    rw [hH, ByteArray.toList_eq]
    show (hexL t.data.toList).isEmpty = _
    cases hl : t.data.toList with
    | nil => rfl
    | cons x l => rw [hexL_cons]; rfl
  have HH := Lib.hid hH
  have HE := Lib.hid hHe
  have HRH := Lib.hid hRH
  clear hR hH hHe hRH
  obtain ⟨w0, hw0⟩ : ∃ w0, w0 = w.alloc (.cells #[.pointer none, .pointer (some ⟨b, o, none⟩), .pointer none] 54) := ⟨_, rfl⟩
  have kw0 : Kp [] w w0 := hw0 ▸ (Kp.refl _ _).alloc _
  obtain ⟨c0, c1, c2⟩ := cells3 (show w0.heap[w.heap.size]? = some (.cells #[.pointer none, .pointer (some ⟨b, o, none⟩), .pointer none] 54 (0, 0)) by rw [hw0]; exact block_new _ _)
  have d0 := Kp.cellAt (X := []) (w0 := w0) ((kw0.cell (lt_of_cell hc) (by simp)).trans hc) (by simp)
  have hK := Kp.refl [] w0
  have e0 := d0 w0 hK
  rw [hw0] at e0
  have Hw0 := Lib.hid hw0
  clear hw0 d0
  go_enter Tryz.func19, Tryz.ntmps19
  go_wp2_with fail
  rw [← Hw0.out]
  refine (hex t ht _).mono ?_
  rintro e w1 ⟨rfl, k1⟩
  rw [show (⟨(hexL t.data.toList).toArray⟩ : ByteArray) = H from HH.out.symm]
  by_cases ht0 : t.data.toList = []
  · have h1 : H.toList.isEmpty = true := by rw [HE.out, ht0]; rfl
    have h2 : R = SB [45] := by rw [HRH.out, if_pos ht0]
    subst h2
    clear ht0
    go_wp2_with fail
    go_ret
    exact ⟨rfl, kw0.trans k1⟩
  · have h1 : H.toList.isEmpty = false := by rw [HE.out, decide_eq_false ht0]
    have h2 : R = H := by rw [HRH.out, if_neg ht0]
    subst h2
    clear ht0
    go_wp2_with fail
    go_ret
    exact ⟨rfl, kw0.trans k1⟩
theorem marks_mark (l : List Bool) : marksW l = if l = [] then [45] else l.map markB := rfl
set_option maxHeartbeats 1000000 in
set_option maxRecDepth 20000 in
theorem word_list (b o : Nat) (l : List Bool) (kv : Value) (B : Nat) (w : World) (hc : w.cell? ⟨b, o, none⟩ = some kv) (hl : BoolsAt B w kv l) (hz : l.length ≤ 100000) :
    Calls Tryz.prog 19 #[.agg (tri b (2, o)).toArray] w fun e w' => e = .returned (.string (SB (marksW l))) ∧ Kp [] w w' := by
  show Calls Tryz.prog 19 #[.agg #[.pointer none, .pointer none, .pointer (some ⟨b, o, none⟩)]] w _
  obtain ⟨al, cl, rfl⟩ := slice_ex hl
  obtain ⟨R, hR⟩ : ∃ R, R = SB (marksW l) := ⟨_, rfl⟩
  obtain ⟨H, hH⟩ : ∃ H, H = SB (l.map markB) := ⟨_, rfl⟩
  rw [← hR]
  have hRH : R = if l = [] then SB [45] else H := by
    rw [hR, hH, marks_mark]; split <;> rfl
  have hHe : H.toList.isEmpty = decide (l = []) := by
    rw [hH, ByteArray.toList_eq]
    show (l.map markB).isEmpty = _
    cases l <;> rfl
  have HH := Lib.hid hH
  have HE := Lib.hid hHe
  have HRH := Lib.hid hRH
  clear hR hH hHe hRH
  obtain ⟨w0, hw0⟩ : ∃ w0, w0 = w.alloc (.cells #[.pointer none, .pointer none, .pointer (some ⟨b, o, none⟩)] 54) := ⟨_, rfl⟩
  have kw0 : Kp [] w w0 := hw0 ▸ (Kp.refl _ _).alloc _
  obtain ⟨c0, c1, c2⟩ := cells3 (show w0.heap[w.heap.size]? = some (.cells #[.pointer none, .pointer none, .pointer (some ⟨b, o, none⟩)] 54 (0, 0)) by rw [hw0]; exact block_new _ _)
  have d0 := Kp.cellAt (X := []) (w0 := w0) ((kw0.cell (lt_of_cell hc) (by simp)).trans hc) (by simp)
  have hK := Kp.refl [] w0
  have e0 := d0 w0 hK
  rw [hw0] at e0
  have Hw0 := Lib.hid hw0
  clear hw0 d0
  go_enter Tryz.func19, Tryz.ntmps19
  go_wp2_with fail
  rw [← Hw0.out]
  refine (slist l _ _ _ (hl.keep0 kw0) hz).mono ?_
  rintro e w1 ⟨rfl, k1⟩
  rw [← HH.out]
  by_cases ht0 : l = []
  · have h1 : H.toList.isEmpty = true := by rw [HE.out, ht0]; rfl
    have h2 : R = SB [45] := by rw [HRH.out, if_pos ht0]
    subst h2
    clear ht0
    go_wp2_with fail
    go_ret
    exact ⟨rfl, kw0.trans k1⟩
  · have h1 : H.toList.isEmpty = false := by rw [HE.out, decide_eq_false ht0]
    have h2 : R = H := by rw [HRH.out, if_neg ht0]
    subst h2
    clear ht0
    go_wp2_with fail
    go_ret
    exact ⟨rfl, kw0.trans k1⟩
end Go.Proofs.YtmihnakapnoefaaGreatDoor
