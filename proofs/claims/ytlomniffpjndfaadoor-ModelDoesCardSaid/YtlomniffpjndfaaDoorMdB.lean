/-
  A model's put, get, remove, stat.
-/
import Derived.Test.YtlomniffpjndfaaDoorMdA
namespace Go.Proofs.YtlomniffpjndfaaDoor
open Go.RowKit Go.ChangeMaps Go.Maps Go.WideShapes Go.WideMaps Go.WideElems Go.MapKept Go.ChangeShapes

/-- an answer's cells -/
abbrev RespV (code : Int) (v : ByteArray) (ks : Value) : Value := .agg #[.int .i64 code, .string v, ks]
abbrev nilS : Value := .slice none 0 0
abbrev E0 : ByteArray := ⟨#[]⟩
abbrev ReqV (kind : Int) (k v : ByteArray) : Value := .agg #[.int .i64 kind, .string k, .string v]

theorem box3Put' {W : World} {R : Nat} {a0 a1 a2 : Value} {t : TypeId} (h : W.heap[R]? = some (.cells #[a0, a1, a2] t (0, 0))) (v0 v1 v2 : Value) :
    (((W.setCell ⟨R, 0, none⟩ v0).setCell ⟨R, 1, none⟩ v1).setCell ⟨R, 2, none⟩ v2).cell? ⟨R, 0, none⟩ = some v0 ∧ (((W.setCell ⟨R, 0, none⟩ v0).setCell ⟨R, 1, none⟩ v1).setCell ⟨R, 2, none⟩ v2).cell? ⟨R, 1, none⟩ = some v1 ∧
      (((W.setCell ⟨R, 0, none⟩ v0).setCell ⟨R, 1, none⟩ v1).setCell ⟨R, 2, none⟩ v2).cell? ⟨R, 2, none⟩ = some v2 := by
  have hz := block_setCell (block_setCell (block_setCell h 0 v0) 1 v1) 2 v2
  exact ⟨cell_of_cells hz rfl, cell_of_cells hz rfl, cell_of_cells hz rfl⟩
theorem kp_past {X : List Nat} {a b c : World} {R : Nat} (h : Kp X a b) (k : Kp [R] b c) (hR : a.heap.size ≤ R) : Kp X a c := h.step k (fun i hi hm => by rw [List.mem_singleton] at hm; omega)
set_option maxRecDepth 20000 in
theorem ret3_mPut (t : Array Value) (Z : World) (R : Nat) {v0 v1 v2 : Value} (h2 : t.getD 4 undef = .pointer (some ⟨R, 0, none⟩)) (z0 : Z.cell? ⟨R, 0, none⟩ = some v0) (z1 : Z.cell? ⟨R, 1, none⟩ = some v1) (z2 : Z.cell? ⟨R, 2, none⟩ = some v2) :
    (results Tryd.f21 t).run Tryd.prog Z = .ok (.agg #[v0, v1, v2]) Z := by
  have h2' : t[4]?.getD undef = .pointer (some ⟨R, 0, none⟩) := by rw [← h2]; simp [Array.getD_eq_getD_getElem?]
  simp [results, Tryd.results21, go_sem, z0, z1, z2, h2']
  try rfl
set_option maxHeartbeats 2000000 in
set_option maxRecDepth 20000 in
theorem mput {mb eb : Nat} {M : Mdl} (hs : Short M) (kind : Int) (k v : ByteArray) (hk : k.size ≤ 32) (w : World) (h : MdAt mb eb w M) :
    Calls Tryd.prog 21 #[Md.p mb, ReqV kind k v] w fun e w' => e = .returned (if (aGet k M).isSome then RespV 13 E0 nilS else RespV 0 E0 nilS) ∧ MdAt mb eb w' (if (aGet k M).isSome then M else aPut k (v, false) M) ∧ Kp [eb] w w' := by
  have hkm : k.size ≤ maxLen := by unfold maxLen; omega
  obtain ⟨w0, hw0⟩ : ∃ w0, w0 = w.alloc (.cells #[.int .i64 kind, .string k, .string v] 32) := ⟨_, rfl⟩
  have k0 : Kp [] w w0 := hw0 ▸ (Kp.refl _ _).alloc _
  have b0 : w0.heap[w.heap.size]? = some (.cells #[.int .i64 kind, .string k, .string v] 32 (0, 0)) := by rw [hw0]; exact block_new _ _
  obtain ⟨R, hR⟩ : ∃ R, R = w0.heap.size := ⟨_, rfl⟩
  have hR2 : R = w.heap.size + 1 := by rw [hR, hw0, World.size_alloc]
  obtain ⟨w1, hw1⟩ : ∃ w1, w1 = w0.alloc (.cells #[.int .i64 0, .string ⟨#[]⟩, .slice none 0 0] 37) := ⟨_, rfl⟩
  have k1 : Kp [] w0 w1 := hw1 ▸ (Kp.refl _ _).alloc _
  have b1 : w1.heap[R]? = some (.cells #[.int .i64 0, .string ⟨#[]⟩, .slice none 0 0] 37 (0, 0)) := by rw [hw1, hR]; exact block_new _ _
  have k01 := k0.trans k1
  have h1 := h.keep0 k01
  have hRlt : w.heap.size ≤ R := by omega
  have b01 := (k1.block _ (lt_of_block b0) (by simp)).trans b0
  have c0 := Kp.cellAt (X := []) (cell_of_cells (o := 0) h1.top rfl) (by simp)
  have cr0 := Kp.cellAt (X := []) (cell_of_cells (o := 0) (v := .int .i64 kind) b01 rfl) (by simp)
  have cr1 := Kp.cellAt (X := []) (cell_of_cells (o := 1) (v := .string k) b01 rfl) (by simp)
  have cr2 := Kp.cellAt (X := []) (cell_of_cells (o := 2) (v := .string v) b01 rfl) (by simp)
  have HW0 := Lib.hid hw0
  have HW1 := Lib.hid hw1
  have HR := Lib.hid hR2
  clear hw0 hw1 hR hR2 b01
  obtain ⟨al, hal⟩ : ∃ al, al = M.at k := ⟨_, rfl⟩
  have hlk := fun W (kk : Kp [] w1 W) => look_known (h1.keep0 kk) hs hkm true
  simp only [if_true, ← hal] at hlk
  clear hal
  cases hb : (aGet k M).isSome with
  | true =>
    rw [hb] at hlk
    simp only [if_true]
    go_enter Tryd.func21, Tryd.ntmps21
    go_wp2_with fail
    rw [← HW0.out, ← HW1.out, ← HR.out]
    go_wp2_with fail
    refine wpB_begin 999 (Kp [] w1) (by kernel_rfl) (by exact (Kp.refl _ _).drew) (fun hHeld => ?_)
    refine wpB_take 0 _ ?_ rfl (by kernel_rfl) (fun _ _ _ h => h) rfl hHeld ?_ ?_
    rotate_left
    · (intro W hW; go_simp; try with_reducible rfl)
    try simp only [Act.put, List.setIfInBounds_toArray, List.set_cons_zero, List.set_cons_succ]
    refine wpB_take 1 _ ?_ rfl (by kernel_rfl) (fun _ _ _ h => h) rfl hHeld ?_ ?_
    rotate_left
    · (intro W hW; go_simp; try with_reducible rfl)
    try simp only [Act.put, List.setIfInBounds_toArray, List.set_cons_zero, List.set_cons_succ]
    refine wpB_take 2 _ ?_ rfl (by kernel_rfl) (fun _ _ _ h => h) rfl hHeld ?_ ?_
    rotate_left
    · (intro W hW; go_simp; try with_reducible rfl)
    try simp only [Act.put, List.setIfInBounds_toArray, List.set_cons_zero, List.set_cons_succ]
    refine wpB_take 3 _ ?_ rfl (by kernel_rfl) (fun _ _ _ h => h) rfl hHeld ?_ ?_
    rotate_left
    · (intro W hW; go_simp; try with_reducible rfl)
    try simp only [Act.put, List.setIfInBounds_toArray, List.set_cons_zero, List.set_cons_succ]
    refine wpB_take 4 _ ?_ rfl (by kernel_rfl) (fun _ _ _ h => h) rfl hHeld ?_ ?_
    rotate_left
    · (intro W hW; go_simp; try with_reducible rfl)
    try simp only [Act.put, List.setIfInBounds_toArray, List.set_cons_zero, List.set_cons_succ]
    refine wpB_take 5 _ ?_ rfl (by kernel_rfl) (fun _ _ _ h => h) rfl hHeld ?_ ?_
    rotate_left
    · (intro W hW; go_simp; try with_reducible rfl)
    try simp only [Act.put, List.setIfInBounds_toArray, List.set_cons_zero, List.set_cons_succ]
    refine wpB_take 6 _ ?_ rfl (by kernel_rfl) (fun _ _ _ h => h) rfl hHeld ?_ ?_
    rotate_left
    · (intro W hW; go_simp; try with_reducible rfl)
    try simp only [Act.put, List.setIfInBounds_toArray, List.set_cons_zero, List.set_cons_succ]
    refine wpB_take 7 _ ?_ rfl (by kernel_rfl) (fun _ _ _ h => h) rfl hHeld ?_ ?_
    rotate_left
    · (intro W hW; go_simp; try with_reducible rfl)
    try simp only [Act.put, List.setIfInBounds_toArray, List.set_cons_zero, List.set_cons_succ]
    refine wpB_take 8 _ ?_ rfl (by kernel_rfl) (fun _ _ _ h => h) rfl hHeld ?_ ?_
    rotate_left
    · (intro W hW; go_simp; try with_reducible rfl)
    try simp only [Act.put, List.setIfInBounds_toArray, List.set_cons_zero, List.set_cons_succ]
    refine wpB_take 9 _ ?_ rfl (by kernel_rfl) (fun _ _ _ h => h) rfl hHeld ?_ ?_
    rotate_left
    · (intro W hW; go_simp; try with_reducible rfl)
    try simp only [Act.put, List.setIfInBounds_toArray, List.set_cons_zero, List.set_cons_succ]
    refine wpB_step 10 _ rfl (by kernel_rfl) rfl rfl (fun K hK_ => ?_)
    go_simp
    refine hK_.out _ _ (by first | exact hHeld | exact hHeld.call ‹_› | exact hHeld.alloc _) (fun hHeld => ?_)
    clear hK_ K
    try simp only [Act.put, List.setIfInBounds_toArray, List.set_cons_zero, List.set_cons_succ]
    refine wpB_step 11 _ rfl (by kernel_rfl) rfl rfl (fun K hK_ => ?_)
    go_simp
    refine hK_.out _ _ (by exact ((Kp.refl _ _).alloc _).drew) (fun hHeld => ?_)
    clear hK_ K
    try simp only [Act.put, List.setIfInBounds_toArray, List.set_cons_zero, List.set_cons_succ]
    refine wpB_take 12 _ ?_ rfl (by kernel_rfl) (fun _ _ _ h => h) rfl hHeld ?_ ?_
    rotate_left
    · (intro W hW; go_simp; try with_reducible rfl)
    try simp only [Act.put, List.setIfInBounds_toArray, List.set_cons_zero, List.set_cons_succ]
    refine wpB_done (by kernel_rfl) ?_ _
    obtain ⟨w2, hw2⟩ : ∃ w2, w2 = (w1.alloc (.cells #[.string al.1, .bool al.2] 68)).drew := ⟨_, rfl⟩
    rw [← hw2] at hHeld ⊢
    have b2 := (hHeld.block _ (lt_of_block b1) (by simp)).trans b1
    have k2 := hHeld
    have z0 := cell_of_cells (o := 0) b2 rfl
    have z1 := cell_of_cells (o := 1) b2 rfl
    have z2 := cell_of_cells (o := 2) b2 rfl
    have zf0 := frozen_of_cells b2 0
    have zf1 := frozen_of_cells b2 1
    have zf2 := frozen_of_cells b2 2
    clear hHeld hw2 c0 cr0 cr1 cr2 hlk
    go_wp2_with fail
    have hz := box3Put' (b2) (.int .i64 13) (.string ⟨#[]⟩) (.slice none 0 0)
    have hkz : Kp [R] w2 (((w2.setCell ⟨R, 0, none⟩ (.int .i64 13)).setCell ⟨R, 1, none⟩ (.string ⟨#[]⟩)).setCell ⟨R, 2, none⟩ (.slice none 0 0)) := (((Kp.refl _ _).setCell (.inl (by simp)) _).setCell (.inl (by simp)) _).setCell (.inl (by simp)) _
    obtain ⟨Z, hZ⟩ : ∃ Z, Z = (((w2).setCell ⟨R, 0, none⟩ (.int .i64 13)).setCell ⟨R, 1, none⟩ (.string ⟨#[]⟩)).setCell ⟨R, 2, none⟩ (.slice none 0 0) := ⟨_, rfl⟩
    rw [← hZ] at hz hkz ⊢
    obtain ⟨hz0, hz1, hz2⟩ := hz
    refine bodyPost_ret (ret3_mPut _ _ R (by kernel_rfl) hz0 hz1 hz2) rfl ?_
    have hkw := kp_past (k01.trans k2) hkz hRlt
    exact ⟨rfl, h.keep0 hkw, hkw.weaken (fun _ _ hm => by cases hm)⟩
  | false =>
    rw [hb] at hlk
    simp only [Bool.false_eq_true, if_false]
    go_enter Tryd.func21, Tryd.ntmps21
    go_wp2_with fail
    rw [← HW0.out, ← HW1.out, ← HR.out]
    go_wp2_with fail
    refine wpB_begin 999 (Kp [] w1) (by kernel_rfl) (by exact (Kp.refl _ _).drew) (fun hHeld => ?_)
    refine wpB_take 0 _ ?_ rfl (by kernel_rfl) (fun _ _ _ h => h) rfl hHeld ?_ ?_
    rotate_left
    · (intro W hW; go_simp; try with_reducible rfl)
    try simp only [Act.put, List.setIfInBounds_toArray, List.set_cons_zero, List.set_cons_succ]
    refine wpB_take 1 _ ?_ rfl (by kernel_rfl) (fun _ _ _ h => h) rfl hHeld ?_ ?_
    rotate_left
    · (intro W hW; go_simp; try with_reducible rfl)
    try simp only [Act.put, List.setIfInBounds_toArray, List.set_cons_zero, List.set_cons_succ]
    refine wpB_take 2 _ ?_ rfl (by kernel_rfl) (fun _ _ _ h => h) rfl hHeld ?_ ?_
    rotate_left
    · (intro W hW; go_simp; try with_reducible rfl)
    try simp only [Act.put, List.setIfInBounds_toArray, List.set_cons_zero, List.set_cons_succ]
    refine wpB_take 3 _ ?_ rfl (by kernel_rfl) (fun _ _ _ h => h) rfl hHeld ?_ ?_
    rotate_left
    · (intro W hW; go_simp; try with_reducible rfl)
    try simp only [Act.put, List.setIfInBounds_toArray, List.set_cons_zero, List.set_cons_succ]
    refine wpB_take 4 _ ?_ rfl (by kernel_rfl) (fun _ _ _ h => h) rfl hHeld ?_ ?_
    rotate_left
    · (intro W hW; go_simp; try with_reducible rfl)
    try simp only [Act.put, List.setIfInBounds_toArray, List.set_cons_zero, List.set_cons_succ]
    refine wpB_take 5 _ ?_ rfl (by kernel_rfl) (fun _ _ _ h => h) rfl hHeld ?_ ?_
    rotate_left
    · (intro W hW; go_simp; try with_reducible rfl)
    try simp only [Act.put, List.setIfInBounds_toArray, List.set_cons_zero, List.set_cons_succ]
    refine wpB_take 6 _ ?_ rfl (by kernel_rfl) (fun _ _ _ h => h) rfl hHeld ?_ ?_
    rotate_left
    · (intro W hW; go_simp; try with_reducible rfl)
    try simp only [Act.put, List.setIfInBounds_toArray, List.set_cons_zero, List.set_cons_succ]
    refine wpB_take 7 _ ?_ rfl (by kernel_rfl) (fun _ _ _ h => h) rfl hHeld ?_ ?_
    rotate_left
    · (intro W hW; go_simp; try with_reducible rfl)
    try simp only [Act.put, List.setIfInBounds_toArray, List.set_cons_zero, List.set_cons_succ]
    refine wpB_take 8 _ ?_ rfl (by kernel_rfl) (fun _ _ _ h => h) rfl hHeld ?_ ?_
    rotate_left
    · (intro W hW; go_simp; try with_reducible rfl)
    try simp only [Act.put, List.setIfInBounds_toArray, List.set_cons_zero, List.set_cons_succ]
    refine wpB_take 9 _ ?_ rfl (by kernel_rfl) (fun _ _ _ h => h) rfl hHeld ?_ ?_
    rotate_left
    · (intro W hW; go_simp; try with_reducible rfl)
    try simp only [Act.put, List.setIfInBounds_toArray, List.set_cons_zero, List.set_cons_succ]
    refine wpB_step 10 _ rfl (by kernel_rfl) rfl rfl (fun K hK_ => ?_)
    go_simp
    refine hK_.out _ _ (by first | exact hHeld | exact hHeld.call ‹_› | exact hHeld.alloc _) (fun hHeld => ?_)
    clear hK_ K
    try simp only [Act.put, List.setIfInBounds_toArray, List.set_cons_zero, List.set_cons_succ]
    refine wpB_step 11 _ rfl (by kernel_rfl) rfl rfl (fun K hK_ => ?_)
    go_simp
    refine hK_.out _ _ (by exact ((Kp.refl _ _).alloc _).drew) (fun hHeld => ?_)
    clear hK_ K
    try simp only [Act.put, List.setIfInBounds_toArray, List.set_cons_zero, List.set_cons_succ]
    refine wpB_take 12 _ ?_ rfl (by kernel_rfl) (fun _ _ _ h => h) rfl hHeld ?_ ?_
    rotate_left
    · (intro W hW; go_simp; try with_reducible rfl)
    try simp only [Act.put, List.setIfInBounds_toArray, List.set_cons_zero, List.set_cons_succ]
    refine wpB_done (by kernel_rfl) ?_ _
    obtain ⟨w2, hw2⟩ : ∃ w2, w2 = (w1.alloc (.cells #[.string al.1, .bool al.2] 68)).drew := ⟨_, rfl⟩
    rw [← hw2] at hHeld ⊢
    have k2 := hHeld
    have h2 := h1.keep0 k2
    have d0 := fun W (kk : Kp [] w2 W) => c0 W (k2.trans kk)
    have e1 := fun W (kk : Kp [] w2 W) => cr1 W (k2.trans kk)
    have e2 := fun W (kk : Kp [] w2 W) => cr2 W (k2.trans kk)
    clear hHeld hw2 c0 cr0 cr1 cr2 hlk
    go_wp2_with fail
    refine wpB_begin 9 (Kp [] w2) (by kernel_rfl) (by exact (Kp.refl _ _).drew) (fun hHeld => ?_)
    refine wpB_take 0 _ ?_ rfl (by kernel_rfl) (fun _ _ _ h => h) rfl hHeld ?_ ?_
    rotate_left
    · (intro W hW; go_simp; try with_reducible rfl)
    try simp only [Act.put, List.setIfInBounds_toArray, List.set_cons_zero, List.set_cons_succ]
    refine wpB_take 1 _ ?_ rfl (by kernel_rfl) (fun _ _ _ h => h) rfl hHeld ?_ ?_
    rotate_left
    · (intro W hW; go_simp; try with_reducible rfl)
    try simp only [Act.put, List.setIfInBounds_toArray, List.set_cons_zero, List.set_cons_succ]
    refine wpB_take 2 _ ?_ rfl (by kernel_rfl) (fun _ _ _ h => h) rfl hHeld ?_ ?_
    rotate_left
    · (intro W hW; go_simp; try with_reducible rfl)
    try simp only [Act.put, List.setIfInBounds_toArray, List.set_cons_zero, List.set_cons_succ]
    refine wpB_take 3 _ ?_ rfl (by kernel_rfl) (fun _ _ _ h => h) rfl hHeld ?_ ?_
    rotate_left
    · (intro W hW; go_simp; try with_reducible rfl)
    try simp only [Act.put, List.setIfInBounds_toArray, List.set_cons_zero, List.set_cons_succ]
    refine wpB_take 4 _ ?_ rfl (by kernel_rfl) (fun _ _ _ h => h) rfl hHeld ?_ ?_
    rotate_left
    · (intro W hW; go_simp; try with_reducible rfl)
    try simp only [Act.put, List.setIfInBounds_toArray, List.set_cons_zero, List.set_cons_succ]
    refine wpB_take 5 _ ?_ rfl (by kernel_rfl) (fun _ _ _ h => h) rfl hHeld ?_ ?_
    rotate_left
    · (intro W hW; go_simp; try with_reducible rfl)
    try simp only [Act.put, List.setIfInBounds_toArray, List.set_cons_zero, List.set_cons_succ]
    refine wpB_take 6 _ ?_ rfl (by kernel_rfl) (fun _ _ _ h => h) rfl hHeld ?_ ?_
    rotate_left
    · (intro W hW; go_simp; try with_reducible rfl)
    try simp only [Act.put, List.setIfInBounds_toArray, List.set_cons_zero, List.set_cons_succ]
    refine wpB_take 7 _ ?_ rfl (by kernel_rfl) (fun _ _ _ h => h) rfl hHeld ?_ ?_
    rotate_left
    · (intro W hW; go_simp; try with_reducible rfl)
    try simp only [Act.put, List.setIfInBounds_toArray, List.set_cons_zero, List.set_cons_succ]
    refine wpB_take 8 _ ?_ rfl (by kernel_rfl) (fun _ _ _ h => h) rfl hHeld ?_ ?_
    rotate_left
    · (intro W hW; go_simp; try with_reducible rfl)
    try simp only [Act.put, List.setIfInBounds_toArray, List.set_cons_zero, List.set_cons_succ]
    refine wpB_bar (Kp [eb] w2) 999 _ rfl (by kernel_rfl) rfl (fun K hK_ => ?_)
    obtain ⟨w3, hu, hM3, k3⟩ := store_known (h2.keep0 hHeld) hs hkm v false
    go_simp
    refine hK_.out _ _ (by exact (hHeld.weaken (fun _ _ hm => by cases hm)).trans k3) (fun hHeld => ?_)
    clear hK_ K
    try simp only [Act.put, List.setIfInBounds_toArray, List.set_cons_zero, List.set_cons_succ]
    refine wpB_done (by kernel_rfl) ?_ _
    have b3 := (hHeld.block _ (Nat.lt_of_lt_of_le (lt_of_block b1) k2.size) (by have := h.lts; simp only [List.mem_singleton]; omega)).trans ((k2.block _ (lt_of_block b1) (by simp)).trans b1)
    have z0 := cell_of_cells (o := 0) b3 rfl
    have z1 := cell_of_cells (o := 1) b3 rfl
    have z2 := cell_of_cells (o := 2) b3 rfl
    have zf0 := frozen_of_cells b3 0
    have zf1 := frozen_of_cells b3 1
    have zf2 := frozen_of_cells b3 2
    have k3' := hHeld
    clear hHeld d0 e1 e2 k3
    go_wp2_with fail
    have hz := box3Put' (b3) (.int .i64 0) (.string ⟨#[]⟩) (.slice none 0 0)
    have hkz : Kp [R] w3 (((w3.setCell ⟨R, 0, none⟩ (.int .i64 0)).setCell ⟨R, 1, none⟩ (.string ⟨#[]⟩)).setCell ⟨R, 2, none⟩ (.slice none 0 0)) := (((Kp.refl _ _).setCell (.inl (by simp)) _).setCell (.inl (by simp)) _).setCell (.inl (by simp)) _
    obtain ⟨Z, hZ⟩ : ∃ Z, Z = (((w3).setCell ⟨R, 0, none⟩ (.int .i64 0)).setCell ⟨R, 1, none⟩ (.string ⟨#[]⟩)).setCell ⟨R, 2, none⟩ (.slice none 0 0) := ⟨_, rfl⟩
    rw [← hZ] at hz hkz ⊢
    obtain ⟨hz0, hz1, hz2⟩ := hz
    refine bodyPost_ret (ret3_mPut _ _ R (by kernel_rfl) hz0 hz1 hz2) rfl ?_
    have hkw := kp_past (((k01.trans k2).weaken (Y := [eb]) (fun _ _ hm => by cases hm)).trans k3') hkz hRlt
    exact ⟨rfl, hM3.keep hkz (by have := h.lts; simp only [List.mem_singleton]; omega) (by have := h.lts; simp only [List.mem_singleton]; omega), hkw⟩
end Go.Proofs.YtlomniffpjndfaaDoor
