/-
  A model's get, remove, stat: the closures, and there.
-/
import Derived.Test.YtlomniffpjndfaaDoorMdB
namespace Go.Proofs.YtlomniffpjndfaaDoor
open Go.RowKit Go.ChangeMaps Go.Maps Go.WideShapes Go.WideMaps Go.WideElems Go.MapKept Go.ChangeShapes

set_option maxRecDepth 20000 in
theorem ret3_mGet1 (t : Array Value) (Z : World) (R : Nat) {v0 v1 v2 : Value} (h2 : t.getD 2 undef = .pointer (some ⟨R, 0, none⟩)) (z0 : Z.cell? ⟨R, 0, none⟩ = some v0) (z1 : Z.cell? ⟨R, 1, none⟩ = some v1) (z2 : Z.cell? ⟨R, 2, none⟩ = some v2) :
    (results Tryd.f41 t).run Tryd.prog Z = .ok (.agg #[v0, v1, v2]) Z := by
  have h2' : t[2]?.getD undef = .pointer (some ⟨R, 0, none⟩) := by rw [← h2]; simp [Array.getD_eq_getD_getElem?]
  simp [results, Tryd.results41, go_sem, z0, z1, z2, h2']
  try rfl
set_option maxRecDepth 20000 in
theorem ret3_mStat1 (t : Array Value) (Z : World) (R : Nat) {v0 v1 v2 : Value} (h2 : t.getD 2 undef = .pointer (some ⟨R, 0, none⟩)) (z0 : Z.cell? ⟨R, 0, none⟩ = some v0) (z1 : Z.cell? ⟨R, 1, none⟩ = some v1) (z2 : Z.cell? ⟨R, 2, none⟩ = some v2) :
    (results Tryd.f43 t).run Tryd.prog Z = .ok (.agg #[v0, v1, v2]) Z := by
  have h2' : t[2]?.getD undef = .pointer (some ⟨R, 0, none⟩) := by rw [← h2]; simp [Array.getD_eq_getD_getElem?]
  simp [results, Tryd.results43, go_sem, z0, z1, z2, h2']
  try rfl
set_option maxRecDepth 20000 in
theorem ret3_mRemove1 (t : Array Value) (Z : World) (R : Nat) {v0 v1 v2 : Value} (h2 : t.getD 4 undef = .pointer (some ⟨R, 0, none⟩)) (z0 : Z.cell? ⟨R, 0, none⟩ = some v0) (z1 : Z.cell? ⟨R, 1, none⟩ = some v1) (z2 : Z.cell? ⟨R, 2, none⟩ = some v2) :
    (results Tryd.f42 t).run Tryd.prog Z = .ok (.agg #[v0, v1, v2]) Z := by
  have h2' : t[4]?.getD undef = .pointer (some ⟨R, 0, none⟩) := by rw [← h2]; simp [Array.getD_eq_getD_getElem?]
  simp [results, Tryd.results42, go_sem, z0, z1, z2, h2']
  try rfl
set_option maxRecDepth 20000 in
theorem ret3_mThere (t : Array Value) (Z : World) (R : Nat) {v0 v1 v2 : Value} (h2 : t.getD 6 undef = .pointer (some ⟨R, 0, none⟩)) (z0 : Z.cell? ⟨R, 0, none⟩ = some v0) (z1 : Z.cell? ⟨R, 1, none⟩ = some v1) (z2 : Z.cell? ⟨R, 2, none⟩ = some v2) :
    (results Tryd.f40 t).run Tryd.prog Z = .ok (.agg #[v0, v1, v2]) Z := by
  have h2' : t[6]?.getD undef = .pointer (some ⟨R, 0, none⟩) := by rw [← h2]; simp [Array.getD_eq_getD_getElem?]
  simp [results, Tryd.results40, go_sem, z0, z1, z2, h2']
  try rfl
set_option maxRecDepth 20000 in
theorem ret3_mGet (t : Array Value) (Z : World) (R : Nat) {v0 v1 v2 : Value} (h2 : t.getD 4 undef = .pointer (some ⟨R, 0, none⟩)) (z0 : Z.cell? ⟨R, 0, none⟩ = some v0) (z1 : Z.cell? ⟨R, 1, none⟩ = some v1) (z2 : Z.cell? ⟨R, 2, none⟩ = some v2) :
    (results Tryd.f22 t).run Tryd.prog Z = .ok (.agg #[v0, v1, v2]) Z := by
  have h2' : t[4]?.getD undef = .pointer (some ⟨R, 0, none⟩) := by rw [← h2]; simp [Array.getD_eq_getD_getElem?]
  simp [results, Tryd.results22, go_sem, z0, z1, z2, h2']
  try rfl
set_option maxRecDepth 20000 in
theorem ret3_mRemove (t : Array Value) (Z : World) (R : Nat) {v0 v1 v2 : Value} (h2 : t.getD 4 undef = .pointer (some ⟨R, 0, none⟩)) (z0 : Z.cell? ⟨R, 0, none⟩ = some v0) (z1 : Z.cell? ⟨R, 1, none⟩ = some v1) (z2 : Z.cell? ⟨R, 2, none⟩ = some v2) :
    (results Tryd.f23 t).run Tryd.prog Z = .ok (.agg #[v0, v1, v2]) Z := by
  have h2' : t[4]?.getD undef = .pointer (some ⟨R, 0, none⟩) := by rw [← h2]; simp [Array.getD_eq_getD_getElem?]
  simp [results, Tryd.results23, go_sem, z0, z1, z2, h2']
  try rfl
set_option maxRecDepth 20000 in
theorem ret3_mStat (t : Array Value) (Z : World) (R : Nat) {v0 v1 v2 : Value} (h2 : t.getD 4 undef = .pointer (some ⟨R, 0, none⟩)) (z0 : Z.cell? ⟨R, 0, none⟩ = some v0) (z1 : Z.cell? ⟨R, 1, none⟩ = some v1) (z2 : Z.cell? ⟨R, 2, none⟩ = some v2) :
    (results Tryd.f24 t).run Tryd.prog Z = .ok (.agg #[v0, v1, v2]) Z := by
  have h2' : t[4]?.getD undef = .pointer (some ⟨R, 0, none⟩) := by rw [← h2]; simp [Array.getD_eq_getD_getElem?]
  simp [results, Tryd.results24, go_sem, z0, z1, z2, h2']
  try rfl
/-- the digest of a text, as the program gives it -/
structure SumOk (f : ByteArray → ByteArray) : Prop where
  calls : ∀ (s : ByteArray) (w : World), s.size ≤ 1000 → Calls Tryd.prog 45 #[.string s] w fun e w' => e = .returned (.string (f s)) ∧ Kp [] w w'
  size : ∀ s : ByteArray, (f s).size ≤ 32
abbrev HX (s : ByteArray) : ByteArray := ⟨(hexL s.data.toList).toArray⟩
/-- what stat tells of a value -/
def statV (f : ByteArray → ByteArray) (v : ByteArray) : ByteArray := SB (Lib.decDigits v.size) ++ ⟨#[32]⟩ ++ HX (f v)
set_option maxHeartbeats 2000000 in
set_option maxRecDepth 20000 in
theorem mget1 (v : ByteArray) (w : World) : Calls Tryd.prog 41 #[.string v] w fun e w' => e = .returned (RespV 0 v nilS) ∧ Kp [] w w' := by
  have hk := (Kp.refl [] w).alloc (.cells #[.int .i64 0, .string v, .slice none 0 0] 37)
  go_enter Tryd.func41, Tryd.ntmps41
  go_wp2_with fail
  have b := block_new w (.cells #[.int .i64 0, .string v, .slice none 0 0] 37)
  exact bodyPost_ret (ret3_mGet1 _ _ w.heap.size (by kernel_rfl) (cell_of_cells b rfl) (cell_of_cells b rfl) (cell_of_cells b rfl)) rfl ⟨rfl, hk⟩
set_option maxHeartbeats 2000000 in
set_option maxRecDepth 20000 in
theorem mstat1 {f : ByteArray → ByteArray} (hf : SumOk f) (v : ByteArray) (hv : v.size ≤ 384) (w : World) (htab : Lib.TabIs Tryd.prog w "internal/strconv.uint64pow10" .u64 Lib.pow10Tab) : Calls Tryd.prog 43 #[.string v] w fun e w' => e = .returned (RespV 0 (statV f v) nilS) ∧ Kp [] w w' := by
  obtain ⟨w0, hw0⟩ : ∃ w0, w0 = w.alloc (.cells #[.int .i64 0, .string ⟨#[]⟩, .slice none 0 0] 37) := ⟨_, rfl⟩
  have k0 : Kp [] w w0 := hw0 ▸ (Kp.refl _ _).alloc _
  have b0 : w0.heap[w.heap.size]? = some (.cells #[.int .i64 0, .string ⟨#[]⟩, .slice none 0 0] 37 (0, 0)) := by rw [hw0]; exact block_new _ _
  have HW0 := Lib.hid hw0
  obtain ⟨R, hR⟩ : ∃ R, R = w.heap.size := ⟨_, rfl⟩
  have HR := Lib.hid hR
  have hRlt : w.heap.size ≤ R := by omega
  rw [← hR] at b0
  obtain ⟨A, hA⟩ : ∃ A, A = SB (Lib.decDigits v.size) := ⟨_, rfl⟩
  have hA30 : A.size ≤ 30 := by rw [hA, SB_size, Lib.decDigits_length]; exact nDig_le _ (by omega)
  obtain ⟨D, hD⟩ : ∃ D, D = f v := ⟨_, rfl⟩
  have hD32 : D.size ≤ 32 := hD ▸ hf.size v
  obtain ⟨X, hX⟩ : ∃ X, X = HX D := ⟨_, rfl⟩
  have hX64 : X.size ≤ 64 := by rw [hX]; show (hexL D.data.toList).toArray.size ≤ 64; rw [List.size_toArray, hexL_len]; simp; omega
  have hst : statV f v = A ++ ⟨#[32]⟩ ++ X := by rw [hA, hX, hD]; rfl
  have hit := itoa_nat v.size (by omega)
  rw [← hA] at hit
  have hsm := fun W => hf.calls v W (by omega)
  rw [← hD] at hsm
  have hhx : ∀ W, Calls Tryd.prog 36 #[.string D] W fun e w' => e = .returned (.string (HX D)) ∧ Kp [] W w' := fun W => hex D (by omega) W
  rw [← hX] at hhx
  have HST := Lib.hid hst
  have h1s : (⟨#[32]⟩ : ByteArray).size = 1 := rfl
  clear hw0 hA hD hX hst hR
  go_enter Tryd.func43, Tryd.ntmps43
  go_wp2_with fail
  rw [← HW0.out, ← HR.out]
  refine (hit _ (htab.keep k0)).mono ?_
  rintro e w1 ⟨rfl, k1⟩
  go_wp2_with fail
  refine (hsm _).mono ?_
  rintro e w2 ⟨rfl, k2⟩
  go_wp2_with fail
  refine (hhx _).mono ?_
  rintro e w3 ⟨rfl, k3⟩
  have k13 := (k1.trans k2).trans k3
  have b3 := (k13.block _ (lt_of_block b0) (by simp)).trans b0
  have z0 := cell_of_cells (o := 0) b3 rfl
  have z1 := cell_of_cells (o := 1) b3 rfl
  have z2 := cell_of_cells (o := 2) b3 rfl
  have zf0 := frozen_of_cells b3 0
  have zf1 := frozen_of_cells b3 1
  have zf2 := frozen_of_cells b3 2
  clear hit hsm hhx k1 k2 k3
  go_wp2_with fail
  have hz := box3Put' (b3) (.int .i64 0) (.string (A ++ ⟨#[32]⟩ ++ X)) (.slice none 0 0)
  have hkz : Kp [R] w3 (((w3.setCell ⟨R, 0, none⟩ (.int .i64 0)).setCell ⟨R, 1, none⟩ (.string (A ++ ⟨#[32]⟩ ++ X))).setCell ⟨R, 2, none⟩ (.slice none 0 0)) := (((Kp.refl _ _).setCell (.inl (by simp)) _).setCell (.inl (by simp)) _).setCell (.inl (by simp)) _
  obtain ⟨Z, hZ⟩ : ∃ Z, Z = (((w3).setCell ⟨R, 0, none⟩ (.int .i64 0)).setCell ⟨R, 1, none⟩ (.string (A ++ ⟨#[32]⟩ ++ X))).setCell ⟨R, 2, none⟩ (.slice none 0 0) := ⟨_, rfl⟩
  rw [← hZ] at hz hkz ⊢
  obtain ⟨hz0, hz1, hz2⟩ := hz
  refine bodyPost_ret (ret3_mStat1 _ _ R (by kernel_rfl) hz0 hz1 hz2) rfl ?_
  have hkw := kp_past (k0.trans k13) hkz hRlt
  exact ⟨by rw [HST.out], hkw⟩
set_option maxHeartbeats 2000000 in
set_option maxRecDepth 20000 in
theorem mremove1 {mb eb bm br : Nat} {M : Mdl} (hs : Short M) (x k : ByteArray) (hk : k.size ≤ 32) (w : World) (h : MdAt mb eb w M) (hm : w.cell? ⟨bm, 0, none⟩ = some (Md.p mb)) (hr : w.cell? ⟨br, 1, none⟩ = some (.string k)) :
    Calls Tryd.prog 42 #[.string x, .pointer (some ⟨bm, 0, none⟩), .pointer (some ⟨br, 0, none⟩)] w fun e w' => e = .returned (RespV 0 E0 nilS) ∧ MdAt mb eb w' (aPut k (E0, true) M) ∧ Kp [eb] w w' := by
  have hkm : k.size ≤ maxLen := by unfold maxLen; omega
  obtain ⟨w0, hw0⟩ : ∃ w0, w0 = w.alloc (.cells #[.int .i64 0, .string ⟨#[]⟩, .slice none 0 0] 37) := ⟨_, rfl⟩
  have k0 : Kp [] w w0 := hw0 ▸ (Kp.refl _ _).alloc _
  have b0 : w0.heap[w.heap.size]? = some (.cells #[.int .i64 0, .string ⟨#[]⟩, .slice none 0 0] 37 (0, 0)) := by rw [hw0]; exact block_new _ _
  have h0 := h.keep0 k0
  obtain ⟨R, hR⟩ : ∃ R, R = w.heap.size := ⟨_, rfl⟩
  have hRlt : w.heap.size ≤ R := by omega
  have hlt := h.lts
  have c0 := Kp.cellAt (X := []) (cell_of_cells (o := 0) h0.top rfl) (by simp)
  have d1 := Kp.cellAt (X := []) ((k0.cell (lt_of_cell hm) (by simp)).trans hm) (by simp)
  have d2 := Kp.cellAt (X := []) ((k0.cell (lt_of_cell hr) (by simp)).trans hr) (by simp)
  rw [← hR] at b0
  have HW0 := Lib.hid hw0
  have HR := Lib.hid hR
  clear hw0 hR
  go_enter Tryd.func42, Tryd.ntmps42
  go_wp2_with fail
  rw [← HW0.out, ← HR.out]
  refine wpB_begin 7 (Kp [] w0) (by kernel_rfl) (by exact (Kp.refl _ _).drew) (fun hHeld => ?_)
  refine wpB_take 0 _ ?_ rfl (by kernel_rfl) (fun _ _ _ h => h) rfl hHeld ?_ ?_
  rotate_left
  · (intro W hW; go_simp; try with_reducible rfl)
  try simp only [Act.put, List.setIfInBounds_toArray, List.set_cons_zero, List.set_cons_succ]
  refine wpB_take 1 _ ?_ rfl (by kernel_rfl) (fun _ _ _ h => h) rfl hHeld ?_ ?_
  rotate_left
  · (intro W hW; go_simp; try with_reducible rfl)
  try simp only [Act.put, List.setIfInBounds_toArray, List.set_cons_zero, List.set_cons_succ]
  refine wpB_take 2 _ ?_ rfl (by kernel_rfl) (fun _ _ _ h => h) rfl hHeld ?_ ?_
  rotate_left
  · (intro W hW; go_simp; try with_reducible rfl)
  try simp only [Act.put, List.setIfInBounds_toArray, List.set_cons_zero, List.set_cons_succ]
  refine wpB_take 3 _ ?_ rfl (by kernel_rfl) (fun _ _ _ h => h) rfl hHeld ?_ ?_
  rotate_left
  · (intro W hW; go_simp; try with_reducible rfl)
  try simp only [Act.put, List.setIfInBounds_toArray, List.set_cons_zero, List.set_cons_succ]
  refine wpB_take 4 _ ?_ rfl (by kernel_rfl) (fun _ _ _ h => h) rfl hHeld ?_ ?_
  rotate_left
  · (intro W hW; go_simp; try with_reducible rfl)
  try simp only [Act.put, List.setIfInBounds_toArray, List.set_cons_zero, List.set_cons_succ]
  refine wpB_take 5 _ ?_ rfl (by kernel_rfl) (fun _ _ _ h => h) rfl hHeld ?_ ?_
  rotate_left
  · (intro W hW; go_simp; try with_reducible rfl)
  try simp only [Act.put, List.setIfInBounds_toArray, List.set_cons_zero, List.set_cons_succ]
  refine wpB_take 6 _ ?_ rfl (by kernel_rfl) (fun _ _ _ h => h) rfl hHeld ?_ ?_
  rotate_left
  · (intro W hW; go_simp; try with_reducible rfl)
  try simp only [Act.put, List.setIfInBounds_toArray, List.set_cons_zero, List.set_cons_succ]
  refine wpB_bar (Kp [eb] w0) 999 _ rfl (by kernel_rfl) rfl (fun K hK_ => ?_)
  obtain ⟨w3, hu, hM3, k3⟩ := store_known (h0.keep0 hHeld) hs hkm ⟨#[]⟩ true
  go_simp
  refine hK_.out _ _ (by exact (hHeld.weaken (fun _ _ hm => by cases hm)).trans k3) (fun hHeld => ?_)
  clear hK_ K
  try simp only [Act.put, List.setIfInBounds_toArray, List.set_cons_zero, List.set_cons_succ]
  refine wpB_done (by kernel_rfl) ?_ _
  have b3 := (hHeld.block _ (lt_of_block b0) (by simp only [List.mem_singleton]; omega)).trans b0
  have z0 := cell_of_cells (o := 0) b3 rfl
  have z1 := cell_of_cells (o := 1) b3 rfl
  have z2 := cell_of_cells (o := 2) b3 rfl
  have zf0 := frozen_of_cells b3 0
  have zf1 := frozen_of_cells b3 1
  have zf2 := frozen_of_cells b3 2
  have k3' := hHeld
  clear hHeld c0 d1 d2 k3
  go_wp2_with fail
  have hz := box3Put' (b3) (.int .i64 0) (.string ⟨#[]⟩) (.slice none 0 0)
  have hkz : Kp [R] w3 (((w3.setCell ⟨R, 0, none⟩ (.int .i64 0)).setCell ⟨R, 1, none⟩ (.string ⟨#[]⟩)).setCell ⟨R, 2, none⟩ (.slice none 0 0)) := (((Kp.refl _ _).setCell (.inl (by simp)) _).setCell (.inl (by simp)) _).setCell (.inl (by simp)) _
  obtain ⟨Z, hZ⟩ : ∃ Z, Z = (((w3).setCell ⟨R, 0, none⟩ (.int .i64 0)).setCell ⟨R, 1, none⟩ (.string ⟨#[]⟩)).setCell ⟨R, 2, none⟩ (.slice none 0 0) := ⟨_, rfl⟩
  rw [← hZ] at hz hkz ⊢
  obtain ⟨hz0, hz1, hz2⟩ := hz
  refine bodyPost_ret (ret3_mRemove1 _ _ R (by kernel_rfl) hz0 hz1 hz2) rfl ?_
  have hkw := kp_past ((k0.weaken (Y := [eb]) (fun _ _ hm => by cases hm)).trans k3') hkz hRlt
  exact ⟨rfl, hM3.keep hkz (by simp only [List.mem_singleton]; omega) (by simp only [List.mem_singleton]; omega), hkw⟩
set_option maxHeartbeats 2000000 in
set_option maxRecDepth 20000 in
theorem mthere_no {mb eb : Nat} {M : Mdl} (hs : Short M) (kind : Int) (k v : ByteArray) (F : Value) (hk : k.size ≤ 32) (w : World) (h : MdAt mb eb w M) (hno : (aGet k M).isSome = false ∨ (M.at k).2 = true) :
    Calls Tryd.prog 40 #[Md.p mb, ReqV kind k v, F] w fun e w' => e = .returned (RespV 9 E0 nilS) ∧ Kp [] w w' := by
  have hkm : k.size ≤ maxLen := by unfold maxLen; omega
  obtain ⟨w0, hw0⟩ : ∃ w0, w0 = w.alloc (.cells #[.int .i64 kind, .string k, .string v] 32) := ⟨_, rfl⟩
  have k0 : Kp [] w w0 := hw0 ▸ (Kp.refl _ _).alloc _
  have b0 : w0.heap[w.heap.size]? = some (.cells #[.int .i64 kind, .string k, .string v] 32 (0, 0)) := by rw [hw0]; exact block_new _ _
  obtain ⟨R, hR⟩ : ∃ R, R = w0.heap.size := ⟨_, rfl⟩
  have hR2 : R = w.heap.size + 1 := by rw [hR, hw0, World.size_alloc]
  obtain ⟨w1, hw1⟩ : ∃ w1, w1 = w0.alloc (.cells #[.int .i64 0, .string ⟨#[]⟩, .slice none 0 0] 37) := ⟨_, rfl⟩
  have k1 : Kp [] w0 w1 := hw1 ▸ (Kp.refl _ _).alloc _
  have b1 : w1.heap[R]? = some (.cells #[.int .i64 0, .string ⟨#[]⟩, .slice none 0 0] 37 (0, 0)) := by rw [hw1, hR]; exact block_new _ _
  have k01 := k0.trans k1
  have h1 := h.keep0 k01
  have hRlt : w.heap.size ≤ R := by omega
  have b01 := (k1.block _ (lt_of_block b0) (by simp)).trans b0
  have c0 := Kp.cellAt (X := []) (cell_of_cells (o := 0) h1.top rfl) (by simp)
  have cr0 := Kp.cellAt (X := []) (cell_of_cells (o := 0) (v := .int .i64 kind) b01 rfl) (by simp)
  have cr1 := Kp.cellAt (X := []) (cell_of_cells (o := 1) (v := .string k) b01 rfl) (by simp)
  have cr2 := Kp.cellAt (X := []) (cell_of_cells (o := 2) (v := .string v) b01 rfl) (by simp)
  have HW0 := Lib.hid hw0
  have HW1 := Lib.hid hw1
  have HR := Lib.hid hR2
  clear hw0 hw1 hR hR2 b01
  obtain ⟨al, hal⟩ : ∃ al, al = M.at k := ⟨_, rfl⟩
  have hlk := fun W (kk : Kp [] w1 W) => look_known (h1.keep0 kk) hs hkm true
  simp only [if_true, ← hal] at hlk
  rw [← hal] at hno
  clear hal
  cases hb : (aGet k M).isSome with
  | true =>
    rw [hb] at hlk hno
    have hg : al.2 = true := hno.resolve_left (by simp)
    clear hno
    go_enter Tryd.func40, Tryd.ntmps40
    go_wp2_with fail
    rw [← HW0.out, ← HW1.out, ← HR.out]
    go_wp2_with fail
    refine wpB_begin 999 (Kp [] w1) (by kernel_rfl) (by exact (Kp.refl _ _).drew) (fun hHeld => ?_)
    refine wpB_take 0 _ ?_ rfl (by kernel_rfl) (fun _ _ _ h => h) rfl hHeld ?_ ?_
    rotate_left
    · (intro W hW; go_simp; try with_reducible rfl)
    try simp only [Act.put, List.setIfInBounds_toArray, List.set_cons_zero, List.set_cons_succ]
    refine wpB_take 1 _ ?_ rfl (by kernel_rfl) (fun _ _ _ h => h) rfl hHeld ?_ ?_
    rotate_left
    · (intro W hW; go_simp; try with_reducible rfl)
    try simp only [Act.put, List.setIfInBounds_toArray, List.set_cons_zero, List.set_cons_succ]
    refine wpB_take 2 _ ?_ rfl (by kernel_rfl) (fun _ _ _ h => h) rfl hHeld ?_ ?_
    rotate_left
    · (intro W hW; go_simp; try with_reducible rfl)
    try simp only [Act.put, List.setIfInBounds_toArray, List.set_cons_zero, List.set_cons_succ]
    refine wpB_take 3 _ ?_ rfl (by kernel_rfl) (fun _ _ _ h => h) rfl hHeld ?_ ?_
    rotate_left
    · (intro W hW; go_simp; try with_reducible rfl)
    try simp only [Act.put, List.setIfInBounds_toArray, List.set_cons_zero, List.set_cons_succ]
    refine wpB_take 4 _ ?_ rfl (by kernel_rfl) (fun _ _ _ h => h) rfl hHeld ?_ ?_
    rotate_left
    · (intro W hW; go_simp; try with_reducible rfl)
    try simp only [Act.put, List.setIfInBounds_toArray, List.set_cons_zero, List.set_cons_succ]
    refine wpB_take 5 _ ?_ rfl (by kernel_rfl) (fun _ _ _ h => h) rfl hHeld ?_ ?_
    rotate_left
    · (intro W hW; go_simp; try with_reducible rfl)
    try simp only [Act.put, List.setIfInBounds_toArray, List.set_cons_zero, List.set_cons_succ]
    refine wpB_take 6 _ ?_ rfl (by kernel_rfl) (fun _ _ _ h => h) rfl hHeld ?_ ?_
    rotate_left
    · (intro W hW; go_simp; try with_reducible rfl)
    try simp only [Act.put, List.setIfInBounds_toArray, List.set_cons_zero, List.set_cons_succ]
    refine wpB_take 7 _ ?_ rfl (by kernel_rfl) (fun _ _ _ h => h) rfl hHeld ?_ ?_
    rotate_left
    · (intro W hW; go_simp; try with_reducible rfl)
    try simp only [Act.put, List.setIfInBounds_toArray, List.set_cons_zero, List.set_cons_succ]
    refine wpB_take 8 _ ?_ rfl (by kernel_rfl) (fun _ _ _ h => h) rfl hHeld ?_ ?_
    rotate_left
    · (intro W hW; go_simp; try with_reducible rfl)
    try simp only [Act.put, List.setIfInBounds_toArray, List.set_cons_zero, List.set_cons_succ]
    refine wpB_take 9 _ ?_ rfl (by kernel_rfl) (fun _ _ _ h => h) rfl hHeld ?_ ?_
    rotate_left
    · (intro W hW; go_simp; try with_reducible rfl)
    try simp only [Act.put, List.setIfInBounds_toArray, List.set_cons_zero, List.set_cons_succ]
    refine wpB_step 10 _ rfl (by kernel_rfl) rfl rfl (fun K hK_ => ?_)
    go_simp
    refine hK_.out _ _ (by first | exact hHeld | exact hHeld.call ‹_› | exact hHeld.alloc _) (fun hHeld => ?_)
    clear hK_ K
    try simp only [Act.put, List.setIfInBounds_toArray, List.set_cons_zero, List.set_cons_succ]
    refine wpB_step 11 _ rfl (by kernel_rfl) rfl rfl (fun K hK_ => ?_)
    go_simp
    refine hK_.out _ _ (by exact ((Kp.refl _ _).alloc _).drew) (fun hHeld => ?_)
    clear hK_ K
    try simp only [Act.put, List.setIfInBounds_toArray, List.set_cons_zero, List.set_cons_succ]
    refine wpB_take 12 _ ?_ rfl (by kernel_rfl) (fun _ _ _ h => h) rfl hHeld ?_ ?_
    rotate_left
    · (intro W hW; go_simp; try with_reducible rfl)
    try simp only [Act.put, List.setIfInBounds_toArray, List.set_cons_zero, List.set_cons_succ]
    refine wpB_done (by kernel_rfl) ?_ _
    obtain ⟨w2, hw2⟩ : ∃ w2, w2 = (w1.alloc (.cells #[.string al.1, .bool true] 68)).drew := ⟨_, rfl⟩
    have bk : w2.heap[w1.heap.size]? = some (.cells #[.string al.1, .bool true] 68 (0, 0)) := by rw [hw2]; exact block_new _ _
    rw [← hw2] at hHeld ⊢
    have k2 := hHeld
    have h2 := h1.keep0 k2
    have b2 := (k2.block _ (lt_of_block b1) (by simp)).trans b1
    have q0 := cell_of_cells (o := 0) bk rfl
    have q1 := cell_of_cells (o := 1) bk rfl
    have z0 := cell_of_cells (o := 0) b2 rfl
    have z1 := cell_of_cells (o := 1) b2 rfl
    have z2 := cell_of_cells (o := 2) b2 rfl
    have zf0 := frozen_of_cells b2 0
    have zf1 := frozen_of_cells b2 1
    have zf2 := frozen_of_cells b2 2
    clear hHeld hw2 c0 cr0 cr1 cr2 hlk
    go_wp2_with fail
    have hz := box3Put' (b2) (.int .i64 9) (.string ⟨#[]⟩) (.slice none 0 0)
    have hkz : Kp [R] w2 (((w2.setCell ⟨R, 0, none⟩ (.int .i64 9)).setCell ⟨R, 1, none⟩ (.string ⟨#[]⟩)).setCell ⟨R, 2, none⟩ (.slice none 0 0)) := (((Kp.refl _ _).setCell (.inl (by simp)) _).setCell (.inl (by simp)) _).setCell (.inl (by simp)) _
    obtain ⟨Z, hZ⟩ : ∃ Z, Z = (((w2).setCell ⟨R, 0, none⟩ (.int .i64 9)).setCell ⟨R, 1, none⟩ (.string ⟨#[]⟩)).setCell ⟨R, 2, none⟩ (.slice none 0 0) := ⟨_, rfl⟩
    rw [← hZ] at hz hkz ⊢
    obtain ⟨hz0, hz1, hz2⟩ := hz
    refine bodyPost_ret (ret3_mThere _ _ R (by kernel_rfl) hz0 hz1 hz2) rfl ?_
    exact ⟨rfl, kp_past (k01.trans k2) hkz hRlt⟩
  | false =>
    rw [hb] at hlk
    clear hno
    go_enter Tryd.func40, Tryd.ntmps40
    go_wp2_with fail
    rw [← HW0.out, ← HW1.out, ← HR.out]
    go_wp2_with fail
    refine wpB_begin 999 (Kp [] w1) (by kernel_rfl) (by exact (Kp.refl _ _).drew) (fun hHeld => ?_)
    refine wpB_take 0 _ ?_ rfl (by kernel_rfl) (fun _ _ _ h => h) rfl hHeld ?_ ?_
    rotate_left
    · (intro W hW; go_simp; try with_reducible rfl)
    try simp only [Act.put, List.setIfInBounds_toArray, List.set_cons_zero, List.set_cons_succ]
    refine wpB_take 1 _ ?_ rfl (by kernel_rfl) (fun _ _ _ h => h) rfl hHeld ?_ ?_
    rotate_left
    · (intro W hW; go_simp; try with_reducible rfl)
    try simp only [Act.put, List.setIfInBounds_toArray, List.set_cons_zero, List.set_cons_succ]
    refine wpB_take 2 _ ?_ rfl (by kernel_rfl) (fun _ _ _ h => h) rfl hHeld ?_ ?_
    rotate_left
    · (intro W hW; go_simp; try with_reducible rfl)
    try simp only [Act.put, List.setIfInBounds_toArray, List.set_cons_zero, List.set_cons_succ]
    refine wpB_take 3 _ ?_ rfl (by kernel_rfl) (fun _ _ _ h => h) rfl hHeld ?_ ?_
    rotate_left
    · (intro W hW; go_simp; try with_reducible rfl)
    try simp only [Act.put, List.setIfInBounds_toArray, List.set_cons_zero, List.set_cons_succ]
    refine wpB_take 4 _ ?_ rfl (by kernel_rfl) (fun _ _ _ h => h) rfl hHeld ?_ ?_
    rotate_left
    · (intro W hW; go_simp; try with_reducible rfl)
    try simp only [Act.put, List.setIfInBounds_toArray, List.set_cons_zero, List.set_cons_succ]
    refine wpB_take 5 _ ?_ rfl (by kernel_rfl) (fun _ _ _ h => h) rfl hHeld ?_ ?_
    rotate_left
    · (intro W hW; go_simp; try with_reducible rfl)
    try simp only [Act.put, List.setIfInBounds_toArray, List.set_cons_zero, List.set_cons_succ]
    refine wpB_take 6 _ ?_ rfl (by kernel_rfl) (fun _ _ _ h => h) rfl hHeld ?_ ?_
    rotate_left
    · (intro W hW; go_simp; try with_reducible rfl)
    try simp only [Act.put, List.setIfInBounds_toArray, List.set_cons_zero, List.set_cons_succ]
    refine wpB_take 7 _ ?_ rfl (by kernel_rfl) (fun _ _ _ h => h) rfl hHeld ?_ ?_
    rotate_left
    · (intro W hW; go_simp; try with_reducible rfl)
    try simp only [Act.put, List.setIfInBounds_toArray, List.set_cons_zero, List.set_cons_succ]
    refine wpB_take 8 _ ?_ rfl (by kernel_rfl) (fun _ _ _ h => h) rfl hHeld ?_ ?_
    rotate_left
    · (intro W hW; go_simp; try with_reducible rfl)
    try simp only [Act.put, List.setIfInBounds_toArray, List.set_cons_zero, List.set_cons_succ]
    refine wpB_take 9 _ ?_ rfl (by kernel_rfl) (fun _ _ _ h => h) rfl hHeld ?_ ?_
    rotate_left
    · (intro W hW; go_simp; try with_reducible rfl)
    try simp only [Act.put, List.setIfInBounds_toArray, List.set_cons_zero, List.set_cons_succ]
    refine wpB_step 10 _ rfl (by kernel_rfl) rfl rfl (fun K hK_ => ?_)
    go_simp
    refine hK_.out _ _ (by first | exact hHeld | exact hHeld.call ‹_› | exact hHeld.alloc _) (fun hHeld => ?_)
    clear hK_ K
    try simp only [Act.put, List.setIfInBounds_toArray, List.set_cons_zero, List.set_cons_succ]
    refine wpB_step 11 _ rfl (by kernel_rfl) rfl rfl (fun K hK_ => ?_)
    go_simp
    refine hK_.out _ _ (by exact ((Kp.refl _ _).alloc _).drew) (fun hHeld => ?_)
    clear hK_ K
    try simp only [Act.put, List.setIfInBounds_toArray, List.set_cons_zero, List.set_cons_succ]
    refine wpB_take 12 _ ?_ rfl (by kernel_rfl) (fun _ _ _ h => h) rfl hHeld ?_ ?_
    rotate_left
    · (intro W hW; go_simp; try with_reducible rfl)
    try simp only [Act.put, List.setIfInBounds_toArray, List.set_cons_zero, List.set_cons_succ]
    refine wpB_done (by kernel_rfl) ?_ _
    obtain ⟨w2, hw2⟩ : ∃ w2, w2 = (w1.alloc (.cells #[.string al.1, .bool al.2] 68)).drew := ⟨_, rfl⟩
    have bk : w2.heap[w1.heap.size]? = some (.cells #[.string al.1, .bool al.2] 68 (0, 0)) := by rw [hw2]; exact block_new _ _
    rw [← hw2] at hHeld ⊢
    have k2 := hHeld
    have h2 := h1.keep0 k2
    have b2 := (k2.block _ (lt_of_block b1) (by simp)).trans b1
    have q0 := cell_of_cells (o := 0) bk rfl
    have q1 := cell_of_cells (o := 1) bk rfl
    have z0 := cell_of_cells (o := 0) b2 rfl
    have z1 := cell_of_cells (o := 1) b2 rfl
    have z2 := cell_of_cells (o := 2) b2 rfl
    have zf0 := frozen_of_cells b2 0
    have zf1 := frozen_of_cells b2 1
    have zf2 := frozen_of_cells b2 2
    clear hHeld hw2 c0 cr0 cr1 cr2 hlk
    go_wp2_with fail
    have hz := box3Put' (b2) (.int .i64 9) (.string ⟨#[]⟩) (.slice none 0 0)
    have hkz : Kp [R] w2 (((w2.setCell ⟨R, 0, none⟩ (.int .i64 9)).setCell ⟨R, 1, none⟩ (.string ⟨#[]⟩)).setCell ⟨R, 2, none⟩ (.slice none 0 0)) := (((Kp.refl _ _).setCell (.inl (by simp)) _).setCell (.inl (by simp)) _).setCell (.inl (by simp)) _
    obtain ⟨Z, hZ⟩ : ∃ Z, Z = (((w2).setCell ⟨R, 0, none⟩ (.int .i64 9)).setCell ⟨R, 1, none⟩ (.string ⟨#[]⟩)).setCell ⟨R, 2, none⟩ (.slice none 0 0) := ⟨_, rfl⟩
    rw [← hZ] at hz hkz ⊢
    obtain ⟨hz0, hz1, hz2⟩ := hz
    refine bodyPost_ret (ret3_mThere _ _ R (by kernel_rfl) hz0 hz1 hz2) rfl ?_
    exact ⟨rfl, kp_past (k01.trans k2) hkz hRlt⟩
set_option maxHeartbeats 2000000 in
set_option maxRecDepth 20000 in
theorem mthere_get {mb eb : Nat} {M : Mdl}  (hs : Short M) (kind : Int) (k v : ByteArray) (hk : k.size ≤ 32) (w : World) (h : MdAt mb eb w M) (htab : Lib.TabIs Tryd.prog w "internal/strconv.uint64pow10" .u64 Lib.pow10Tab) (hyes : (aGet k M).isSome = true) (hgo : (M.at k).2 = false) :
    Calls Tryd.prog 40 #[Md.p mb, ReqV kind k v, (.func (.func 41) #[] #[])] w fun e w' => e = .returned (RespV 0 (M.at k).1 nilS) ∧ Kp [] w w' := by
  have hkm : k.size ≤ maxLen := by unfold maxLen; omega
  obtain ⟨w0, hw0⟩ : ∃ w0, w0 = w.alloc (.cells #[.int .i64 kind, .string k, .string v] 32) := ⟨_, rfl⟩
  have k0 : Kp [] w w0 := hw0 ▸ (Kp.refl _ _).alloc _
  have b0 : w0.heap[w.heap.size]? = some (.cells #[.int .i64 kind, .string k, .string v] 32 (0, 0)) := by rw [hw0]; exact block_new _ _
  obtain ⟨R, hR⟩ : ∃ R, R = w0.heap.size := ⟨_, rfl⟩
  have hR2 : R = w.heap.size + 1 := by rw [hR, hw0, World.size_alloc]
  obtain ⟨w1, hw1⟩ : ∃ w1, w1 = w0.alloc (.cells #[.int .i64 0, .string ⟨#[]⟩, .slice none 0 0] 37) := ⟨_, rfl⟩
  have k1 : Kp [] w0 w1 := hw1 ▸ (Kp.refl _ _).alloc _
  have b1 : w1.heap[R]? = some (.cells #[.int .i64 0, .string ⟨#[]⟩, .slice none 0 0] 37 (0, 0)) := by rw [hw1, hR]; exact block_new _ _
  have k01 := k0.trans k1
  have h1 := h.keep0 k01
  have hRlt : w.heap.size ≤ R := by omega
  have b01 := (k1.block _ (lt_of_block b0) (by simp)).trans b0
  have c0 := Kp.cellAt (X := []) (cell_of_cells (o := 0) h1.top rfl) (by simp)
  have cr0 := Kp.cellAt (X := []) (cell_of_cells (o := 0) (v := .int .i64 kind) b01 rfl) (by simp)
  have cr1 := Kp.cellAt (X := []) (cell_of_cells (o := 1) (v := .string k) b01 rfl) (by simp)
  have cr2 := Kp.cellAt (X := []) (cell_of_cells (o := 2) (v := .string v) b01 rfl) (by simp)
  have HW0 := Lib.hid hw0
  have HW1 := Lib.hid hw1
  have HR := Lib.hid hR2
  clear hw0 hw1 hR hR2 b01
  obtain ⟨al, hal⟩ : ∃ al, al = M.at k := ⟨_, rfl⟩
  have hlk := fun W (kk : Kp [] w1 W) => look_known (h1.keep0 kk) hs hkm true
  simp only [if_true, ← hal] at hlk
  rw [← hal] at hgo ⊢
  rw [hyes] at hlk
  have hv1 : al.1.size ≤ 384 := by
    rw [hal]
    unfold Mdl.at
    cases e : aGet k M with
    | none => decide
    | some q => exact (hs _ (aGet_mem e)).2
  obtain ⟨a1, ag⟩ := al
  simp only at hgo hv1 hlk ⊢
  subst hgo
  obtain ⟨al, hal2⟩ : ∃ al : ByteArray × Bool, al = (a1, false) := ⟨_, rfl⟩
  rw [show a1 = al.1 by rw [hal2], show false = al.2 by rw [hal2]] at hlk
  rw [show a1 = al.1 by rw [hal2]] at hv1 ⊢
  have hgo : al.2 = false := by rw [hal2]
  clear hal hal2
  have hF := fun W (kk : Kp [] w W) => mget1 al.1 W
  go_enter Tryd.func40, Tryd.ntmps40
  go_wp2_with fail
  rw [← HW0.out, ← HW1.out, ← HR.out]
  go_wp2_with fail
  refine wpB_begin 999 (Kp [] w1) (by kernel_rfl) (by exact (Kp.refl _ _).drew) (fun hHeld => ?_)
  refine wpB_take 0 _ ?_ rfl (by kernel_rfl) (fun _ _ _ h => h) rfl hHeld ?_ ?_
  rotate_left
  · (intro W hW; go_simp; try with_reducible rfl)
  try simp only [Act.put, List.setIfInBounds_toArray, List.set_cons_zero, List.set_cons_succ]
  refine wpB_take 1 _ ?_ rfl (by kernel_rfl) (fun _ _ _ h => h) rfl hHeld ?_ ?_
  rotate_left
  · (intro W hW; go_simp; try with_reducible rfl)
  try simp only [Act.put, List.setIfInBounds_toArray, List.set_cons_zero, List.set_cons_succ]
  refine wpB_take 2 _ ?_ rfl (by kernel_rfl) (fun _ _ _ h => h) rfl hHeld ?_ ?_
  rotate_left
  · (intro W hW; go_simp; try with_reducible rfl)
  try simp only [Act.put, List.setIfInBounds_toArray, List.set_cons_zero, List.set_cons_succ]
  refine wpB_take 3 _ ?_ rfl (by kernel_rfl) (fun _ _ _ h => h) rfl hHeld ?_ ?_
  rotate_left
  · (intro W hW; go_simp; try with_reducible rfl)
  try simp only [Act.put, List.setIfInBounds_toArray, List.set_cons_zero, List.set_cons_succ]
  refine wpB_take 4 _ ?_ rfl (by kernel_rfl) (fun _ _ _ h => h) rfl hHeld ?_ ?_
  rotate_left
  · (intro W hW; go_simp; try with_reducible rfl)
  try simp only [Act.put, List.setIfInBounds_toArray, List.set_cons_zero, List.set_cons_succ]
  refine wpB_take 5 _ ?_ rfl (by kernel_rfl) (fun _ _ _ h => h) rfl hHeld ?_ ?_
  rotate_left
  · (intro W hW; go_simp; try with_reducible rfl)
  try simp only [Act.put, List.setIfInBounds_toArray, List.set_cons_zero, List.set_cons_succ]
  refine wpB_take 6 _ ?_ rfl (by kernel_rfl) (fun _ _ _ h => h) rfl hHeld ?_ ?_
  rotate_left
  · (intro W hW; go_simp; try with_reducible rfl)
  try simp only [Act.put, List.setIfInBounds_toArray, List.set_cons_zero, List.set_cons_succ]
  refine wpB_take 7 _ ?_ rfl (by kernel_rfl) (fun _ _ _ h => h) rfl hHeld ?_ ?_
  rotate_left
  · (intro W hW; go_simp; try with_reducible rfl)
  try simp only [Act.put, List.setIfInBounds_toArray, List.set_cons_zero, List.set_cons_succ]
  refine wpB_take 8 _ ?_ rfl (by kernel_rfl) (fun _ _ _ h => h) rfl hHeld ?_ ?_
  rotate_left
  · (intro W hW; go_simp; try with_reducible rfl)
  try simp only [Act.put, List.setIfInBounds_toArray, List.set_cons_zero, List.set_cons_succ]
  refine wpB_take 9 _ ?_ rfl (by kernel_rfl) (fun _ _ _ h => h) rfl hHeld ?_ ?_
  rotate_left
  · (intro W hW; go_simp; try with_reducible rfl)
  try simp only [Act.put, List.setIfInBounds_toArray, List.set_cons_zero, List.set_cons_succ]
  refine wpB_step 10 _ rfl (by kernel_rfl) rfl rfl (fun K hK_ => ?_)
  go_simp
  refine hK_.out _ _ (by first | exact hHeld | exact hHeld.call ‹_› | exact hHeld.alloc _) (fun hHeld => ?_)
  clear hK_ K
  try simp only [Act.put, List.setIfInBounds_toArray, List.set_cons_zero, List.set_cons_succ]
  refine wpB_step 11 _ rfl (by kernel_rfl) rfl rfl (fun K hK_ => ?_)
  go_simp
  refine hK_.out _ _ (by exact ((Kp.refl _ _).alloc _).drew) (fun hHeld => ?_)
  clear hK_ K
  try simp only [Act.put, List.setIfInBounds_toArray, List.set_cons_zero, List.set_cons_succ]
  refine wpB_take 12 _ ?_ rfl (by kernel_rfl) (fun _ _ _ h => h) rfl hHeld ?_ ?_
  rotate_left
  · (intro W hW; go_simp; try with_reducible rfl)
  try simp only [Act.put, List.setIfInBounds_toArray, List.set_cons_zero, List.set_cons_succ]
  refine wpB_done (by kernel_rfl) ?_ _
  obtain ⟨w2, hw2⟩ : ∃ w2, w2 = (w1.alloc (.cells #[.string al.1, .bool false] 68)).drew := ⟨_, rfl⟩
  have bk : w2.heap[w1.heap.size]? = some (.cells #[.string al.1, .bool false] 68 (0, 0)) := by rw [hw2]; exact block_new _ _
  rw [← hw2] at hHeld ⊢
  have k2 := hHeld
  have h2 := h1.keep0 k2
  have b2 := (k2.block _ (lt_of_block b1) (by simp)).trans b1
  have q0 := cell_of_cells (o := 0) bk rfl
  have q1 := cell_of_cells (o := 1) bk rfl
  have z0 := cell_of_cells (o := 0) b2 rfl
  have z1 := cell_of_cells (o := 1) b2 rfl
  have z2 := cell_of_cells (o := 2) b2 rfl
  have zf0 := frozen_of_cells b2 0
  have zf1 := frozen_of_cells b2 1
  have zf2 := frozen_of_cells b2 2
  clear hHeld hw2 c0 cr0 cr1 cr2 hlk
  go_wp2_with fail
  refine (hF _ (k01.trans k2)).mono ?_
  rintro e w3 ⟨rfl, k3⟩
  have b3 := (k3.block _ (lt_of_block b2) (by simp)).trans b2
  clear z0 z1 z2 zf0 zf1 zf2 hF
  have z0 := cell_of_cells (o := 0) b3 rfl
  have z1 := cell_of_cells (o := 1) b3 rfl
  have z2 := cell_of_cells (o := 2) b3 rfl
  have zf0 := frozen_of_cells b3 0
  have zf1 := frozen_of_cells b3 1
  have zf2 := frozen_of_cells b3 2
  go_wp2_with fail
  have hz := box3Put' (b3) (.int .i64 0) (.string (al.1)) (.slice none 0 0)
  have hkz : Kp [R] w3 (((w3.setCell ⟨R, 0, none⟩ (.int .i64 0)).setCell ⟨R, 1, none⟩ (.string (al.1))).setCell ⟨R, 2, none⟩ (.slice none 0 0)) := (((Kp.refl _ _).setCell (.inl (by simp)) _).setCell (.inl (by simp)) _).setCell (.inl (by simp)) _
  obtain ⟨Z, hZ⟩ : ∃ Z, Z = (((w3).setCell ⟨R, 0, none⟩ (.int .i64 0)).setCell ⟨R, 1, none⟩ (.string (al.1))).setCell ⟨R, 2, none⟩ (.slice none 0 0) := ⟨_, rfl⟩
  rw [← hZ] at hz hkz ⊢
  obtain ⟨hz0, hz1, hz2⟩ := hz
  refine bodyPost_ret (ret3_mThere _ _ R (by kernel_rfl) hz0 hz1 hz2) rfl ?_
  exact ⟨rfl, kp_past ((k01.trans k2).trans k3) hkz hRlt⟩
set_option maxHeartbeats 2000000 in
set_option maxRecDepth 20000 in
theorem mthere_stat {mb eb : Nat} {M : Mdl} {f : ByteArray → ByteArray} (hf : SumOk f) (hs : Short M) (kind : Int) (k v : ByteArray) (hk : k.size ≤ 32) (w : World) (h : MdAt mb eb w M) (htab : Lib.TabIs Tryd.prog w "internal/strconv.uint64pow10" .u64 Lib.pow10Tab) (hyes : (aGet k M).isSome = true) (hgo : (M.at k).2 = false) :
    Calls Tryd.prog 40 #[Md.p mb, ReqV kind k v, (.func (.func 43) #[] #[])] w fun e w' => e = .returned (RespV 0 (statV f (M.at k).1) nilS) ∧ Kp [] w w' := by
  have hkm : k.size ≤ maxLen := by unfold maxLen; omega
  obtain ⟨w0, hw0⟩ : ∃ w0, w0 = w.alloc (.cells #[.int .i64 kind, .string k, .string v] 32) := ⟨_, rfl⟩
  have k0 : Kp [] w w0 := hw0 ▸ (Kp.refl _ _).alloc _
  have b0 : w0.heap[w.heap.size]? = some (.cells #[.int .i64 kind, .string k, .string v] 32 (0, 0)) := by rw [hw0]; exact block_new _ _
  obtain ⟨R, hR⟩ : ∃ R, R = w0.heap.size := ⟨_, rfl⟩
  have hR2 : R = w.heap.size + 1 := by rw [hR, hw0, World.size_alloc]
  obtain ⟨w1, hw1⟩ : ∃ w1, w1 = w0.alloc (.cells #[.int .i64 0, .string ⟨#[]⟩, .slice none 0 0] 37) := ⟨_, rfl⟩
  have k1 : Kp [] w0 w1 := hw1 ▸ (Kp.refl _ _).alloc _
  have b1 : w1.heap[R]? = some (.cells #[.int .i64 0, .string ⟨#[]⟩, .slice none 0 0] 37 (0, 0)) := by rw [hw1, hR]; exact block_new _ _
  have k01 := k0.trans k1
  have h1 := h.keep0 k01
  have hRlt : w.heap.size ≤ R := by omega
  have b01 := (k1.block _ (lt_of_block b0) (by simp)).trans b0
  have c0 := Kp.cellAt (X := []) (cell_of_cells (o := 0) h1.top rfl) (by simp)
  have cr0 := Kp.cellAt (X := []) (cell_of_cells (o := 0) (v := .int .i64 kind) b01 rfl) (by simp)
  have cr1 := Kp.cellAt (X := []) (cell_of_cells (o := 1) (v := .string k) b01 rfl) (by simp)
  have cr2 := Kp.cellAt (X := []) (cell_of_cells (o := 2) (v := .string v) b01 rfl) (by simp)
  have HW0 := Lib.hid hw0
  have HW1 := Lib.hid hw1
  have HR := Lib.hid hR2
  clear hw0 hw1 hR hR2 b01
  obtain ⟨al, hal⟩ : ∃ al, al = M.at k := ⟨_, rfl⟩
  have hlk := fun W (kk : Kp [] w1 W) => look_known (h1.keep0 kk) hs hkm true
  simp only [if_true, ← hal] at hlk
  rw [← hal] at hgo ⊢
  rw [hyes] at hlk
  have hv1 : al.1.size ≤ 384 := by
    rw [hal]
    unfold Mdl.at
    cases e : aGet k M with
    | none => decide
    | some q => exact (hs _ (aGet_mem e)).2
  obtain ⟨a1, ag⟩ := al
  simp only at hgo hv1 hlk ⊢
  subst hgo
  obtain ⟨al, hal2⟩ : ∃ al : ByteArray × Bool, al = (a1, false) := ⟨_, rfl⟩
  rw [show a1 = al.1 by rw [hal2], show false = al.2 by rw [hal2]] at hlk
  rw [show a1 = al.1 by rw [hal2]] at hv1 ⊢
  have hgo : al.2 = false := by rw [hal2]
  clear hal hal2
  have hF := fun W (kk : Kp [] w W) => mstat1 hf al.1 hv1 W (htab.keep kk)
  go_enter Tryd.func40, Tryd.ntmps40
  go_wp2_with fail
  rw [← HW0.out, ← HW1.out, ← HR.out]
  go_wp2_with fail
  refine wpB_begin 999 (Kp [] w1) (by kernel_rfl) (by exact (Kp.refl _ _).drew) (fun hHeld => ?_)
  refine wpB_take 0 _ ?_ rfl (by kernel_rfl) (fun _ _ _ h => h) rfl hHeld ?_ ?_
  rotate_left
  · (intro W hW; go_simp; try with_reducible rfl)
  try simp only [Act.put, List.setIfInBounds_toArray, List.set_cons_zero, List.set_cons_succ]
  refine wpB_take 1 _ ?_ rfl (by kernel_rfl) (fun _ _ _ h => h) rfl hHeld ?_ ?_
  rotate_left
  · (intro W hW; go_simp; try with_reducible rfl)
  try simp only [Act.put, List.setIfInBounds_toArray, List.set_cons_zero, List.set_cons_succ]
  refine wpB_take 2 _ ?_ rfl (by kernel_rfl) (fun _ _ _ h => h) rfl hHeld ?_ ?_
  rotate_left
  · (intro W hW; go_simp; try with_reducible rfl)
  try simp only [Act.put, List.setIfInBounds_toArray, List.set_cons_zero, List.set_cons_succ]
  refine wpB_take 3 _ ?_ rfl (by kernel_rfl) (fun _ _ _ h => h) rfl hHeld ?_ ?_
  rotate_left
  · (intro W hW; go_simp; try with_reducible rfl)
  try simp only [Act.put, List.setIfInBounds_toArray, List.set_cons_zero, List.set_cons_succ]
  refine wpB_take 4 _ ?_ rfl (by kernel_rfl) (fun _ _ _ h => h) rfl hHeld ?_ ?_
  rotate_left
  · (intro W hW; go_simp; try with_reducible rfl)
  try simp only [Act.put, List.setIfInBounds_toArray, List.set_cons_zero, List.set_cons_succ]
  refine wpB_take 5 _ ?_ rfl (by kernel_rfl) (fun _ _ _ h => h) rfl hHeld ?_ ?_
  rotate_left
  · (intro W hW; go_simp; try with_reducible rfl)
  try simp only [Act.put, List.setIfInBounds_toArray, List.set_cons_zero, List.set_cons_succ]
  refine wpB_take 6 _ ?_ rfl (by kernel_rfl) (fun _ _ _ h => h) rfl hHeld ?_ ?_
  rotate_left
  · (intro W hW; go_simp; try with_reducible rfl)
  try simp only [Act.put, List.setIfInBounds_toArray, List.set_cons_zero, List.set_cons_succ]
  refine wpB_take 7 _ ?_ rfl (by kernel_rfl) (fun _ _ _ h => h) rfl hHeld ?_ ?_
  rotate_left
  · (intro W hW; go_simp; try with_reducible rfl)
  try simp only [Act.put, List.setIfInBounds_toArray, List.set_cons_zero, List.set_cons_succ]
  refine wpB_take 8 _ ?_ rfl (by kernel_rfl) (fun _ _ _ h => h) rfl hHeld ?_ ?_
  rotate_left
  · (intro W hW; go_simp; try with_reducible rfl)
  try simp only [Act.put, List.setIfInBounds_toArray, List.set_cons_zero, List.set_cons_succ]
  refine wpB_take 9 _ ?_ rfl (by kernel_rfl) (fun _ _ _ h => h) rfl hHeld ?_ ?_
  rotate_left
  · (intro W hW; go_simp; try with_reducible rfl)
  try simp only [Act.put, List.setIfInBounds_toArray, List.set_cons_zero, List.set_cons_succ]
  refine wpB_step 10 _ rfl (by kernel_rfl) rfl rfl (fun K hK_ => ?_)
  go_simp
  refine hK_.out _ _ (by first | exact hHeld | exact hHeld.call ‹_› | exact hHeld.alloc _) (fun hHeld => ?_)
  clear hK_ K
  try simp only [Act.put, List.setIfInBounds_toArray, List.set_cons_zero, List.set_cons_succ]
  refine wpB_step 11 _ rfl (by kernel_rfl) rfl rfl (fun K hK_ => ?_)
  go_simp
  refine hK_.out _ _ (by exact ((Kp.refl _ _).alloc _).drew) (fun hHeld => ?_)
  clear hK_ K
  try simp only [Act.put, List.setIfInBounds_toArray, List.set_cons_zero, List.set_cons_succ]
  refine wpB_take 12 _ ?_ rfl (by kernel_rfl) (fun _ _ _ h => h) rfl hHeld ?_ ?_
  rotate_left
  · (intro W hW; go_simp; try with_reducible rfl)
  try simp only [Act.put, List.setIfInBounds_toArray, List.set_cons_zero, List.set_cons_succ]
  refine wpB_done (by kernel_rfl) ?_ _
  obtain ⟨w2, hw2⟩ : ∃ w2, w2 = (w1.alloc (.cells #[.string al.1, .bool false] 68)).drew := ⟨_, rfl⟩
  have bk : w2.heap[w1.heap.size]? = some (.cells #[.string al.1, .bool false] 68 (0, 0)) := by rw [hw2]; exact block_new _ _
  rw [← hw2] at hHeld ⊢
  have k2 := hHeld
  have h2 := h1.keep0 k2
  have b2 := (k2.block _ (lt_of_block b1) (by simp)).trans b1
  have q0 := cell_of_cells (o := 0) bk rfl
  have q1 := cell_of_cells (o := 1) bk rfl
  have z0 := cell_of_cells (o := 0) b2 rfl
  have z1 := cell_of_cells (o := 1) b2 rfl
  have z2 := cell_of_cells (o := 2) b2 rfl
  have zf0 := frozen_of_cells b2 0
  have zf1 := frozen_of_cells b2 1
  have zf2 := frozen_of_cells b2 2
  clear hHeld hw2 c0 cr0 cr1 cr2 hlk
  go_wp2_with fail
  refine (hF _ (k01.trans k2)).mono ?_
  rintro e w3 ⟨rfl, k3⟩
  have b3 := (k3.block _ (lt_of_block b2) (by simp)).trans b2
  clear z0 z1 z2 zf0 zf1 zf2 hF
  have z0 := cell_of_cells (o := 0) b3 rfl
  have z1 := cell_of_cells (o := 1) b3 rfl
  have z2 := cell_of_cells (o := 2) b3 rfl
  have zf0 := frozen_of_cells b3 0
  have zf1 := frozen_of_cells b3 1
  have zf2 := frozen_of_cells b3 2
  go_wp2_with fail
  have hz := box3Put' (b3) (.int .i64 0) (.string (statV f al.1)) (.slice none 0 0)
  have hkz : Kp [R] w3 (((w3.setCell ⟨R, 0, none⟩ (.int .i64 0)).setCell ⟨R, 1, none⟩ (.string (statV f al.1))).setCell ⟨R, 2, none⟩ (.slice none 0 0)) := (((Kp.refl _ _).setCell (.inl (by simp)) _).setCell (.inl (by simp)) _).setCell (.inl (by simp)) _
  obtain ⟨Z, hZ⟩ : ∃ Z, Z = (((w3).setCell ⟨R, 0, none⟩ (.int .i64 0)).setCell ⟨R, 1, none⟩ (.string (statV f al.1))).setCell ⟨R, 2, none⟩ (.slice none 0 0) := ⟨_, rfl⟩
  rw [← hZ] at hz hkz ⊢
  obtain ⟨hz0, hz1, hz2⟩ := hz
  refine bodyPost_ret (ret3_mThere _ _ R (by kernel_rfl) hz0 hz1 hz2) rfl ?_
  exact ⟨rfl, kp_past ((k01.trans k2).trans k3) hkz hRlt⟩
set_option maxHeartbeats 2000000 in
set_option maxRecDepth 20000 in
theorem mthere_remove {mb eb bm br : Nat} {M : Mdl} (hs : Short M) (kind : Int) (k v : ByteArray) (hk : k.size ≤ 32) (w : World) (h : MdAt mb eb w M) (hm : w.cell? ⟨bm, 0, none⟩ = some (Md.p mb)) (hr : w.cell? ⟨br, 1, none⟩ = some (.string k)) (hyes : (aGet k M).isSome = true) (hgo : (M.at k).2 = false) :
    Calls Tryd.prog 40 #[Md.p mb, ReqV kind k v, (.func (.func 42) #[] #[.pointer (some ⟨bm, 0, none⟩), .pointer (some ⟨br, 0, none⟩)])] w fun e w' => e = .returned (RespV 0 E0 nilS) ∧ MdAt mb eb w' (aPut k (E0, true) M) ∧ Kp [eb] w w' := by
  have hkm : k.size ≤ maxLen := by unfold maxLen; omega
  have hlt := h.lts
  obtain ⟨w0, hw0⟩ : ∃ w0, w0 = w.alloc (.cells #[.int .i64 kind, .string k, .string v] 32) := ⟨_, rfl⟩
  have k0 : Kp [] w w0 := hw0 ▸ (Kp.refl _ _).alloc _
  have b0 : w0.heap[w.heap.size]? = some (.cells #[.int .i64 kind, .string k, .string v] 32 (0, 0)) := by rw [hw0]; exact block_new _ _
  obtain ⟨R, hR⟩ : ∃ R, R = w0.heap.size := ⟨_, rfl⟩
  have hR2 : R = w.heap.size + 1 := by rw [hR, hw0, World.size_alloc]
  obtain ⟨w1, hw1⟩ : ∃ w1, w1 = w0.alloc (.cells #[.int .i64 0, .string ⟨#[]⟩, .slice none 0 0] 37) := ⟨_, rfl⟩
  have k1 : Kp [] w0 w1 := hw1 ▸ (Kp.refl _ _).alloc _
  have b1 : w1.heap[R]? = some (.cells #[.int .i64 0, .string ⟨#[]⟩, .slice none 0 0] 37 (0, 0)) := by rw [hw1, hR]; exact block_new _ _
  have k01 := k0.trans k1
  have h1 := h.keep0 k01
  have hRlt : w.heap.size ≤ R := by omega
  have b01 := (k1.block _ (lt_of_block b0) (by simp)).trans b0
  have c0 := Kp.cellAt (X := []) (cell_of_cells (o := 0) h1.top rfl) (by simp)
  have cr0 := Kp.cellAt (X := []) (cell_of_cells (o := 0) (v := .int .i64 kind) b01 rfl) (by simp)
  have cr1 := Kp.cellAt (X := []) (cell_of_cells (o := 1) (v := .string k) b01 rfl) (by simp)
  have cr2 := Kp.cellAt (X := []) (cell_of_cells (o := 2) (v := .string v) b01 rfl) (by simp)
  have HW0 := Lib.hid hw0
  have HW1 := Lib.hid hw1
  have HR := Lib.hid hR2
  clear hw0 hw1 hR hR2 b01
  obtain ⟨al, hal⟩ : ∃ al, al = M.at k := ⟨_, rfl⟩
  have hlk := fun W (kk : Kp [] w1 W) => look_known (h1.keep0 kk) hs hkm true
  simp only [if_true, ← hal] at hlk
  rw [← hal] at hgo
  rw [hyes] at hlk
  clear hal
  have hF := fun W (kk : Kp [] w W) => mremove1 hs al.1 k hk W (h.keep0 kk) ((kk.cell (lt_of_cell hm) (by simp)).trans hm) ((kk.cell (lt_of_cell hr) (by simp)).trans hr)
  clear hm hr
  go_enter Tryd.func40, Tryd.ntmps40
  go_wp2_with fail
  rw [← HW0.out, ← HW1.out, ← HR.out]
  go_wp2_with fail
  refine wpB_begin 999 (Kp [] w1) (by kernel_rfl) (by exact (Kp.refl _ _).drew) (fun hHeld => ?_)
  refine wpB_take 0 _ ?_ rfl (by kernel_rfl) (fun _ _ _ h => h) rfl hHeld ?_ ?_
  rotate_left
  · (intro W hW; go_simp; try with_reducible rfl)
  try simp only [Act.put, List.setIfInBounds_toArray, List.set_cons_zero, List.set_cons_succ]
  refine wpB_take 1 _ ?_ rfl (by kernel_rfl) (fun _ _ _ h => h) rfl hHeld ?_ ?_
  rotate_left
  · (intro W hW; go_simp; try with_reducible rfl)
  try simp only [Act.put, List.setIfInBounds_toArray, List.set_cons_zero, List.set_cons_succ]
  refine wpB_take 2 _ ?_ rfl (by kernel_rfl) (fun _ _ _ h => h) rfl hHeld ?_ ?_
  rotate_left
  · (intro W hW; go_simp; try with_reducible rfl)
  try simp only [Act.put, List.setIfInBounds_toArray, List.set_cons_zero, List.set_cons_succ]
  refine wpB_take 3 _ ?_ rfl (by kernel_rfl) (fun _ _ _ h => h) rfl hHeld ?_ ?_
  rotate_left
  · (intro W hW; go_simp; try with_reducible rfl)
  try simp only [Act.put, List.setIfInBounds_toArray, List.set_cons_zero, List.set_cons_succ]
  refine wpB_take 4 _ ?_ rfl (by kernel_rfl) (fun _ _ _ h => h) rfl hHeld ?_ ?_
  rotate_left
  · (intro W hW; go_simp; try with_reducible rfl)
  try simp only [Act.put, List.setIfInBounds_toArray, List.set_cons_zero, List.set_cons_succ]
  refine wpB_take 5 _ ?_ rfl (by kernel_rfl) (fun _ _ _ h => h) rfl hHeld ?_ ?_
  rotate_left
  · (intro W hW; go_simp; try with_reducible rfl)
  try simp only [Act.put, List.setIfInBounds_toArray, List.set_cons_zero, List.set_cons_succ]
  refine wpB_take 6 _ ?_ rfl (by kernel_rfl) (fun _ _ _ h => h) rfl hHeld ?_ ?_
  rotate_left
  · (intro W hW; go_simp; try with_reducible rfl)
  try simp only [Act.put, List.setIfInBounds_toArray, List.set_cons_zero, List.set_cons_succ]
  refine wpB_take 7 _ ?_ rfl (by kernel_rfl) (fun _ _ _ h => h) rfl hHeld ?_ ?_
  rotate_left
  · (intro W hW; go_simp; try with_reducible rfl)
  try simp only [Act.put, List.setIfInBounds_toArray, List.set_cons_zero, List.set_cons_succ]
  refine wpB_take 8 _ ?_ rfl (by kernel_rfl) (fun _ _ _ h => h) rfl hHeld ?_ ?_
  rotate_left
  · (intro W hW; go_simp; try with_reducible rfl)
  try simp only [Act.put, List.setIfInBounds_toArray, List.set_cons_zero, List.set_cons_succ]
  refine wpB_take 9 _ ?_ rfl (by kernel_rfl) (fun _ _ _ h => h) rfl hHeld ?_ ?_
  rotate_left
  · (intro W hW; go_simp; try with_reducible rfl)
  try simp only [Act.put, List.setIfInBounds_toArray, List.set_cons_zero, List.set_cons_succ]
  refine wpB_step 10 _ rfl (by kernel_rfl) rfl rfl (fun K hK_ => ?_)
  go_simp
  refine hK_.out _ _ (by first | exact hHeld | exact hHeld.call ‹_› | exact hHeld.alloc _) (fun hHeld => ?_)
  clear hK_ K
  try simp only [Act.put, List.setIfInBounds_toArray, List.set_cons_zero, List.set_cons_succ]
  refine wpB_step 11 _ rfl (by kernel_rfl) rfl rfl (fun K hK_ => ?_)
  go_simp
  refine hK_.out _ _ (by exact ((Kp.refl _ _).alloc _).drew) (fun hHeld => ?_)
  clear hK_ K
  try simp only [Act.put, List.setIfInBounds_toArray, List.set_cons_zero, List.set_cons_succ]
  refine wpB_take 12 _ ?_ rfl (by kernel_rfl) (fun _ _ _ h => h) rfl hHeld ?_ ?_
  rotate_left
  · (intro W hW; go_simp; try with_reducible rfl)
  try simp only [Act.put, List.setIfInBounds_toArray, List.set_cons_zero, List.set_cons_succ]
  refine wpB_done (by kernel_rfl) ?_ _
  obtain ⟨w2, hw2⟩ : ∃ w2, w2 = (w1.alloc (.cells #[.string al.1, .bool false] 68)).drew := ⟨_, rfl⟩
  have bk : w2.heap[w1.heap.size]? = some (.cells #[.string al.1, .bool false] 68 (0, 0)) := by rw [hw2]; exact block_new _ _
  rw [← hw2] at hHeld ⊢
  have k2 := hHeld
  have h2 := h1.keep0 k2
  have b2 := (k2.block _ (lt_of_block b1) (by simp)).trans b1
  have q0 := cell_of_cells (o := 0) bk rfl
  have q1 := cell_of_cells (o := 1) bk rfl
  have z0 := cell_of_cells (o := 0) b2 rfl
  have z1 := cell_of_cells (o := 1) b2 rfl
  have z2 := cell_of_cells (o := 2) b2 rfl
  have zf0 := frozen_of_cells b2 0
  have zf1 := frozen_of_cells b2 1
  have zf2 := frozen_of_cells b2 2
  clear hHeld hw2 c0 cr0 cr1 cr2 hlk
  go_wp2_with fail
  refine (hF _ (k01.trans k2)).mono ?_
  rintro e w3 ⟨rfl, hM3, k3⟩
  have b3 := (k3.block _ (lt_of_block b2) (by simp only [List.mem_singleton]; omega)).trans b2
  clear z0 z1 z2 zf0 zf1 zf2 hF
  have z0 := cell_of_cells (o := 0) b3 rfl
  have z1 := cell_of_cells (o := 1) b3 rfl
  have z2 := cell_of_cells (o := 2) b3 rfl
  have zf0 := frozen_of_cells b3 0
  have zf1 := frozen_of_cells b3 1
  have zf2 := frozen_of_cells b3 2
  go_wp2_with fail
  have hz := box3Put' (b3) (.int .i64 0) (.string ⟨#[]⟩) (.slice none 0 0)
  have hkz : Kp [R] w3 (((w3.setCell ⟨R, 0, none⟩ (.int .i64 0)).setCell ⟨R, 1, none⟩ (.string ⟨#[]⟩)).setCell ⟨R, 2, none⟩ (.slice none 0 0)) := (((Kp.refl _ _).setCell (.inl (by simp)) _).setCell (.inl (by simp)) _).setCell (.inl (by simp)) _
  obtain ⟨Z, hZ⟩ : ∃ Z, Z = (((w3).setCell ⟨R, 0, none⟩ (.int .i64 0)).setCell ⟨R, 1, none⟩ (.string ⟨#[]⟩)).setCell ⟨R, 2, none⟩ (.slice none 0 0) := ⟨_, rfl⟩
  rw [← hZ] at hz hkz ⊢
  obtain ⟨hz0, hz1, hz2⟩ := hz
  refine bodyPost_ret (ret3_mThere _ _ R (by kernel_rfl) hz0 hz1 hz2) rfl ?_
  have hkw := kp_past (((k01.trans k2).weaken (Y := [eb]) (fun _ _ hm => by cases hm)).trans k3) hkz hRlt
  exact ⟨rfl, hM3.keep hkz (by simp only [List.mem_singleton]; omega) (by simp only [List.mem_singleton]; omega), hkw⟩
end Go.Proofs.YtlomniffpjndfaaDoor
