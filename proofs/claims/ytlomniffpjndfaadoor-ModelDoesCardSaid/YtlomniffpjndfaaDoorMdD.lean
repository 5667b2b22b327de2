/-
  A model's get, remove, stat.
-/
import Derived.Test.YtlomniffpjndfaaDoorMdC
namespace Go.Proofs.YtlomniffpjndfaaDoor
open Go.RowKit Go.ChangeMaps Go.Maps Go.WideShapes Go.WideMaps Go.WideElems Go.MapKept Go.ChangeShapes

/-- is a key there? -/
def Mdl.has (M : Mdl) (k : ByteArray) : Bool := (aGet k M).isSome && !(M.at k).2
theorem has_true {M : Mdl} {k : ByteArray} (h : M.has k = true) : (aGet k M).isSome = true ∧ (M.at k).2 = false := by
  unfold Mdl.has at h
  rw [Bool.and_eq_true, Bool.not_eq_true'] at h
  exact h
theorem has_false {M : Mdl} {k : ByteArray} (h : M.has k = false) : (aGet k M).isSome = false ∨ (M.at k).2 = true := by
  unfold Mdl.has at h
  rw [Bool.and_eq_false_iff, Bool.not_eq_false'] at h
  exact h
set_option maxHeartbeats 2000000 in
set_option maxRecDepth 20000 in
theorem mget {mb eb : Nat} {M : Mdl}  (hs : Short M) (kind : Int) (k v : ByteArray) (hk : k.size ≤ 32) (w : World) (h : MdAt mb eb w M) (htab : Lib.TabIs Tryd.prog w "internal/strconv.uint64pow10" .u64 Lib.pow10Tab) :
    Calls Tryd.prog 22 #[Md.p mb, ReqV kind k v] w fun e w' => e = .returned (if M.has k then RespV 0 ((M.at k).1) nilS else RespV 9 E0 nilS) ∧ Kp [] w w' := by
  obtain ⟨w0, hw0⟩ : ∃ w0, w0 = w.alloc (.cells #[.int .i64 kind, .string k, .string v] 32) := ⟨_, rfl⟩
  have k0 : Kp [] w w0 := hw0 ▸ (Kp.refl _ _).alloc _
  have b0 : w0.heap[w.heap.size]? = some (.cells #[.int .i64 kind, .string k, .string v] 32 (0, 0)) := by rw [hw0]; exact block_new _ _
  obtain ⟨R, hR⟩ : ∃ R, R = w0.heap.size := ⟨_, rfl⟩
  have hR2 : R = w.heap.size + 1 := by rw [hR, hw0, World.size_alloc]
  obtain ⟨w1, hw1⟩ : ∃ w1, w1 = w0.alloc (.cells #[.int .i64 0, .string ⟨#[]⟩, .slice none 0 0] 37) := ⟨_, rfl⟩
  have k1 : Kp [] w0 w1 := hw1 ▸ (Kp.refl _ _).alloc _
  have b1 : w1.heap[R]? = some (.cells #[.int .i64 0, .string ⟨#[]⟩, .slice none 0 0] 37 (0, 0)) := by rw [hw1, hR]; exact block_new _ _
  have k01 := k0.trans k1
  have h1 := h.keep0 k01
  have hRlt : w.heap.size ≤ R := by omega
  have b01 := (k1.block _ (lt_of_block b0) (by simp)).trans b0
  have c0 := Kp.cellAt (X := []) (cell_of_cells (o := 0) h1.top rfl) (by simp)
  have cr0 := Kp.cellAt (X := []) (cell_of_cells (o := 0) (v := .int .i64 kind) b01 rfl) (by simp)
  have cr1 := Kp.cellAt (X := []) (cell_of_cells (o := 1) (v := .string k) b01 rfl) (by simp)
  have cr2 := Kp.cellAt (X := []) (cell_of_cells (o := 2) (v := .string v) b01 rfl) (by simp)
  have HW0 := Lib.hid hw0
  have HW1 := Lib.hid hw1
  have HR := Lib.hid hR2
  clear hw0 hw1 hR hR2 b01
  cases hb : M.has k with
  | true =>
    obtain ⟨hy, hg⟩ := has_true hb
    have hc := mthere_get hs kind k v hk w1 h1 (htab.keep k01) hy hg
    simp only [if_true]
    clear hb
    go_enter Tryd.func22, Tryd.ntmps22
    go_wp2_with fail
    rw [← HW0.out, ← HW1.out, ← HR.out]
    go_wp2_with fail
    refine hc.mono ?_
    rintro e w2 ⟨rfl, k2⟩
    have b2 := (k2.block _ (lt_of_block b1) (by simp)).trans b1
    have z0 := cell_of_cells (o := 0) b2 rfl
    have z1 := cell_of_cells (o := 1) b2 rfl
    have z2 := cell_of_cells (o := 2) b2 rfl
    have zf0 := frozen_of_cells b2 0
    have zf1 := frozen_of_cells b2 1
    have zf2 := frozen_of_cells b2 2
    clear hc
    go_wp2_with fail
    have hz := box3Put' (b2) (.int .i64 0) (.string ((M.at k).1)) (.slice none 0 0)
    have hkz : Kp [R] w2 (((w2.setCell ⟨R, 0, none⟩ (.int .i64 0)).setCell ⟨R, 1, none⟩ (.string ((M.at k).1))).setCell ⟨R, 2, none⟩ (.slice none 0 0)) := (((Kp.refl _ _).setCell (.inl (by simp)) _).setCell (.inl (by simp)) _).setCell (.inl (by simp)) _
    obtain ⟨Z, hZ⟩ : ∃ Z, Z = (((w2).setCell ⟨R, 0, none⟩ (.int .i64 0)).setCell ⟨R, 1, none⟩ (.string ((M.at k).1))).setCell ⟨R, 2, none⟩ (.slice none 0 0) := ⟨_, rfl⟩
    rw [← hZ] at hz hkz ⊢
    obtain ⟨hz0, hz1, hz2⟩ := hz
    refine bodyPost_ret (ret3_mGet _ _ R (by kernel_rfl) hz0 hz1 hz2) rfl ?_
    exact ⟨rfl, kp_past (k01.trans k2) hkz hRlt⟩
  | false =>
    have hc := fun F => mthere_no hs kind k v F hk w1 h1 (has_false hb)
    simp only [Bool.false_eq_true, if_false]
    clear hb
    go_enter Tryd.func22, Tryd.ntmps22
    go_wp2_with fail
    rw [← HW0.out, ← HW1.out, ← HR.out]
    go_wp2_with fail
    refine (hc _).mono ?_
    rintro e w2 ⟨rfl, k2⟩
    have b2 := (k2.block _ (lt_of_block b1) (by simp)).trans b1
    have z0 := cell_of_cells (o := 0) b2 rfl
    have z1 := cell_of_cells (o := 1) b2 rfl
    have z2 := cell_of_cells (o := 2) b2 rfl
    have zf0 := frozen_of_cells b2 0
    have zf1 := frozen_of_cells b2 1
    have zf2 := frozen_of_cells b2 2
    clear hc
    go_wp2_with fail
    have hz := box3Put' (b2) (.int .i64 9) (.string ⟨#[]⟩) (.slice none 0 0)
    have hkz : Kp [R] w2 (((w2.setCell ⟨R, 0, none⟩ (.int .i64 9)).setCell ⟨R, 1, none⟩ (.string ⟨#[]⟩)).setCell ⟨R, 2, none⟩ (.slice none 0 0)) := (((Kp.refl _ _).setCell (.inl (by simp)) _).setCell (.inl (by simp)) _).setCell (.inl (by simp)) _
    obtain ⟨Z, hZ⟩ : ∃ Z, Z = (((w2).setCell ⟨R, 0, none⟩ (.int .i64 9)).setCell ⟨R, 1, none⟩ (.string ⟨#[]⟩)).setCell ⟨R, 2, none⟩ (.slice none 0 0) := ⟨_, rfl⟩
    rw [← hZ] at hz hkz ⊢
    obtain ⟨hz0, hz1, hz2⟩ := hz
    refine bodyPost_ret (ret3_mGet _ _ R (by kernel_rfl) hz0 hz1 hz2) rfl ?_
    exact ⟨rfl, kp_past (k01.trans k2) hkz hRlt⟩
set_option maxHeartbeats 2000000 in
set_option maxRecDepth 20000 in
theorem mstat {mb eb : Nat} {M : Mdl} {f : ByteArray → ByteArray} (hf : SumOk f) (hs : Short M) (kind : Int) (k v : ByteArray) (hk : k.size ≤ 32) (w : World) (h : MdAt mb eb w M) (htab : Lib.TabIs Tryd.prog w "internal/strconv.uint64pow10" .u64 Lib.pow10Tab) :
    Calls Tryd.prog 24 #[Md.p mb, ReqV kind k v] w fun e w' => e = .returned (if M.has k then RespV 0 (statV f (M.at k).1) nilS else RespV 9 E0 nilS) ∧ Kp [] w w' := by
  obtain ⟨w0, hw0⟩ : ∃ w0, w0 = w.alloc (.cells #[.int .i64 kind, .string k, .string v] 32) := ⟨_, rfl⟩
  have k0 : Kp [] w w0 := hw0 ▸ (Kp.refl _ _).alloc _
  have b0 : w0.heap[w.heap.size]? = some (.cells #[.int .i64 kind, .string k, .string v] 32 (0, 0)) := by rw [hw0]; exact block_new _ _
  obtain ⟨R, hR⟩ : ∃ R, R = w0.heap.size := ⟨_, rfl⟩
  have hR2 : R = w.heap.size + 1 := by rw [hR, hw0, World.size_alloc]
  obtain ⟨w1, hw1⟩ : ∃ w1, w1 = w0.alloc (.cells #[.int .i64 0, .string ⟨#[]⟩, .slice none 0 0] 37) := ⟨_, rfl⟩
  have k1 : Kp [] w0 w1 := hw1 ▸ (Kp.refl _ _).alloc _
  have b1 : w1.heap[R]? = some (.cells #[.int .i64 0, .string ⟨#[]⟩, .slice none 0 0] 37 (0, 0)) := by rw [hw1, hR]; exact block_new _ _
  have k01 := k0.trans k1
  have h1 := h.keep0 k01
  have hRlt : w.heap.size ≤ R := by omega
  have b01 := (k1.block _ (lt_of_block b0) (by simp)).trans b0
  have c0 := Kp.cellAt (X := []) (cell_of_cells (o := 0) h1.top rfl) (by simp)
  have cr0 := Kp.cellAt (X := []) (cell_of_cells (o := 0) (v := .int .i64 kind) b01 rfl) (by simp)
  have cr1 := Kp.cellAt (X := []) (cell_of_cells (o := 1) (v := .string k) b01 rfl) (by simp)
  have cr2 := Kp.cellAt (X := []) (cell_of_cells (o := 2) (v := .string v) b01 rfl) (by simp)
  have HW0 := Lib.hid hw0
  have HW1 := Lib.hid hw1
  have HR := Lib.hid hR2
  clear hw0 hw1 hR hR2 b01
  cases hb : M.has k with
  | true =>
    obtain ⟨hy, hg⟩ := has_true hb
    have hc := mthere_stat hf hs kind k v hk w1 h1 (htab.keep k01) hy hg
    simp only [if_true]
    clear hb
    go_enter Tryd.func24, Tryd.ntmps24
    go_wp2_with fail
    rw [← HW0.out, ← HW1.out, ← HR.out]
    go_wp2_with fail
    refine hc.mono ?_
    rintro e w2 ⟨rfl, k2⟩
    have b2 := (k2.block _ (lt_of_block b1) (by simp)).trans b1
    have z0 := cell_of_cells (o := 0) b2 rfl
    have z1 := cell_of_cells (o := 1) b2 rfl
    have z2 := cell_of_cells (o := 2) b2 rfl
    have zf0 := frozen_of_cells b2 0
    have zf1 := frozen_of_cells b2 1
    have zf2 := frozen_of_cells b2 2
    clear hc
    go_wp2_with fail
    have hz := box3Put' (b2) (.int .i64 0) (.string (statV f (M.at k).1)) (.slice none 0 0)
    have hkz : Kp [R] w2 (((w2.setCell ⟨R, 0, none⟩ (.int .i64 0)).setCell ⟨R, 1, none⟩ (.string (statV f (M.at k).1))).setCell ⟨R, 2, none⟩ (.slice none 0 0)) := (((Kp.refl _ _).setCell (.inl (by simp)) _).setCell (.inl (by simp)) _).setCell (.inl (by simp)) _
    obtain ⟨Z, hZ⟩ : ∃ Z, Z = (((w2).setCell ⟨R, 0, none⟩ (.int .i64 0)).setCell ⟨R, 1, none⟩ (.string (statV f (M.at k).1))).setCell ⟨R, 2, none⟩ (.slice none 0 0) := ⟨_, rfl⟩
    rw [← hZ] at hz hkz ⊢
    obtain ⟨hz0, hz1, hz2⟩ := hz
    refine bodyPost_ret (ret3_mStat _ _ R (by kernel_rfl) hz0 hz1 hz2) rfl ?_
    exact ⟨rfl, kp_past (k01.trans k2) hkz hRlt⟩
  | false =>
    have hc := fun F => mthere_no hs kind k v F hk w1 h1 (has_false hb)
    simp only [Bool.false_eq_true, if_false]
    clear hb
    go_enter Tryd.func24, Tryd.ntmps24
    go_wp2_with fail
    rw [← HW0.out, ← HW1.out, ← HR.out]
    go_wp2_with fail
    refine (hc _).mono ?_
    rintro e w2 ⟨rfl, k2⟩
    have b2 := (k2.block _ (lt_of_block b1) (by simp)).trans b1
    have z0 := cell_of_cells (o := 0) b2 rfl
    have z1 := cell_of_cells (o := 1) b2 rfl
    have z2 := cell_of_cells (o := 2) b2 rfl
    have zf0 := frozen_of_cells b2 0
    have zf1 := frozen_of_cells b2 1
    have zf2 := frozen_of_cells b2 2
    clear hc
    go_wp2_with fail
    have hz := box3Put' (b2) (.int .i64 9) (.string ⟨#[]⟩) (.slice none 0 0)
    have hkz : Kp [R] w2 (((w2.setCell ⟨R, 0, none⟩ (.int .i64 9)).setCell ⟨R, 1, none⟩ (.string ⟨#[]⟩)).setCell ⟨R, 2, none⟩ (.slice none 0 0)) := (((Kp.refl _ _).setCell (.inl (by simp)) _).setCell (.inl (by simp)) _).setCell (.inl (by simp)) _
    obtain ⟨Z, hZ⟩ : ∃ Z, Z = (((w2).setCell ⟨R, 0, none⟩ (.int .i64 9)).setCell ⟨R, 1, none⟩ (.string ⟨#[]⟩)).setCell ⟨R, 2, none⟩ (.slice none 0 0) := ⟨_, rfl⟩
    rw [← hZ] at hz hkz ⊢
    obtain ⟨hz0, hz1, hz2⟩ := hz
    refine bodyPost_ret (ret3_mStat _ _ R (by kernel_rfl) hz0 hz1 hz2) rfl ?_
    exact ⟨rfl, kp_past (k01.trans k2) hkz hRlt⟩
set_option maxHeartbeats 2000000 in
set_option maxRecDepth 20000 in
theorem mremove {mb eb : Nat} {M : Mdl} (hs : Short M) (kind : Int) (k v : ByteArray) (hk : k.size ≤ 32) (w : World) (h : MdAt mb eb w M) :
    Calls Tryd.prog 23 #[Md.p mb, ReqV kind k v] w fun e w' => e = .returned (if M.has k then RespV 0 E0 nilS else RespV 9 E0 nilS) ∧ MdAt mb eb w' (if M.has k then aPut k (E0, true) M else M) ∧ Kp [eb] w w' := by
  have hlt := h.lts
  obtain ⟨w0, hw0⟩ : ∃ w0, w0 = w.alloc (.cells #[Md.p mb] 24) := ⟨_, rfl⟩
  have k0 : Kp [] w w0 := hw0 ▸ (Kp.refl _ _).alloc _
  have b0 : w0.heap[w.heap.size]? = some (.cells #[Md.p mb] 24 (0, 0)) := by rw [hw0]; exact block_new _ _
  obtain ⟨Q, hQ⟩ : ∃ Q, Q = w0.heap.size := ⟨_, rfl⟩
  have hQ2 : Q = w.heap.size + 1 := by rw [hQ, hw0, World.size_alloc]
  obtain ⟨w1, hw1⟩ : ∃ w1, w1 = w0.alloc (.cells #[.int .i64 kind, .string k, .string v] 32) := ⟨_, rfl⟩
  have k1 : Kp [] w0 w1 := hw1 ▸ (Kp.refl _ _).alloc _
  have b1 : w1.heap[Q]? = some (.cells #[.int .i64 kind, .string k, .string v] 32 (0, 0)) := by rw [hw1, hQ]; exact block_new _ _
  obtain ⟨R, hR⟩ : ∃ R, R = w1.heap.size := ⟨_, rfl⟩
  have hR2 : R = w.heap.size + 1 + 1 := by rw [hR, hw1, World.size_alloc, ← hQ, hQ2]
  obtain ⟨w2, hw2⟩ : ∃ w2, w2 = w1.alloc (.cells #[.int .i64 0, .string ⟨#[]⟩, .slice none 0 0] 37) := ⟨_, rfl⟩
  have k2 : Kp [] w1 w2 := hw2 ▸ (Kp.refl _ _).alloc _
  have b2 : w2.heap[R]? = some (.cells #[.int .i64 0, .string ⟨#[]⟩, .slice none 0 0] 37 (0, 0)) := by rw [hw2, hR]; exact block_new _ _
  have k02 := (k0.trans k1).trans k2
  have h2 := h.keep0 k02
  have hRlt : w.heap.size ≤ R := by omega
  have b0' := ((k1.trans k2).block _ (lt_of_block b0) (by simp)).trans b0
  have b1' := (k2.block _ (lt_of_block b1) (by simp)).trans b1
  have m0 := cell_of_cells (o := 0) b0' rfl
  have r0 := cell_of_cells (o := 0) b1' rfl
  have r1 := cell_of_cells (o := 1) b1' rfl
  have r2 := cell_of_cells (o := 2) b1' rfl
  have HW0 := Lib.hid hw0
  have HW1 := Lib.hid hw1
  have HW2 := Lib.hid hw2
  have HR := Lib.hid hR2
  have HQ := Lib.hid hQ2
  clear hw0 hw1 hw2 hR hR2 hQ hQ2
  cases hb : M.has k with
  | true =>
    obtain ⟨hy, hg⟩ := has_true hb
    have hc := mthere_remove hs kind k v hk w2 h2 m0 r1 hy hg
    simp only [if_true]
    clear hb
    go_enter Tryd.func23, Tryd.ntmps23
    go_wp2_with fail
    rw [← HW0.out, ← HW1.out, ← HW2.out, ← HR.out, ← HQ.out]
    go_wp2_with fail
    refine hc.mono ?_
    rintro e w3 ⟨rfl, hM3, k3⟩
    have b3 := (k3.block _ (lt_of_block b2) (by simp only [List.mem_singleton]; omega)).trans b2
    have z0 := cell_of_cells (o := 0) b3 rfl
    have z1 := cell_of_cells (o := 1) b3 rfl
    have z2 := cell_of_cells (o := 2) b3 rfl
    have zf0 := frozen_of_cells b3 0
    have zf1 := frozen_of_cells b3 1
    have zf2 := frozen_of_cells b3 2
    clear hc
    go_wp2_with fail
    have hz := box3Put' (b3) (.int .i64 0) (.string ⟨#[]⟩) (.slice none 0 0)
    have hkz : Kp [R] w3 (((w3.setCell ⟨R, 0, none⟩ (.int .i64 0)).setCell ⟨R, 1, none⟩ (.string ⟨#[]⟩)).setCell ⟨R, 2, none⟩ (.slice none 0 0)) := (((Kp.refl _ _).setCell (.inl (by simp)) _).setCell (.inl (by simp)) _).setCell (.inl (by simp)) _
    obtain ⟨Z, hZ⟩ : ∃ Z, Z = (((w3).setCell ⟨R, 0, none⟩ (.int .i64 0)).setCell ⟨R, 1, none⟩ (.string ⟨#[]⟩)).setCell ⟨R, 2, none⟩ (.slice none 0 0) := ⟨_, rfl⟩
    rw [← hZ] at hz hkz ⊢
    obtain ⟨hz0, hz1, hz2⟩ := hz
    refine bodyPost_ret (ret3_mRemove _ _ R (by kernel_rfl) hz0 hz1 hz2) rfl ?_
    have hkw := kp_past ((k02.weaken (Y := [eb]) (fun _ _ hm => by cases hm)).trans k3) hkz hRlt
    exact ⟨rfl, hM3.keep hkz (by simp only [List.mem_singleton]; omega) (by simp only [List.mem_singleton]; omega), hkw⟩
  | false =>
    have hc := fun F => mthere_no hs kind k v F hk w2 h2 (has_false hb)
    simp only [Bool.false_eq_true, if_false]
    clear hb
    go_enter Tryd.func23, Tryd.ntmps23
    go_wp2_with fail
    rw [← HW0.out, ← HW1.out, ← HW2.out, ← HR.out, ← HQ.out]
    go_wp2_with fail
    refine (hc _).mono ?_
    rintro e w3 ⟨rfl, k3⟩
    have b3 := (k3.block _ (lt_of_block b2) (by simp)).trans b2
    have z0 := cell_of_cells (o := 0) b3 rfl
    have z1 := cell_of_cells (o := 1) b3 rfl
    have z2 := cell_of_cells (o := 2) b3 rfl
    have zf0 := frozen_of_cells b3 0
    have zf1 := frozen_of_cells b3 1
    have zf2 := frozen_of_cells b3 2
    clear hc
    go_wp2_with fail
    have hz := box3Put' (b3) (.int .i64 9) (.string ⟨#[]⟩) (.slice none 0 0)
    have hkz : Kp [R] w3 (((w3.setCell ⟨R, 0, none⟩ (.int .i64 9)).setCell ⟨R, 1, none⟩ (.string ⟨#[]⟩)).setCell ⟨R, 2, none⟩ (.slice none 0 0)) := (((Kp.refl _ _).setCell (.inl (by simp)) _).setCell (.inl (by simp)) _).setCell (.inl (by simp)) _
    obtain ⟨Z, hZ⟩ : ∃ Z, Z = (((w3).setCell ⟨R, 0, none⟩ (.int .i64 9)).setCell ⟨R, 1, none⟩ (.string ⟨#[]⟩)).setCell ⟨R, 2, none⟩ (.slice none 0 0) := ⟨_, rfl⟩
    rw [← hZ] at hz hkz ⊢
    obtain ⟨hz0, hz1, hz2⟩ := hz
    refine bodyPost_ret (ret3_mRemove _ _ R (by kernel_rfl) hz0 hz1 hz2) rfl ?_
    have hkw := kp_past (k02.trans k3) hkz hRlt
    exact ⟨rfl, h.keep0 hkw, hkw.weaken (fun _ _ hm => by cases hm)⟩
end Go.Proofs.YtlomniffpjndfaaDoor
