/-
  The document's model: Do, way by way.
-/
import Derived.Test.YtlomniffpjndfaaDoorMdDh
import Derived.Test.YtlomniffpjndfaaDoorMdDf
namespace Go.Proofs.YtlomniffpjndfaaDoor
open Go.RowKit Go.ChangeMaps Go.Maps Go.WideShapes Go.WideMaps Go.WideElems Go.MapKept Go.ChangeShapes Go.Sort

set_option maxRecDepth 20000 in
theorem ret3_rDo (t : Array Value) (Z : World) (R : Nat) {v0 v1 v2 : Value} (h2 : t.getD 4 undef = .pointer (some ⟨R, 0, none⟩)) (z0 : Z.cell? ⟨R, 0, none⟩ = some v0) (z1 : Z.cell? ⟨R, 1, none⟩ = some v1) (z2 : Z.cell? ⟨R, 2, none⟩ = some v2) :
    (results Tryd.f13 t).run Tryd.prog Z = .ok (.agg #[v0, v1, v2]) Z := by
  have h2' : t[4]?.getD undef = .pointer (some ⟨R, 0, none⟩) := by rw [← h2]; simp [Array.getD_eq_getD_getElem?]
  simp [results, Tryd.results13, go_sem, z0, z1, z2, h2']
  try rfl
theorem RmAt.keepB {rb R : Nat} {w w' : World} {L : List KeyD} (h : RmAt rb w L) (k : Kp [R] w w') {c : Array Value} {t : TypeId} {z : Nat × Nat} (hb : w.heap[R]? = some (.cells c t z)) (ht : t ≠ 56) (hne : rb ≠ R) : RmAt rb w' L := by
  obtain ⟨av, cv, htp, ho⟩ := h
  refine ⟨av, cv, (k.block rb (lt_of_block htp) (by simp only [List.mem_singleton]; exact hne)).trans htp, owns_other ho k (fun g hg hm => ?_)⟩
  rw [List.mem_singleton] at hm
  subst hm
  obtain ⟨-, ⟨hv, -⟩ | ⟨g', cap, cur, hv, -, hb', -⟩⟩ := ho
  · rw [hv] at hg; cases hg
  · rw [hv] at hg
    obtain rfl : g' = g := by simpa [Value.ownBlock] using hg
    rw [hb] at hb'
    simp only [Option.some.injEq, Obj.cells.injEq] at hb'
    exact ht hb'.2.1
set_option maxHeartbeats 4000000 in
set_option maxRecDepth 20000 in
theorem rdo_err {rb : Nat} {L : List KeyD} (kind : Int) (k v : ByteArray) (hk : k.size < 16384) (hv : v.size < 16384) (w : World) (h : RmAt rb w L) (hne : checkE kind k v ≠ 0) :
    Calls Tryd.prog 13 #[Rm.p rb, ReqV kind k v] w fun e w' => ∃ x, e = .returned x ∧ Gave w.heap.size w' x ⟨checkE kind k v, E0, []⟩ ∧ RmAt rb w' L ∧ Kp [rb] w w' := by
  obtain ⟨w0, hw0⟩ : ∃ w0, w0 = w.alloc (.cells #[.int .i64 kind, .string k, .string v] 32) := ⟨_, rfl⟩
  have k0 : Kp [] w w0 := hw0 ▸ (Kp.refl _ _).alloc _
  have b0 : w0.heap[w.heap.size]? = some (.cells #[.int .i64 kind, .string k, .string v] 32 (0, 0)) := by rw [hw0]; exact block_new _ _
  obtain ⟨R, hR⟩ : ∃ R, R = w0.heap.size := ⟨_, rfl⟩
  have hR2 : R = w.heap.size + 1 := by rw [hR, hw0, World.size_alloc]
  obtain ⟨w1, hw1⟩ : ∃ w1, w1 = w0.alloc (.cells #[.int .i64 0, .string ⟨#[]⟩, .slice none 0 0] 37) := ⟨_, rfl⟩
  have k1 : Kp [] w0 w1 := hw1 ▸ (Kp.refl _ _).alloc _
  have b1 : w1.heap[R]? = some (.cells #[.int .i64 0, .string ⟨#[]⟩, .slice none 0 0] 37 (0, 0)) := by rw [hw1, hR]; exact block_new _ _
  have k01 := k0.trans k1
  have hRlt : w.heap.size ≤ R := by omega
  have b01 := (k1.block _ (lt_of_block b0) (by simp)).trans b0
  have cr0 := Kp.cellAt (X := []) (cell_of_cells (o := 0) (v := .int .i64 kind) b01 rfl) (by simp)
  have cr1 := Kp.cellAt (X := []) (cell_of_cells (o := 1) (v := .string k) b01 rfl) (by simp)
  have cr2 := Kp.cellAt (X := []) (cell_of_cells (o := 2) (v := .string v) b01 rfl) (by simp)
  have HW0 := Lib.hid hw0
  have HW1 := Lib.hid hw1
  have HR := Lib.hid hR2
  obtain ⟨av, cv, ht, ho⟩ := id h
  have hrb := lt_of_block ht
  have d0 := Kp.cellAt (X := []) (cell_of_cells (o := 0) (v := .slice av L.length cv) ht rfl) (by simp)
  have hc := rcheck kind k v hk hv w1
  clear hw0 hw1 hR hR2 b01 b0 k0 k1
  obtain ⟨c, hcc⟩ : ∃ c, c = checkE kind k v := ⟨_, rfl⟩
  rw [← hcc] at hc hne ⊢
  have hb : (c != 0) = true := by simpa using hne
  clear hcc hne
  go_enter Tryd.func13, Tryd.ntmps13
  go_wp2_with fail
  rw [← HW0.out, ← HW1.out, ← HR.out]
  refine hc.mono ?_
  rintro e w2 ⟨rfl, k2⟩
  have b2 := (k2.block _ (lt_of_block b1) (by simp)).trans b1
  have k02 := k01.trans k2
  have z0 := cell_of_cells (o := 0) b2 rfl
  have z1 := cell_of_cells (o := 1) b2 rfl
  have z2 := cell_of_cells (o := 2) b2 rfl
  have zf0 := frozen_of_cells b2 0
  have zf1 := frozen_of_cells b2 1
  have zf2 := frozen_of_cells b2 2
  clear hc
  go_wp2_with fail
  have hz := box3Put' (b2) (.int .i64 (c)) (.string ⟨#[]⟩) (.slice none 0 0)
  have hkz : Kp [R] w2 (((w2.setCell ⟨R, 0, none⟩ (.int .i64 (c))).setCell ⟨R, 1, none⟩ (.string ⟨#[]⟩)).setCell ⟨R, 2, none⟩ (.slice none 0 0)) := (((Kp.refl _ _).setCell (.inl (by simp)) _).setCell (.inl (by simp)) _).setCell (.inl (by simp)) _
  obtain ⟨Z, hZ⟩ : ∃ Z, Z = (((w2).setCell ⟨R, 0, none⟩ (.int .i64 (c))).setCell ⟨R, 1, none⟩ (.string ⟨#[]⟩)).setCell ⟨R, 2, none⟩ (.slice none 0 0) := ⟨_, rfl⟩
  rw [← hZ] at hz hkz ⊢
  obtain ⟨hz0, hz1, hz2⟩ := hz
  refine bodyPost_ret (ret3_rDo _ _ R (by kernel_rfl) hz0 hz1 hz2) rfl ?_
  have hkw := kp_past k02 hkz hRlt
  exact ⟨_, rfl, gave_nil _ _ _ _, h.keep0 hkw, hkw.weaken (fun _ _ hm => by cases hm)⟩
set_option maxHeartbeats 4000000 in
set_option maxRecDepth 20000 in
theorem rdo_held {rb : Nat} {L : List KeyD} (hz : L.length ≤ 1000) (kind : Int) (k v : ByteArray) (hk : k.size < 16384) (hv : v.size < 16384) (w : World) (h : RmAt rb w L) (hck : checkE kind k v = 0) (hb4 : (kind == 4) = false) (hb0 : (kind == 0) = true) {i : Nat} (hat : atL k L 0 = (i : Int)) :
    Calls Tryd.prog 13 #[Rm.p rb, ReqV kind k v] w fun e w' => ∃ x, e = .returned x ∧ Gave w.heap.size w' x ⟨13, E0, []⟩ ∧ RmAt rb w' L ∧ Kp [rb] w w' := by
  obtain ⟨w0, hw0⟩ : ∃ w0, w0 = w.alloc (.cells #[.int .i64 kind, .string k, .string v] 32) := ⟨_, rfl⟩
  have k0 : Kp [] w w0 := hw0 ▸ (Kp.refl _ _).alloc _
  have b0 : w0.heap[w.heap.size]? = some (.cells #[.int .i64 kind, .string k, .string v] 32 (0, 0)) := by rw [hw0]; exact block_new _ _
  obtain ⟨R, hR⟩ : ∃ R, R = w0.heap.size := ⟨_, rfl⟩
  have hR2 : R = w.heap.size + 1 := by rw [hR, hw0, World.size_alloc]
  obtain ⟨w1, hw1⟩ : ∃ w1, w1 = w0.alloc (.cells #[.int .i64 0, .string ⟨#[]⟩, .slice none 0 0] 37) := ⟨_, rfl⟩
  have k1 : Kp [] w0 w1 := hw1 ▸ (Kp.refl _ _).alloc _
  have b1 : w1.heap[R]? = some (.cells #[.int .i64 0, .string ⟨#[]⟩, .slice none 0 0] 37 (0, 0)) := by rw [hw1, hR]; exact block_new _ _
  have k01 := k0.trans k1
  have hRlt : w.heap.size ≤ R := by omega
  have b01 := (k1.block _ (lt_of_block b0) (by simp)).trans b0
  have cr0 := Kp.cellAt (X := []) (cell_of_cells (o := 0) (v := .int .i64 kind) b01 rfl) (by simp)
  have cr1 := Kp.cellAt (X := []) (cell_of_cells (o := 1) (v := .string k) b01 rfl) (by simp)
  have cr2 := Kp.cellAt (X := []) (cell_of_cells (o := 2) (v := .string v) b01 rfl) (by simp)
  have HW0 := Lib.hid hw0
  have HW1 := Lib.hid hw1
  have HR := Lib.hid hR2
  obtain ⟨av, cv, ht, ho⟩ := id h
  have hrb := lt_of_block ht
  have d0 := Kp.cellAt (X := []) (cell_of_cells (o := 0) (v := .slice av L.length cv) ht rfl) (by simp)
  have hc := rcheck kind k v hk hv w1
  clear hw0 hw1 hR hR2 b01 b0 k0 k1
  rw [hck] at hc
  clear hck
  go_enter Tryd.func13, Tryd.ntmps13
  go_wp2_with fail
  rw [← HW0.out, ← HW1.out, ← HR.out]
  refine hc.mono ?_
  rintro e w2 ⟨rfl, k2⟩
  have b2 := (k2.block _ (lt_of_block b1) (by simp)).trans b1
  have k02 := k01.trans k2
  clear hc
  have hi0 : (0 : Int) ≤ (i : Int) := by omega
  have ha := rat hz k w2 (h.keep0 k02)
  rw [hat] at ha
  clear hat
  go_wp2_with fail
  refine ha.mono ?_
  rintro e w3 ⟨rfl, k3⟩
  have b3 := (k3.block _ (lt_of_block b2) (by simp)).trans b2
  have k03 := k02.trans k3
  have k23 := k2.trans k3
  have z0 := cell_of_cells (o := 0) b3 rfl
  have z1 := cell_of_cells (o := 1) b3 rfl
  have z2 := cell_of_cells (o := 2) b3 rfl
  have zf0 := frozen_of_cells b3 0
  have zf1 := frozen_of_cells b3 1
  have zf2 := frozen_of_cells b3 2
  clear ha
  go_wp2_with fail
  have hz := box3Put' (b3) (.int .i64 (13)) (.string ⟨#[]⟩) (.slice none 0 0)
  have hkz : Kp [R] w3 (((w3.setCell ⟨R, 0, none⟩ (.int .i64 (13))).setCell ⟨R, 1, none⟩ (.string ⟨#[]⟩)).setCell ⟨R, 2, none⟩ (.slice none 0 0)) := (((Kp.refl _ _).setCell (.inl (by simp)) _).setCell (.inl (by simp)) _).setCell (.inl (by simp)) _
  obtain ⟨Z, hZ⟩ : ∃ Z, Z = (((w3).setCell ⟨R, 0, none⟩ (.int .i64 (13))).setCell ⟨R, 1, none⟩ (.string ⟨#[]⟩)).setCell ⟨R, 2, none⟩ (.slice none 0 0) := ⟨_, rfl⟩
  rw [← hZ] at hz hkz ⊢
  obtain ⟨hz0, hz1, hz2⟩ := hz
  refine bodyPost_ret (ret3_rDo _ _ R (by kernel_rfl) hz0 hz1 hz2) rfl ?_
  have hkw := kp_past k03 hkz hRlt
  exact ⟨_, rfl, gave_nil _ _ _ _, h.keep0 hkw, hkw.weaken (fun _ _ hm => by cases hm)⟩
set_option maxHeartbeats 4000000 in
set_option maxRecDepth 20000 in
theorem rdo_away {rb : Nat} {L : List KeyD} (hz : L.length ≤ 1000) (kind : Int) (k v : ByteArray) (hk : k.size < 16384) (hv : v.size < 16384) (w : World) (h : RmAt rb w L) (hck : checkE kind k v = 0) (hb4 : (kind == 4) = false) (hb0 : (kind == 0) = false) (hat : atL k L 0 = -1) :
    Calls Tryd.prog 13 #[Rm.p rb, ReqV kind k v] w fun e w' => ∃ x, e = .returned x ∧ Gave w.heap.size w' x ⟨9, E0, []⟩ ∧ RmAt rb w' L ∧ Kp [rb] w w' := by
  obtain ⟨w0, hw0⟩ : ∃ w0, w0 = w.alloc (.cells #[.int .i64 kind, .string k, .string v] 32) := ⟨_, rfl⟩
  have k0 : Kp [] w w0 := hw0 ▸ (Kp.refl _ _).alloc _
  have b0 : w0.heap[w.heap.size]? = some (.cells #[.int .i64 kind, .string k, .string v] 32 (0, 0)) := by rw [hw0]; exact block_new _ _
  obtain ⟨R, hR⟩ : ∃ R, R = w0.heap.size := ⟨_, rfl⟩
  have hR2 : R = w.heap.size + 1 := by rw [hR, hw0, World.size_alloc]
  obtain ⟨w1, hw1⟩ : ∃ w1, w1 = w0.alloc (.cells #[.int .i64 0, .string ⟨#[]⟩, .slice none 0 0] 37) := ⟨_, rfl⟩
  have k1 : Kp [] w0 w1 := hw1 ▸ (Kp.refl _ _).alloc _
  have b1 : w1.heap[R]? = some (.cells #[.int .i64 0, .string ⟨#[]⟩, .slice none 0 0] 37 (0, 0)) := by rw [hw1, hR]; exact block_new _ _
  have k01 := k0.trans k1
  have hRlt : w.heap.size ≤ R := by omega
  have b01 := (k1.block _ (lt_of_block b0) (by simp)).trans b0
  have cr0 := Kp.cellAt (X := []) (cell_of_cells (o := 0) (v := .int .i64 kind) b01 rfl) (by simp)
  have cr1 := Kp.cellAt (X := []) (cell_of_cells (o := 1) (v := .string k) b01 rfl) (by simp)
  have cr2 := Kp.cellAt (X := []) (cell_of_cells (o := 2) (v := .string v) b01 rfl) (by simp)
  have HW0 := Lib.hid hw0
  have HW1 := Lib.hid hw1
  have HR := Lib.hid hR2
  obtain ⟨av, cv, ht, ho⟩ := id h
  have hrb := lt_of_block ht
  have d0 := Kp.cellAt (X := []) (cell_of_cells (o := 0) (v := .slice av L.length cv) ht rfl) (by simp)
  have hc := rcheck kind k v hk hv w1
  clear hw0 hw1 hR hR2 b01 b0 k0 k1
  rw [hck] at hc
  clear hck
  go_enter Tryd.func13, Tryd.ntmps13
  go_wp2_with fail
  rw [← HW0.out, ← HW1.out, ← HR.out]
  refine hc.mono ?_
  rintro e w2 ⟨rfl, k2⟩
  have b2 := (k2.block _ (lt_of_block b1) (by simp)).trans b1
  have k02 := k01.trans k2
  clear hc
  have ha := rat hz k w2 (h.keep0 k02)
  rw [hat] at ha
  clear hat
  go_wp2_with fail
  refine ha.mono ?_
  rintro e w3 ⟨rfl, k3⟩
  have b3 := (k3.block _ (lt_of_block b2) (by simp)).trans b2
  have k03 := k02.trans k3
  have k23 := k2.trans k3
  have z0 := cell_of_cells (o := 0) b3 rfl
  have z1 := cell_of_cells (o := 1) b3 rfl
  have z2 := cell_of_cells (o := 2) b3 rfl
  have zf0 := frozen_of_cells b3 0
  have zf1 := frozen_of_cells b3 1
  have zf2 := frozen_of_cells b3 2
  clear ha
  go_wp2_with fail
  have hz := box3Put' (b3) (.int .i64 (9)) (.string ⟨#[]⟩) (.slice none 0 0)
  have hkz : Kp [R] w3 (((w3.setCell ⟨R, 0, none⟩ (.int .i64 (9))).setCell ⟨R, 1, none⟩ (.string ⟨#[]⟩)).setCell ⟨R, 2, none⟩ (.slice none 0 0)) := (((Kp.refl _ _).setCell (.inl (by simp)) _).setCell (.inl (by simp)) _).setCell (.inl (by simp)) _
  obtain ⟨Z, hZ⟩ : ∃ Z, Z = (((w3).setCell ⟨R, 0, none⟩ (.int .i64 (9))).setCell ⟨R, 1, none⟩ (.string ⟨#[]⟩)).setCell ⟨R, 2, none⟩ (.slice none 0 0) := ⟨_, rfl⟩
  rw [← hZ] at hz hkz ⊢
  obtain ⟨hz0, hz1, hz2⟩ := hz
  refine bodyPost_ret (ret3_rDo _ _ R (by kernel_rfl) hz0 hz1 hz2) rfl ?_
  have hkw := kp_past k03 hkz hRlt
  exact ⟨_, rfl, gave_nil _ _ _ _, h.keep0 hkw, hkw.weaken (fun _ _ hm => by cases hm)⟩
set_option maxHeartbeats 4000000 in
set_option maxRecDepth 20000 in
theorem rdo_gone {rb : Nat} {L : List KeyD} (hz : L.length ≤ 1000) (kind : Int) (k v : ByteArray) (hk : k.size < 16384) (hv : v.size < 16384) (w : World) (h : RmAt rb w L) (hck : checkE kind k v = 0) (hb4 : (kind == 4) = false) (hb0 : (kind == 0) = false) {i : Nat} (hat : atL k L 0 = (i : Int)) (hi : i < L.length) {u : ByteArray} (hLi : L[i] = (k, u, true)) :
    Calls Tryd.prog 13 #[Rm.p rb, ReqV kind k v] w fun e w' => ∃ x, e = .returned x ∧ Gave w.heap.size w' x ⟨9, E0, []⟩ ∧ RmAt rb w' L ∧ Kp [rb] w w' := by
  obtain ⟨w0, hw0⟩ : ∃ w0, w0 = w.alloc (.cells #[.int .i64 kind, .string k, .string v] 32) := ⟨_, rfl⟩
  have k0 : Kp [] w w0 := hw0 ▸ (Kp.refl _ _).alloc _
  have b0 : w0.heap[w.heap.size]? = some (.cells #[.int .i64 kind, .string k, .string v] 32 (0, 0)) := by rw [hw0]; exact block_new _ _
  obtain ⟨R, hR⟩ : ∃ R, R = w0.heap.size := ⟨_, rfl⟩
  have hR2 : R = w.heap.size + 1 := by rw [hR, hw0, World.size_alloc]
  obtain ⟨w1, hw1⟩ : ∃ w1, w1 = w0.alloc (.cells #[.int .i64 0, .string ⟨#[]⟩, .slice none 0 0] 37) := ⟨_, rfl⟩
  have k1 : Kp [] w0 w1 := hw1 ▸ (Kp.refl _ _).alloc _
  have b1 : w1.heap[R]? = some (.cells #[.int .i64 0, .string ⟨#[]⟩, .slice none 0 0] 37 (0, 0)) := by rw [hw1, hR]; exact block_new _ _
  have k01 := k0.trans k1
  have hRlt : w.heap.size ≤ R := by omega
  have b01 := (k1.block _ (lt_of_block b0) (by simp)).trans b0
  have cr0 := Kp.cellAt (X := []) (cell_of_cells (o := 0) (v := .int .i64 kind) b01 rfl) (by simp)
  have cr1 := Kp.cellAt (X := []) (cell_of_cells (o := 1) (v := .string k) b01 rfl) (by simp)
  have cr2 := Kp.cellAt (X := []) (cell_of_cells (o := 2) (v := .string v) b01 rfl) (by simp)
  have HW0 := Lib.hid hw0
  have HW1 := Lib.hid hw1
  have HR := Lib.hid hR2
  obtain ⟨av, cv, ht, ho⟩ := id h
  have hrb := lt_of_block ht
  have d0 := Kp.cellAt (X := []) (cell_of_cells (o := 0) (v := .slice av L.length cv) ht rfl) (by simp)
  have hc := rcheck kind k v hk hv w1
  clear hw0 hw1 hR hR2 b01 b0 k0 k1
  have hlt := hi
  have hi0 : ¬ ((i : Int) < 0) := by omega
  have hi1 : (0 : Int) ≤ (i : Int) := by omega
  have hltI : (i : Int) < (L.length : Int) := by omega
  obtain ⟨g, o, rfl, f0, f1, f2⟩ := key_at ho i hi
  rw [hLi] at f0 f1 f2
  simp only at f0 f1 f2
  have r0 := Kp.cellAt (X := []) f0 (by simp)
  have r1 := Kp.cellAt (X := []) f1 (by simp)
  have r2 := Kp.cellAt (X := []) f2 (by simp)
  clear f0 f1 f2 hLi
  rw [hck] at hc
  clear hck
  go_enter Tryd.func13, Tryd.ntmps13
  go_wp2_with fail
  rw [← HW0.out, ← HW1.out, ← HR.out]
  refine hc.mono ?_
  rintro e w2 ⟨rfl, k2⟩
  have b2 := (k2.block _ (lt_of_block b1) (by simp)).trans b1
  have k02 := k01.trans k2
  clear hc
  have ha := rat hz k w2 (h.keep0 k02)
  rw [hat] at ha
  clear hat
  go_wp2_with fail
  refine ha.mono ?_
  rintro e w3 ⟨rfl, k3⟩
  have b3 := (k3.block _ (lt_of_block b2) (by simp)).trans b2
  have k03 := k02.trans k3
  have k23 := k2.trans k3
  have z0 := cell_of_cells (o := 0) b3 rfl
  have z1 := cell_of_cells (o := 1) b3 rfl
  have z2 := cell_of_cells (o := 2) b3 rfl
  have zf0 := frozen_of_cells b3 0
  have zf1 := frozen_of_cells b3 1
  have zf2 := frozen_of_cells b3 2
  clear ha
  go_wp2_with fail
  have hz := box3Put' (b3) (.int .i64 (9)) (.string ⟨#[]⟩) (.slice none 0 0)
  have hkz : Kp [R] w3 (((w3.setCell ⟨R, 0, none⟩ (.int .i64 (9))).setCell ⟨R, 1, none⟩ (.string ⟨#[]⟩)).setCell ⟨R, 2, none⟩ (.slice none 0 0)) := (((Kp.refl _ _).setCell (.inl (by simp)) _).setCell (.inl (by simp)) _).setCell (.inl (by simp)) _
  obtain ⟨Z, hZ⟩ : ∃ Z, Z = (((w3).setCell ⟨R, 0, none⟩ (.int .i64 (9))).setCell ⟨R, 1, none⟩ (.string ⟨#[]⟩)).setCell ⟨R, 2, none⟩ (.slice none 0 0) := ⟨_, rfl⟩
  rw [← hZ] at hz hkz ⊢
  obtain ⟨hz0, hz1, hz2⟩ := hz
  refine bodyPost_ret (ret3_rDo _ _ R (by kernel_rfl) hz0 hz1 hz2) rfl ?_
  have hkw := kp_past k03 hkz hRlt
  exact ⟨_, rfl, gave_nil _ _ _ _, h.keep0 hkw, hkw.weaken (fun _ _ hm => by cases hm)⟩
set_option maxHeartbeats 4000000 in
set_option maxRecDepth 20000 in
theorem rdo_get {rb : Nat} {L : List KeyD} (hz : L.length ≤ 1000) (kind : Int) (k v : ByteArray) (hk : k.size < 16384) (hv : v.size < 16384) (w : World) (h : RmAt rb w L) (hck : checkE kind k v = 0) (hb4 : (kind == 4) = false) (hb0 : (kind == 0) = false) (hb1 : (kind == 1) = true) {i : Nat} (hat : atL k L 0 = (i : Int)) (hi : i < L.length) {u : ByteArray} (hLi : L[i] = (k, u, false)) :
    Calls Tryd.prog 13 #[Rm.p rb, ReqV kind k v] w fun e w' => ∃ x, e = .returned x ∧ Gave w.heap.size w' x ⟨0, u, []⟩ ∧ RmAt rb w' L ∧ Kp [rb] w w' := by
  obtain ⟨w0, hw0⟩ : ∃ w0, w0 = w.alloc (.cells #[.int .i64 kind, .string k, .string v] 32) := ⟨_, rfl⟩
  have k0 : Kp [] w w0 := hw0 ▸ (Kp.refl _ _).alloc _
  have b0 : w0.heap[w.heap.size]? = some (.cells #[.int .i64 kind, .string k, .string v] 32 (0, 0)) := by rw [hw0]; exact block_new _ _
  obtain ⟨R, hR⟩ : ∃ R, R = w0.heap.size := ⟨_, rfl⟩
  have hR2 : R = w.heap.size + 1 := by rw [hR, hw0, World.size_alloc]
  obtain ⟨w1, hw1⟩ : ∃ w1, w1 = w0.alloc (.cells #[.int .i64 0, .string ⟨#[]⟩, .slice none 0 0] 37) := ⟨_, rfl⟩
  have k1 : Kp [] w0 w1 := hw1 ▸ (Kp.refl _ _).alloc _
  have b1 : w1.heap[R]? = some (.cells #[.int .i64 0, .string ⟨#[]⟩, .slice none 0 0] 37 (0, 0)) := by rw [hw1, hR]; exact block_new _ _
  have k01 := k0.trans k1
  have hRlt : w.heap.size ≤ R := by omega
  have b01 := (k1.block _ (lt_of_block b0) (by simp)).trans b0
  have cr0 := Kp.cellAt (X := []) (cell_of_cells (o := 0) (v := .int .i64 kind) b01 rfl) (by simp)
  have cr1 := Kp.cellAt (X := []) (cell_of_cells (o := 1) (v := .string k) b01 rfl) (by simp)
  have cr2 := Kp.cellAt (X := []) (cell_of_cells (o := 2) (v := .string v) b01 rfl) (by simp)
  have HW0 := Lib.hid hw0
  have HW1 := Lib.hid hw1
  have HR := Lib.hid hR2
  obtain ⟨av, cv, ht, ho⟩ := id h
  have hrb := lt_of_block ht
  have d0 := Kp.cellAt (X := []) (cell_of_cells (o := 0) (v := .slice av L.length cv) ht rfl) (by simp)
  have hc := rcheck kind k v hk hv w1
  clear hw0 hw1 hR hR2 b01 b0 k0 k1
  have hlt := hi
  have hi0 : ¬ ((i : Int) < 0) := by omega
  have hi1 : (0 : Int) ≤ (i : Int) := by omega
  have hltI : (i : Int) < (L.length : Int) := by omega
  obtain ⟨g, o, rfl, f0, f1, f2⟩ := key_at ho i hi
  rw [hLi] at f0 f1 f2
  simp only at f0 f1 f2
  have r0 := Kp.cellAt (X := []) f0 (by simp)
  have r1 := Kp.cellAt (X := []) f1 (by simp)
  have r2 := Kp.cellAt (X := []) f2 (by simp)
  clear f0 f1 f2 hLi
  rw [hck] at hc
  clear hck
  go_enter Tryd.func13, Tryd.ntmps13
  go_wp2_with fail
  rw [← HW0.out, ← HW1.out, ← HR.out]
  refine hc.mono ?_
  rintro e w2 ⟨rfl, k2⟩
  have b2 := (k2.block _ (lt_of_block b1) (by simp)).trans b1
  have k02 := k01.trans k2
  clear hc
  have ha := rat hz k w2 (h.keep0 k02)
  rw [hat] at ha
  clear hat
  go_wp2_with fail
  refine ha.mono ?_
  rintro e w3 ⟨rfl, k3⟩
  have b3 := (k3.block _ (lt_of_block b2) (by simp)).trans b2
  have k03 := k02.trans k3
  have k23 := k2.trans k3
  have z0 := cell_of_cells (o := 0) b3 rfl
  have z1 := cell_of_cells (o := 1) b3 rfl
  have z2 := cell_of_cells (o := 2) b3 rfl
  have zf0 := frozen_of_cells b3 0
  have zf1 := frozen_of_cells b3 1
  have zf2 := frozen_of_cells b3 2
  clear ha
  go_wp2_with fail
  have hz := box3Put' (b3) (.int .i64 (0)) (.string u) (.slice none 0 0)
  have hkz : Kp [R] w3 (((w3.setCell ⟨R, 0, none⟩ (.int .i64 (0))).setCell ⟨R, 1, none⟩ (.string u)).setCell ⟨R, 2, none⟩ (.slice none 0 0)) := (((Kp.refl _ _).setCell (.inl (by simp)) _).setCell (.inl (by simp)) _).setCell (.inl (by simp)) _
  obtain ⟨Z, hZ⟩ : ∃ Z, Z = (((w3).setCell ⟨R, 0, none⟩ (.int .i64 (0))).setCell ⟨R, 1, none⟩ (.string u)).setCell ⟨R, 2, none⟩ (.slice none 0 0) := ⟨_, rfl⟩
  rw [← hZ] at hz hkz ⊢
  obtain ⟨hz0, hz1, hz2⟩ := hz
  refine bodyPost_ret (ret3_rDo _ _ R (by kernel_rfl) hz0 hz1 hz2) rfl ?_
  have hkw := kp_past k03 hkz hRlt
  exact ⟨_, rfl, gave_nil _ _ _ _, h.keep0 hkw, hkw.weaken (fun _ _ hm => by cases hm)⟩
set_option maxHeartbeats 4000000 in
set_option maxRecDepth 20000 in
theorem rdo_list {rb : Nat} {L : List KeyD} (hz : L.length ≤ 1000) (kind : Int) (k v : ByteArray) (hk : k.size < 16384) (hv : v.size < 16384) (w : World) (h : RmAt rb w L) (hck : checkE kind k v = 0) (hb4 : (kind == 4) = true) :
    Calls Tryd.prog 13 #[Rm.p rb, ReqV kind k v] w fun e w' => ∃ x, e = .returned x ∧ Gave w.heap.size w' x ⟨0, E0, (rlisted k L).map (fun q => q.1.toList)⟩ ∧ RmAt rb w' L ∧ Kp [rb] w w' := by
  obtain ⟨T, hT⟩ : ∃ T, T = rlisted k L := ⟨_, rfl⟩
  rw [← hT]
  obtain ⟨w0, hw0⟩ : ∃ w0, w0 = w.alloc (.cells #[.int .i64 kind, .string k, .string v] 32) := ⟨_, rfl⟩
  have k0 : Kp [] w w0 := hw0 ▸ (Kp.refl _ _).alloc _
  have b0 : w0.heap[w.heap.size]? = some (.cells #[.int .i64 kind, .string k, .string v] 32 (0, 0)) := by rw [hw0]; exact block_new _ _
  obtain ⟨R, hR⟩ : ∃ R, R = w0.heap.size := ⟨_, rfl⟩
  have hR2 : R = w.heap.size + 1 := by rw [hR, hw0, World.size_alloc]
  obtain ⟨w1, hw1⟩ : ∃ w1, w1 = w0.alloc (.cells #[.int .i64 0, .string ⟨#[]⟩, .slice none 0 0] 37) := ⟨_, rfl⟩
  have k1 : Kp [] w0 w1 := hw1 ▸ (Kp.refl _ _).alloc _
  have b1 : w1.heap[R]? = some (.cells #[.int .i64 0, .string ⟨#[]⟩, .slice none 0 0] 37 (0, 0)) := by rw [hw1, hR]; exact block_new _ _
  have k01 := k0.trans k1
  have hRlt : w.heap.size ≤ R := by omega
  have b01 := (k1.block _ (lt_of_block b0) (by simp)).trans b0
  have cr0 := Kp.cellAt (X := []) (cell_of_cells (o := 0) (v := .int .i64 kind) b01 rfl) (by simp)
  have cr1 := Kp.cellAt (X := []) (cell_of_cells (o := 1) (v := .string k) b01 rfl) (by simp)
  have cr2 := Kp.cellAt (X := []) (cell_of_cells (o := 2) (v := .string v) b01 rfl) (by simp)
  have HW0 := Lib.hid hw0
  have HW1 := Lib.hid hw1
  have HR := Lib.hid hR2
  obtain ⟨av, cv, ht, ho⟩ := id h
  have hrb := lt_of_block ht
  have d0 := Kp.cellAt (X := []) (cell_of_cells (o := 0) (v := .slice av L.length cv) ht rfl) (by simp)
  have hc := rcheck kind k v hk hv w1
  clear hw0 hw1 hR hR2 b01 b0 k0 k1
  rw [hck] at hc
  clear hck
  go_enter Tryd.func13, Tryd.ntmps13
  go_wp2_with fail
  rw [← HW0.out, ← HW1.out, ← HR.out]
  refine hc.mono ?_
  rintro e w2 ⟨rfl, k2⟩
  have b2 := (k2.block _ (lt_of_block b1) (by simp)).trans b1
  have k02 := k01.trans k2
  clear hc
  have hl := rlist hz k w2 (h.keep0 k02)
  rw [← hT] at hl
  clear hT
  go_wp2_with fail
  refine hl.mono ?_
  rintro e w3 ⟨ao, co, rfl, hO, k3⟩
  have b3 := (k3.block _ (lt_of_block b2) (by simp)).trans b2
  have k03 := k02.trans k3
  have z0 := cell_of_cells (o := 0) b3 rfl
  have z1 := cell_of_cells (o := 1) b3 rfl
  have z2 := cell_of_cells (o := 2) b3 rfl
  have zf0 := frozen_of_cells b3 0
  have zf1 := frozen_of_cells b3 1
  have zf2 := frozen_of_cells b3 2
  obtain ⟨q, hq⟩ : ∃ q, q = T.length := ⟨_, rfl⟩
  have HQ := Lib.hid hq
  rw [← hq] at hO ⊢
  clear hl hq
  go_wp2_with fail
  have hz := box3Put' (b3) (.int .i64 0) (.string ⟨#[]⟩) (.slice ao q co)
  have hkz : Kp [R] w3 (((w3.setCell ⟨R, 0, none⟩ (.int .i64 0)).setCell ⟨R, 1, none⟩ (.string ⟨#[]⟩)).setCell ⟨R, 2, none⟩ (.slice ao q co)) := (((Kp.refl _ _).setCell (.inl (by simp)) _).setCell (.inl (by simp)) _).setCell (.inl (by simp)) _
  obtain ⟨Z, hZ⟩ : ∃ Z, Z = (((w3).setCell ⟨R, 0, none⟩ (.int .i64 0)).setCell ⟨R, 1, none⟩ (.string ⟨#[]⟩)).setCell ⟨R, 2, none⟩ (.slice ao q co) := ⟨_, rfl⟩
  rw [← hZ] at hz hkz ⊢
  obtain ⟨hz0, hz1, hz2⟩ := hz
  refine bodyPost_ret (ret3_rDo _ _ R (by kernel_rfl) hz0 hz1 hz2) rfl ?_
  have hkw := kp_past k03 hkz hRlt
  have hne : ∀ g, (Value.slice ao q co).ownBlock = some g → g ∉ [R] := fun g hg => by
    have := own_block_ge hO g hg
    have := lt_of_block b2
    simp only [List.mem_singleton]
    omega
  have hml : (T.map (fun q => q.1.toList)).map encStr = T.map keyV := by
    rw [List.map_map]
    refine List.map_congr_left fun x _ => ?_
    exact encStr_back x.1
  refine ⟨_, rfl, ⟨ao, co, by rw [List.length_map, ← HQ.out], ?_⟩, h.keep0 hkw, hkw.weaken (fun _ _ hm => by cases hm)⟩
  rw [List.length_map, ← HQ.out, hml]
  exact ownsRow_base (owns_other hO hkz hne) k02.size
set_option maxHeartbeats 4000000 in
set_option maxRecDepth 20000 in
theorem rdo_put {rb : Nat} {L : List KeyD} (hz : L.length ≤ 1000) (kind : Int) (k v : ByteArray) (hk : k.size < 16384) (hv : v.size < 16384) (w : World) (h : RmAt rb w L) (hck : checkE kind k v = 0) (hb4 : (kind == 4) = false) (hb0 : (kind == 0) = true) (hat : atL k L 0 = -1) :
    Calls Tryd.prog 13 #[Rm.p rb, ReqV kind k v] w fun e w' => ∃ x, e = .returned x ∧ Gave w.heap.size w' x ⟨0, E0, []⟩ ∧ RmAt rb w' (insK (k, v, false) L) ∧ Kp [rb] w w' := by
  obtain ⟨w0, hw0⟩ : ∃ w0, w0 = w.alloc (.cells #[.int .i64 kind, .string k, .string v] 32) := ⟨_, rfl⟩
  have k0 : Kp [] w w0 := hw0 ▸ (Kp.refl _ _).alloc _
  have b0 : w0.heap[w.heap.size]? = some (.cells #[.int .i64 kind, .string k, .string v] 32 (0, 0)) := by rw [hw0]; exact block_new _ _
  obtain ⟨R, hR⟩ : ∃ R, R = w0.heap.size := ⟨_, rfl⟩
  have hR2 : R = w.heap.size + 1 := by rw [hR, hw0, World.size_alloc]
  obtain ⟨w1, hw1⟩ : ∃ w1, w1 = w0.alloc (.cells #[.int .i64 0, .string ⟨#[]⟩, .slice none 0 0] 37) := ⟨_, rfl⟩
  have k1 : Kp [] w0 w1 := hw1 ▸ (Kp.refl _ _).alloc _
  have b1 : w1.heap[R]? = some (.cells #[.int .i64 0, .string ⟨#[]⟩, .slice none 0 0] 37 (0, 0)) := by rw [hw1, hR]; exact block_new _ _
  have k01 := k0.trans k1
  have hRlt : w.heap.size ≤ R := by omega
  have b01 := (k1.block _ (lt_of_block b0) (by simp)).trans b0
  have cr0 := Kp.cellAt (X := []) (cell_of_cells (o := 0) (v := .int .i64 kind) b01 rfl) (by simp)
  have cr1 := Kp.cellAt (X := []) (cell_of_cells (o := 1) (v := .string k) b01 rfl) (by simp)
  have cr2 := Kp.cellAt (X := []) (cell_of_cells (o := 2) (v := .string v) b01 rfl) (by simp)
  have HW0 := Lib.hid hw0
  have HW1 := Lib.hid hw1
  have HR := Lib.hid hR2
  obtain ⟨av, cv, ht, ho⟩ := id h
  have hrb := lt_of_block ht
  have d0 := Kp.cellAt (X := []) (cell_of_cells (o := 0) (v := .slice av L.length cv) ht rfl) (by simp)
  have hc := rcheck kind k v hk hv w1
  clear hw0 hw1 hR hR2 b01 b0 k0 k1
  rw [hck] at hc
  clear hck
  go_enter Tryd.func13, Tryd.ntmps13
  go_wp2_with fail
  rw [← HW0.out, ← HW1.out, ← HR.out]
  refine hc.mono ?_
  rintro e w2 ⟨rfl, k2⟩
  have b2 := (k2.block _ (lt_of_block b1) (by simp)).trans b1
  have k02 := k01.trans k2
  clear hc
  have ha := rat hz k w2 (h.keep0 k02)
  rw [hat] at ha
  clear hat
  go_wp2_with fail
  refine ha.mono ?_
  rintro e w3 ⟨rfl, k3⟩
  have b3 := (k3.block _ (lt_of_block b2) (by simp)).trans b2
  have k03 := k02.trans k3
  have k23 := k2.trans k3
  have z0 := cell_of_cells (o := 0) b3 rfl
  have z1 := cell_of_cells (o := 1) b3 rfl
  have z2 := cell_of_cells (o := 2) b3 rfl
  have zf0 := frozen_of_cells b3 0
  have zf1 := frozen_of_cells b3 1
  have zf2 := frozen_of_cells b3 2
  clear ha
  have hp := rput hz k v false w3 (h.keep0 k03)
  clear z0 z1 z2 zf0 zf1 zf2
  go_wp2_with fail
  refine hp.mono ?_
  rintro e w4 ⟨⟨v4, rfl⟩, hM4, k4⟩
  have b4 := (k4.block _ (lt_of_block b3) (by simp only [List.mem_singleton]; omega)).trans b3
  have z0 := cell_of_cells (o := 0) b4 rfl
  have z1 := cell_of_cells (o := 1) b4 rfl
  have z2 := cell_of_cells (o := 2) b4 rfl
  have zf0 := frozen_of_cells b4 0
  have zf1 := frozen_of_cells b4 1
  have zf2 := frozen_of_cells b4 2
  clear hp
  go_wp2_with fail
  have hz := box3Put' (b4) (.int .i64 0) (.string ⟨#[]⟩) (.slice none 0 0)
  have hkz : Kp [R] w4 (((w4.setCell ⟨R, 0, none⟩ (.int .i64 0)).setCell ⟨R, 1, none⟩ (.string ⟨#[]⟩)).setCell ⟨R, 2, none⟩ (.slice none 0 0)) := (((Kp.refl _ _).setCell (.inl (by simp)) _).setCell (.inl (by simp)) _).setCell (.inl (by simp)) _
  obtain ⟨Z, hZ⟩ : ∃ Z, Z = (((w4).setCell ⟨R, 0, none⟩ (.int .i64 0)).setCell ⟨R, 1, none⟩ (.string ⟨#[]⟩)).setCell ⟨R, 2, none⟩ (.slice none 0 0) := ⟨_, rfl⟩
  rw [← hZ] at hz hkz ⊢
  obtain ⟨hz0, hz1, hz2⟩ := hz
  refine bodyPost_ret (ret3_rDo _ _ R (by kernel_rfl) hz0 hz1 hz2) rfl ?_
  have hkw := kp_past ((k03.weaken (Y := [rb]) (fun _ _ hm => by cases hm)).trans k4) hkz hRlt
  exact ⟨_, rfl, gave_nil _ _ _ _, hM4.keepB hkz b4 (by decide) (by omega), hkw⟩
end Go.Proofs.YtlomniffpjndfaaDoor
