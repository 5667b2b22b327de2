/-
  A model's Do.
-/
import Derived.Test.YtlomniffpjndfaaDoorMdE
namespace Go.Proofs.YtlomniffpjndfaaDoor
open Go.RowKit Go.ChangeMaps Go.Maps Go.WideShapes Go.WideMaps Go.WideElems Go.MapKept Go.ChangeShapes Go.Sort

set_option maxRecDepth 20000 in
theorem ret3_mDo (t : Array Value) (Z : World) (R : Nat) {v0 v1 v2 : Value} (h2 : t.getD 4 undef = .pointer (some ⟨R, 0, none⟩)) (z0 : Z.cell? ⟨R, 0, none⟩ = some v0) (z1 : Z.cell? ⟨R, 1, none⟩ = some v1) (z2 : Z.cell? ⟨R, 2, none⟩ = some v2) :
    (results Tryd.f12 t).run Tryd.prog Z = .ok (.agg #[v0, v1, v2]) Z := by
  have h2' : t[4]?.getD undef = .pointer (some ⟨R, 0, none⟩) := by rw [← h2]; simp [Array.getD_eq_getD_getElem?]
  simp [results, Tryd.results12, go_sem, z0, z1, z2, h2']
  try rfl
theorem under_mFn : Tryd.prog.underlying 51 = some (.map 3 38) := by kernel_rfl
theorem under_int : Tryd.prog.underlying 3 = some (.int .i64) := by kernel_rfl
theorem zero_fn (w : World) : (zeroValue 38).run Tryd.prog w = .ok .nilFunc w := by kernel_rfl
/-- an answer -/
structure RespD where
  code : Int
  val : ByteArray
  keys : List (List UInt8)
deriving DecidableEq
/-- an answer as it is handed back -/
def Gave (B : Nat) (w : World) (v : Value) (r : RespD) : Prop := ∃ av cv, v = RespV r.code r.val (.slice av r.keys.length cv) ∧ w.ownsRow B 9 1 (.slice av r.keys.length cv) r.keys.length (r.keys.map encStr)
theorem gave_nil (B : Nat) (w : World) (code : Int) (val : ByteArray) : Gave B w (RespV code val nilS) ⟨code, val, []⟩ := ⟨none, 0, rfl, ⟨rfl, .inl ⟨rfl, rfl⟩⟩⟩
set_option maxHeartbeats 4000000 in
set_option maxRecDepth 20000 in
theorem mdo_err {mb eb : Nat} {M : Mdl} (kind : Int) (k v : ByteArray) (hk : k.size < 16384) (hv : v.size < 16384) (w : World) (h : MdAt mb eb w M) (hne : checkE kind k v ≠ 0) :
    Calls Tryd.prog 12 #[Md.p mb, ReqV kind k v] w fun e w' => e = .returned (RespV (checkE kind k v) E0 nilS) ∧ MdAt mb eb w' M ∧ Kp [] w w' := by
  obtain ⟨w0, hw0⟩ : ∃ w0, w0 = w.alloc (.cells #[.int .i64 kind, .string k, .string v] 32) := ⟨_, rfl⟩
  have k0 : Kp [] w w0 := hw0 ▸ (Kp.refl _ _).alloc _
  have b0 : w0.heap[w.heap.size]? = some (.cells #[.int .i64 kind, .string k, .string v] 32 (0, 0)) := by rw [hw0]; exact block_new _ _
  obtain ⟨R, hR⟩ : ∃ R, R = w0.heap.size := ⟨_, rfl⟩
  have hR2 : R = w.heap.size + 1 := by rw [hR, hw0, World.size_alloc]
  obtain ⟨w1, hw1⟩ : ∃ w1, w1 = w0.alloc (.cells #[.int .i64 0, .string ⟨#[]⟩, .slice none 0 0] 37) := ⟨_, rfl⟩
  have k1 : Kp [] w0 w1 := hw1 ▸ (Kp.refl _ _).alloc _
  have b1 : w1.heap[R]? = some (.cells #[.int .i64 0, .string ⟨#[]⟩, .slice none 0 0] 37 (0, 0)) := by rw [hw1, hR]; exact block_new _ _
  have k01 := k0.trans k1
  have h1 := h.keep0 k01
  have hRlt : w.heap.size ≤ R := by omega
  have b01 := (k1.block _ (lt_of_block b0) (by simp)).trans b0
  have c0 := Kp.cellAt (X := []) (cell_of_cells (o := 0) h1.top rfl) (by simp)
  have cr0 := Kp.cellAt (X := []) (cell_of_cells (o := 0) (v := .int .i64 kind) b01 rfl) (by simp)
  have cr1 := Kp.cellAt (X := []) (cell_of_cells (o := 1) (v := .string k) b01 rfl) (by simp)
  have cr2 := Kp.cellAt (X := []) (cell_of_cells (o := 2) (v := .string v) b01 rfl) (by simp)
  have HW0 := Lib.hid hw0
  have HW1 := Lib.hid hw1
  have HR := Lib.hid hR2
  clear hw0 hw1 hR hR2 b01
  have hc := qcheck kind k v hk hv w1
  obtain ⟨c, hcc⟩ : ∃ c, c = checkE kind k v := ⟨_, rfl⟩
  rw [← hcc] at hc hne ⊢
  have hb : (c != 0) = true := by simpa using hne
  clear hcc hne
  go_enter Tryd.func12, Tryd.ntmps12
  go_wp2_with fail
  rw [← HW0.out, ← HW1.out, ← HR.out]
  refine hc.mono ?_
  rintro e w2 ⟨rfl, k2⟩
  have b2 := (k2.block _ (lt_of_block b1) (by simp)).trans b1
  have z0 := cell_of_cells (o := 0) b2 rfl
  have z1 := cell_of_cells (o := 1) b2 rfl
  have z2 := cell_of_cells (o := 2) b2 rfl
  have zf0 := frozen_of_cells b2 0
  have zf1 := frozen_of_cells b2 1
  have zf2 := frozen_of_cells b2 2
  clear hc
  go_wp2_with fail
  have hz := box3Put' (b2) (.int .i64 c) (.string ⟨#[]⟩) (.slice none 0 0)
  have hkz : Kp [R] w2 (((w2.setCell ⟨R, 0, none⟩ (.int .i64 c)).setCell ⟨R, 1, none⟩ (.string ⟨#[]⟩)).setCell ⟨R, 2, none⟩ (.slice none 0 0)) := (((Kp.refl _ _).setCell (.inl (by simp)) _).setCell (.inl (by simp)) _).setCell (.inl (by simp)) _
  obtain ⟨Z, hZ⟩ : ∃ Z, Z = (((w2).setCell ⟨R, 0, none⟩ (.int .i64 c)).setCell ⟨R, 1, none⟩ (.string ⟨#[]⟩)).setCell ⟨R, 2, none⟩ (.slice none 0 0) := ⟨_, rfl⟩
  rw [← hZ] at hz hkz ⊢
  obtain ⟨hz0, hz1, hz2⟩ := hz
  refine bodyPost_ret (ret3_mDo _ _ R (by kernel_rfl) hz0 hz1 hz2) rfl ?_
  have hkw := kp_past (k01.trans k2) hkz hRlt
  exact ⟨rfl, h.keep0 hkw, hkw⟩
theorem fns_put (F0 F1 F2 F3 F4 : Value) : kPut (4 : Int) F4 (kPut 3 F3 (kPut 2 F2 (kPut 1 F1 (kPut 0 F0 [])))) = [(0, F0), (1, F1), (2, F2), (3, F3), (4, F4)] := by
  simp [kPut]
theorem bound (n : Nat) (mb : Nat) : (Value.func (.func n) #[Md.p mb] #[]) = Value.func (.func n) #[Md.p mb] #[] := rfl
/-- the map of a model's ways, laid -/
theorem fns_laid {F0 F1 F2 F3 F4 : Value} (w : World) : ∃ u1 u2 u3 u4 u5 : World,
    (Instr.mapUpdate 51 (.map (some w.heap.size)) (.int .i64 0) F0).run Tryd.prog (w.alloc (.map #[] 0)) = .ok () u1 ∧
    (Instr.mapUpdate 51 (.map (some w.heap.size)) (.int .i64 1) F1).run Tryd.prog u1 = .ok () u2 ∧
    (Instr.mapUpdate 51 (.map (some w.heap.size)) (.int .i64 2) F2).run Tryd.prog u2 = .ok () u3 ∧
    (Instr.mapUpdate 51 (.map (some w.heap.size)) (.int .i64 3) F3).run Tryd.prog u3 = .ok () u4 ∧
    (Instr.mapUpdate 51 (.map (some w.heap.size)) (.int .i64 4) F4).run Tryd.prog u4 = .ok () u5 ∧
    MapK (Value.int .i64) u5 w.heap.size [(0, F0), (1, F1), (2, F2), (3, F3), (4, F4)] ∧ Kp [] w u5 := by
  have hw : ∀ n : Int, n = 0 ∨ n = 1 ∨ n = 2 ∨ n = 3 ∨ n = 4 → (Lit.int .i64 n).wf = true := by
    rintro n (rfl | rfl | rfl | rfl | rfl) <;> rfl
  have m0 : MapK (Value.int .i64) (w.alloc (.map #[] 0)) w.heap.size [] := MapK.made w
  obtain ⟨u1, h1, m1, k1⟩ := MapK.store (P := Tryd.prog) (encs_int under_int) under_mFn m0 (by simp) (k := 0) (hw 0 (by simp)) F0
  obtain ⟨u2, h2, m2, k2⟩ := MapK.store (P := Tryd.prog) (encs_int under_int) under_mFn m1 (by intro p hp; simp [kPut] at hp; subst hp; rfl) (k := 1) (hw 1 (by simp)) F1
  obtain ⟨u3, h3, m3, k3⟩ := MapK.store (P := Tryd.prog) (encs_int under_int) under_mFn m2 (by intro p hp; simp [kPut] at hp; rcases hp with rfl | rfl <;> rfl) (k := 2) (hw 2 (by simp)) F2
  obtain ⟨u4, h4, m4, k4⟩ := MapK.store (P := Tryd.prog) (encs_int under_int) under_mFn m3 (by intro p hp; simp [kPut] at hp; rcases hp with rfl | rfl | rfl <;> rfl) (k := 3) (hw 3 (by simp)) F3
  obtain ⟨u5, h5, m5, k5⟩ := MapK.store (P := Tryd.prog) (encs_int under_int) under_mFn m4 (by intro p hp; simp [kPut] at hp; rcases hp with rfl | rfl | rfl | rfl <;> rfl) (k := 4) (hw 4 (by simp)) F4
  rw [fns_put] at m5
  refine ⟨u1, u2, u3, u4, u5, h1, h2, h3, h4, h5, m5, ?_⟩
  have kk : Kp [w.heap.size] w u5 := (((((Kp.refl [w.heap.size] w).alloc _).trans k1).trans k2).trans k3 |>.trans k4).trans k5
  exact kk.weaken (fun i hi hm => by rw [List.mem_singleton] at hm; omega)
theorem fns_look {F0 F1 F2 F3 F4 : Value} {u : World} {b : Nat} (h : MapK (Value.int .i64) u b [(0, F0), (1, F1), (2, F2), (3, F3), (4, F4)]) (n : Int) (F : Value) (hn : (n = 0 ∧ F = F0) ∨ (n = 1 ∧ F = F1) ∨ (n = 2 ∧ F = F2) ∨ (n = 3 ∧ F = F3) ∨ (n = 4 ∧ F = F4)) :
    (Instr.lookup 51 (.map (some b)) (.int .i64 n) false).run Tryd.prog u = .ok F u := by
  have hk : ∀ p ∈ [((0 : Int), F0), (1, F1), (2, F2), (3, F3), (4, F4)], (Lit.int .i64 p.1).wf = true := by
    intro p hp
    simp only [List.mem_cons, List.not_mem_nil, or_false] at hp
    rcases hp with rfl | rfl | rfl | rfl | rfl <;> rfl
  have := MapK.look (P := Tryd.prog) (encs_int under_int) under_mFn h hk (k := n) (by rcases hn with ⟨rfl, -⟩ | ⟨rfl, -⟩ | ⟨rfl, -⟩ | ⟨rfl, -⟩ | ⟨rfl, -⟩ <;> rfl) _ (zero_fn u) false
  rw [this]
  rcases hn with ⟨rfl, rfl⟩ | ⟨rfl, rfl⟩ | ⟨rfl, rfl⟩ | ⟨rfl, rfl⟩ | ⟨rfl, rfl⟩ <;> simp [kGet]
set_option maxHeartbeats 4000000 in
set_option maxRecDepth 20000 in
theorem mdo_put {mb eb : Nat} {M M' : Mdl} {r : RespD} (kind : Int) (hkind : kind = 0) (k v : ByteArray) (hk : k.size < 16384) (hv : v.size < 16384) (w : World) (h : MdAt mb eb w M) (hck : checkE kind k v = 0)
    (hcall : ∀ W, Kp [] w W → Calls Tryd.prog 21 #[Md.p mb, ReqV kind k v] W fun e w' => ∃ x, e = .returned x ∧ Gave W.heap.size w' x r ∧ MdAt mb eb w' M' ∧ Kp [eb] W w') :
    Calls Tryd.prog 12 #[Md.p mb, ReqV kind k v] w fun e w' => ∃ x, e = .returned x ∧ Gave w.heap.size w' x r ∧ MdAt mb eb w' M' ∧ Kp [eb] w w' := by
  have hlt := h.lts
  have HKD := Lib.hid hkind
  clear hkind
  obtain ⟨w0, hw0⟩ : ∃ w0, w0 = w.alloc (.cells #[.int .i64 kind, .string k, .string v] 32) := ⟨_, rfl⟩
  have k0 : Kp [] w w0 := hw0 ▸ (Kp.refl _ _).alloc _
  have b0 : w0.heap[w.heap.size]? = some (.cells #[.int .i64 kind, .string k, .string v] 32 (0, 0)) := by rw [hw0]; exact block_new _ _
  obtain ⟨R, hR⟩ : ∃ R, R = w0.heap.size := ⟨_, rfl⟩
  have hR2 : R = w.heap.size + 1 := by rw [hR, hw0, World.size_alloc]
  obtain ⟨w1, hw1⟩ : ∃ w1, w1 = w0.alloc (.cells #[.int .i64 0, .string ⟨#[]⟩, .slice none 0 0] 37) := ⟨_, rfl⟩
  have k1 : Kp [] w0 w1 := hw1 ▸ (Kp.refl _ _).alloc _
  have b1 : w1.heap[R]? = some (.cells #[.int .i64 0, .string ⟨#[]⟩, .slice none 0 0] 37 (0, 0)) := by rw [hw1, hR]; exact block_new _ _
  have k01 := k0.trans k1
  have h1 := h.keep0 k01
  have hRlt : w.heap.size ≤ R := by omega
  have b01 := (k1.block _ (lt_of_block b0) (by simp)).trans b0
  have c0 := Kp.cellAt (X := []) (cell_of_cells (o := 0) h1.top rfl) (by simp)
  have cr0 := Kp.cellAt (X := []) (cell_of_cells (o := 0) (v := .int .i64 kind) b01 rfl) (by simp)
  have cr1 := Kp.cellAt (X := []) (cell_of_cells (o := 1) (v := .string k) b01 rfl) (by simp)
  have cr2 := Kp.cellAt (X := []) (cell_of_cells (o := 2) (v := .string v) b01 rfl) (by simp)
  have HW0 := Lib.hid hw0
  have HW1 := Lib.hid hw1
  have HR := Lib.hid hR2
  clear hw0 hw1 hR hR2 b01
  have hc := qcheck kind k v hk hv w1
  rw [hck] at hc
  have hmf : ∀ (fn : Fn) (first cap : Array Value) (w : World), (Instr.makeFunc fn first cap).run Tryd.prog w = .ok (.func fn first cap) w := fun _ _ _ _ => rfl
  clear hck
  go_enter Tryd.func12, Tryd.ntmps12
  go_wp2_with fail
  rw [← HW0.out, ← HW1.out, ← HR.out]
  refine hc.mono ?_
  rintro e w2 ⟨rfl, k2⟩
  obtain ⟨u1, u2, u3, u4, u5, hu1, hu2, hu3, hu4, hu5, hm5, k5⟩ := fns_laid (F0 := .func (.func 21) #[Md.p mb] #[]) (F1 := .func (.func 22) #[Md.p mb] #[]) (F2 := .func (.func 23) #[Md.p mb] #[]) (F3 := .func (.func 24) #[Md.p mb] #[]) (F4 := .func (.func 25) #[Md.p mb] #[]) w2
  have hlk := fns_look hm5 kind (.func (.func 21) #[Md.p mb] #[]) (by rw [HKD.out]; simp)
  have k25 := k2.trans k5
  have e0 : u5.cell? ⟨w.heap.size, 0, none⟩ = some (.int .i64 kind) := cr0 _ k25
  have e1 : u5.cell? ⟨w.heap.size, 1, none⟩ = some (.string k) := cr1 _ k25
  have e2 : u5.cell? ⟨w.heap.size, 2, none⟩ = some (.string v) := cr2 _ k25
  have b5 := (k25.block _ (lt_of_block b1) (by simp)).trans b1
  have hcl := hcall u5 (k01.trans k25)
  clear hc hcall hm5 cr0 cr1 cr2
  go_wp2_with fail
  rw [run_makeMap_plain]
  go_wp2_with fail
  refine hcl.mono ?_
  rintro e w3 ⟨x, rfl, ⟨av, cv, rfl, hO⟩, hM3, k3⟩
  have b3 := (k3.block _ (lt_of_block b5) (by simp only [List.mem_singleton]; omega)).trans b5
  have z0 := cell_of_cells (o := 0) b3 rfl
  have z1 := cell_of_cells (o := 1) b3 rfl
  have z2 := cell_of_cells (o := 2) b3 rfl
  have zf0 := frozen_of_cells b3 0
  have zf1 := frozen_of_cells b3 1
  have zf2 := frozen_of_cells b3 2
  obtain ⟨q, hq⟩ : ∃ q, q = r.keys.length := ⟨_, rfl⟩
  have HQ := Lib.hid hq
  rw [← hq] at hO ⊢
  clear hcl e0 e1 e2 hlk hu1 hu2 hu3 hu4 hu5 hq
  go_wp2_with fail
  have hz := box3Put' (b3) (.int .i64 r.code) (.string r.val) (.slice av q cv)
  have hkz : Kp [R] w3 (((w3.setCell ⟨R, 0, none⟩ (.int .i64 r.code)).setCell ⟨R, 1, none⟩ (.string r.val)).setCell ⟨R, 2, none⟩ (.slice av q cv)) := (((Kp.refl _ _).setCell (.inl (by simp)) _).setCell (.inl (by simp)) _).setCell (.inl (by simp)) _
  obtain ⟨Z, hZ⟩ : ∃ Z, Z = (((w3).setCell ⟨R, 0, none⟩ (.int .i64 r.code)).setCell ⟨R, 1, none⟩ (.string r.val)).setCell ⟨R, 2, none⟩ (.slice av q cv) := ⟨_, rfl⟩
  rw [← hZ] at hz hkz ⊢
  obtain ⟨hz0, hz1, hz2⟩ := hz
  refine bodyPost_ret (ret3_mDo _ _ R (by kernel_rfl) hz0 hz1 hz2) rfl ?_
  have hkw := kp_past (((k01.trans k25).weaken (Y := [eb]) (fun _ _ hm => by cases hm)).trans k3) hkz hRlt
  have hne : ∀ g, (Value.slice av q cv).ownBlock = some g → g ∉ [R] := fun g hg => by
    have := own_block_ge hO g hg
    have := lt_of_block b5
    simp only [List.mem_singleton]
    omega
  refine ⟨_, rfl, ⟨av, cv, by rw [← HQ.out], ?_⟩, hM3.keep hkz (by simp only [List.mem_singleton]; omega) (by simp only [List.mem_singleton]; omega), hkw⟩
  rw [← HQ.out]
  exact ownsRow_base (owns_other hO hkz hne) (k01.trans k25).size
set_option maxHeartbeats 4000000 in
set_option maxRecDepth 20000 in
theorem mdo_get {mb eb : Nat} {M M' : Mdl} {r : RespD} (kind : Int) (hkind : kind = 1) (k v : ByteArray) (hk : k.size < 16384) (hv : v.size < 16384) (w : World) (h : MdAt mb eb w M) (hck : checkE kind k v = 0)
    (hcall : ∀ W, Kp [] w W → Calls Tryd.prog 22 #[Md.p mb, ReqV kind k v] W fun e w' => ∃ x, e = .returned x ∧ Gave W.heap.size w' x r ∧ MdAt mb eb w' M' ∧ Kp [eb] W w') :
    Calls Tryd.prog 12 #[Md.p mb, ReqV kind k v] w fun e w' => ∃ x, e = .returned x ∧ Gave w.heap.size w' x r ∧ MdAt mb eb w' M' ∧ Kp [eb] w w' := by
  have hlt := h.lts
  have HKD := Lib.hid hkind
  clear hkind
  obtain ⟨w0, hw0⟩ : ∃ w0, w0 = w.alloc (.cells #[.int .i64 kind, .string k, .string v] 32) := ⟨_, rfl⟩
  have k0 : Kp [] w w0 := hw0 ▸ (Kp.refl _ _).alloc _
  have b0 : w0.heap[w.heap.size]? = some (.cells #[.int .i64 kind, .string k, .string v] 32 (0, 0)) := by rw [hw0]; exact block_new _ _
  obtain ⟨R, hR⟩ : ∃ R, R = w0.heap.size := ⟨_, rfl⟩
  have hR2 : R = w.heap.size + 1 := by rw [hR, hw0, World.size_alloc]
  obtain ⟨w1, hw1⟩ : ∃ w1, w1 = w0.alloc (.cells #[.int .i64 0, .string ⟨#[]⟩, .slice none 0 0] 37) := ⟨_, rfl⟩
  have k1 : Kp [] w0 w1 := hw1 ▸ (Kp.refl _ _).alloc _
  have b1 : w1.heap[R]? = some (.cells #[.int .i64 0, .string ⟨#[]⟩, .slice none 0 0] 37 (0, 0)) := by rw [hw1, hR]; exact block_new _ _
  have k01 := k0.trans k1
  have h1 := h.keep0 k01
  have hRlt : w.heap.size ≤ R := by omega
  have b01 := (k1.block _ (lt_of_block b0) (by simp)).trans b0
  have c0 := Kp.cellAt (X := []) (cell_of_cells (o := 0) h1.top rfl) (by simp)
  have cr0 := Kp.cellAt (X := []) (cell_of_cells (o := 0) (v := .int .i64 kind) b01 rfl) (by simp)
  have cr1 := Kp.cellAt (X := []) (cell_of_cells (o := 1) (v := .string k) b01 rfl) (by simp)
  have cr2 := Kp.cellAt (X := []) (cell_of_cells (o := 2) (v := .string v) b01 rfl) (by simp)
  have HW0 := Lib.hid hw0
  have HW1 := Lib.hid hw1
  have HR := Lib.hid hR2
  clear hw0 hw1 hR hR2 b01
  have hc := qcheck kind k v hk hv w1
  rw [hck] at hc
  have hmf : ∀ (fn : Fn) (first cap : Array Value) (w : World), (Instr.makeFunc fn first cap).run Tryd.prog w = .ok (.func fn first cap) w := fun _ _ _ _ => rfl
  clear hck
  go_enter Tryd.func12, Tryd.ntmps12
  go_wp2_with fail
  rw [← HW0.out, ← HW1.out, ← HR.out]
  refine hc.mono ?_
  rintro e w2 ⟨rfl, k2⟩
  obtain ⟨u1, u2, u3, u4, u5, hu1, hu2, hu3, hu4, hu5, hm5, k5⟩ := fns_laid (F0 := .func (.func 21) #[Md.p mb] #[]) (F1 := .func (.func 22) #[Md.p mb] #[]) (F2 := .func (.func 23) #[Md.p mb] #[]) (F3 := .func (.func 24) #[Md.p mb] #[]) (F4 := .func (.func 25) #[Md.p mb] #[]) w2
  have hlk := fns_look hm5 kind (.func (.func 22) #[Md.p mb] #[]) (by rw [HKD.out]; simp)
  have k25 := k2.trans k5
  have e0 : u5.cell? ⟨w.heap.size, 0, none⟩ = some (.int .i64 kind) := cr0 _ k25
  have e1 : u5.cell? ⟨w.heap.size, 1, none⟩ = some (.string k) := cr1 _ k25
  have e2 : u5.cell? ⟨w.heap.size, 2, none⟩ = some (.string v) := cr2 _ k25
  have b5 := (k25.block _ (lt_of_block b1) (by simp)).trans b1
  have hcl := hcall u5 (k01.trans k25)
  clear hc hcall hm5 cr0 cr1 cr2
  go_wp2_with fail
  rw [run_makeMap_plain]
  go_wp2_with fail
  refine hcl.mono ?_
  rintro e w3 ⟨x, rfl, ⟨av, cv, rfl, hO⟩, hM3, k3⟩
  have b3 := (k3.block _ (lt_of_block b5) (by simp only [List.mem_singleton]; omega)).trans b5
  have z0 := cell_of_cells (o := 0) b3 rfl
  have z1 := cell_of_cells (o := 1) b3 rfl
  have z2 := cell_of_cells (o := 2) b3 rfl
  have zf0 := frozen_of_cells b3 0
  have zf1 := frozen_of_cells b3 1
  have zf2 := frozen_of_cells b3 2
  obtain ⟨q, hq⟩ : ∃ q, q = r.keys.length := ⟨_, rfl⟩
  have HQ := Lib.hid hq
  rw [← hq] at hO ⊢
  clear hcl e0 e1 e2 hlk hu1 hu2 hu3 hu4 hu5 hq
  go_wp2_with fail
  have hz := box3Put' (b3) (.int .i64 r.code) (.string r.val) (.slice av q cv)
  have hkz : Kp [R] w3 (((w3.setCell ⟨R, 0, none⟩ (.int .i64 r.code)).setCell ⟨R, 1, none⟩ (.string r.val)).setCell ⟨R, 2, none⟩ (.slice av q cv)) := (((Kp.refl _ _).setCell (.inl (by simp)) _).setCell (.inl (by simp)) _).setCell (.inl (by simp)) _
  obtain ⟨Z, hZ⟩ : ∃ Z, Z = (((w3).setCell ⟨R, 0, none⟩ (.int .i64 r.code)).setCell ⟨R, 1, none⟩ (.string r.val)).setCell ⟨R, 2, none⟩ (.slice av q cv) := ⟨_, rfl⟩
  rw [← hZ] at hz hkz ⊢
  obtain ⟨hz0, hz1, hz2⟩ := hz
  refine bodyPost_ret (ret3_mDo _ _ R (by kernel_rfl) hz0 hz1 hz2) rfl ?_
  have hkw := kp_past (((k01.trans k25).weaken (Y := [eb]) (fun _ _ hm => by cases hm)).trans k3) hkz hRlt
  have hne : ∀ g, (Value.slice av q cv).ownBlock = some g → g ∉ [R] := fun g hg => by
    have := own_block_ge hO g hg
    have := lt_of_block b5
    simp only [List.mem_singleton]
    omega
  refine ⟨_, rfl, ⟨av, cv, by rw [← HQ.out], ?_⟩, hM3.keep hkz (by simp only [List.mem_singleton]; omega) (by simp only [List.mem_singleton]; omega), hkw⟩
  rw [← HQ.out]
  exact ownsRow_base (owns_other hO hkz hne) (k01.trans k25).size
set_option maxHeartbeats 4000000 in
set_option maxRecDepth 20000 in
theorem mdo_remove {mb eb : Nat} {M M' : Mdl} {r : RespD} (kind : Int) (hkind : kind = 2) (k v : ByteArray) (hk : k.size < 16384) (hv : v.size < 16384) (w : World) (h : MdAt mb eb w M) (hck : checkE kind k v = 0)
    (hcall : ∀ W, Kp [] w W → Calls Tryd.prog 23 #[Md.p mb, ReqV kind k v] W fun e w' => ∃ x, e = .returned x ∧ Gave W.heap.size w' x r ∧ MdAt mb eb w' M' ∧ Kp [eb] W w') :
    Calls Tryd.prog 12 #[Md.p mb, ReqV kind k v] w fun e w' => ∃ x, e = .returned x ∧ Gave w.heap.size w' x r ∧ MdAt mb eb w' M' ∧ Kp [eb] w w' := by
  have hlt := h.lts
  have HKD := Lib.hid hkind
  clear hkind
  obtain ⟨w0, hw0⟩ : ∃ w0, w0 = w.alloc (.cells #[.int .i64 kind, .string k, .string v] 32) := ⟨_, rfl⟩
  have k0 : Kp [] w w0 := hw0 ▸ (Kp.refl _ _).alloc _
  have b0 : w0.heap[w.heap.size]? = some (.cells #[.int .i64 kind, .string k, .string v] 32 (0, 0)) := by rw [hw0]; exact block_new _ _
  obtain ⟨R, hR⟩ : ∃ R, R = w0.heap.size := ⟨_, rfl⟩
  have hR2 : R = w.heap.size + 1 := by rw [hR, hw0, World.size_alloc]
  obtain ⟨w1, hw1⟩ : ∃ w1, w1 = w0.alloc (.cells #[.int .i64 0, .string ⟨#[]⟩, .slice none 0 0] 37) := ⟨_, rfl⟩
  have k1 : Kp [] w0 w1 := hw1 ▸ (Kp.refl _ _).alloc _
  have b1 : w1.heap[R]? = some (.cells #[.int .i64 0, .string ⟨#[]⟩, .slice none 0 0] 37 (0, 0)) := by rw [hw1, hR]; exact block_new _ _
  have k01 := k0.trans k1
  have h1 := h.keep0 k01
  have hRlt : w.heap.size ≤ R := by omega
  have b01 := (k1.block _ (lt_of_block b0) (by simp)).trans b0
  have c0 := Kp.cellAt (X := []) (cell_of_cells (o := 0) h1.top rfl) (by simp)
  have cr0 := Kp.cellAt (X := []) (cell_of_cells (o := 0) (v := .int .i64 kind) b01 rfl) (by simp)
  have cr1 := Kp.cellAt (X := []) (cell_of_cells (o := 1) (v := .string k) b01 rfl) (by simp)
  have cr2 := Kp.cellAt (X := []) (cell_of_cells (o := 2) (v := .string v) b01 rfl) (by simp)
  have HW0 := Lib.hid hw0
  have HW1 := Lib.hid hw1
  have HR := Lib.hid hR2
  clear hw0 hw1 hR hR2 b01
  have hc := qcheck kind k v hk hv w1
  rw [hck] at hc
  have hmf : ∀ (fn : Fn) (first cap : Array Value) (w : World), (Instr.makeFunc fn first cap).run Tryd.prog w = .ok (.func fn first cap) w := fun _ _ _ _ => rfl
  clear hck
  go_enter Tryd.func12, Tryd.ntmps12
  go_wp2_with fail
  rw [← HW0.out, ← HW1.out, ← HR.out]
  refine hc.mono ?_
  rintro e w2 ⟨rfl, k2⟩
  obtain ⟨u1, u2, u3, u4, u5, hu1, hu2, hu3, hu4, hu5, hm5, k5⟩ := fns_laid (F0 := .func (.func 21) #[Md.p mb] #[]) (F1 := .func (.func 22) #[Md.p mb] #[]) (F2 := .func (.func 23) #[Md.p mb] #[]) (F3 := .func (.func 24) #[Md.p mb] #[]) (F4 := .func (.func 25) #[Md.p mb] #[]) w2
  have hlk := fns_look hm5 kind (.func (.func 23) #[Md.p mb] #[]) (by rw [HKD.out]; simp)
  have k25 := k2.trans k5
  have e0 : u5.cell? ⟨w.heap.size, 0, none⟩ = some (.int .i64 kind) := cr0 _ k25
  have e1 : u5.cell? ⟨w.heap.size, 1, none⟩ = some (.string k) := cr1 _ k25
  have e2 : u5.cell? ⟨w.heap.size, 2, none⟩ = some (.string v) := cr2 _ k25
  have b5 := (k25.block _ (lt_of_block b1) (by simp)).trans b1
  have hcl := hcall u5 (k01.trans k25)
  clear hc hcall hm5 cr0 cr1 cr2
  go_wp2_with fail
  rw [run_makeMap_plain]
  go_wp2_with fail
  refine hcl.mono ?_
  rintro e w3 ⟨x, rfl, ⟨av, cv, rfl, hO⟩, hM3, k3⟩
  have b3 := (k3.block _ (lt_of_block b5) (by simp only [List.mem_singleton]; omega)).trans b5
  have z0 := cell_of_cells (o := 0) b3 rfl
  have z1 := cell_of_cells (o := 1) b3 rfl
  have z2 := cell_of_cells (o := 2) b3 rfl
  have zf0 := frozen_of_cells b3 0
  have zf1 := frozen_of_cells b3 1
  have zf2 := frozen_of_cells b3 2
  obtain ⟨q, hq⟩ : ∃ q, q = r.keys.length := ⟨_, rfl⟩
  have HQ := Lib.hid hq
  rw [← hq] at hO ⊢
  clear hcl e0 e1 e2 hlk hu1 hu2 hu3 hu4 hu5 hq
  go_wp2_with fail
  have hz := box3Put' (b3) (.int .i64 r.code) (.string r.val) (.slice av q cv)
  have hkz : Kp [R] w3 (((w3.setCell ⟨R, 0, none⟩ (.int .i64 r.code)).setCell ⟨R, 1, none⟩ (.string r.val)).setCell ⟨R, 2, none⟩ (.slice av q cv)) := (((Kp.refl _ _).setCell (.inl (by simp)) _).setCell (.inl (by simp)) _).setCell (.inl (by simp)) _
  obtain ⟨Z, hZ⟩ : ∃ Z, Z = (((w3).setCell ⟨R, 0, none⟩ (.int .i64 r.code)).setCell ⟨R, 1, none⟩ (.string r.val)).setCell ⟨R, 2, none⟩ (.slice av q cv) := ⟨_, rfl⟩
  rw [← hZ] at hz hkz ⊢
  obtain ⟨hz0, hz1, hz2⟩ := hz
  refine bodyPost_ret (ret3_mDo _ _ R (by kernel_rfl) hz0 hz1 hz2) rfl ?_
  have hkw := kp_past (((k01.trans k25).weaken (Y := [eb]) (fun _ _ hm => by cases hm)).trans k3) hkz hRlt
  have hne : ∀ g, (Value.slice av q cv).ownBlock = some g → g ∉ [R] := fun g hg => by
    have := own_block_ge hO g hg
    have := lt_of_block b5
    simp only [List.mem_singleton]
    omega
  refine ⟨_, rfl, ⟨av, cv, by rw [← HQ.out], ?_⟩, hM3.keep hkz (by simp only [List.mem_singleton]; omega) (by simp only [List.mem_singleton]; omega), hkw⟩
  rw [← HQ.out]
  exact ownsRow_base (owns_other hO hkz hne) (k01.trans k25).size
set_option maxHeartbeats 4000000 in
set_option maxRecDepth 20000 in
theorem mdo_stat {mb eb : Nat} {M M' : Mdl} {r : RespD} (kind : Int) (hkind : kind = 3) (k v : ByteArray) (hk : k.size < 16384) (hv : v.size < 16384) (w : World) (h : MdAt mb eb w M) (hck : checkE kind k v = 0)
    (hcall : ∀ W, Kp [] w W → Calls Tryd.prog 24 #[Md.p mb, ReqV kind k v] W fun e w' => ∃ x, e = .returned x ∧ Gave W.heap.size w' x r ∧ MdAt mb eb w' M' ∧ Kp [eb] W w') :
    Calls Tryd.prog 12 #[Md.p mb, ReqV kind k v] w fun e w' => ∃ x, e = .returned x ∧ Gave w.heap.size w' x r ∧ MdAt mb eb w' M' ∧ Kp [eb] w w' := by
  have hlt := h.lts
  have HKD := Lib.hid hkind
  clear hkind
  obtain ⟨w0, hw0⟩ : ∃ w0, w0 = w.alloc (.cells #[.int .i64 kind, .string k, .string v] 32) := ⟨_, rfl⟩
  have k0 : Kp [] w w0 := hw0 ▸ (Kp.refl _ _).alloc _
  have b0 : w0.heap[w.heap.size]? = some (.cells #[.int .i64 kind, .string k, .string v] 32 (0, 0)) := by rw [hw0]; exact block_new _ _
  obtain ⟨R, hR⟩ : ∃ R, R = w0.heap.size := ⟨_, rfl⟩
  have hR2 : R = w.heap.size + 1 := by rw [hR, hw0, World.size_alloc]
  obtain ⟨w1, hw1⟩ : ∃ w1, w1 = w0.alloc (.cells #[.int .i64 0, .string ⟨#[]⟩, .slice none 0 0] 37) := ⟨_, rfl⟩
  have k1 : Kp [] w0 w1 := hw1 ▸ (Kp.refl _ _).alloc _
  have b1 : w1.heap[R]? = some (.cells #[.int .i64 0, .string ⟨#[]⟩, .slice none 0 0] 37 (0, 0)) := by rw [hw1, hR]; exact block_new _ _
  have k01 := k0.trans k1
  have h1 := h.keep0 k01
  have hRlt : w.heap.size ≤ R := by omega
  have b01 := (k1.block _ (lt_of_block b0) (by simp)).trans b0
  have c0 := Kp.cellAt (X := []) (cell_of_cells (o := 0) h1.top rfl) (by simp)
  have cr0 := Kp.cellAt (X := []) (cell_of_cells (o := 0) (v := .int .i64 kind) b01 rfl) (by simp)
  have cr1 := Kp.cellAt (X := []) (cell_of_cells (o := 1) (v := .string k) b01 rfl) (by simp)
  have cr2 := Kp.cellAt (X := []) (cell_of_cells (o := 2) (v := .string v) b01 rfl) (by simp)
  have HW0 := Lib.hid hw0
  have HW1 := Lib.hid hw1
  have HR := Lib.hid hR2
  clear hw0 hw1 hR hR2 b01
  have hc := qcheck kind k v hk hv w1
  rw [hck] at hc
  have hmf : ∀ (fn : Fn) (first cap : Array Value) (w : World), (Instr.makeFunc fn first cap).run Tryd.prog w = .ok (.func fn first cap) w := fun _ _ _ _ => rfl
  clear hck
  go_enter Tryd.func12, Tryd.ntmps12
  go_wp2_with fail
  rw [← HW0.out, ← HW1.out, ← HR.out]
  refine hc.mono ?_
  rintro e w2 ⟨rfl, k2⟩
  obtain ⟨u1, u2, u3, u4, u5, hu1, hu2, hu3, hu4, hu5, hm5, k5⟩ := fns_laid (F0 := .func (.func 21) #[Md.p mb] #[]) (F1 := .func (.func 22) #[Md.p mb] #[]) (F2 := .func (.func 23) #[Md.p mb] #[]) (F3 := .func (.func 24) #[Md.p mb] #[]) (F4 := .func (.func 25) #[Md.p mb] #[]) w2
  have hlk := fns_look hm5 kind (.func (.func 24) #[Md.p mb] #[]) (by rw [HKD.out]; simp)
  have k25 := k2.trans k5
  have e0 : u5.cell? ⟨w.heap.size, 0, none⟩ = some (.int .i64 kind) := cr0 _ k25
  have e1 : u5.cell? ⟨w.heap.size, 1, none⟩ = some (.string k) := cr1 _ k25
  have e2 : u5.cell? ⟨w.heap.size, 2, none⟩ = some (.string v) := cr2 _ k25
  have b5 := (k25.block _ (lt_of_block b1) (by simp)).trans b1
  have hcl := hcall u5 (k01.trans k25)
  clear hc hcall hm5 cr0 cr1 cr2
  go_wp2_with fail
  rw [run_makeMap_plain]
  go_wp2_with fail
  refine hcl.mono ?_
  rintro e w3 ⟨x, rfl, ⟨av, cv, rfl, hO⟩, hM3, k3⟩
  have b3 := (k3.block _ (lt_of_block b5) (by simp only [List.mem_singleton]; omega)).trans b5
  have z0 := cell_of_cells (o := 0) b3 rfl
  have z1 := cell_of_cells (o := 1) b3 rfl
  have z2 := cell_of_cells (o := 2) b3 rfl
  have zf0 := frozen_of_cells b3 0
  have zf1 := frozen_of_cells b3 1
  have zf2 := frozen_of_cells b3 2
  obtain ⟨q, hq⟩ : ∃ q, q = r.keys.length := ⟨_, rfl⟩
  have HQ := Lib.hid hq
  rw [← hq] at hO ⊢
  clear hcl e0 e1 e2 hlk hu1 hu2 hu3 hu4 hu5 hq
  go_wp2_with fail
  have hz := box3Put' (b3) (.int .i64 r.code) (.string r.val) (.slice av q cv)
  have hkz : Kp [R] w3 (((w3.setCell ⟨R, 0, none⟩ (.int .i64 r.code)).setCell ⟨R, 1, none⟩ (.string r.val)).setCell ⟨R, 2, none⟩ (.slice av q cv)) := (((Kp.refl _ _).setCell (.inl (by simp)) _).setCell (.inl (by simp)) _).setCell (.inl (by simp)) _
  obtain ⟨Z, hZ⟩ : ∃ Z, Z = (((w3).setCell ⟨R, 0, none⟩ (.int .i64 r.code)).setCell ⟨R, 1, none⟩ (.string r.val)).setCell ⟨R, 2, none⟩ (.slice av q cv) := ⟨_, rfl⟩
  rw [← hZ] at hz hkz ⊢
  obtain ⟨hz0, hz1, hz2⟩ := hz
  refine bodyPost_ret (ret3_mDo _ _ R (by kernel_rfl) hz0 hz1 hz2) rfl ?_
  have hkw := kp_past (((k01.trans k25).weaken (Y := [eb]) (fun _ _ hm => by cases hm)).trans k3) hkz hRlt
  have hne : ∀ g, (Value.slice av q cv).ownBlock = some g → g ∉ [R] := fun g hg => by
    have := own_block_ge hO g hg
    have := lt_of_block b5
    simp only [List.mem_singleton]
    omega
  refine ⟨_, rfl, ⟨av, cv, by rw [← HQ.out], ?_⟩, hM3.keep hkz (by simp only [List.mem_singleton]; omega) (by simp only [List.mem_singleton]; omega), hkw⟩
  rw [← HQ.out]
  exact ownsRow_base (owns_other hO hkz hne) (k01.trans k25).size
set_option maxHeartbeats 4000000 in
set_option maxRecDepth 20000 in
theorem mdo_list {mb eb : Nat} {M M' : Mdl} {r : RespD} (kind : Int) (hkind : kind = 4) (k v : ByteArray) (hk : k.size < 16384) (hv : v.size < 16384) (w : World) (h : MdAt mb eb w M) (hck : checkE kind k v = 0)
    (hcall : ∀ W, Kp [] w W → Calls Tryd.prog 25 #[Md.p mb, ReqV kind k v] W fun e w' => ∃ x, e = .returned x ∧ Gave W.heap.size w' x r ∧ MdAt mb eb w' M' ∧ Kp [eb] W w') :
    Calls Tryd.prog 12 #[Md.p mb, ReqV kind k v] w fun e w' => ∃ x, e = .returned x ∧ Gave w.heap.size w' x r ∧ MdAt mb eb w' M' ∧ Kp [eb] w w' := by
  have hlt := h.lts
  have HKD := Lib.hid hkind
  clear hkind
  obtain ⟨w0, hw0⟩ : ∃ w0, w0 = w.alloc (.cells #[.int .i64 kind, .string k, .string v] 32) := ⟨_, rfl⟩
  have k0 : Kp [] w w0 := hw0 ▸ (Kp.refl _ _).alloc _
  have b0 : w0.heap[w.heap.size]? = some (.cells #[.int .i64 kind, .string k, .string v] 32 (0, 0)) := by rw [hw0]; exact block_new _ _
  obtain ⟨R, hR⟩ : ∃ R, R = w0.heap.size := ⟨_, rfl⟩
  have hR2 : R = w.heap.size + 1 := by rw [hR, hw0, World.size_alloc]
  obtain ⟨w1, hw1⟩ : ∃ w1, w1 = w0.alloc (.cells #[.int .i64 0, .string ⟨#[]⟩, .slice none 0 0] 37) := ⟨_, rfl⟩
  have k1 : Kp [] w0 w1 := hw1 ▸ (Kp.refl _ _).alloc _
  have b1 : w1.heap[R]? = some (.cells #[.int .i64 0, .string ⟨#[]⟩, .slice none 0 0] 37 (0, 0)) := by rw [hw1, hR]; exact block_new _ _
  have k01 := k0.trans k1
  have h1 := h.keep0 k01
  have hRlt : w.heap.size ≤ R := by omega
  have b01 := (k1.block _ (lt_of_block b0) (by simp)).trans b0
  have c0 := Kp.cellAt (X := []) (cell_of_cells (o := 0) h1.top rfl) (by simp)
  have cr0 := Kp.cellAt (X := []) (cell_of_cells (o := 0) (v := .int .i64 kind) b01 rfl) (by simp)
  have cr1 := Kp.cellAt (X := []) (cell_of_cells (o := 1) (v := .string k) b01 rfl) (by simp)
  have cr2 := Kp.cellAt (X := []) (cell_of_cells (o := 2) (v := .string v) b01 rfl) (by simp)
  have HW0 := Lib.hid hw0
  have HW1 := Lib.hid hw1
  have HR := Lib.hid hR2
  clear hw0 hw1 hR hR2 b01
  have hc := qcheck kind k v hk hv w1
  rw [hck] at hc
  have hmf : ∀ (fn : Fn) (first cap : Array Value) (w : World), (Instr.makeFunc fn first cap).run Tryd.prog w = .ok (.func fn first cap) w := fun _ _ _ _ => rfl
  clear hck
  go_enter Tryd.func12, Tryd.ntmps12
  go_wp2_with fail
  rw [← HW0.out, ← HW1.out, ← HR.out]
  refine hc.mono ?_
  rintro e w2 ⟨rfl, k2⟩
  obtain ⟨u1, u2, u3, u4, u5, hu1, hu2, hu3, hu4, hu5, hm5, k5⟩ := fns_laid (F0 := .func (.func 21) #[Md.p mb] #[]) (F1 := .func (.func 22) #[Md.p mb] #[]) (F2 := .func (.func 23) #[Md.p mb] #[]) (F3 := .func (.func 24) #[Md.p mb] #[]) (F4 := .func (.func 25) #[Md.p mb] #[]) w2
  have hlk := fns_look hm5 kind (.func (.func 25) #[Md.p mb] #[]) (by rw [HKD.out]; simp)
  have k25 := k2.trans k5
  have e0 : u5.cell? ⟨w.heap.size, 0, none⟩ = some (.int .i64 kind) := cr0 _ k25
  have e1 : u5.cell? ⟨w.heap.size, 1, none⟩ = some (.string k) := cr1 _ k25
  have e2 : u5.cell? ⟨w.heap.size, 2, none⟩ = some (.string v) := cr2 _ k25
  have b5 := (k25.block _ (lt_of_block b1) (by simp)).trans b1
  have hcl := hcall u5 (k01.trans k25)
  clear hc hcall hm5 cr0 cr1 cr2
  go_wp2_with fail
  rw [run_makeMap_plain]
  go_wp2_with fail
  refine hcl.mono ?_
  rintro e w3 ⟨x, rfl, ⟨av, cv, rfl, hO⟩, hM3, k3⟩
  have b3 := (k3.block _ (lt_of_block b5) (by simp only [List.mem_singleton]; omega)).trans b5
  have z0 := cell_of_cells (o := 0) b3 rfl
  have z1 := cell_of_cells (o := 1) b3 rfl
  have z2 := cell_of_cells (o := 2) b3 rfl
  have zf0 := frozen_of_cells b3 0
  have zf1 := frozen_of_cells b3 1
  have zf2 := frozen_of_cells b3 2
  obtain ⟨q, hq⟩ : ∃ q, q = r.keys.length := ⟨_, rfl⟩
  have HQ := Lib.hid hq
  rw [← hq] at hO ⊢
  clear hcl e0 e1 e2 hlk hu1 hu2 hu3 hu4 hu5 hq
  go_wp2_with fail
  have hz := box3Put' (b3) (.int .i64 r.code) (.string r.val) (.slice av q cv)
  have hkz : Kp [R] w3 (((w3.setCell ⟨R, 0, none⟩ (.int .i64 r.code)).setCell ⟨R, 1, none⟩ (.string r.val)).setCell ⟨R, 2, none⟩ (.slice av q cv)) := (((Kp.refl _ _).setCell (.inl (by simp)) _).setCell (.inl (by simp)) _).setCell (.inl (by simp)) _
  obtain ⟨Z, hZ⟩ : ∃ Z, Z = (((w3).setCell ⟨R, 0, none⟩ (.int .i64 r.code)).setCell ⟨R, 1, none⟩ (.string r.val)).setCell ⟨R, 2, none⟩ (.slice av q cv) := ⟨_, rfl⟩
  rw [← hZ] at hz hkz ⊢
  obtain ⟨hz0, hz1, hz2⟩ := hz
  refine bodyPost_ret (ret3_mDo _ _ R (by kernel_rfl) hz0 hz1 hz2) rfl ?_
  have hkw := kp_past (((k01.trans k25).weaken (Y := [eb]) (fun _ _ hm => by cases hm)).trans k3) hkz hRlt
  have hne : ∀ g, (Value.slice av q cv).ownBlock = some g → g ∉ [R] := fun g hg => by
    have := own_block_ge hO g hg
    have := lt_of_block b5
    simp only [List.mem_singleton]
    omega
  refine ⟨_, rfl, ⟨av, cv, by rw [← HQ.out], ?_⟩, hM3.keep hkz (by simp only [List.mem_singleton]; omega) (by simp only [List.mem_singleton]; omega), hkw⟩
  rw [← HQ.out]
  exact ownsRow_base (owns_other hO hkz hne) (k01.trans k25).size
end Go.Proofs.YtlomniffpjndfaaDoor
