/-
  lay: a volume more.
-/
import Derived.Test.YtdhhddifmkijhaaGreatIdxJ
import Derived.Test.YtdhhddifmkijhaaGreatMapE
import Derived.Test.YtdhhddifmkijhaaGreatReg
namespace Go.Proofs.YtdhhddifmkijhaaGreat
open Go.RowKit Go.ChangeMaps Go.Maps Go.WideShapes Go.WideMaps Go.WideElems Go.MapKept Go.ChangeShapes

structure Ib.Apart (I : Ib) : Prop where
  be : I.b ≠ I.e
  bg : I.b ≠ I.g
  bv : I.b ≠ I.v
  bh : I.b ≠ I.h
  eg : I.e ≠ I.g
  ev : I.e ≠ I.v
  eh : I.e ≠ I.h
  gv : I.g ≠ I.v
  gh : I.g ≠ I.h
  vh : I.v ≠ I.h
theorem Ib.apart {I : Ib} (h : I.X.Nodup) : I.Apart := by
  simp only [Ib.X, List.nodup_cons, List.mem_cons, List.not_mem_nil, or_false, List.nodup_nil, not_or, and_true, not_false_eq_true] at h
  obtain ⟨⟨h1, h2, h3, h4⟩, ⟨h5, h6, h7⟩, ⟨h8, h9⟩, h10⟩ := h
  exact ⟨h1, h2, h3, h4, h5, h6, h7, h8, h9, h10⟩
theorem Ib.mem (I : Ib) : I.b ∈ I.X ∧ I.e ∈ I.X ∧ I.g ∈ I.X ∧ I.v ∈ I.X ∧ I.h ∈ I.X := by simp [Ib.X]
theorem IxAt.lts {I : Ib} {w : World} {x : Ix} (h : IxAt I w x) : ∀ i ∈ I.X, i < w.heap.size := by
  intro i hi
  simp only [Ib.X, List.mem_cons, List.not_mem_nil, or_false] at hi
  rcases hi with rfl | rfl | rfl | rfl | rfl
  · exact lt_of_block h.top
  · exact h.ents.lt
  · exact h.gone.lt
  · obtain ⟨VS, -, h2, -⟩ := h.vols; exact h2.lt
  · exact h.had.lt
theorem IxAt.withV {I : Ib} {w w' : World} {x : Ix} (h : IxAt I w x) (k : Kp [I.v] w w') {V : List (Int × VolD)} (hv : VolsIn I.X w' I.v V) : IxAt I w' { x with V := V } := by
  have a := Ib.apart h.apart
  have m := I.mem
  exact ⟨(k.block _ (h.lts _ m.1) (by simp [a.bv])).trans h.top, h.ents.keep k (by simp [a.ev]), h.gone.keep k (by simp [a.gv]), hv, h.had.keep k (by simp [a.vh.symm]), h.apart⟩
theorem IxAt.withH {I : Ib} {w w' : World} {x : Ix} (h : IxAt I w x) (k : Kp [I.h] w w') {H : List Int} (hh : MapK (Value.int .i64) w' I.h (H.map fun d => (d, .bool true))) : IxAt I w' { x with H := H } := by
  have a := Ib.apart h.apart
  have m := I.mem
  exact ⟨(k.block _ (h.lts _ m.1) (by simp [a.bh])).trans h.top, h.ents.keep k (by simp [a.eh]), h.gone.keep k (by simp [a.gh]), h.vols.keep k (fun i hi _ => by simp only [List.mem_singleton] at hi; subst hi; exact m.2.2.2.2) (by simp [a.vh]), hh, h.apart⟩
theorem IxAt.withE {I : Ib} {w w' : World} {x : Ix} (h : IxAt I w x) (k : Kp [I.e] w w') {E : List (ByteArray × EntD)} (he : MapK Value.string w' I.e (E.map fun p => (p.1, .agg (EntVA p.2)))) : IxAt I w' { x with E := E } := by
  have a := Ib.apart h.apart
  have m := I.mem
  exact ⟨(k.block _ (h.lts _ m.1) (by simp [a.be])).trans h.top, he, h.gone.keep k (by simp [a.eg.symm]), h.vols.keep k (fun i hi _ => by simp only [List.mem_singleton] at hi; subst hi; exact m.2.1) (by simp [a.ev.symm]), h.had.keep k (by simp [a.eh.symm]), h.apart⟩
theorem IxAt.withG {I : Ib} {w w' : World} {x : Ix} (h : IxAt I w x) (k : Kp [I.g] w w') {G : List ByteArray} (hg : MapK Value.string w' I.g (G.map fun k => (k, .bool true))) : IxAt I w' { x with G := G } := by
  have a := Ib.apart h.apart
  have m := I.mem
  exact ⟨(k.block _ (h.lts _ m.1) (by simp [a.bg])).trans h.top, h.ents.keep k (by simp [a.eg]), hg, h.vols.keep k (fun i hi _ => by simp only [List.mem_singleton] at hi; subst hi; exact m.2.2.1) (by simp [a.gv.symm]), h.had.keep k (by simp [a.gh.symm]), h.apart⟩
theorem IxAt.withN {I : Ib} {w w' : World} {x : Ix} (h : IxAt I w x) (k : Kp [I.b] w w') {N : Int} (ht : w'.heap[I.b]? = some (.cells #[.map (some I.e), .map (some I.g), .map (some I.v), .map (some I.h), .int .i64 N] 70 (0, 0))) : IxAt I w' { x with N := N } := by
  have a := Ib.apart h.apart
  have m := I.mem
  exact ⟨ht, h.ents.keep k (by simp [a.be.symm]), h.gone.keep k (by simp [a.bg.symm]), h.vols.keep k (fun i hi _ => by simp only [List.mem_singleton] at hi; subst hi; exact m.1) (by simp [a.bv.symm]), h.had.keep k (by simp [a.bh.symm]), h.apart⟩
theorem store_had {I : Ib} {w : World} {x : Ix} (h : IxAt I w x) (hf : Fit x) {d : Int} (hd : (Lit.int .i64 d).wf = true) :
    ∃ (w' : World) (v : Value) (n : Nat), (Instr.mapEntry 68 (.map (some I.h)) (.int .i64 d)).run Tryz.prog w = .ok (.tuple #[v, .int .i64 (n : Int)]) w' ∧ Kp [I.h] w w' ∧
      ∀ W, W.heap[I.h]? = w'.heap[I.h]? → ∃ w'', (Instr.entryStore 68 (.map (some I.h)) (.int .i64 (n : Int)) (.bool true)).run Tryz.prog W = .ok () w'' ∧ MapK (Value.int .i64) w'' I.h ((addS x.H d).map fun d => (d, .bool true)) ∧ Kp [I.h] W w'' := by
  have := MapK.entry (P := Tryz.prog) (encs_int under_int) under_mIntB h.had hf.kH (k := d) hd _ (zero_bool w) (.bool true)
  rw [kPut_set] at this
  exact this
theorem store_vol {I : Ib} {w : World} {x : Ix} (h : IxAt I w x) (hf : Fit x) {d : Int} (hd : (Lit.int .i64 d).wf = true) (v : VolD) (lv : Value) (hl : LocsT I.X w lv v.locs) :
    ∃ (w' : World) (z : Value) (n : Nat), (Instr.mapEntry 67 (.map (some I.v)) (.int .i64 d)).run Tryz.prog w = .ok (.tuple #[z, .int .i64 (n : Int)]) w' ∧ Kp [I.v] w w' ∧
      ∀ W, W.heap[I.v]? = w'.heap[I.v]? → ∃ w'', (Instr.entryStore 67 (.map (some I.v)) (.int .i64 (n : Int)) (.agg (VolVA v lv))).run Tryz.prog W = .ok () w'' ∧ (Kp [I.v] w' W → VolsIn I.X w'' I.v (aPut d v x.V)) ∧ Kp [I.v] W w'' := by
  obtain ⟨VS, hv, hm, hls⟩ := h.vols
  obtain ⟨w', z, n, h1, h2, h3⟩ := MapK.entry (P := Tryz.prog) (encs_int under_int) under_mVol hm (hf.kV hv) (k := d) hd _ (zero_vol w) (.agg (VolVA v lv))
  refine ⟨w', z, n, h1, h2, fun W hW => ?_⟩
  obtain ⟨w'', h4, h5, h6⟩ := h3 W hW
  refine ⟨w'', h4, fun kW => ⟨aPut d (v, lv) VS, ?_, ?_, ?_⟩, h6⟩
  · rw [← hv]
    exact (aPut_vals (fun q : VolD × Value => q.1) d (v, lv) VS).symm
  · rw [show kPut d (Value.agg (VolVA v lv)) (VS.map fun p => (p.1, Value.agg (VolVA p.2.1 p.2.2))) = (aPut d (v, lv) VS).map fun p => (p.1, Value.agg (VolVA p.2.1 p.2.2)) from kPut_map (fun q : VolD × Value => Value.agg (VolVA q.1 q.2)) d (v, lv) VS] at h5
    exact h5
  · have hk : Kp [I.v] w w'' := (h2.trans kW).trans h6
    intro p hp
    have hx : ∀ i ∈ [I.v], i < w.heap.size → i ∈ I.X := fun i hi _ => by simp only [List.mem_singleton] at hi; subst hi; exact I.mem.2.2.2.1
    rcases aPut_mem hp with rfl | hp
    · exact hl.keep hk hx
    · exact (hls p hp).keep hk hx
def Ix.lay (x : Ix) (v : VolD) : Ix := { x with V := aPut v.id v x.V, H := addS x.H v.id, N := max x.N (v.id + 1) }
theorem Fit.lay {x : Ix} (h : Fit x) {v : VolD} (hv : volOk v = true) (hi : 0 ≤ v.id ∧ v.id ≤ 1099511627776) : Fit (x.lay v) := by
  refine ⟨h.keys, h.gone, fun p hp => ?_, fun d hd => ?_, ?_⟩
  · rcases aPut_mem hp with rfl | hp
    · exact ⟨hi.1, hi.2, hv⟩
    · exact h.vols p hp
  · rcases addS_mem.1 hd with hd | rfl
    · exact h.had d hd
    · exact hi
  · have := h.next
    simp only [Ix.lay]
    omega
theorem vol_id {v : VolD} (h : volOk v = true) : 0 ≤ v.id ∧ v.id ≤ 1099511627776 := by
  unfold volOk at h
  simp only [Bool.and_eq_true] at h
  exact inB_true h.2.1.1.1.1
theorem Fit.laidV {x : Ix} (h : Fit x) {v : VolD} (hv : volOk v = true) (hi : 0 ≤ v.id ∧ v.id ≤ 1099511627776) : Fit { x with V := aPut v.id v x.V } := by
  refine ⟨h.keys, h.gone, fun p hp => ?_, h.had, h.next⟩
  rcases aPut_mem hp with rfl | hp
  · exact ⟨hi.1, hi.2, hv⟩
  · exact h.vols p hp
theorem kp_l {a b : Nat} {w w' : World} (k : Kp [a] w w') : Kp [a, b] w w' := k.weaken (fun _ _ h => by simp only [List.mem_singleton] at h; subst h; simp)
theorem kp_r {a b : Nat} {w w' : World} (k : Kp [b] w w') : Kp [a, b] w w' := k.weaken (fun _ _ h => by simp only [List.mem_singleton] at h; subst h; simp)
set_option maxHeartbeats 4000000 in
set_option maxRecDepth 20000 in
theorem ilay {I : Ib} {x : Ix} (hf : Fit x) (v : VolD) (lv : Value) (B : Nat) (w : World) (h : IxAt I w x) (hv : volOk v = true) (hl : LocsAt B w lv v.locs) :
    Calls Tryz.prog 31 #[I.p, .agg (VolVA v lv)] w fun e w' => e = .returned (.tuple #[]) ∧ IxAt I w' (x.lay v) ∧ Kp I.X w w' := by
  have hid := vol_id hv
  have h9 := vol_nine hv
  have hfl := hf.lay hv hid
  obtain ⟨x0, x1, x2, ls⟩ := v
  simp only at hl hid h9
  simp only [VolVA]
  obtain ⟨la, lc, rfl⟩ := slice_ex hl
  obtain ⟨w1, hw1⟩ : ∃ w1, w1 = w.alloc (.cells #[.int .i64 x0, .int .i64 x1, .int .i64 x2, .slice la ls.length lc] 36) := ⟨_, rfl⟩
  have k1 : Kp [] w w1 := hw1 ▸ (Kp.refl _ _).alloc _
  have b1 : w1.heap[w.heap.size]? = some (.cells #[.int .i64 x0, .int .i64 x1, .int .i64 x2, .slice la ls.length lc] 36 (0, 0)) := by rw [hw1]; exact block_new _ _
  have hw : (Lit.int .i64 x0).wf = true := wf_i64 (by omega) (by omega)
  have h1 := h.keep0 k1
  have ap := Ib.apart h.apart
  have hx : ∀ i ∈ I.X, i < w.heap.size := h.lts
  obtain ⟨c0, c1, c2, c3, c4⟩ := h1.cells
  have hbv : I.b ∉ [I.v, I.h] := by simp [ap.bv, ap.bh]
  have hsv : w.heap.size ∉ [I.v, I.h] := by
    have p1 := hx _ I.mem.2.2.2.1
    have p2 := hx _ I.mem.2.2.2.2
    simp only [List.mem_cons, List.not_mem_nil, or_false, not_or]
    omega
  have d2 := Kp.cellAt (X := [I.v, I.h]) c2 hbv
  have d3 := Kp.cellAt (X := [I.v, I.h]) c3 hbv
  have d4 := Kp.cellAt (X := [I.v, I.h]) c4 hbv
  have e0 := Kp.cellAt (X := [I.v, I.h]) (cell_of_cells (o := 0) (v := .int .i64 x0) b1 rfl) hsv
  have e1 := Kp.cellAt (X := [I.v, I.h]) (cell_of_cells (o := 1) (v := .int .i64 x1) b1 rfl) hsv
  have e2 := Kp.cellAt (X := [I.v, I.h]) (cell_of_cells (o := 2) (v := .int .i64 x2) b1 rfl) hsv
  have e3 := Kp.cellAt (X := [I.v, I.h]) (cell_of_cells (o := 3) (v := .slice la ls.length lc) b1 rfl) hsv
  have hl1 := hl.keep0 k1
  have Hw1 := Lib.hid hw1
  have HV := Lib.hid hv
  have H9 := Lib.hid h9
  clear hw1 h9 hv c0 c1 c2 c3 c4
  go_enter Tryz.func31, Tryz.ntmps31
  go_wp2_with fail
  rw [← Hw1.out]
  refine wpB_begin 999 (Kp [I.v, I.h] w1) (by kernel_rfl) (by exact (Kp.refl _ _).drew) (fun hHeld => ?_)
  refine wpB_take 0 _ ?_ rfl (by kernel_rfl) (fun _ _ _ h => h) rfl hHeld ?_ ?_
  rotate_left
  · (intro W hW; go_simp; try with_reducible rfl)
  try simp only [Act.put, List.setIfInBounds_toArray, List.set_cons_zero, List.set_cons_succ]
  refine wpB_take 1 _ ?_ rfl (by kernel_rfl) (fun _ _ _ h => h) rfl hHeld ?_ ?_
  rotate_left
  · (intro W hW; go_simp; try with_reducible rfl)
  try simp only [Act.put, List.setIfInBounds_toArray, List.set_cons_zero, List.set_cons_succ]
  refine wpB_take 2 _ ?_ rfl (by kernel_rfl) (fun _ _ _ h => h) rfl hHeld ?_ ?_
  rotate_left
  · (intro W hW; go_simp; try with_reducible rfl)
  try simp only [Act.put, List.setIfInBounds_toArray, List.set_cons_zero, List.set_cons_succ]
  refine wpB_take 3 _ ?_ rfl (by kernel_rfl) (fun _ _ _ h => h) rfl hHeld ?_ ?_
  rotate_left
  · (intro W hW; go_simp; try with_reducible rfl)
  try simp only [Act.put, List.setIfInBounds_toArray, List.set_cons_zero, List.set_cons_succ]
  refine wpB_take 4 _ ?_ rfl (by kernel_rfl) (fun _ _ _ h => h) rfl hHeld ?_ ?_
  rotate_left
  · (intro W hW; go_simp; try with_reducible rfl)
  try simp only [Act.put, List.setIfInBounds_toArray, List.set_cons_zero, List.set_cons_succ]
  refine wpB_take 5 _ ?_ rfl (by kernel_rfl) (fun _ _ _ h => h) rfl hHeld ?_ ?_
  rotate_left
  · (intro W hW; go_simp; try with_reducible rfl)
  try simp only [Act.put, List.setIfInBounds_toArray, List.set_cons_zero, List.set_cons_succ]
  refine wpB_take 6 _ ?_ rfl (by kernel_rfl) (fun _ _ _ h => h) rfl hHeld ?_ ?_
  rotate_left
  · (intro W hW; go_simp; try with_reducible rfl)
  try simp only [Act.put, List.setIfInBounds_toArray, List.set_cons_zero, List.set_cons_succ]
  refine wpB_take 7 _ ?_ rfl (by kernel_rfl) (fun _ _ _ h => h) rfl hHeld ?_ ?_
  rotate_left
  · (intro W hW; go_simp; try with_reducible rfl)
  try simp only [Act.put, List.setIfInBounds_toArray, List.set_cons_zero, List.set_cons_succ]
  refine wpB_take 8 _ ?_ rfl (by kernel_rfl) (fun _ _ _ h => h) rfl hHeld ?_ ?_
  rotate_left
  · (intro W hW; go_simp; try with_reducible rfl)
  try simp only [Act.put, List.setIfInBounds_toArray, List.set_cons_zero, List.set_cons_succ]
  refine wpB_take 9 _ ?_ rfl (by kernel_rfl) (fun _ _ _ h => h) rfl hHeld ?_ ?_
  rotate_left
  · (intro W hW; go_simp; try with_reducible rfl)
  try simp only [Act.put, List.setIfInBounds_toArray, List.set_cons_zero, List.set_cons_succ]
  refine wpB_take 10 _ ?_ rfl (by kernel_rfl) (fun _ _ _ h => h) rfl hHeld ?_ ?_
  rotate_left
  · (intro W hW; go_simp; try with_reducible rfl)
  try simp only [Act.put, List.setIfInBounds_toArray, List.set_cons_zero, List.set_cons_succ]
  refine wpB_take 11 _ ?_ rfl (by kernel_rfl) (fun _ _ _ h => h) rfl hHeld ?_ ?_
  rotate_left
  · (intro W hW; go_simp; try with_reducible rfl)
  try simp only [Act.put, List.setIfInBounds_toArray, List.set_cons_zero, List.set_cons_succ]
  refine wpB_take 12 _ ?_ rfl (by kernel_rfl) (fun _ _ _ h => h) rfl hHeld ?_ ?_
  rotate_left
  · (intro W hW; go_simp; try with_reducible rfl)
  try simp only [Act.put, List.setIfInBounds_toArray, List.set_cons_zero, List.set_cons_succ]
  refine wpB_step 13 _ rfl (by kernel_rfl) rfl rfl (fun K hK_ => ?_)
  go_simp
  refine (icopied ⟨x0, x1, x2, ls⟩ (.slice la ls.length lc) B _ (hl1.keep0 ((Kp.refl _ _).drew)) (by have := H9.out; simp only; omega) (by have := H9.out; simp only; omega)).mono ?_
  rintro e w3 ⟨av, cv, rfl, hO, k3⟩
  simp only [VolVA]
  refine hK_.out _ _ (by exact hHeld.call k3) (fun hHeld => ?_)
  clear hK_ K
  try simp only [Act.put, List.setIfInBounds_toArray, List.set_cons_zero, List.set_cons_succ]
  refine wpB_step 14 _ rfl (by kernel_rfl) rfl rfl (fun K hK_ => ?_)
  have hi3 : IxAt I w3 x := h1.keep0 (((Kp.refl _ _).drew).trans k3)
  have hli : LocsT I.X w3 (.slice av ls.length cv) ls := LocsT.of_owns rfl hO (fun i hi => Nat.lt_of_lt_of_le (hx i hi) k1.size)
  obtain ⟨w4, z4, n4, hr4, k4, hs4⟩ := store_vol hi3 hf hw ⟨x0, x1, x2, ls⟩ (.slice av ls.length cv) hli
  go_simp
  refine hK_.out _ _ (by exact hHeld.trans (kp_l k4)) (fun hHeld => ?_)
  clear hK_ K
  try simp only [Act.put, List.setIfInBounds_toArray, List.set_cons_zero, List.set_cons_succ]
  refine wpB_take 15 _ ?_ rfl (by kernel_rfl) (fun _ _ _ h => h) rfl hHeld ?_ ?_
  rotate_left
  · (intro W hW; go_simp; try with_reducible rfl)
  try simp only [Act.put, List.setIfInBounds_toArray, List.set_cons_zero, List.set_cons_succ]
  refine wpB_step 16 _ rfl (by kernel_rfl) rfl rfl (fun K hK_ => ?_)
  obtain ⟨w6, hr6, hv6, k6⟩ := hs4 w4 rfl
  simp only [VolVA] at hr6
  go_simp
  refine hK_.out _ _ (by exact hHeld.trans (kp_l k6)) (fun hHeld => ?_)
  clear hK_ K
  try simp only [Act.put, List.setIfInBounds_toArray, List.set_cons_zero, List.set_cons_succ]
  refine wpB_step 17 _ rfl (by kernel_rfl) rfl rfl (fun K hK_ => ?_)
  have hi6 := hi3.withV (k4.trans k6) (hv6 (Kp.refl _ _))
  obtain ⟨w7, z7, n7, hr7, k7, hs7⟩ := store_had hi6 (hf.laidV HV.out hid) hw
  go_simp
  refine hK_.out _ _ (by exact hHeld.trans (kp_r k7)) (fun hHeld => ?_)
  clear hK_ K
  try simp only [Act.put, List.setIfInBounds_toArray, List.set_cons_zero, List.set_cons_succ]
  refine wpB_take 18 _ ?_ rfl (by kernel_rfl) (fun _ _ _ h => h) rfl hHeld ?_ ?_
  rotate_left
  · (intro W hW; go_simp; try with_reducible rfl)
  try simp only [Act.put, List.setIfInBounds_toArray, List.set_cons_zero, List.set_cons_succ]
  refine wpB_step 19 _ rfl (by kernel_rfl) rfl rfl (fun K hK_ => ?_)
  obtain ⟨w9, hr9, hm9, k9⟩ := hs7 w7 rfl
  go_simp
  refine hK_.out _ _ (by exact hHeld.trans (kp_r k9)) (fun hHeld => ?_)
  clear hK_ K
  try simp only [Act.put, List.setIfInBounds_toArray, List.set_cons_zero, List.set_cons_succ]
  refine wpB_done (by kernel_rfl) ?_ _
  have hi9 := hi6.withH (k7.trans k9) hm9
  have g0 := Kp.cellAt (X := []) (e0 _ hHeld) (by simp)
  have g4 := Kp.cellAt (X := []) hi9.cells.2.2.2.2 (by simp)
  have hkw : Kp [I.v, I.h] w w9 := (k1.weaken (fun _ _ h => by cases h)).trans hHeld
  have hnx := hf.next
  have hwr := wrap_id (x0 + 1) (by omega) (by omega)
  have f4 := frozen_of_cells hi9.top 4
  clear hs4 hs7 hr4 hr6 hr7 hr9 k3 k4 k6 k7 k9 hm9 hv6 hHeld
  go_wp2_with fail
  refine wpB_begin 11 (Kp [] w9) (by kernel_rfl) (by exact (Kp.refl _ _).drew) (fun hHeld => ?_)
  refine wpB_take 0 _ ?_ rfl (by kernel_rfl) (fun _ _ _ h => h) rfl hHeld ?_ ?_
  rotate_left
  · (intro W hW; go_simp; try with_reducible rfl)
  try simp only [Act.put, List.setIfInBounds_toArray, List.set_cons_zero, List.set_cons_succ]
  refine wpB_take 1 _ ?_ rfl (by kernel_rfl) (fun _ _ _ h => h) rfl hHeld ?_ ?_
  rotate_left
  · (intro W hW; go_simp; try with_reducible rfl)
  try simp only [Act.put, List.setIfInBounds_toArray, List.set_cons_zero, List.set_cons_succ]
  refine wpB_take 2 _ ?_ rfl (by kernel_rfl) (fun _ _ _ h => h) rfl hHeld ?_ ?_
  rotate_left
  · (intro W hW; go_simp; try with_reducible rfl)
  try simp only [Act.put, List.setIfInBounds_toArray, List.set_cons_zero, List.set_cons_succ]
  refine wpB_take 3 _ ?_ rfl (by kernel_rfl) (fun _ _ _ h => h) rfl hHeld ?_ ?_
  rotate_left
  · (intro W hW; go_simp; try with_reducible rfl)
  try simp only [Act.put, List.setIfInBounds_toArray, List.set_cons_zero, List.set_cons_succ]
  refine wpB_take 4 _ ?_ rfl (by kernel_rfl) (fun _ _ _ h => h) rfl hHeld ?_ ?_
  rotate_left
  · (intro W hW; go_simp; try with_reducible rfl)
  try simp only [Act.put, List.setIfInBounds_toArray, List.set_cons_zero, List.set_cons_succ]
  refine wpB_take 5 _ ?_ rfl (by kernel_rfl) (fun _ _ _ h => h) rfl hHeld ?_ ?_
  rotate_left
  · (intro W hW; go_simp; try with_reducible rfl)
  try simp only [Act.put, List.setIfInBounds_toArray, List.set_cons_zero, List.set_cons_succ]
  refine wpB_take 6 _ ?_ rfl (by kernel_rfl) (fun _ _ _ h => h) rfl hHeld ?_ ?_
  rotate_left
  · (intro W hW; go_simp; try with_reducible rfl)
  try simp only [Act.put, List.setIfInBounds_toArray, List.set_cons_zero, List.set_cons_succ]
  refine wpB_take 7 _ ?_ rfl (by kernel_rfl) (fun _ _ _ h => h) rfl hHeld ?_ ?_
  rotate_left
  · (intro W hW; go_simp; try with_reducible rfl)
  try simp only [Act.put, List.setIfInBounds_toArray, List.set_cons_zero, List.set_cons_succ]
  refine wpB_take 8 _ ?_ rfl (by kernel_rfl) (fun _ _ _ h => h) rfl hHeld ?_ ?_
  rotate_left
  · (intro W hW; go_simp; try with_reducible rfl)
  try simp only [Act.put, List.setIfInBounds_toArray, List.set_cons_zero, List.set_cons_succ]
  refine wpB_take 9 _ ?_ rfl (by kernel_rfl) (fun _ _ _ h => h) rfl hHeld ?_ ?_
  rotate_left
  · (intro W hW; go_simp; try with_reducible rfl)
  try simp only [Act.put, List.setIfInBounds_toArray, List.set_cons_zero, List.set_cons_succ]
  refine wpB_take 10 _ ?_ rfl (by kernel_rfl) (fun _ _ _ h => h) rfl hHeld ?_ ?_
  rotate_left
  · (intro W hW; go_simp; try with_reducible rfl)
  try simp only [Act.put, List.setIfInBounds_toArray, List.set_cons_zero, List.set_cons_succ]
  refine wpB_bar (Kp [I.b] w9) 999 _ rfl (by kernel_rfl) rfl (fun K hK_ => ?_)
  go_simp
  refine hK_.out _ _ (by exact (hHeld.weaken (fun _ _ h => by cases h)).setCell (p := ⟨I.b, 4, none⟩) (.inl (by simp)) _) (fun hHeld => ?_)
  clear hK_ K
  try simp only [Act.put, List.setIfInBounds_toArray, List.set_cons_zero, List.set_cons_succ]
  refine wpB_done (by kernel_rfl) ?_ _
  have ht : ((w9.setCell ⟨I.b, 4, none⟩ (.int .i64 (max x.N (x0 + 1)))).drew).heap[I.b]? = some (.cells #[.map (some I.e), .map (some I.g), .map (some I.v), .map (some I.h), .int .i64 (max x.N (x0 + 1))] 70 (0, 0)) := by
    show (w9.setCell ⟨I.b, 4, none⟩ (.int .i64 (max x.N (x0 + 1)))).heap[I.b]? = _
    rw [block_setCell hi9.top]
    rfl
  have hi10 := hi9.withN hHeld ht
  have hkz : Kp I.X w ((w9.setCell ⟨I.b, 4, none⟩ (.int .i64 (max x.N (x0 + 1)))).drew) :=
    (hkw.weaken (fun i _ hi => by
      simp only [List.mem_cons, List.not_mem_nil, or_false] at hi
      rcases hi with rfl | rfl
      · exact I.mem.2.2.2.1
      · exact I.mem.2.2.2.2)).trans (hHeld.weaken (fun i _ hi => by simp only [List.mem_singleton] at hi; subst hi; exact I.mem.1))
  go_wp2_with fail
  exact bodyPost_end (results_none rfl _ _ _) rfl ⟨rfl, hi10, hkz⟩
end Go.Proofs.YtdhhddifmkijhaaGreat
