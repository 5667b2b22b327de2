/-
  Apply: a record is applied.
-/
import Derived.Test.YtdhhddifmkijhaaGreatIdxO
import Derived.Test.YtdhhddifmkijhaaGreatIdxR
import Derived.Test.YtdhhddifmkijhaaGreatIdxT
namespace Go.Proofs.YtdhhddifmkijhaaGreat
open Go.RowKit Go.ChangeMaps Go.Maps Go.WideShapes Go.WideMaps Go.WideElems Go.MapKept Go.ChangeShapes

theorem sclone (s : ByteArray) (hs : s.size ≤ 281474976710656) (w : World) : Calls Tryz.prog 30 #[.string s] w fun e w' => e = .returned (.string s) ∧ Kp [] w w' := by
  go_enter Tryz.func30, Tryz.ntmps30
  go_wp2_with fail
  refine (Tryz.stringslite_Clone s _ hs).mono ?_
  rintro e w1 ⟨rfl, hb⟩
  have hk := Kp.of_below hb []
  clear hb
  go_wp2_with fail
  go_ret
  exact ⟨rfl, hk⟩
set_option maxHeartbeats 4000000 in
set_option maxRecDepth 20000 in
theorem iapply_no {I : Ib} {x : Ix} (hv : Inv x) (_ : x.E.length ≤ 900) (x0 x1 x2 x3 x4 x7 x8 x9 xc xd : Int) (lx : List (Int × Int)) (x6 xa xb : ByteArray) (la : Option Addr) (lc : Nat) (w : World) (h : IxAt I w x) (hl : LocsIn I.X w (.slice la lx.length lc) lx) (hz : lx.length ≤ 1000) (h6 : x6.size < 16384) (hxb : xb.size < 16384) (hm : x.may ⟨x0, x1, ⟨x2, x3, x4, lx⟩, ⟨x6, x7, x8, x9, xa⟩, xb, xc, xd⟩ ≠ 0) :
    Calls Tryz.prog 11 #[I.p, .agg #[.int .i64 x0, .int .i64 x1, .int .i64 x2, .int .i64 x3, .int .i64 x4, .slice la lx.length lc, .string x6, .int .i64 x7, .int .i64 x8, .int .i64 x9, .string xa, .string xb, .int .i64 xc, .int .i64 xd]] w fun e w' => e = .returned (.tuple #[.slice none 0 0, .int .i64 (x.may ⟨x0, x1, ⟨x2, x3, x4, lx⟩, ⟨x6, x7, x8, x9, xa⟩, xb, xc, xd⟩)]) ∧ Kp [] w w' := by
  have hf := hv.fit
  obtain ⟨R, hR⟩ : ∃ R : RecD, R = ⟨x0, x1, ⟨x2, x3, x4, lx⟩, ⟨x6, x7, x8, x9, xa⟩, xb, xc, xd⟩ := ⟨_, rfl⟩
  obtain ⟨w1, hw1⟩ : ∃ w1, w1 = w.alloc (.cells #[.int .i64 x0, .int .i64 x1, .int .i64 x2, .int .i64 x3, .int .i64 x4, .slice la lx.length lc, .string x6, .int .i64 x7, .int .i64 x8, .int .i64 x9, .string xa, .string xb, .int .i64 xc, .int .i64 xd] 43) := ⟨_, rfl⟩
  have k1 : Kp [] w w1 := hw1 ▸ (Kp.refl _ _).alloc _
  have b1 : w1.heap[w.heap.size]? = some (.cells #[.int .i64 x0, .int .i64 x1, .int .i64 x2, .int .i64 x3, .int .i64 x4, .slice la lx.length lc, .string x6, .int .i64 x7, .int .i64 x8, .int .i64 x9, .string xa, .string xb, .int .i64 xc, .int .i64 xd] 43 (0, 0)) := by rw [hw1]; exact block_new _ _
  have hx : w.heap.size ∉ I.X := fun hm => Nat.lt_irrefl _ (h.lts _ hm)
  have c0 := Kp.cellAt (X := I.X) (w0 := w1) (p := ⟨w.heap.size, 0, none⟩) (v := .int .i64 x0) (cell_of_cells b1 rfl) hx
  have c1 := Kp.cellAt (X := I.X) (w0 := w1) (p := ⟨w.heap.size, 1, none⟩) (v := .int .i64 x1) (cell_of_cells b1 rfl) hx
  have c2 := Kp.cellAt (X := I.X) (w0 := w1) (p := ⟨w.heap.size, 2, none⟩) (v := .int .i64 x2) (cell_of_cells b1 rfl) hx
  have c3 := Kp.cellAt (X := I.X) (w0 := w1) (p := ⟨w.heap.size, 3, none⟩) (v := .int .i64 x3) (cell_of_cells b1 rfl) hx
  have c4 := Kp.cellAt (X := I.X) (w0 := w1) (p := ⟨w.heap.size, 4, none⟩) (v := .int .i64 x4) (cell_of_cells b1 rfl) hx
  have c5 := Kp.cellAt (X := I.X) (w0 := w1) (p := ⟨w.heap.size, 5, none⟩) (v := .slice la lx.length lc) (cell_of_cells b1 rfl) hx
  have c6 := Kp.cellAt (X := I.X) (w0 := w1) (p := ⟨w.heap.size, 6, none⟩) (v := .string x6) (cell_of_cells b1 rfl) hx
  have c7 := Kp.cellAt (X := I.X) (w0 := w1) (p := ⟨w.heap.size, 7, none⟩) (v := .int .i64 x7) (cell_of_cells b1 rfl) hx
  have c8 := Kp.cellAt (X := I.X) (w0 := w1) (p := ⟨w.heap.size, 8, none⟩) (v := .int .i64 x8) (cell_of_cells b1 rfl) hx
  have c9 := Kp.cellAt (X := I.X) (w0 := w1) (p := ⟨w.heap.size, 9, none⟩) (v := .int .i64 x9) (cell_of_cells b1 rfl) hx
  have c10 := Kp.cellAt (X := I.X) (w0 := w1) (p := ⟨w.heap.size, 10, none⟩) (v := .string xa) (cell_of_cells b1 rfl) hx
  have c11 := Kp.cellAt (X := I.X) (w0 := w1) (p := ⟨w.heap.size, 11, none⟩) (v := .string xb) (cell_of_cells b1 rfl) hx
  have c12 := Kp.cellAt (X := I.X) (w0 := w1) (p := ⟨w.heap.size, 12, none⟩) (v := .int .i64 xc) (cell_of_cells b1 rfl) hx
  have c13 := Kp.cellAt (X := I.X) (w0 := w1) (p := ⟨w.heap.size, 13, none⟩) (v := .int .i64 xd) (cell_of_cells b1 rfl) hx
  have h1 := h.keep0 k1
  have hl1 := hl.keep k1 (fun _ h => by cases h)
  have hK := Kp.refl I.X w1
  have hma := imay hf ⟨x0, x1, ⟨x2, x3, x4, lx⟩, ⟨x6, x7, x8, x9, xa⟩, xb, xc, xd⟩ (.slice la lx.length lc) _ w1 h1 hl1.at hz h6 hxb
  simp only [RecV] at hma
  obtain ⟨C, hC⟩ : ∃ C, C = x.may ⟨x0, x1, ⟨x2, x3, x4, lx⟩, ⟨x6, x7, x8, x9, xa⟩, xb, xc, xd⟩ := ⟨_, rfl⟩
  have Hw1 := Lib.hid hw1
  clear hw1 b1
  go_enter Tryz.func11, Tryz.ntmps11
  go_wp2_with fail
  rw [← Hw1.out]
  refine hma.mono ?_
  rintro e w2 ⟨rfl, k2⟩
  rw [← hC] at hm
  rw [← hC]
  have hb : (C != 0) = true := by simpa using hm
  have HC := Lib.hid hC
  clear hC hm hma
  have hk := k1.trans k2
  go_wp2_with fail
  go_ret2
  exact ⟨by rw [← HC.out]; rfl, hk⟩
set_option maxHeartbeats 4000000 in
set_option maxRecDepth 20000 in
theorem iapply0 {I : Ib} {x : Ix} (hv : Inv x) (_ : x.E.length ≤ 900) (x0 x2 x3 x4 x7 x8 x9 xc xd : Int) (lx : List (Int × Int)) (x6 xa xb : ByteArray) (la : Option Addr) (lc : Nat) (w : World) (h : IxAt I w x) (hl : LocsIn I.X w (.slice la lx.length lc) lx) (hz : lx.length ≤ 1000) (h6 : x6.size < 16384) (hxb : xb.size < 16384) (hm : x.may ⟨x0, 0, ⟨x2, x3, x4, lx⟩, ⟨x6, x7, x8, x9, xa⟩, xb, xc, xd⟩ = 0) :
    Calls Tryz.prog 11 #[I.p, .agg #[.int .i64 x0, .int .i64 0, .int .i64 x2, .int .i64 x3, .int .i64 x4, .slice la lx.length lc, .string x6, .int .i64 x7, .int .i64 x8, .int .i64 x9, .string xa, .string xb, .int .i64 xc, .int .i64 xd]] w fun e w' => e = .returned (.tuple #[.slice none 0 0, .int .i64 0]) ∧ IxAt I w' (Ix.lay { x with E := aPut x6 ⟨x6, x7, x8, x9, xa⟩ x.E } ⟨x2, x3, x4, lx⟩) ∧ Kp I.X w w' := by
  have hf := hv.fit
  obtain ⟨R, hR⟩ : ∃ R : RecD, R = ⟨x0, 0, ⟨x2, x3, x4, lx⟩, ⟨x6, x7, x8, x9, xa⟩, xb, xc, xd⟩ := ⟨_, rfl⟩
  obtain ⟨w1, hw1⟩ : ∃ w1, w1 = w.alloc (.cells #[.int .i64 x0, .int .i64 0, .int .i64 x2, .int .i64 x3, .int .i64 x4, .slice la lx.length lc, .string x6, .int .i64 x7, .int .i64 x8, .int .i64 x9, .string xa, .string xb, .int .i64 xc, .int .i64 xd] 43) := ⟨_, rfl⟩
  have k1 : Kp [] w w1 := hw1 ▸ (Kp.refl _ _).alloc _
  have b1 : w1.heap[w.heap.size]? = some (.cells #[.int .i64 x0, .int .i64 0, .int .i64 x2, .int .i64 x3, .int .i64 x4, .slice la lx.length lc, .string x6, .int .i64 x7, .int .i64 x8, .int .i64 x9, .string xa, .string xb, .int .i64 xc, .int .i64 xd] 43 (0, 0)) := by rw [hw1]; exact block_new _ _
  have hx : w.heap.size ∉ I.X := fun hm => Nat.lt_irrefl _ (h.lts _ hm)
  have c0 := Kp.cellAt (X := I.X) (w0 := w1) (p := ⟨w.heap.size, 0, none⟩) (v := .int .i64 x0) (cell_of_cells b1 rfl) hx
  have c1 := Kp.cellAt (X := I.X) (w0 := w1) (p := ⟨w.heap.size, 1, none⟩) (v := .int .i64 0) (cell_of_cells b1 rfl) hx
  have c2 := Kp.cellAt (X := I.X) (w0 := w1) (p := ⟨w.heap.size, 2, none⟩) (v := .int .i64 x2) (cell_of_cells b1 rfl) hx
  have c3 := Kp.cellAt (X := I.X) (w0 := w1) (p := ⟨w.heap.size, 3, none⟩) (v := .int .i64 x3) (cell_of_cells b1 rfl) hx
  have c4 := Kp.cellAt (X := I.X) (w0 := w1) (p := ⟨w.heap.size, 4, none⟩) (v := .int .i64 x4) (cell_of_cells b1 rfl) hx
  have c5 := Kp.cellAt (X := I.X) (w0 := w1) (p := ⟨w.heap.size, 5, none⟩) (v := .slice la lx.length lc) (cell_of_cells b1 rfl) hx
  have c6 := Kp.cellAt (X := I.X) (w0 := w1) (p := ⟨w.heap.size, 6, none⟩) (v := .string x6) (cell_of_cells b1 rfl) hx
  have c7 := Kp.cellAt (X := I.X) (w0 := w1) (p := ⟨w.heap.size, 7, none⟩) (v := .int .i64 x7) (cell_of_cells b1 rfl) hx
  have c8 := Kp.cellAt (X := I.X) (w0 := w1) (p := ⟨w.heap.size, 8, none⟩) (v := .int .i64 x8) (cell_of_cells b1 rfl) hx
  have c9 := Kp.cellAt (X := I.X) (w0 := w1) (p := ⟨w.heap.size, 9, none⟩) (v := .int .i64 x9) (cell_of_cells b1 rfl) hx
  have c10 := Kp.cellAt (X := I.X) (w0 := w1) (p := ⟨w.heap.size, 10, none⟩) (v := .string xa) (cell_of_cells b1 rfl) hx
  have c11 := Kp.cellAt (X := I.X) (w0 := w1) (p := ⟨w.heap.size, 11, none⟩) (v := .string xb) (cell_of_cells b1 rfl) hx
  have c12 := Kp.cellAt (X := I.X) (w0 := w1) (p := ⟨w.heap.size, 12, none⟩) (v := .int .i64 xc) (cell_of_cells b1 rfl) hx
  have c13 := Kp.cellAt (X := I.X) (w0 := w1) (p := ⟨w.heap.size, 13, none⟩) (v := .int .i64 xd) (cell_of_cells b1 rfl) hx
  have h1 := h.keep0 k1
  have hl1 := hl.keep k1 (fun _ h => by cases h)
  have hK := Kp.refl I.X w1
  have hma := imay hf ⟨x0, 0, ⟨x2, x3, x4, lx⟩, ⟨x6, x7, x8, x9, xa⟩, xb, xc, xd⟩ (.slice la lx.length lc) _ w1 h1 hl1.at hz h6 hxb
  simp only [RecV] at hma
  have hgo := may_zero hm
  have Hw1 := Lib.hid hw1
  clear hw1 b1
  go_enter Tryz.func11, Tryz.ntmps11
  go_wp2_with fail
  rw [← Hw1.out]
  refine hma.mono ?_
  rintro e w2 ⟨rfl, k2⟩
  have hvo := hgo.be.vol (by show (0 : Int) ≠ 1; decide)
  have hfl := (inv_put hv hgo rfl).fit
  have hbd := hgo.be.bounds
  have hko := keyOk_size (hgo.be.key0 rfl)
  simp only at hvo hbd hko
  obtain ⟨e1, e2, e3, e4⟩ := ent_in (hgo.be.ent rfl)
  have hid := vol_id hvo
  have hlv := vol_lenD hvo
  simp only at e1 e2 e3 e4 hid hlv
  have hfit : Fit { x with E := aPut x6 ⟨x6, x7, x8, x9, xa⟩ x.E } := by
    refine ⟨fun p hp => ?_, hf.gone, hf.vols, hf.had, hf.next⟩
    rcases aPut_mem hp with rfl | hp
    · refine ⟨hko, hko, e4, ?_⟩
      simp only
      omega
    · exact hf.keys p hp
  have hcl := fun W => sclone x6 (by omega) W
  have HF := Lib.hid hfit
  have HFL := Lib.hid hfl
  have HVO := Lib.hid hvo
  clear hfit hfl hvo e1 e2 e3 e4 hid hlv hbd hgo
  rw [hm]
  clear hm hma
  have hK2 := hK.call k2
  have h2 := h1.keep0 k2
  have hl2 := hl1.keep k2 (fun _ h => by cases h)
  clear hK h1 hl1 k2
  go_wp2_with fail
  have q0 := Kp.cellAt (X := []) h2.cells.1 (by simp)
  have z6 := Kp.cellAt (X := []) (c6 _ hK2) (by simp)
  have z7 := Kp.cellAt (X := []) (c7 _ hK2) (by simp)
  have z8 := Kp.cellAt (X := []) (c8 _ hK2) (by simp)
  have z9 := Kp.cellAt (X := []) (c9 _ hK2) (by simp)
  have za := Kp.cellAt (X := []) (c10 _ hK2) (by simp)
  refine wpB_begin 10 (Kp [] w2) (by kernel_rfl) (by exact (Kp.refl _ _).drew) (fun hHeld => ?_)
  refine wpB_take 0 _ ?_ rfl (by kernel_rfl) (fun _ _ _ h => h) rfl hHeld ?_ ?_
  rotate_left
  · (intro W hW; go_simp; try with_reducible rfl)
  try simp only [Act.put, List.setIfInBounds_toArray, List.set_cons_zero, List.set_cons_succ]
  refine wpB_take 1 _ ?_ rfl (by kernel_rfl) (fun _ _ _ h => h) rfl hHeld ?_ ?_
  rotate_left
  · (intro W hW; go_simp; try with_reducible rfl)
  try simp only [Act.put, List.setIfInBounds_toArray, List.set_cons_zero, List.set_cons_succ]
  refine wpB_take 2 _ ?_ rfl (by kernel_rfl) (fun _ _ _ h => h) rfl hHeld ?_ ?_
  rotate_left
  · (intro W hW; go_simp; try with_reducible rfl)
  try simp only [Act.put, List.setIfInBounds_toArray, List.set_cons_zero, List.set_cons_succ]
  refine wpB_take 3 _ ?_ rfl (by kernel_rfl) (fun _ _ _ h => h) rfl hHeld ?_ ?_
  rotate_left
  · (intro W hW; go_simp; try with_reducible rfl)
  try simp only [Act.put, List.setIfInBounds_toArray, List.set_cons_zero, List.set_cons_succ]
  refine wpB_take 4 _ ?_ rfl (by kernel_rfl) (fun _ _ _ h => h) rfl hHeld ?_ ?_
  rotate_left
  · (intro W hW; go_simp; try with_reducible rfl)
  try simp only [Act.put, List.setIfInBounds_toArray, List.set_cons_zero, List.set_cons_succ]
  refine wpB_take 5 _ ?_ rfl (by kernel_rfl) (fun _ _ _ h => h) rfl hHeld ?_ ?_
  rotate_left
  · (intro W hW; go_simp; try with_reducible rfl)
  try simp only [Act.put, List.setIfInBounds_toArray, List.set_cons_zero, List.set_cons_succ]
  refine wpB_take 6 _ ?_ rfl (by kernel_rfl) (fun _ _ _ h => h) rfl hHeld ?_ ?_
  rotate_left
  · (intro W hW; go_simp; try with_reducible rfl)
  try simp only [Act.put, List.setIfInBounds_toArray, List.set_cons_zero, List.set_cons_succ]
  refine wpB_take 8 _ ?_ rfl (by kernel_rfl) (fun _ _ _ h => h) rfl hHeld ?_ ?_
  rotate_left
  · (intro W hW; go_simp; try with_reducible rfl)
  try simp only [Act.put, List.setIfInBounds_toArray, List.set_cons_zero, List.set_cons_succ]
  refine wpB_take 9 _ ?_ rfl (by kernel_rfl) (fun _ _ _ h => h) rfl hHeld ?_ ?_
  rotate_left
  · (intro W hW; go_simp; try with_reducible rfl)
  try simp only [Act.put, List.setIfInBounds_toArray, List.set_cons_zero, List.set_cons_succ]
  refine wpB_step 7 _ rfl (by kernel_rfl) rfl rfl (fun K hK_ => ?_)
  go_simp
  refine (hcl _).mono ?_
  rintro e w3 ⟨rfl, k3⟩
  refine hK_.out _ _ (by exact hHeld.trans k3) (fun hHeld => ?_)
  clear hK_ K
  try simp only [Act.put, List.setIfInBounds_toArray, List.set_cons_zero, List.set_cons_succ]
  refine wpB_bar (Kp [I.e] w2) 999 _ rfl (by kernel_rfl) rfl (fun K hK_ => ?_)
  obtain ⟨w4, r4, i4, k4⟩ := put_ent (h2.keep0 hHeld) hf (max_key hko) ⟨x6, x7, x8, x9, xa⟩
  simp only [EntVA] at r4
  go_simp
  refine hK_.out _ _ (by exact (hHeld.weaken (fun _ _ h => by cases h)).trans k4) (fun hHeld => ?_)
  clear hK_ K
  try simp only [Act.put, List.setIfInBounds_toArray, List.set_cons_zero, List.set_cons_succ]
  refine wpB_done (by kernel_rfl) ?_ _
  have k24 : Kp I.X w2 w4 := hHeld.weaken (fun i _ hi => by simp only [List.mem_singleton] at hi; subst hi; exact I.mem.2.1)
  have hK4 := hK2.trans k24
  have hl4 := hl2.keep k24 (fun i hi _ => hi)
  have HI := Lib.hid i4
  clear r4 k4 hHeld i4 q0 z6 z7 z8 z9 za
  go_wp2_with fail
  refine (ilay HF.out ⟨x2, x3, x4, lx⟩ (.slice la lx.length lc) _ _ HI.out HVO.out hl4.at).mono ?_
  rintro e w5 ⟨rfl, hI5, k5⟩
  have hkw := (k1.weaken (fun _ _ h => by cases h)).trans (hK4.trans k5)
  have HI5 := Lib.hid hI5
  have HK := Lib.hid hkw
  clear hI5 hkw
  go_wp2_with fail
  go_ret2
  exact ⟨rfl, HI5.out, HK.out⟩
set_option maxHeartbeats 4000000 in
set_option maxRecDepth 20000 in
theorem iapply1 {I : Ib} {x : Ix} (hv : Inv x) (hzE : x.E.length ≤ 900) (x0 x2 x3 x4 x7 x8 x9 xc xd : Int) (lx : List (Int × Int)) (x6 xa xb : ByteArray) (la : Option Addr) (lc : Nat) (w : World) (h : IxAt I w x) (hl : LocsIn I.X w (.slice la lx.length lc) lx) (hz : lx.length ≤ 1000) (h6 : x6.size < 16384) (hxb : xb.size < 16384) (hm : x.may ⟨x0, 1, ⟨x2, x3, x4, lx⟩, ⟨x6, x7, x8, x9, xa⟩, xb, xc, xd⟩ = 0) :
    Calls Tryz.prog 11 #[I.p, .agg #[.int .i64 x0, .int .i64 1, .int .i64 x2, .int .i64 x3, .int .i64 x4, .slice la lx.length lc, .string x6, .int .i64 x7, .int .i64 x8, .int .i64 x9, .string xa, .string xb, .int .i64 xc, .int .i64 xd]] w fun e w' => ∃ v, e = .returned (.tuple #[v, .int .i64 0]) ∧ OldsAt I.X w.heap.size w' v (x.remove xb).1 ∧ IxAt I w' (x.remove xb).2 ∧ Kp I.X w w' := by
  have hf := hv.fit
  obtain ⟨R, hR⟩ : ∃ R : RecD, R = ⟨x0, 1, ⟨x2, x3, x4, lx⟩, ⟨x6, x7, x8, x9, xa⟩, xb, xc, xd⟩ := ⟨_, rfl⟩
  obtain ⟨w1, hw1⟩ : ∃ w1, w1 = w.alloc (.cells #[.int .i64 x0, .int .i64 1, .int .i64 x2, .int .i64 x3, .int .i64 x4, .slice la lx.length lc, .string x6, .int .i64 x7, .int .i64 x8, .int .i64 x9, .string xa, .string xb, .int .i64 xc, .int .i64 xd] 43) := ⟨_, rfl⟩
  have k1 : Kp [] w w1 := hw1 ▸ (Kp.refl _ _).alloc _
  have b1 : w1.heap[w.heap.size]? = some (.cells #[.int .i64 x0, .int .i64 1, .int .i64 x2, .int .i64 x3, .int .i64 x4, .slice la lx.length lc, .string x6, .int .i64 x7, .int .i64 x8, .int .i64 x9, .string xa, .string xb, .int .i64 xc, .int .i64 xd] 43 (0, 0)) := by rw [hw1]; exact block_new _ _
  have hx : w.heap.size ∉ I.X := fun hm => Nat.lt_irrefl _ (h.lts _ hm)
  have c0 := Kp.cellAt (X := I.X) (w0 := w1) (p := ⟨w.heap.size, 0, none⟩) (v := .int .i64 x0) (cell_of_cells b1 rfl) hx
  have c1 := Kp.cellAt (X := I.X) (w0 := w1) (p := ⟨w.heap.size, 1, none⟩) (v := .int .i64 1) (cell_of_cells b1 rfl) hx
  have c2 := Kp.cellAt (X := I.X) (w0 := w1) (p := ⟨w.heap.size, 2, none⟩) (v := .int .i64 x2) (cell_of_cells b1 rfl) hx
  have c3 := Kp.cellAt (X := I.X) (w0 := w1) (p := ⟨w.heap.size, 3, none⟩) (v := .int .i64 x3) (cell_of_cells b1 rfl) hx
  have c4 := Kp.cellAt (X := I.X) (w0 := w1) (p := ⟨w.heap.size, 4, none⟩) (v := .int .i64 x4) (cell_of_cells b1 rfl) hx
  have c5 := Kp.cellAt (X := I.X) (w0 := w1) (p := ⟨w.heap.size, 5, none⟩) (v := .slice la lx.length lc) (cell_of_cells b1 rfl) hx
  have c6 := Kp.cellAt (X := I.X) (w0 := w1) (p := ⟨w.heap.size, 6, none⟩) (v := .string x6) (cell_of_cells b1 rfl) hx
  have c7 := Kp.cellAt (X := I.X) (w0 := w1) (p := ⟨w.heap.size, 7, none⟩) (v := .int .i64 x7) (cell_of_cells b1 rfl) hx
  have c8 := Kp.cellAt (X := I.X) (w0 := w1) (p := ⟨w.heap.size, 8, none⟩) (v := .int .i64 x8) (cell_of_cells b1 rfl) hx
  have c9 := Kp.cellAt (X := I.X) (w0 := w1) (p := ⟨w.heap.size, 9, none⟩) (v := .int .i64 x9) (cell_of_cells b1 rfl) hx
  have c10 := Kp.cellAt (X := I.X) (w0 := w1) (p := ⟨w.heap.size, 10, none⟩) (v := .string xa) (cell_of_cells b1 rfl) hx
  have c11 := Kp.cellAt (X := I.X) (w0 := w1) (p := ⟨w.heap.size, 11, none⟩) (v := .string xb) (cell_of_cells b1 rfl) hx
  have c12 := Kp.cellAt (X := I.X) (w0 := w1) (p := ⟨w.heap.size, 12, none⟩) (v := .int .i64 xc) (cell_of_cells b1 rfl) hx
  have c13 := Kp.cellAt (X := I.X) (w0 := w1) (p := ⟨w.heap.size, 13, none⟩) (v := .int .i64 xd) (cell_of_cells b1 rfl) hx
  have h1 := h.keep0 k1
  have hl1 := hl.keep k1 (fun _ h => by cases h)
  have hK := Kp.refl I.X w1
  have hma := imay hf ⟨x0, 1, ⟨x2, x3, x4, lx⟩, ⟨x6, x7, x8, x9, xa⟩, xb, xc, xd⟩ (.slice la lx.length lc) _ w1 h1 hl1.at hz h6 hxb
  simp only [RecV] at hma
  have hbd := (may_zero hm).be.bounds
  have Hw1 := Lib.hid hw1
  clear hw1 b1
  go_enter Tryz.func11, Tryz.ntmps11
  go_wp2_with fail
  rw [← Hw1.out]
  refine hma.mono ?_
  rintro e w2 ⟨rfl, k2⟩
  try simp only at hbd
  rw [hm]
  clear hm hma
  have hK2 := hK.call k2
  have h2 := h1.keep0 k2
  have hl2 := hl1.keep k2 (fun _ h => by cases h)
  clear hK h1 hl1 k2
  go_wp2_with fail
  refine (iremove hf (by omega) xb hbd.2.1 _ h2).mono ?_
  rintro e w3 ⟨v, rfl, hO, hI, k3⟩
  have hkw := (k1.weaken (fun _ _ h => by cases h)).trans (hK2.trans k3)
  have hO2 := hO.base (Nat.le_trans k1.size hK2.size)
  obtain ⟨vls, av, cv, rfl, -⟩ := id hO2
  have HO := Lib.hid hO2
  have HI := Lib.hid hI
  have HK := Lib.hid hkw
  clear hO hO2 hI hkw
  go_wp2_with fail
  go_ret2
  exact ⟨_, rfl, HO.out, HI.out, HK.out⟩
set_option maxHeartbeats 4000000 in
set_option maxRecDepth 20000 in
theorem iapply2 {I : Ib} {x : Ix} (hv : Inv x) (_ : x.E.length ≤ 900) (x0 x2 x3 x4 x7 x8 x9 xc xd : Int) (lx : List (Int × Int)) (x6 xa xb : ByteArray) (la : Option Addr) (lc : Nat) (w : World) (h : IxAt I w x) (hl : LocsIn I.X w (.slice la lx.length lc) lx) (hz : lx.length ≤ 1000) (h6 : x6.size < 16384) (hxb : xb.size < 16384) (hm : x.may ⟨x0, 2, ⟨x2, x3, x4, lx⟩, ⟨x6, x7, x8, x9, xa⟩, xb, xc, xd⟩ = 0) :
    Calls Tryz.prog 11 #[I.p, .agg #[.int .i64 x0, .int .i64 2, .int .i64 x2, .int .i64 x3, .int .i64 x4, .slice la lx.length lc, .string x6, .int .i64 x7, .int .i64 x8, .int .i64 x9, .string xa, .string xb, .int .i64 xc, .int .i64 xd]] w fun e w' => ∃ v, e = .returned (.tuple #[v, .int .i64 0]) ∧ OldsAt I.X w.heap.size w' v (takeL [x2] x.V).1 ∧ IxAt I w' (Ix.lay { x with V := (takeL [x2] x.V).2 } ⟨x2, x3, x4, lx⟩) ∧ Kp I.X w w' := by
  have hf := hv.fit
  obtain ⟨R, hR⟩ : ∃ R : RecD, R = ⟨x0, 2, ⟨x2, x3, x4, lx⟩, ⟨x6, x7, x8, x9, xa⟩, xb, xc, xd⟩ := ⟨_, rfl⟩
  obtain ⟨w1, hw1⟩ : ∃ w1, w1 = w.alloc (.cells #[.int .i64 x0, .int .i64 2, .int .i64 x2, .int .i64 x3, .int .i64 x4, .slice la lx.length lc, .string x6, .int .i64 x7, .int .i64 x8, .int .i64 x9, .string xa, .string xb, .int .i64 xc, .int .i64 xd] 43) := ⟨_, rfl⟩
  have k1 : Kp [] w w1 := hw1 ▸ (Kp.refl _ _).alloc _
  have b1 : w1.heap[w.heap.size]? = some (.cells #[.int .i64 x0, .int .i64 2, .int .i64 x2, .int .i64 x3, .int .i64 x4, .slice la lx.length lc, .string x6, .int .i64 x7, .int .i64 x8, .int .i64 x9, .string xa, .string xb, .int .i64 xc, .int .i64 xd] 43 (0, 0)) := by rw [hw1]; exact block_new _ _
  have hx : w.heap.size ∉ I.X := fun hm => Nat.lt_irrefl _ (h.lts _ hm)
  have c0 := Kp.cellAt (X := I.X) (w0 := w1) (p := ⟨w.heap.size, 0, none⟩) (v := .int .i64 x0) (cell_of_cells b1 rfl) hx
  have c1 := Kp.cellAt (X := I.X) (w0 := w1) (p := ⟨w.heap.size, 1, none⟩) (v := .int .i64 2) (cell_of_cells b1 rfl) hx
  have c2 := Kp.cellAt (X := I.X) (w0 := w1) (p := ⟨w.heap.size, 2, none⟩) (v := .int .i64 x2) (cell_of_cells b1 rfl) hx
  have c3 := Kp.cellAt (X := I.X) (w0 := w1) (p := ⟨w.heap.size, 3, none⟩) (v := .int .i64 x3) (cell_of_cells b1 rfl) hx
  have c4 := Kp.cellAt (X := I.X) (w0 := w1) (p := ⟨w.heap.size, 4, none⟩) (v := .int .i64 x4) (cell_of_cells b1 rfl) hx
  have c5 := Kp.cellAt (X := I.X) (w0 := w1) (p := ⟨w.heap.size, 5, none⟩) (v := .slice la lx.length lc) (cell_of_cells b1 rfl) hx
  have c6 := Kp.cellAt (X := I.X) (w0 := w1) (p := ⟨w.heap.size, 6, none⟩) (v := .string x6) (cell_of_cells b1 rfl) hx
  have c7 := Kp.cellAt (X := I.X) (w0 := w1) (p := ⟨w.heap.size, 7, none⟩) (v := .int .i64 x7) (cell_of_cells b1 rfl) hx
  have c8 := Kp.cellAt (X := I.X) (w0 := w1) (p := ⟨w.heap.size, 8, none⟩) (v := .int .i64 x8) (cell_of_cells b1 rfl) hx
  have c9 := Kp.cellAt (X := I.X) (w0 := w1) (p := ⟨w.heap.size, 9, none⟩) (v := .int .i64 x9) (cell_of_cells b1 rfl) hx
  have c10 := Kp.cellAt (X := I.X) (w0 := w1) (p := ⟨w.heap.size, 10, none⟩) (v := .string xa) (cell_of_cells b1 rfl) hx
  have c11 := Kp.cellAt (X := I.X) (w0 := w1) (p := ⟨w.heap.size, 11, none⟩) (v := .string xb) (cell_of_cells b1 rfl) hx
  have c12 := Kp.cellAt (X := I.X) (w0 := w1) (p := ⟨w.heap.size, 12, none⟩) (v := .int .i64 xc) (cell_of_cells b1 rfl) hx
  have c13 := Kp.cellAt (X := I.X) (w0 := w1) (p := ⟨w.heap.size, 13, none⟩) (v := .int .i64 xd) (cell_of_cells b1 rfl) hx
  have h1 := h.keep0 k1
  have hl1 := hl.keep k1 (fun _ h => by cases h)
  have hK := Kp.refl I.X w1
  have hma := imay hf ⟨x0, 2, ⟨x2, x3, x4, lx⟩, ⟨x6, x7, x8, x9, xa⟩, xb, xc, xd⟩ (.slice la lx.length lc) _ w1 h1 hl1.at hz h6 hxb
  simp only [RecV] at hma
  have hbd := (may_zero hm).be
  have Hw1 := Lib.hid hw1
  clear hw1 b1
  go_enter Tryz.func11, Tryz.ntmps11
  go_wp2_with fail
  rw [← Hw1.out]
  refine hma.mono ?_
  rintro e w2 ⟨rfl, k2⟩
  have hvo := hbd.vol (by show (2 : Int) ≠ 1; decide)
  have hid := vol_id hvo
  simp only at hvo hid
  rw [hm]
  clear hm hma
  have hK2 := hK.call k2
  have h2 := h1.keep0 k2
  have hl2 := hl1.keep k2 (fun _ h => by cases h)
  clear hK h1 hl1 k2
  go_wp2_with fail
  have kA : Kp [] w2 (w2.alloc (.cells #[.int .i64 x2] 3)) := (Kp.refl _ _).alloc _
  have hids : SliceAt (w2.heap.size + 1) (w2.alloc (.cells #[.int .i64 x2] 3)) (.slice (some ⟨w2.heap.size, 0, none⟩) 1 1) 1 [x2].length ([x2].map (Value.int .i64)) := slice_new w2 3 [.int .i64 x2] 1 1 rfl
  refine (itake hf [x2] _ _ _ (h2.keep0 kA) hids (by simp) (fun d hd => ?_) (fun g hg => ?_)).mono ?_
  · rw [List.mem_singleton] at hd
    subst hd
    exact wf_i64 (by omega) (by omega)
  · simp only [Value.ownBlock, Option.some.injEq] at hg
    have := h2.lts _ I.mem.2.2.2.1
    omega
  rintro e w3 ⟨vls, av, cv, rfl, ha, hO, hL, hI, hk3⟩
  have k3 : Kp I.X w2 w3 := (kA.weaken (fun _ _ h => by cases h)).trans (hk3.weaken (fun i _ hi => by simp only [List.mem_singleton] at hi; subst hi; exact I.mem.2.2.2.1))
  have hK3 := hK2.trans k3
  have hb3 : w.heap.size ≤ w2.heap.size + 1 := by have := k1.size; have := hK2.size; omega
  have hold : OldsAt I.X (w2.heap.size + 1) w3 (.slice av [x2].length cv) (takeL [x2] x.V).1 := by
    refine ⟨vls, av, cv, by rw [takeL_len], ha, ?_, hL⟩
    rw [takeL_len]
    exact ownsRow_base hO (by rw [World.size_alloc]; exact Nat.le_refl _)
  have hl3 := hl2.keep k3 (fun i hi _ => hi)
  have HO := Lib.hid hold
  have HI := Lib.hid hI
  clear hold hO hL ha hK2 hids
  go_wp2_with fail
  refine (ilay (hf.takeV [x2]) ⟨x2, x3, x4, lx⟩ (.slice la lx.length lc) _ _ HI.out hvo hl3.at).mono ?_
  rintro e w4 ⟨rfl, hI4, k4⟩
  have hO4 := HO.out.keep k4 (fun i hi _ => hi) (fun i hi hl => Nat.lt_succ_of_lt (h2.lts i hi))
  have hkw := (k1.weaken (fun _ _ h => by cases h)).trans (hK3.trans k4)
  have HO4 := Lib.hid (hO4.base hb3)
  have HI4 := Lib.hid hI4
  have HK := Lib.hid hkw
  clear hO4 hI4 hkw hI
  go_wp2_with fail
  go_ret2
  exact ⟨_, rfl, HO4.out, HI4.out, HK.out⟩
set_option maxHeartbeats 4000000 in
set_option maxRecDepth 20000 in
theorem iapply3 {I : Ib} {x : Ix} (hv : Inv x) (hzE : x.E.length ≤ 900) (x0 x2 x3 x4 x7 x8 x9 xc xd : Int) (lx : List (Int × Int)) (x6 xa xb : ByteArray) (la : Option Addr) (lc : Nat) (w : World) (h : IxAt I w x) (hl : LocsIn I.X w (.slice la lx.length lc) lx) (hz : lx.length ≤ 1000) (h6 : x6.size < 16384) (hxb : xb.size < 16384) (hm : x.may ⟨x0, 3, ⟨x2, x3, x4, lx⟩, ⟨x6, x7, x8, x9, xa⟩, xb, xc, xd⟩ = 0) :
    Calls Tryz.prog 11 #[I.p, .agg #[.int .i64 x0, .int .i64 3, .int .i64 x2, .int .i64 x3, .int .i64 x4, .slice la lx.length lc, .string x6, .int .i64 x7, .int .i64 x8, .int .i64 x9, .string xa, .string xb, .int .i64 xc, .int .i64 xd]] w fun e w' => ∃ v, e = .returned (.tuple #[v, .int .i64 0]) ∧ OldsAt I.X w.heap.size w' v (takeL [xc, xd] x.V).1 ∧ IxAt I w' (Ix.lay { x with V := (takeL [xc, xd] x.V).2, E := x.E.map fun p => (p.1, moved xc xd x2 (vget xc x.V).len p.2) } ⟨x2, x3, x4, lx⟩) ∧ Kp I.X w w' := by
  have hf := hv.fit
  obtain ⟨R, hR⟩ : ∃ R : RecD, R = ⟨x0, 3, ⟨x2, x3, x4, lx⟩, ⟨x6, x7, x8, x9, xa⟩, xb, xc, xd⟩ := ⟨_, rfl⟩
  obtain ⟨w1, hw1⟩ : ∃ w1, w1 = w.alloc (.cells #[.int .i64 x0, .int .i64 3, .int .i64 x2, .int .i64 x3, .int .i64 x4, .slice la lx.length lc, .string x6, .int .i64 x7, .int .i64 x8, .int .i64 x9, .string xa, .string xb, .int .i64 xc, .int .i64 xd] 43) := ⟨_, rfl⟩
  have k1 : Kp [] w w1 := hw1 ▸ (Kp.refl _ _).alloc _
  have b1 : w1.heap[w.heap.size]? = some (.cells #[.int .i64 x0, .int .i64 3, .int .i64 x2, .int .i64 x3, .int .i64 x4, .slice la lx.length lc, .string x6, .int .i64 x7, .int .i64 x8, .int .i64 x9, .string xa, .string xb, .int .i64 xc, .int .i64 xd] 43 (0, 0)) := by rw [hw1]; exact block_new _ _
  have hx : w.heap.size ∉ I.X := fun hm => Nat.lt_irrefl _ (h.lts _ hm)
  have c0 := Kp.cellAt (X := I.X) (w0 := w1) (p := ⟨w.heap.size, 0, none⟩) (v := .int .i64 x0) (cell_of_cells b1 rfl) hx
  have c1 := Kp.cellAt (X := I.X) (w0 := w1) (p := ⟨w.heap.size, 1, none⟩) (v := .int .i64 3) (cell_of_cells b1 rfl) hx
  have c2 := Kp.cellAt (X := I.X) (w0 := w1) (p := ⟨w.heap.size, 2, none⟩) (v := .int .i64 x2) (cell_of_cells b1 rfl) hx
  have c3 := Kp.cellAt (X := I.X) (w0 := w1) (p := ⟨w.heap.size, 3, none⟩) (v := .int .i64 x3) (cell_of_cells b1 rfl) hx
  have c4 := Kp.cellAt (X := I.X) (w0 := w1) (p := ⟨w.heap.size, 4, none⟩) (v := .int .i64 x4) (cell_of_cells b1 rfl) hx
  have c5 := Kp.cellAt (X := I.X) (w0 := w1) (p := ⟨w.heap.size, 5, none⟩) (v := .slice la lx.length lc) (cell_of_cells b1 rfl) hx
  have c6 := Kp.cellAt (X := I.X) (w0 := w1) (p := ⟨w.heap.size, 6, none⟩) (v := .string x6) (cell_of_cells b1 rfl) hx
  have c7 := Kp.cellAt (X := I.X) (w0 := w1) (p := ⟨w.heap.size, 7, none⟩) (v := .int .i64 x7) (cell_of_cells b1 rfl) hx
  have c8 := Kp.cellAt (X := I.X) (w0 := w1) (p := ⟨w.heap.size, 8, none⟩) (v := .int .i64 x8) (cell_of_cells b1 rfl) hx
  have c9 := Kp.cellAt (X := I.X) (w0 := w1) (p := ⟨w.heap.size, 9, none⟩) (v := .int .i64 x9) (cell_of_cells b1 rfl) hx
  have c10 := Kp.cellAt (X := I.X) (w0 := w1) (p := ⟨w.heap.size, 10, none⟩) (v := .string xa) (cell_of_cells b1 rfl) hx
  have c11 := Kp.cellAt (X := I.X) (w0 := w1) (p := ⟨w.heap.size, 11, none⟩) (v := .string xb) (cell_of_cells b1 rfl) hx
  have c12 := Kp.cellAt (X := I.X) (w0 := w1) (p := ⟨w.heap.size, 12, none⟩) (v := .int .i64 xc) (cell_of_cells b1 rfl) hx
  have c13 := Kp.cellAt (X := I.X) (w0 := w1) (p := ⟨w.heap.size, 13, none⟩) (v := .int .i64 xd) (cell_of_cells b1 rfl) hx
  have h1 := h.keep0 k1
  have hl1 := hl.keep k1 (fun _ h => by cases h)
  have hK := Kp.refl I.X w1
  have hma := imay hf ⟨x0, 3, ⟨x2, x3, x4, lx⟩, ⟨x6, x7, x8, x9, xa⟩, xb, xc, xd⟩ (.slice la lx.length lc) _ w1 h1 hl1.at hz h6 hxb
  simp only [RecV] at hma
  have hgo := may_zero hm
  have Hw1 := Lib.hid hw1
  clear hw1 b1
  go_enter Tryz.func11, Tryz.ntmps11
  go_wp2_with fail
  rw [← Hw1.out]
  refine hma.mono ?_
  rintro e w2 ⟨rfl, k2⟩
  have hvo := hgo.be.vol (by show (3 : Int) ≠ 1; decide)
  have hbd := hgo.be.bounds
  simp only at hvo hbd
  have hfm := fit_merged hv hgo rfl
  simp only at hfm
  have hlv := vget_len hf xc
  rw [hm]
  clear hm hma
  have hK2 := hK.call k2
  have h2 := h1.keep0 k2
  have hl2 := hl1.keep k2 (fun _ h => by cases h)
  clear hK h1 hl1 k2
  have hmg := imerge hf hzE x0 3 x2 x3 x4 x7 x8 x9 xc xd lx x6 xa xb la lc w2 h2 hl2 hvo hbd.2.2.1 hbd.2.2.2.1 hv.nodE _ rfl _ hlv.1 hlv.2 rfl hfm
  clear hvo hbd hfm hlv hgo
  go_wp2_with fail
  refine hmg.mono ?_
  rintro e w3 ⟨v, rfl, hO, hI, k3⟩
  have hkw := (k1.weaken (fun _ _ h => by cases h)).trans (hK2.trans k3)
  have hO2 := hO.base (Nat.le_trans k1.size hK2.size)
  obtain ⟨vls, av, cv, rfl, -⟩ := id hO2
  have HO := Lib.hid hO2
  have HI := Lib.hid hI
  have HK := Lib.hid hkw
  clear hO hO2 hI hkw hmg
  go_wp2_with fail
  go_ret2
  exact ⟨_, rfl, HO.out, HI.out, HK.out⟩
theorem iapply {I : Ib} {x : Ix} (hv : Inv x) (hzE : x.E.length ≤ 900) (r : RecD) (lv : Value) (w : World) (h : IxAt I w x) (hl : LocsIn I.X w lv r.vol.locs) (hz : r.vol.locs.length ≤ 1000) (h6 : r.ent.key.size < 16384) (hxb : r.key.size < 16384) :
    Calls Tryz.prog 11 #[I.p, .agg (RecV r lv)] w fun e w' => ∃ v, e = .returned (.tuple #[v, .int .i64 (x.apply r).2.2]) ∧ OldsAt I.X w.heap.size w' v (x.apply r).2.1 ∧ IxAt I w' (x.apply r).1 ∧ Kp I.X w w' := by
  obtain ⟨la, lc, rfl⟩ := slice_ex hl.at
  obtain ⟨x0, x1, ⟨x2, x3, x4, lx⟩, ⟨x6, x7, x8, x9, xa⟩, xb, xc, xd⟩ := r
  simp only [RecV]
  simp only at hl hz h6 hxb
  by_cases hm : x.may ⟨x0, x1, ⟨x2, x3, x4, lx⟩, ⟨x6, x7, x8, x9, xa⟩, xb, xc, xd⟩ = 0
  · have hk := (may_zero hm).kinds
    simp only at hk
    rcases hk with rfl | rfl | rfl | rfl
    · have e : x.apply ⟨x0, 0, ⟨x2, x3, x4, lx⟩, ⟨x6, x7, x8, x9, xa⟩, xb, xc, xd⟩ = (Ix.lay { x with E := aPut x6 ⟨x6, x7, x8, x9, xa⟩ x.E } ⟨x2, x3, x4, lx⟩, [], 0) := by
        unfold Ix.apply; rw [if_neg (by rw [hm]; simp)]; rfl
      rw [e]
      exact (iapply0 hv hzE x0 x2 x3 x4 x7 x8 x9 xc xd lx x6 xa xb la lc w h hl hz h6 hxb hm).mono fun e w' ⟨h1, h2, h3⟩ => ⟨_, h1, olds_nil _ _ _, h2, h3⟩
    · have e : x.apply ⟨x0, 1, ⟨x2, x3, x4, lx⟩, ⟨x6, x7, x8, x9, xa⟩, xb, xc, xd⟩ = ((x.remove xb).2, (x.remove xb).1, 0) := by
        unfold Ix.apply; rw [if_neg (by rw [hm]; simp)]; rfl
      rw [e]
      exact iapply1 hv hzE x0 x2 x3 x4 x7 x8 x9 xc xd lx x6 xa xb la lc w h hl hz h6 hxb hm
    · have e : x.apply ⟨x0, 2, ⟨x2, x3, x4, lx⟩, ⟨x6, x7, x8, x9, xa⟩, xb, xc, xd⟩ = (Ix.lay { x with V := (takeL [x2] x.V).2 } ⟨x2, x3, x4, lx⟩, (takeL [x2] x.V).1, 0) := by
        unfold Ix.apply; rw [if_neg (by rw [hm]; simp)]; rfl
      rw [e]
      exact iapply2 hv hzE x0 x2 x3 x4 x7 x8 x9 xc xd lx x6 xa xb la lc w h hl hz h6 hxb hm
    · have e : x.apply ⟨x0, 3, ⟨x2, x3, x4, lx⟩, ⟨x6, x7, x8, x9, xa⟩, xb, xc, xd⟩ = (Ix.lay { x with V := (takeL [xc, xd] x.V).2, E := x.E.map fun p => (p.1, moved xc xd x2 (vget xc x.V).len p.2) } ⟨x2, x3, x4, lx⟩, (takeL [xc, xd] x.V).1, 0) := by
        unfold Ix.apply; rw [if_neg (by rw [hm]; simp)]; rfl
      rw [e]
      exact iapply3 hv hzE x0 x2 x3 x4 x7 x8 x9 xc xd lx x6 xa xb la lc w h hl hz h6 hxb hm
  · rw [show x.apply ⟨x0, x1, ⟨x2, x3, x4, lx⟩, ⟨x6, x7, x8, x9, xa⟩, xb, xc, xd⟩ = (x, [], x.may ⟨x0, x1, ⟨x2, x3, x4, lx⟩, ⟨x6, x7, x8, x9, xa⟩, xb, xc, xd⟩) by unfold Ix.apply; rw [if_pos hm]]
    exact (iapply_no hv hzE x0 x1 x2 x3 x4 x7 x8 x9 xc xd lx x6 xa xb la lc w h hl hz h6 hxb hm).mono fun e w' ⟨h1, h2⟩ => ⟨_, h1, olds_nil _ _ _, h.keep0 h2, h2.weaken (fun _ _ h => by cases h)⟩
end Go.Proofs.YtdhhddifmkijhaaGreat
