/-
  May: may a record be applied?
-/
import Derived.Test.YtdhhddifmkijhaaGreatIdxM
import Derived.Test.YtdhhddifmkijhaaGreatIdxE
namespace Go.Proofs.YtdhhddifmkijhaaGreat
open Go.RowKit Go.ChangeMaps Go.Maps Go.WideShapes Go.WideMaps Go.WideElems Go.MapKept Go.ChangeShapes

/-- the volumes that are looked up, in every later world -/
theorem look_vol_at {I : Ib} {w : World} {x : Ix} (h : IxAt I w x) (hf : Fit x) {d : Int} (hd : (Lit.int .i64 d).wf = true) :
    ∃ lv, LocsIn I.X w lv (x.vol d).1.locs ∧ ∀ W, Kp [] w W → (Instr.lookup 67 (.map (some I.v)) (.int .i64 d) true).run Tryz.prog W = .ok (.tuple #[.agg (VolVA (x.vol d).1 lv), .bool (aGet d x.V).isSome]) W := by
  obtain ⟨VS, hv, hm, hl⟩ := h.vols
  have hg : kGet d (VS.map fun p => (p.1, Value.agg (VolVA p.2.1 p.2.2))) = (aGet d VS).map (fun q => .agg (VolVA q.1 q.2)) := kGet_map (fun q : VolD × Value => Value.agg (VolVA q.1 q.2)) d VS
  have hv2 : aGet d x.V = (aGet d VS).map (·.1) := by rw [← hv]; exact aGet_vals (fun q : VolD × Value => q.1) d VS
  unfold Ix.vol
  rw [hv2]
  cases hq : aGet d VS with
  | none =>
    refine ⟨.slice none 0 0, ⟨none, 0, rfl, fun h => absurd h (by decide)⟩, fun W k => ?_⟩
    have h1 := MapK.look (P := Tryz.prog) (encs_int under_int) under_mVol (hm.keep k (by simp)) (hf.kV hv) (k := d) hd _ (zero_vol W) true
    rw [h1, hg, hq]; rfl
  | some q =>
    refine ⟨q.2, (hl _ (aGet_mem hq)).1, fun W k => ?_⟩
    have h1 := MapK.look (P := Tryz.prog) (encs_int under_int) under_mVol (hm.keep k (by simp)) (hf.kV hv) (k := d) hd _ (zero_vol W) true
    rw [h1, hg, hq]; rfl
theorem vol_len_any {x : Ix} (hf : Fit x) (d : Int) : 0 ≤ (x.vol d).1.len ∧ (x.vol d).1.len ≤ 384 := by
  unfold Ix.vol
  cases hq : aGet d x.V with
  | none => exact ⟨by decide, by decide⟩
  | some v => exact vol_len (hf.vols _ (aGet_mem hq)).2.2
set_option maxHeartbeats 4000000 in
set_option maxRecDepth 20000 in
theorem imay_no {I : Ib} {x : Ix} (_ : Fit x) (x0 x1 x2 x3 x4 x7 x8 x9 xc xd : Int) (lx : List (Int × Int)) (x6 xa xb : ByteArray) (la : Option Addr) (lc B : Nat) (w : World) (_ : IxAt I w x) (hl : LocsAt B w (.slice la lx.length lc) lx) (hz : lx.length ≤ 1000) (h6 : x6.size < 16384) (hxb : xb.size < 16384) (hc : recCheck ⟨x0, x1, ⟨x2, x3, x4, lx⟩, ⟨x6, x7, x8, x9, xa⟩, xb, xc, xd⟩ ≠ 0) :
    Calls Tryz.prog 8 #[I.p, .agg #[.int .i64 x0, .int .i64 x1, .int .i64 x2, .int .i64 x3, .int .i64 x4, .slice la lx.length lc, .string x6, .int .i64 x7, .int .i64 x8, .int .i64 x9, .string xa, .string xb, .int .i64 xc, .int .i64 xd]] w fun e w' => e = .returned (.int .i64 (x.may ⟨x0, x1, ⟨x2, x3, x4, lx⟩, ⟨x6, x7, x8, x9, xa⟩, xb, xc, xd⟩)) ∧ Kp [] w w' := by
  obtain ⟨R, hR⟩ : ∃ R, R = x.may ⟨x0, x1, ⟨x2, x3, x4, lx⟩, ⟨x6, x7, x8, x9, xa⟩, xb, xc, xd⟩ := ⟨_, rfl⟩
  rw [← hR]
  have HR := Lib.hid hR
  clear hR
  obtain ⟨w1, hw1⟩ : ∃ w1, w1 = w.alloc (.cells #[.int .i64 x0, .int .i64 x1, .int .i64 x2, .int .i64 x3, .int .i64 x4, .slice la lx.length lc, .string x6, .int .i64 x7, .int .i64 x8, .int .i64 x9, .string xa, .string xb, .int .i64 xc, .int .i64 xd] 43) := ⟨_, rfl⟩
  have k1 : Kp [] w w1 := hw1 ▸ (Kp.refl _ _).alloc _
  have b1 : w1.heap[w.heap.size]? = some (.cells #[.int .i64 x0, .int .i64 x1, .int .i64 x2, .int .i64 x3, .int .i64 x4, .slice la lx.length lc, .string x6, .int .i64 x7, .int .i64 x8, .int .i64 x9, .string xa, .string xb, .int .i64 xc, .int .i64 xd] 43 (0, 0)) := by rw [hw1]; exact block_new _ _
  have hch := rcheck ⟨x0, x1, ⟨x2, x3, x4, lx⟩, ⟨x6, x7, x8, x9, xa⟩, xb, xc, xd⟩ (.slice la lx.length lc) B w1 (hl.keep0 k1) hz h6 hxb
  simp only [RecV] at hch
  obtain ⟨C, hC⟩ : ∃ C, C = recCheck ⟨x0, x1, ⟨x2, x3, x4, lx⟩, ⟨x6, x7, x8, x9, xa⟩, xb, xc, xd⟩ := ⟨_, rfl⟩
  rw [← hC] at hch hc
  have hb : (C != 0) = true := by simpa using hc
  have hr : R = C := by rw [HR.out]; unfold Ix.may; rw [← hC, if_pos hc]
  rw [hr]
  obtain ⟨f0, f1, f2, f3, f4, f5, f6, f7, f8, f9, fa, fb, fc, fd⟩ := read14 b1
  have Hw1 := Lib.hid hw1
  clear hw1 b1 hC hc hr
  go_enter Tryz.func8, Tryz.ntmps8
  go_wp2_with fail
  rw [← Hw1.out]
  refine hch.mono ?_
  rintro e w2 ⟨rfl, k2⟩
  have hk := k1.trans k2
  clear hch
  go_wp2_with fail
  go_ret
  exact ⟨rfl, hk⟩
set_option maxHeartbeats 4000000 in
set_option maxRecDepth 20000 in
theorem imay0 {I : Ib} {x : Ix} (hf : Fit x) (x0 x2 x3 x4 x7 x8 x9 xc xd : Int) (lx : List (Int × Int)) (x6 xa xb : ByteArray) (la : Option Addr) (lc B : Nat) (w : World) (h : IxAt I w x) (hl : LocsAt B w (.slice la lx.length lc) lx) (hz : lx.length ≤ 1000) (h6 : x6.size < 16384) (hxb : xb.size < 16384) (hc : recCheck ⟨x0, 0, ⟨x2, x3, x4, lx⟩, ⟨x6, x7, x8, x9, xa⟩, xb, xc, xd⟩ = 0) :
    Calls Tryz.prog 8 #[I.p, .agg #[.int .i64 x0, .int .i64 0, .int .i64 x2, .int .i64 x3, .int .i64 x4, .slice la lx.length lc, .string x6, .int .i64 x7, .int .i64 x8, .int .i64 x9, .string xa, .string xb, .int .i64 xc, .int .i64 xd]] w fun e w' => e = .returned (.int .i64 (x.may ⟨x0, 0, ⟨x2, x3, x4, lx⟩, ⟨x6, x7, x8, x9, xa⟩, xb, xc, xd⟩)) ∧ Kp [] w w' := by
  obtain ⟨R, hR⟩ : ∃ R, R = x.may ⟨x0, 0, ⟨x2, x3, x4, lx⟩, ⟨x6, x7, x8, x9, xa⟩, xb, xc, xd⟩ := ⟨_, rfl⟩
  rw [← hR]
  have HR := Lib.hid hR
  clear hR
  obtain ⟨w1, hw1⟩ : ∃ w1, w1 = w.alloc (.cells #[.int .i64 x0, .int .i64 0, .int .i64 x2, .int .i64 x3, .int .i64 x4, .slice la lx.length lc, .string x6, .int .i64 x7, .int .i64 x8, .int .i64 x9, .string xa, .string xb, .int .i64 xc, .int .i64 xd] 43) := ⟨_, rfl⟩
  have k1 : Kp [] w w1 := hw1 ▸ (Kp.refl _ _).alloc _
  have b1 : w1.heap[w.heap.size]? = some (.cells #[.int .i64 x0, .int .i64 0, .int .i64 x2, .int .i64 x3, .int .i64 x4, .slice la lx.length lc, .string x6, .int .i64 x7, .int .i64 x8, .int .i64 x9, .string xa, .string xb, .int .i64 xc, .int .i64 xd] 43 (0, 0)) := by rw [hw1]; exact block_new _ _
  have hch := rcheck ⟨x0, 0, ⟨x2, x3, x4, lx⟩, ⟨x6, x7, x8, x9, xa⟩, xb, xc, xd⟩ (.slice la lx.length lc) B w1 (hl.keep0 k1) hz h6 hxb
  simp only [RecV] at hch
  rw [hc] at hch
  obtain ⟨b6, bb, bc, bd, b2⟩ := (check_zero hc).bounds
  simp only at b6 bb bc bd b2
  obtain ⟨f0, f1, f2, f3, f4, f5, f6, f7, f8, f9, fa, fb, fc, fd⟩ := read14 b1
  have c1 := Kp.cellAt (X := []) f1 (by simp)
  have c2 := Kp.cellAt (X := []) f2 (by simp)
  have c3 := Kp.cellAt (X := []) f3 (by simp)
  have c4 := Kp.cellAt (X := []) f4 (by simp)
  have c5 := Kp.cellAt (X := []) f5 (by simp)
  have c6 := Kp.cellAt (X := []) f6 (by simp)
  have cb := Kp.cellAt (X := []) fb (by simp)
  have cc := Kp.cellAt (X := []) fc (by simp)
  have cd := Kp.cellAt (X := []) fd (by simp)
  have hK := Kp.refl [] w1
  have Hw1 := Lib.hid hw1
  have HCK := Lib.hid hc
  have h1 := h.keep0 k1
  clear hw1 b1 hc
  go_enter Tryz.func8, Tryz.ntmps8
  go_wp2_with fail
  rw [← Hw1.out]
  refine hch.mono ?_
  rintro e w2 ⟨rfl, k2⟩
  have hK := hK.trans k2
  clear hch
  go_wp2_with fail
  obtain ⟨w3, hw3⟩ : ∃ w3, w3 = w2.alloc (.cells #[.int .i64 x2, .int .i64 x3, .int .i64 x4, .slice la lx.length lc] 36) := ⟨_, rfl⟩
  have k3 : Kp [] w2 w3 := hw3 ▸ (Kp.refl _ _).alloc _
  have b3 : w3.heap[w2.heap.size]? = some (.cells #[.int .i64 x2, .int .i64 x3, .int .i64 x4, .slice la lx.length lc] 36 (0, 0)) := by rw [hw3]; exact block_new _ _
  have hK3 := hK.trans k3
  have kw3 := k1.trans hK3
  have h3 := h1.keep0 hK3
  obtain ⟨g0, g1, g2, -⟩ := read4 b3
  have e0 := Kp.cellAt (X := []) g0 (by simp)
  have e1 := Kp.cellAt (X := []) g1 (by simp)
  have e2 := Kp.cellAt (X := []) g2 (by simp)
  have m1 := Kp.cellAt (X := []) (c1 _ hK3) (by simp)
  have m2 := Kp.cellAt (X := []) (c2 _ hK3) (by simp)
  have m6 := Kp.cellAt (X := []) (c6 _ hK3) (by simp)
  have mb := Kp.cellAt (X := []) (cb _ hK3) (by simp)
  have mc := Kp.cellAt (X := []) (cc _ hK3) (by simp)
  have md := Kp.cellAt (X := []) (cd _ hK3) (by simp)
  obtain ⟨n0, n1, n2, n3, n4⟩ := h3.cells
  have o0 := Kp.cellAt (X := []) n0 (by simp)
  have o2 := Kp.cellAt (X := []) n2 (by simp)
  have o3 := Kp.cellAt (X := []) n3 (by simp)
  have hd2 : (Lit.int .i64 x2).wf = true := wf_i64 (by omega) (by omega)
  obtain ⟨lv0, hlv0, l0⟩ := look_vol_at h3 hf hd2
  obtain ⟨lv1, hlv1, l1⟩ := look_vol_at h3 hf (d := xc) (wf_i64 (by omega) (by omega))
  obtain ⟨lv2, hlv2, l2⟩ := look_vol_at h3 hf (d := xd) (wf_i64 (by omega) (by omega))
  have l4 : ∀ W, Kp [] w3 W → _ := fun W k => look_ent (h3.keep0 k) hf (max_key bb)
  have zc := vol_len_any hf xc
  have zd := vol_len_any hf xd
  obtain ⟨⟨p0, p1, p2, p3⟩, hp⟩ : ∃ q, q = (x.vol x2).1 := ⟨_, rfl⟩
  obtain ⟨⟨q0, q1, q2, q3⟩, hq⟩ : ∃ q, q = (x.vol xc).1 := ⟨_, rfl⟩
  obtain ⟨⟨r0, r1, r2, r3⟩, hr⟩ : ∃ q, q = (x.vol xd).1 := ⟨_, rfl⟩
  obtain ⟨⟨t0, t1, t2, t3, t4⟩, ht⟩ : ∃ q, q = (x.get xb).1 := ⟨_, rfl⟩
  rw [← hp] at l0 hlv0
  rw [← hq] at l1 hlv1 zc
  rw [← hr] at l2 hlv2 zd
  rw [← ht] at l4
  simp only at zc zd
  obtain ⟨pa, pc, rfl⟩ := slice_ex hlv0.at
  obtain ⟨qa, qc, rfl⟩ := slice_ex hlv1.at
  obtain ⟨ra, rc, rfl⟩ := slice_ex hlv2.at
  simp only [VolVA] at l0 l1 l2
  simp only [EntVA] at l4
  obtain ⟨s0, hs0⟩ : ∃ b, b = (aGet x2 x.V).isSome := ⟨_, rfl⟩
  obtain ⟨s1, hs1⟩ : ∃ b, b = (aGet xc x.V).isSome := ⟨_, rfl⟩
  obtain ⟨s2, hs2⟩ : ∃ b, b = (aGet xd x.V).isSome := ⟨_, rfl⟩
  obtain ⟨s4, hs4⟩ : ∃ b, b = (aGet xb x.E).isSome := ⟨_, rfl⟩
  rw [← hs0] at l0
  rw [← hs1] at l1
  rw [← hs2] at l2
  rw [← hs4] at l4
  have HP := Lib.hid hp
  have HQ := Lib.hid hq
  have HRR := Lib.hid hr
  have HS0 := Lib.hid hs0
  have HS1 := Lib.hid hs1
  have HS2 := Lib.hid hs2
  have HS4 := Lib.hid hs4
  have Hw3 := Lib.hid hw3
  have hK0 := Kp.refl [] w3
  clear hw3 hp hq hr ht hs0 hs1 hs2 hs4 f0 f1 f2 f3 f4 f5 f6 f7 f8 f9 fa fb fc fd c1 c2 c3 c4 c5 c6 cb cc cd b3 g0 g1 g2 n0 n1 n2 n3 n4 hlv0 hlv1 hlv2 hK
  rw [← Hw3.out]
  refine wpB_begin 999 (Kp [] w3) (by kernel_rfl) (by exact hK0.drew) (fun hHeld => ?_)
  refine wpB_take 0 _ ?_ rfl (by kernel_rfl) (fun _ _ _ h => h) rfl hHeld ?_ ?_
  rotate_left
  · (intro W hW; go_simp; try with_reducible rfl)
  try simp only [Act.put, List.setIfInBounds_toArray, List.set_cons_zero, List.set_cons_succ]
  refine wpB_take 1 _ ?_ rfl (by kernel_rfl) (fun _ _ _ h => h) rfl hHeld ?_ ?_
  rotate_left
  · (intro W hW; go_simp; try with_reducible rfl)
  try simp only [Act.put, List.setIfInBounds_toArray, List.set_cons_zero, List.set_cons_succ]
  refine wpB_take 2 _ ?_ rfl (by kernel_rfl) (fun _ _ _ h => h) rfl hHeld ?_ ?_
  rotate_left
  · (intro W hW; go_simp; try with_reducible rfl)
  try simp only [Act.put, List.setIfInBounds_toArray, List.set_cons_zero, List.set_cons_succ]
  refine wpB_take 3 _ ?_ rfl (by kernel_rfl) (fun _ _ _ h => h) rfl hHeld ?_ ?_
  rotate_left
  · (intro W hW; go_simp; try with_reducible rfl)
  try simp only [Act.put, List.setIfInBounds_toArray, List.set_cons_zero, List.set_cons_succ]
  refine wpB_take 4 _ ?_ rfl (by kernel_rfl) (fun _ _ _ h => h) rfl hHeld ?_ ?_
  rotate_left
  · (intro W hW; go_simp; try with_reducible rfl)
  try simp only [Act.put, List.setIfInBounds_toArray, List.set_cons_zero, List.set_cons_succ]
  refine wpB_take 5 _ ?_ rfl (by kernel_rfl) (fun _ _ _ h => h) rfl hHeld ?_ ?_
  rotate_left
  · (intro W hW; go_simp; try with_reducible rfl)
  try simp only [Act.put, List.setIfInBounds_toArray, List.set_cons_zero, List.set_cons_succ]
  refine wpB_take 6 _ ?_ rfl (by kernel_rfl) (fun _ _ _ h => h) rfl hHeld ?_ ?_
  rotate_left
  · (intro W hW; go_simp; try with_reducible rfl)
  try simp only [Act.put, List.setIfInBounds_toArray, List.set_cons_zero, List.set_cons_succ]
  refine wpB_take 7 _ ?_ rfl (by kernel_rfl) (fun _ _ _ h => h) rfl hHeld ?_ ?_
  rotate_left
  · (intro W hW; go_simp; try with_reducible rfl)
  try simp only [Act.put, List.setIfInBounds_toArray, List.set_cons_zero, List.set_cons_succ]
  refine wpB_take 8 _ ?_ rfl (by kernel_rfl) (fun _ _ _ h => h) rfl hHeld ?_ ?_
  rotate_left
  · (intro W hW; go_simp; try with_reducible rfl)
  try simp only [Act.put, List.setIfInBounds_toArray, List.set_cons_zero, List.set_cons_succ]
  refine wpB_take 9 _ ?_ rfl (by kernel_rfl) (fun _ _ _ h => h) rfl hHeld ?_ ?_
  rotate_left
  · (intro W hW; go_simp; try with_reducible rfl)
  try simp only [Act.put, List.setIfInBounds_toArray, List.set_cons_zero, List.set_cons_succ]
  refine wpB_step 10 _ rfl (by kernel_rfl) rfl rfl (fun K hK_ => ?_)
  go_simp
  refine hK_.out _ _ (by first | exact hHeld | exact hHeld.call ‹_› | exact hHeld.alloc _) (fun hHeld => ?_)
  clear hK_ K
  try simp only [Act.put, List.setIfInBounds_toArray, List.set_cons_zero, List.set_cons_succ]
  refine wpB_step 11 _ rfl (by kernel_rfl) rfl rfl (fun K hK_ => ?_)
  go_simp
  refine hK_.out _ _ (by exact (hK0.alloc _).drew) (fun hHeld => ?_)
  clear hK_ K
  try simp only [Act.put, List.setIfInBounds_toArray, List.set_cons_zero, List.set_cons_succ]
  refine wpB_take 12 _ ?_ rfl (by kernel_rfl) (fun _ _ _ h => h) rfl hHeld ?_ ?_
  rotate_left
  · (intro W hW; go_simp; try with_reducible rfl)
  try simp only [Act.put, List.setIfInBounds_toArray, List.set_cons_zero, List.set_cons_succ]
  refine wpB_done (by kernel_rfl) ?_ _
  obtain ⟨w4, hw4⟩ : ∃ w4, w4 = (w3.alloc (.cells #[.int .i64 p0, .int .i64 p1, .int .i64 p2, .slice pa p3.length pc] 36)).drew := ⟨_, rfl⟩
  have jw4 : Kp [] w3 w4 := hw4 ▸ ((Kp.refl _ _).alloc _).drew
  have qw4 : w4.heap[w3.heap.size]? = some (.cells #[.int .i64 p0, .int .i64 p1, .int .i64 p2, .slice pa p3.length pc] 36 (0, 0)) := by rw [hw4]; exact block_new _ _
  have Hw4 := Lib.hid hw4
  rw [← hw4]
  have kw4 := hK0.trans jw4
  clear hw4 hHeld
  go_wp2_with fail
  refine wpB_begin 999 (Kp [] w3) (by kernel_rfl) (by exact kw4.drew) (fun hHeld => ?_)
  refine wpB_take 0 _ ?_ rfl (by kernel_rfl) (fun _ _ _ h => h) rfl hHeld ?_ ?_
  rotate_left
  · (intro W hW; go_simp; try with_reducible rfl)
  try simp only [Act.put, List.setIfInBounds_toArray, List.set_cons_zero, List.set_cons_succ]
  refine wpB_take 1 _ ?_ rfl (by kernel_rfl) (fun _ _ _ h => h) rfl hHeld ?_ ?_
  rotate_left
  · (intro W hW; go_simp; try with_reducible rfl)
  try simp only [Act.put, List.setIfInBounds_toArray, List.set_cons_zero, List.set_cons_succ]
  refine wpB_take 2 _ ?_ rfl (by kernel_rfl) (fun _ _ _ h => h) rfl hHeld ?_ ?_
  rotate_left
  · (intro W hW; go_simp; try with_reducible rfl)
  try simp only [Act.put, List.setIfInBounds_toArray, List.set_cons_zero, List.set_cons_succ]
  refine wpB_take 3 _ ?_ rfl (by kernel_rfl) (fun _ _ _ h => h) rfl hHeld ?_ ?_
  rotate_left
  · (intro W hW; go_simp; try with_reducible rfl)
  try simp only [Act.put, List.setIfInBounds_toArray, List.set_cons_zero, List.set_cons_succ]
  refine wpB_take 4 _ ?_ rfl (by kernel_rfl) (fun _ _ _ h => h) rfl hHeld ?_ ?_
  rotate_left
  · (intro W hW; go_simp; try with_reducible rfl)
  try simp only [Act.put, List.setIfInBounds_toArray, List.set_cons_zero, List.set_cons_succ]
  refine wpB_take 5 _ ?_ rfl (by kernel_rfl) (fun _ _ _ h => h) rfl hHeld ?_ ?_
  rotate_left
  · (intro W hW; go_simp; try with_reducible rfl)
  try simp only [Act.put, List.setIfInBounds_toArray, List.set_cons_zero, List.set_cons_succ]
  refine wpB_take 6 _ ?_ rfl (by kernel_rfl) (fun _ _ _ h => h) rfl hHeld ?_ ?_
  rotate_left
  · (intro W hW; go_simp; try with_reducible rfl)
  try simp only [Act.put, List.setIfInBounds_toArray, List.set_cons_zero, List.set_cons_succ]
  refine wpB_take 7 _ ?_ rfl (by kernel_rfl) (fun _ _ _ h => h) rfl hHeld ?_ ?_
  rotate_left
  · (intro W hW; go_simp; try with_reducible rfl)
  try simp only [Act.put, List.setIfInBounds_toArray, List.set_cons_zero, List.set_cons_succ]
  refine wpB_take 8 _ ?_ rfl (by kernel_rfl) (fun _ _ _ h => h) rfl hHeld ?_ ?_
  rotate_left
  · (intro W hW; go_simp; try with_reducible rfl)
  try simp only [Act.put, List.setIfInBounds_toArray, List.set_cons_zero, List.set_cons_succ]
  refine wpB_take 9 _ ?_ rfl (by kernel_rfl) (fun _ _ _ h => h) rfl hHeld ?_ ?_
  rotate_left
  · (intro W hW; go_simp; try with_reducible rfl)
  try simp only [Act.put, List.setIfInBounds_toArray, List.set_cons_zero, List.set_cons_succ]
  refine wpB_step 10 _ rfl (by kernel_rfl) rfl rfl (fun K hK_ => ?_)
  go_simp
  refine hK_.out _ _ (by first | exact hHeld | exact hHeld.call ‹_› | exact hHeld.alloc _) (fun hHeld => ?_)
  clear hK_ K
  try simp only [Act.put, List.setIfInBounds_toArray, List.set_cons_zero, List.set_cons_succ]
  refine wpB_step 11 _ rfl (by kernel_rfl) rfl rfl (fun K hK_ => ?_)
  go_simp
  refine hK_.out _ _ (by exact (kw4.alloc _).drew) (fun hHeld => ?_)
  clear hK_ K
  try simp only [Act.put, List.setIfInBounds_toArray, List.set_cons_zero, List.set_cons_succ]
  refine wpB_take 12 _ ?_ rfl (by kernel_rfl) (fun _ _ _ h => h) rfl hHeld ?_ ?_
  rotate_left
  · (intro W hW; go_simp; try with_reducible rfl)
  try simp only [Act.put, List.setIfInBounds_toArray, List.set_cons_zero, List.set_cons_succ]
  refine wpB_done (by kernel_rfl) ?_ _
  obtain ⟨w5, hw5⟩ : ∃ w5, w5 = (w4.alloc (.cells #[.int .i64 q0, .int .i64 q1, .int .i64 q2, .slice qa q3.length qc] 36)).drew := ⟨_, rfl⟩
  have jw5 : Kp [] w4 w5 := hw5 ▸ ((Kp.refl _ _).alloc _).drew
  have qw5 : w5.heap[w4.heap.size]? = some (.cells #[.int .i64 q0, .int .i64 q1, .int .i64 q2, .slice qa q3.length qc] 36 (0, 0)) := by rw [hw5]; exact block_new _ _
  have Hw5 := Lib.hid hw5
  rw [← hw5]
  have kw5 := kw4.trans jw5
  clear hw5 hHeld
  go_wp2_with fail
  refine wpB_begin 999 (Kp [] w3) (by kernel_rfl) (by exact kw5.drew) (fun hHeld => ?_)
  refine wpB_take 0 _ ?_ rfl (by kernel_rfl) (fun _ _ _ h => h) rfl hHeld ?_ ?_
  rotate_left
  · (intro W hW; go_simp; try with_reducible rfl)
  try simp only [Act.put, List.setIfInBounds_toArray, List.set_cons_zero, List.set_cons_succ]
  refine wpB_take 1 _ ?_ rfl (by kernel_rfl) (fun _ _ _ h => h) rfl hHeld ?_ ?_
  rotate_left
  · (intro W hW; go_simp; try with_reducible rfl)
  try simp only [Act.put, List.setIfInBounds_toArray, List.set_cons_zero, List.set_cons_succ]
  refine wpB_take 2 _ ?_ rfl (by kernel_rfl) (fun _ _ _ h => h) rfl hHeld ?_ ?_
  rotate_left
  · (intro W hW; go_simp; try with_reducible rfl)
  try simp only [Act.put, List.setIfInBounds_toArray, List.set_cons_zero, List.set_cons_succ]
  refine wpB_take 3 _ ?_ rfl (by kernel_rfl) (fun _ _ _ h => h) rfl hHeld ?_ ?_
  rotate_left
  · (intro W hW; go_simp; try with_reducible rfl)
  try simp only [Act.put, List.setIfInBounds_toArray, List.set_cons_zero, List.set_cons_succ]
  refine wpB_take 4 _ ?_ rfl (by kernel_rfl) (fun _ _ _ h => h) rfl hHeld ?_ ?_
  rotate_left
  · (intro W hW; go_simp; try with_reducible rfl)
  try simp only [Act.put, List.setIfInBounds_toArray, List.set_cons_zero, List.set_cons_succ]
  refine wpB_take 5 _ ?_ rfl (by kernel_rfl) (fun _ _ _ h => h) rfl hHeld ?_ ?_
  rotate_left
  · (intro W hW; go_simp; try with_reducible rfl)
  try simp only [Act.put, List.setIfInBounds_toArray, List.set_cons_zero, List.set_cons_succ]
  refine wpB_take 6 _ ?_ rfl (by kernel_rfl) (fun _ _ _ h => h) rfl hHeld ?_ ?_
  rotate_left
  · (intro W hW; go_simp; try with_reducible rfl)
  try simp only [Act.put, List.setIfInBounds_toArray, List.set_cons_zero, List.set_cons_succ]
  refine wpB_take 7 _ ?_ rfl (by kernel_rfl) (fun _ _ _ h => h) rfl hHeld ?_ ?_
  rotate_left
  · (intro W hW; go_simp; try with_reducible rfl)
  try simp only [Act.put, List.setIfInBounds_toArray, List.set_cons_zero, List.set_cons_succ]
  refine wpB_take 8 _ ?_ rfl (by kernel_rfl) (fun _ _ _ h => h) rfl hHeld ?_ ?_
  rotate_left
  · (intro W hW; go_simp; try with_reducible rfl)
  try simp only [Act.put, List.setIfInBounds_toArray, List.set_cons_zero, List.set_cons_succ]
  refine wpB_take 9 _ ?_ rfl (by kernel_rfl) (fun _ _ _ h => h) rfl hHeld ?_ ?_
  rotate_left
  · (intro W hW; go_simp; try with_reducible rfl)
  try simp only [Act.put, List.setIfInBounds_toArray, List.set_cons_zero, List.set_cons_succ]
  refine wpB_step 10 _ rfl (by kernel_rfl) rfl rfl (fun K hK_ => ?_)
  go_simp
  refine hK_.out _ _ (by first | exact hHeld | exact hHeld.call ‹_› | exact hHeld.alloc _) (fun hHeld => ?_)
  clear hK_ K
  try simp only [Act.put, List.setIfInBounds_toArray, List.set_cons_zero, List.set_cons_succ]
  refine wpB_step 11 _ rfl (by kernel_rfl) rfl rfl (fun K hK_ => ?_)
  go_simp
  refine hK_.out _ _ (by exact (kw5.alloc _).drew) (fun hHeld => ?_)
  clear hK_ K
  try simp only [Act.put, List.setIfInBounds_toArray, List.set_cons_zero, List.set_cons_succ]
  refine wpB_take 12 _ ?_ rfl (by kernel_rfl) (fun _ _ _ h => h) rfl hHeld ?_ ?_
  rotate_left
  · (intro W hW; go_simp; try with_reducible rfl)
  try simp only [Act.put, List.setIfInBounds_toArray, List.set_cons_zero, List.set_cons_succ]
  refine wpB_done (by kernel_rfl) ?_ _
  obtain ⟨w6, hw6⟩ : ∃ w6, w6 = (w5.alloc (.cells #[.int .i64 r0, .int .i64 r1, .int .i64 r2, .slice ra r3.length rc] 36)).drew := ⟨_, rfl⟩
  have jw6 : Kp [] w5 w6 := hw6 ▸ ((Kp.refl _ _).alloc _).drew
  have qw6 : w6.heap[w5.heap.size]? = some (.cells #[.int .i64 r0, .int .i64 r1, .int .i64 r2, .slice ra r3.length rc] 36 (0, 0)) := by rw [hw6]; exact block_new _ _
  have Hw6 := Lib.hid hw6
  rw [← hw6]
  have kw6 := kw5.trans jw6
  clear hw6 hHeld
  go_wp2_with fail
  refine wpB_begin 999 (Kp [] w3) (by kernel_rfl) (by exact kw6.drew) (fun hHeld => ?_)
  refine wpB_take 0 _ ?_ rfl (by kernel_rfl) (fun _ _ _ h => h) rfl hHeld ?_ ?_
  rotate_left
  · (intro W hW; go_simp; try with_reducible rfl)
  try simp only [Act.put, List.setIfInBounds_toArray, List.set_cons_zero, List.set_cons_succ]
  refine wpB_take 1 _ ?_ rfl (by kernel_rfl) (fun _ _ _ h => h) rfl hHeld ?_ ?_
  rotate_left
  · (intro W hW; go_simp; try with_reducible rfl)
  try simp only [Act.put, List.setIfInBounds_toArray, List.set_cons_zero, List.set_cons_succ]
  refine wpB_take 2 _ ?_ rfl (by kernel_rfl) (fun _ _ _ h => h) rfl hHeld ?_ ?_
  rotate_left
  · (intro W hW; go_simp; try with_reducible rfl)
  try simp only [Act.put, List.setIfInBounds_toArray, List.set_cons_zero, List.set_cons_succ]
  refine wpB_take 3 _ ?_ rfl (by kernel_rfl) (fun _ _ _ h => h) rfl hHeld ?_ ?_
  rotate_left
  · (intro W hW; go_simp; try with_reducible rfl)
  try simp only [Act.put, List.setIfInBounds_toArray, List.set_cons_zero, List.set_cons_succ]
  refine wpB_take 4 _ ?_ rfl (by kernel_rfl) (fun _ _ _ h => h) rfl hHeld ?_ ?_
  rotate_left
  · (intro W hW; go_simp; try with_reducible rfl)
  try simp only [Act.put, List.setIfInBounds_toArray, List.set_cons_zero, List.set_cons_succ]
  refine wpB_take 5 _ ?_ rfl (by kernel_rfl) (fun _ _ _ h => h) rfl hHeld ?_ ?_
  rotate_left
  · (intro W hW; go_simp; try with_reducible rfl)
  try simp only [Act.put, List.setIfInBounds_toArray, List.set_cons_zero, List.set_cons_succ]
  refine wpB_take 6 _ ?_ rfl (by kernel_rfl) (fun _ _ _ h => h) rfl hHeld ?_ ?_
  rotate_left
  · (intro W hW; go_simp; try with_reducible rfl)
  try simp only [Act.put, List.setIfInBounds_toArray, List.set_cons_zero, List.set_cons_succ]
  refine wpB_take 7 _ ?_ rfl (by kernel_rfl) (fun _ _ _ h => h) rfl hHeld ?_ ?_
  rotate_left
  · (intro W hW; go_simp; try with_reducible rfl)
  try simp only [Act.put, List.setIfInBounds_toArray, List.set_cons_zero, List.set_cons_succ]
  refine wpB_take 8 _ ?_ rfl (by kernel_rfl) (fun _ _ _ h => h) rfl hHeld ?_ ?_
  rotate_left
  · (intro W hW; go_simp; try with_reducible rfl)
  try simp only [Act.put, List.setIfInBounds_toArray, List.set_cons_zero, List.set_cons_succ]
  refine wpB_take 9 _ ?_ rfl (by kernel_rfl) (fun _ _ _ h => h) rfl hHeld ?_ ?_
  rotate_left
  · (intro W hW; go_simp; try with_reducible rfl)
  try simp only [Act.put, List.setIfInBounds_toArray, List.set_cons_zero, List.set_cons_succ]
  refine wpB_step 10 _ rfl (by kernel_rfl) rfl rfl (fun K hK_ => ?_)
  go_simp
  refine hK_.out _ _ (by first | exact hHeld | exact hHeld.call ‹_› | exact hHeld.alloc _) (fun hHeld => ?_)
  clear hK_ K
  try simp only [Act.put, List.setIfInBounds_toArray, List.set_cons_zero, List.set_cons_succ]
  refine wpB_step 11 _ rfl (by kernel_rfl) rfl rfl (fun K hK_ => ?_)
  go_simp
  refine hK_.out _ _ (by exact (kw6.alloc _).drew) (fun hHeld => ?_)
  clear hK_ K
  try simp only [Act.put, List.setIfInBounds_toArray, List.set_cons_zero, List.set_cons_succ]
  refine wpB_take 12 _ ?_ rfl (by kernel_rfl) (fun _ _ _ h => h) rfl hHeld ?_ ?_
  rotate_left
  · (intro W hW; go_simp; try with_reducible rfl)
  try simp only [Act.put, List.setIfInBounds_toArray, List.set_cons_zero, List.set_cons_succ]
  refine wpB_done (by kernel_rfl) ?_ _
  obtain ⟨w7, hw7⟩ : ∃ w7, w7 = (w6.alloc (.cells #[.string t0, .int .i64 t1, .int .i64 t2, .int .i64 t3, .string t4] 38)).drew := ⟨_, rfl⟩
  have jw7 : Kp [] w6 w7 := hw7 ▸ ((Kp.refl _ _).alloc _).drew
  have qw7 : w7.heap[w6.heap.size]? = some (.cells #[.string t0, .int .i64 t1, .int .i64 t2, .int .i64 t3, .string t4] 38 (0, 0)) := by rw [hw7]; exact block_new _ _
  have Hw7 := Lib.hid hw7
  rw [← hw7]
  have kw7 := kw6.trans jw7
  clear hw7 hHeld
  go_wp2_with fail
  have qA := (((jw5.trans jw6).trans jw7).block _ (lt_of_block qw4) (by simp)).trans qw4
  have qB := ((jw6.trans jw7).block _ (lt_of_block qw5) (by simp)).trans qw5
  have qC := (jw7.block _ (lt_of_block qw6) (by simp)).trans qw6
  obtain ⟨-, gA1, gA2, -⟩ := read4 qA
  obtain ⟨-, -, gB2, -⟩ := read4 qB
  obtain ⟨-, -, gC2, -⟩ := read4 qC
  have a1 := Kp.cellAt (X := []) gA1 (by simp)
  have a2 := Kp.cellAt (X := []) gA2 (by simp)
  have a3 := Kp.cellAt (X := []) gB2 (by simp)
  have a4 := Kp.cellAt (X := []) gC2 (by simp)
  replace e0 := Kp.cellAt (X := []) (e0 _ kw7) (by simp)
  replace e1 := Kp.cellAt (X := []) (e1 _ kw7) (by simp)
  replace e2 := Kp.cellAt (X := []) (e2 _ kw7) (by simp)
  replace m1 := Kp.cellAt (X := []) (m1 _ kw7) (by simp)
  replace m2 := Kp.cellAt (X := []) (m2 _ kw7) (by simp)
  replace m6 := Kp.cellAt (X := []) (m6 _ kw7) (by simp)
  replace o3 := Kp.cellAt (X := []) (o3 _ kw7) (by simp)
  have h7 := h3.keep0 kw7
  have lh : ∀ W, Kp [] w7 W → _ := fun W k => look_had (h7.keep0 k) hf hd2
  have kz := kw3.trans kw7
  have hKz := Kp.refl [] w7
  clear l0 l1 l2 l4 mb mc md o0 o2 qA qB qC gA1 gA2 gB2 gC2 jw4 jw5 jw6 jw7 qw4 qw5 qw6 qw7 kw4 kw5 kw6 kw7 hK0 h1 h3 kw3 hK3
  have hkn0 := fun W hW => iknown hf x6 (max_key b6) W (h7.keep0 (w' := W) hW)
  cases hkn : x.known x6 with
  | true =>
    refine wpB_begin 999 (Kp [] w7) (by kernel_rfl) (by exact hKz.drew) (fun hHeld => ?_)
    refine wpB_take 0 _ ?_ rfl (by kernel_rfl) (fun _ _ _ h => h) rfl hHeld ?_ ?_
    rotate_left
    · (intro W hW; go_simp; try with_reducible rfl)
    try simp only [Act.put, List.setIfInBounds_toArray, List.set_cons_zero, List.set_cons_succ]
    refine wpB_take 1 _ ?_ rfl (by kernel_rfl) (fun _ _ _ h => h) rfl hHeld ?_ ?_
    rotate_left
    · (intro W hW; go_simp; try with_reducible rfl)
    try simp only [Act.put, List.setIfInBounds_toArray, List.set_cons_zero, List.set_cons_succ]
    refine wpB_take 2 _ ?_ rfl (by kernel_rfl) (fun _ _ _ h => h) rfl hHeld ?_ ?_
    rotate_left
    · (intro W hW; go_simp; try with_reducible rfl)
    try simp only [Act.put, List.setIfInBounds_toArray, List.set_cons_zero, List.set_cons_succ]
    refine wpB_take 3 _ ?_ rfl (by kernel_rfl) (fun _ _ _ h => h) rfl hHeld ?_ ?_
    rotate_left
    · (intro W hW; go_simp; try with_reducible rfl)
    try simp only [Act.put, List.setIfInBounds_toArray, List.set_cons_zero, List.set_cons_succ]
    refine wpB_take 4 _ ?_ rfl (by kernel_rfl) (fun _ _ _ h => h) rfl hHeld ?_ ?_
    rotate_left
    · (intro W hW; go_simp; try with_reducible rfl)
    try simp only [Act.put, List.setIfInBounds_toArray, List.set_cons_zero, List.set_cons_succ]
    refine wpB_take 5 _ ?_ rfl (by kernel_rfl) (fun _ _ _ h => h) rfl hHeld ?_ ?_
    rotate_left
    · (intro W hW; go_simp; try with_reducible rfl)
    try simp only [Act.put, List.setIfInBounds_toArray, List.set_cons_zero, List.set_cons_succ]
    refine wpB_take 6 _ ?_ rfl (by kernel_rfl) (fun _ _ _ h => h) rfl hHeld ?_ ?_
    rotate_left
    · (intro W hW; go_simp; try with_reducible rfl)
    try simp only [Act.put, List.setIfInBounds_toArray, List.set_cons_zero, List.set_cons_succ]
    refine wpB_take 7 _ ?_ rfl (by kernel_rfl) (fun _ _ _ h => h) rfl hHeld ?_ ?_
    rotate_left
    · (intro W hW; go_simp; try with_reducible rfl)
    try simp only [Act.put, List.setIfInBounds_toArray, List.set_cons_zero, List.set_cons_succ]
    refine wpB_step 8 _ rfl (by kernel_rfl) rfl rfl (fun K hK_ => ?_)
    go_simp
    refine (hkn0 _ hHeld).mono ?_
    rintro e w8 ⟨rfl, k8⟩
    rw [hkn]
    refine hK_.out _ _ (by exact hHeld.trans k8) (fun hHeld => ?_)
    clear hK_ K
    try simp only [Act.put, List.setIfInBounds_toArray, List.set_cons_zero, List.set_cons_succ]
    refine wpB_take 9 _ ?_ rfl (by kernel_rfl) (fun _ _ _ h => h) rfl hHeld ?_ ?_
    rotate_left
    · (intro W hW; go_simp; try with_reducible rfl)
    try simp only [Act.put, List.setIfInBounds_toArray, List.set_cons_zero, List.set_cons_succ]
    refine wpB_skip 10 _ rfl (by kernel_rfl) (fun _ _ _ h => h) rfl hHeld ?_
    try simp only [Act.put, List.setIfInBounds_toArray, List.set_cons_zero, List.set_cons_succ]
    refine wpB_skip 11 _ rfl (by kernel_rfl) (fun _ _ _ h => h) rfl hHeld ?_
    try simp only [Act.put, List.setIfInBounds_toArray, List.set_cons_zero, List.set_cons_succ]
    refine wpB_skip 12 _ rfl (by kernel_rfl) (fun _ _ _ h => h) rfl hHeld ?_
    try simp only [Act.put, List.setIfInBounds_toArray, List.set_cons_zero, List.set_cons_succ]
    refine wpB_skip 13 _ rfl (by kernel_rfl) (fun _ _ _ h => h) rfl hHeld ?_
    try simp only [Act.put, List.setIfInBounds_toArray, List.set_cons_zero, List.set_cons_succ]
    refine wpB_skip 14 _ rfl (by kernel_rfl) (fun _ _ _ h => h) rfl hHeld ?_
    try simp only [Act.put, List.setIfInBounds_toArray, List.set_cons_zero, List.set_cons_succ]
    refine wpB_skip 15 _ rfl (by kernel_rfl) (fun _ _ _ h => h) rfl hHeld ?_
    try simp only [Act.put, List.setIfInBounds_toArray, List.set_cons_zero, List.set_cons_succ]
    refine wpB_skip 16 _ rfl (by kernel_rfl) (fun _ _ _ h => h) rfl hHeld ?_
    try simp only [Act.put, List.setIfInBounds_toArray, List.set_cons_zero, List.set_cons_succ]
    refine wpB_take 17 _ ?_ rfl (by kernel_rfl) (fun _ _ _ h => h) rfl hHeld ?_ ?_
    rotate_left
    · (intro W hW; go_simp; try with_reducible rfl)
    try simp only [Act.put, List.setIfInBounds_toArray, List.set_cons_zero, List.set_cons_succ]
    refine wpB_take 18 _ ?_ rfl (by kernel_rfl) (fun _ _ _ h => h) rfl hHeld ?_ ?_
    rotate_left
    · (intro W hW; go_simp; try with_reducible rfl)
    try simp only [Act.put, List.setIfInBounds_toArray, List.set_cons_zero, List.set_cons_succ]
    refine wpB_take 19 _ ?_ rfl (by kernel_rfl) (fun _ _ _ h => h) rfl hHeld ?_ ?_
    rotate_left
    · (intro W hW; go_simp; try with_reducible rfl)
    try simp only [Act.put, List.setIfInBounds_toArray, List.set_cons_zero, List.set_cons_succ]
    refine wpB_done (by kernel_rfl) ?_ _
    have hr : R = 13 := by rw [HR.out]; unfold Ix.may; rw [HCK.out]; simp [hkn]
    have HRZ := Lib.hid hr
    clear hr
    go_wp2_with fail
    go_ret
    exact ⟨by rw [HRZ.out]; rfl, kz.trans hHeld⟩
  | false =>
    cases hhd : has x.H x2 with
    | true =>
      rw [hhd] at lh
      refine wpB_begin 999 (Kp [] w7) (by kernel_rfl) (by exact hKz.drew) (fun hHeld => ?_)
      refine wpB_take 0 _ ?_ rfl (by kernel_rfl) (fun _ _ _ h => h) rfl hHeld ?_ ?_
      rotate_left
      · (intro W hW; go_simp; try with_reducible rfl)
      try simp only [Act.put, List.setIfInBounds_toArray, List.set_cons_zero, List.set_cons_succ]
      refine wpB_take 1 _ ?_ rfl (by kernel_rfl) (fun _ _ _ h => h) rfl hHeld ?_ ?_
      rotate_left
      · (intro W hW; go_simp; try with_reducible rfl)
      try simp only [Act.put, List.setIfInBounds_toArray, List.set_cons_zero, List.set_cons_succ]
      refine wpB_take 2 _ ?_ rfl (by kernel_rfl) (fun _ _ _ h => h) rfl hHeld ?_ ?_
      rotate_left
      · (intro W hW; go_simp; try with_reducible rfl)
      try simp only [Act.put, List.setIfInBounds_toArray, List.set_cons_zero, List.set_cons_succ]
      refine wpB_take 3 _ ?_ rfl (by kernel_rfl) (fun _ _ _ h => h) rfl hHeld ?_ ?_
      rotate_left
      · (intro W hW; go_simp; try with_reducible rfl)
      try simp only [Act.put, List.setIfInBounds_toArray, List.set_cons_zero, List.set_cons_succ]
      refine wpB_take 4 _ ?_ rfl (by kernel_rfl) (fun _ _ _ h => h) rfl hHeld ?_ ?_
      rotate_left
      · (intro W hW; go_simp; try with_reducible rfl)
      try simp only [Act.put, List.setIfInBounds_toArray, List.set_cons_zero, List.set_cons_succ]
      refine wpB_take 5 _ ?_ rfl (by kernel_rfl) (fun _ _ _ h => h) rfl hHeld ?_ ?_
      rotate_left
      · (intro W hW; go_simp; try with_reducible rfl)
      try simp only [Act.put, List.setIfInBounds_toArray, List.set_cons_zero, List.set_cons_succ]
      refine wpB_take 6 _ ?_ rfl (by kernel_rfl) (fun _ _ _ h => h) rfl hHeld ?_ ?_
      rotate_left
      · (intro W hW; go_simp; try with_reducible rfl)
      try simp only [Act.put, List.setIfInBounds_toArray, List.set_cons_zero, List.set_cons_succ]
      refine wpB_take 7 _ ?_ rfl (by kernel_rfl) (fun _ _ _ h => h) rfl hHeld ?_ ?_
      rotate_left
      · (intro W hW; go_simp; try with_reducible rfl)
      try simp only [Act.put, List.setIfInBounds_toArray, List.set_cons_zero, List.set_cons_succ]
      refine wpB_step 8 _ rfl (by kernel_rfl) rfl rfl (fun K hK_ => ?_)
      go_simp
      refine (hkn0 _ hHeld).mono ?_
      rintro e w8 ⟨rfl, k8⟩
      rw [hkn]
      refine hK_.out _ _ (by exact hHeld.trans k8) (fun hHeld => ?_)
      clear hK_ K
      try simp only [Act.put, List.setIfInBounds_toArray, List.set_cons_zero, List.set_cons_succ]
      refine wpB_take 9 _ ?_ rfl (by kernel_rfl) (fun _ _ _ h => h) rfl hHeld ?_ ?_
      rotate_left
      · (intro W hW; go_simp; try with_reducible rfl)
      try simp only [Act.put, List.setIfInBounds_toArray, List.set_cons_zero, List.set_cons_succ]
      refine wpB_take 10 _ ?_ rfl (by kernel_rfl) (fun _ _ _ h => h) rfl hHeld ?_ ?_
      rotate_left
      · (intro W hW; go_simp; try with_reducible rfl)
      try simp only [Act.put, List.setIfInBounds_toArray, List.set_cons_zero, List.set_cons_succ]
      refine wpB_take 11 _ ?_ rfl (by kernel_rfl) (fun _ _ _ h => h) rfl hHeld ?_ ?_
      rotate_left
      · (intro W hW; go_simp; try with_reducible rfl)
      try simp only [Act.put, List.setIfInBounds_toArray, List.set_cons_zero, List.set_cons_succ]
      refine wpB_take 12 _ ?_ rfl (by kernel_rfl) (fun _ _ _ h => h) rfl hHeld ?_ ?_
      rotate_left
      · (intro W hW; go_simp; try with_reducible rfl)
      try simp only [Act.put, List.setIfInBounds_toArray, List.set_cons_zero, List.set_cons_succ]
      refine wpB_take 13 _ ?_ rfl (by kernel_rfl) (fun _ _ _ h => h) rfl hHeld ?_ ?_
      rotate_left
      · (intro W hW; go_simp; try with_reducible rfl)
      try simp only [Act.put, List.setIfInBounds_toArray, List.set_cons_zero, List.set_cons_succ]
      refine wpB_take 14 _ ?_ rfl (by kernel_rfl) (fun _ _ _ h => h) rfl hHeld ?_ ?_
      rotate_left
      · (intro W hW; go_simp; try with_reducible rfl)
      try simp only [Act.put, List.setIfInBounds_toArray, List.set_cons_zero, List.set_cons_succ]
      refine wpB_take 15 _ ?_ rfl (by kernel_rfl) (fun _ _ _ h => h) rfl hHeld ?_ ?_
      rotate_left
      · (intro W hW; go_simp; try with_reducible rfl)
      try simp only [Act.put, List.setIfInBounds_toArray, List.set_cons_zero, List.set_cons_succ]
      refine wpB_take 16 _ ?_ rfl (by kernel_rfl) (fun _ _ _ h => h) rfl hHeld ?_ ?_
      rotate_left
      · (intro W hW; go_simp; try with_reducible rfl)
      try simp only [Act.put, List.setIfInBounds_toArray, List.set_cons_zero, List.set_cons_succ]
      refine wpB_take 17 _ ?_ rfl (by kernel_rfl) (fun _ _ _ h => h) rfl hHeld ?_ ?_
      rotate_left
      · (intro W hW; go_simp; try with_reducible rfl)
      try simp only [Act.put, List.setIfInBounds_toArray, List.set_cons_zero, List.set_cons_succ]
      refine wpB_take 18 _ ?_ rfl (by kernel_rfl) (fun _ _ _ h => h) rfl hHeld ?_ ?_
      rotate_left
      · (intro W hW; go_simp; try with_reducible rfl)
      try simp only [Act.put, List.setIfInBounds_toArray, List.set_cons_zero, List.set_cons_succ]
      refine wpB_take 19 _ ?_ rfl (by kernel_rfl) (fun _ _ _ h => h) rfl hHeld ?_ ?_
      rotate_left
      · (intro W hW; go_simp; try with_reducible rfl)
      try simp only [Act.put, List.setIfInBounds_toArray, List.set_cons_zero, List.set_cons_succ]
      refine wpB_done (by kernel_rfl) ?_ _
      have hr : R = 13 := by rw [HR.out]; unfold Ix.may; rw [HCK.out]; simp [hkn, hhd]
      have HRZ := Lib.hid hr
      clear hr
      go_wp2_with fail
      go_ret
      exact ⟨by rw [HRZ.out]; rfl, kz.trans hHeld⟩
    | false =>
      rw [hhd] at lh
      refine wpB_begin 999 (Kp [] w7) (by kernel_rfl) (by exact hKz.drew) (fun hHeld => ?_)
      refine wpB_take 0 _ ?_ rfl (by kernel_rfl) (fun _ _ _ h => h) rfl hHeld ?_ ?_
      rotate_left
      · (intro W hW; go_simp; try with_reducible rfl)
      try simp only [Act.put, List.setIfInBounds_toArray, List.set_cons_zero, List.set_cons_succ]
      refine wpB_take 1 _ ?_ rfl (by kernel_rfl) (fun _ _ _ h => h) rfl hHeld ?_ ?_
      rotate_left
      · (intro W hW; go_simp; try with_reducible rfl)
      try simp only [Act.put, List.setIfInBounds_toArray, List.set_cons_zero, List.set_cons_succ]
      refine wpB_take 2 _ ?_ rfl (by kernel_rfl) (fun _ _ _ h => h) rfl hHeld ?_ ?_
      rotate_left
      · (intro W hW; go_simp; try with_reducible rfl)
      try simp only [Act.put, List.setIfInBounds_toArray, List.set_cons_zero, List.set_cons_succ]
      refine wpB_take 3 _ ?_ rfl (by kernel_rfl) (fun _ _ _ h => h) rfl hHeld ?_ ?_
      rotate_left
      · (intro W hW; go_simp; try with_reducible rfl)
      try simp only [Act.put, List.setIfInBounds_toArray, List.set_cons_zero, List.set_cons_succ]
      refine wpB_take 4 _ ?_ rfl (by kernel_rfl) (fun _ _ _ h => h) rfl hHeld ?_ ?_
      rotate_left
      · (intro W hW; go_simp; try with_reducible rfl)
      try simp only [Act.put, List.setIfInBounds_toArray, List.set_cons_zero, List.set_cons_succ]
      refine wpB_take 5 _ ?_ rfl (by kernel_rfl) (fun _ _ _ h => h) rfl hHeld ?_ ?_
      rotate_left
      · (intro W hW; go_simp; try with_reducible rfl)
      try simp only [Act.put, List.setIfInBounds_toArray, List.set_cons_zero, List.set_cons_succ]
      refine wpB_take 6 _ ?_ rfl (by kernel_rfl) (fun _ _ _ h => h) rfl hHeld ?_ ?_
      rotate_left
      · (intro W hW; go_simp; try with_reducible rfl)
      try simp only [Act.put, List.setIfInBounds_toArray, List.set_cons_zero, List.set_cons_succ]
      refine wpB_take 7 _ ?_ rfl (by kernel_rfl) (fun _ _ _ h => h) rfl hHeld ?_ ?_
      rotate_left
      · (intro W hW; go_simp; try with_reducible rfl)
      try simp only [Act.put, List.setIfInBounds_toArray, List.set_cons_zero, List.set_cons_succ]
      refine wpB_step 8 _ rfl (by kernel_rfl) rfl rfl (fun K hK_ => ?_)
      go_simp
      refine (hkn0 _ hHeld).mono ?_
      rintro e w8 ⟨rfl, k8⟩
      rw [hkn]
      refine hK_.out _ _ (by exact hHeld.trans k8) (fun hHeld => ?_)
      clear hK_ K
      try simp only [Act.put, List.setIfInBounds_toArray, List.set_cons_zero, List.set_cons_succ]
      refine wpB_take 9 _ ?_ rfl (by kernel_rfl) (fun _ _ _ h => h) rfl hHeld ?_ ?_
      rotate_left
      · (intro W hW; go_simp; try with_reducible rfl)
      try simp only [Act.put, List.setIfInBounds_toArray, List.set_cons_zero, List.set_cons_succ]
      refine wpB_take 10 _ ?_ rfl (by kernel_rfl) (fun _ _ _ h => h) rfl hHeld ?_ ?_
      rotate_left
      · (intro W hW; go_simp; try with_reducible rfl)
      try simp only [Act.put, List.setIfInBounds_toArray, List.set_cons_zero, List.set_cons_succ]
      refine wpB_take 11 _ ?_ rfl (by kernel_rfl) (fun _ _ _ h => h) rfl hHeld ?_ ?_
      rotate_left
      · (intro W hW; go_simp; try with_reducible rfl)
      try simp only [Act.put, List.setIfInBounds_toArray, List.set_cons_zero, List.set_cons_succ]
      refine wpB_take 12 _ ?_ rfl (by kernel_rfl) (fun _ _ _ h => h) rfl hHeld ?_ ?_
      rotate_left
      · (intro W hW; go_simp; try with_reducible rfl)
      try simp only [Act.put, List.setIfInBounds_toArray, List.set_cons_zero, List.set_cons_succ]
      refine wpB_take 13 _ ?_ rfl (by kernel_rfl) (fun _ _ _ h => h) rfl hHeld ?_ ?_
      rotate_left
      · (intro W hW; go_simp; try with_reducible rfl)
      try simp only [Act.put, List.setIfInBounds_toArray, List.set_cons_zero, List.set_cons_succ]
      refine wpB_take 14 _ ?_ rfl (by kernel_rfl) (fun _ _ _ h => h) rfl hHeld ?_ ?_
      rotate_left
      · (intro W hW; go_simp; try with_reducible rfl)
      try simp only [Act.put, List.setIfInBounds_toArray, List.set_cons_zero, List.set_cons_succ]
      refine wpB_take 15 _ ?_ rfl (by kernel_rfl) (fun _ _ _ h => h) rfl hHeld ?_ ?_
      rotate_left
      · (intro W hW; go_simp; try with_reducible rfl)
      try simp only [Act.put, List.setIfInBounds_toArray, List.set_cons_zero, List.set_cons_succ]
      refine wpB_take 16 _ ?_ rfl (by kernel_rfl) (fun _ _ _ h => h) rfl hHeld ?_ ?_
      rotate_left
      · (intro W hW; go_simp; try with_reducible rfl)
      try simp only [Act.put, List.setIfInBounds_toArray, List.set_cons_zero, List.set_cons_succ]
      refine wpB_take 17 _ ?_ rfl (by kernel_rfl) (fun _ _ _ h => h) rfl hHeld ?_ ?_
      rotate_left
      · (intro W hW; go_simp; try with_reducible rfl)
      try simp only [Act.put, List.setIfInBounds_toArray, List.set_cons_zero, List.set_cons_succ]
      refine wpB_take 18 _ ?_ rfl (by kernel_rfl) (fun _ _ _ h => h) rfl hHeld ?_ ?_
      rotate_left
      · (intro W hW; go_simp; try with_reducible rfl)
      try simp only [Act.put, List.setIfInBounds_toArray, List.set_cons_zero, List.set_cons_succ]
      refine wpB_take 19 _ ?_ rfl (by kernel_rfl) (fun _ _ _ h => h) rfl hHeld ?_ ?_
      rotate_left
      · (intro W hW; go_simp; try with_reducible rfl)
      try simp only [Act.put, List.setIfInBounds_toArray, List.set_cons_zero, List.set_cons_succ]
      refine wpB_done (by kernel_rfl) ?_ _
      go_wp2_with fail
      refine wpB_begin 999 (Kp [] w7) (by kernel_rfl) (by exact hHeld.drew) (fun hHeld => ?_)
      refine wpB_take 0 _ ?_ rfl (by kernel_rfl) (fun _ _ _ h => h) rfl hHeld ?_ ?_
      rotate_left
      · (intro W hW; go_simp; try with_reducible rfl)
      try simp only [Act.put, List.setIfInBounds_toArray, List.set_cons_zero, List.set_cons_succ]
      refine wpB_take 1 _ ?_ rfl (by kernel_rfl) (fun _ _ _ h => h) rfl hHeld ?_ ?_
      rotate_left
      · (intro W hW; go_simp; try with_reducible rfl)
      try simp only [Act.put, List.setIfInBounds_toArray, List.set_cons_zero, List.set_cons_succ]
      refine wpB_take 2 _ ?_ rfl (by kernel_rfl) (fun _ _ _ h => h) rfl hHeld ?_ ?_
      rotate_left
      · (intro W hW; go_simp; try with_reducible rfl)
      try simp only [Act.put, List.setIfInBounds_toArray, List.set_cons_zero, List.set_cons_succ]
      refine wpB_take 3 _ ?_ rfl (by kernel_rfl) (fun _ _ _ h => h) rfl hHeld ?_ ?_
      rotate_left
      · (intro W hW; go_simp; try with_reducible rfl)
      try simp only [Act.put, List.setIfInBounds_toArray, List.set_cons_zero, List.set_cons_succ]
      refine wpB_skip 4 _ rfl (by kernel_rfl) (fun _ _ _ h => h) rfl hHeld ?_
      try simp only [Act.put, List.setIfInBounds_toArray, List.set_cons_zero, List.set_cons_succ]
      refine wpB_skip 5 _ rfl (by kernel_rfl) (fun _ _ _ h => h) rfl hHeld ?_
      try simp only [Act.put, List.setIfInBounds_toArray, List.set_cons_zero, List.set_cons_succ]
      refine wpB_skip 6 _ rfl (by kernel_rfl) (fun _ _ _ h => h) rfl hHeld ?_
      try simp only [Act.put, List.setIfInBounds_toArray, List.set_cons_zero, List.set_cons_succ]
      refine wpB_skip 7 _ rfl (by kernel_rfl) (fun _ _ _ h => h) rfl hHeld ?_
      try simp only [Act.put, List.setIfInBounds_toArray, List.set_cons_zero, List.set_cons_succ]
      refine wpB_skip 8 _ rfl (by kernel_rfl) (fun _ _ _ h => h) rfl hHeld ?_
      try simp only [Act.put, List.setIfInBounds_toArray, List.set_cons_zero, List.set_cons_succ]
      refine wpB_skip 9 _ rfl (by kernel_rfl) (fun _ _ _ h => h) rfl hHeld ?_
      try simp only [Act.put, List.setIfInBounds_toArray, List.set_cons_zero, List.set_cons_succ]
      refine wpB_skip 10 _ rfl (by kernel_rfl) (fun _ _ _ h => h) rfl hHeld ?_
      try simp only [Act.put, List.setIfInBounds_toArray, List.set_cons_zero, List.set_cons_succ]
      refine wpB_take 11 _ ?_ rfl (by kernel_rfl) (fun _ _ _ h => h) rfl hHeld ?_ ?_
      rotate_left
      · (intro W hW; go_simp; try with_reducible rfl)
      try simp only [Act.put, List.setIfInBounds_toArray, List.set_cons_zero, List.set_cons_succ]
      refine wpB_take 12 _ ?_ rfl (by kernel_rfl) (fun _ _ _ h => h) rfl hHeld ?_ ?_
      rotate_left
      · (intro W hW; go_simp; try with_reducible rfl)
      try simp only [Act.put, List.setIfInBounds_toArray, List.set_cons_zero, List.set_cons_succ]
      refine wpB_done (by kernel_rfl) ?_ _
      have hr : R = 0 := by rw [HR.out]; unfold Ix.may; rw [HCK.out]; simp [hkn, hhd]
      have HRZ := Lib.hid hr
      clear hr
      go_wp2_with fail
      go_ret
      exact ⟨by rw [HRZ.out]; rfl, kz.trans hHeld⟩
set_option maxHeartbeats 4000000 in
set_option maxRecDepth 20000 in
theorem imay1 {I : Ib} {x : Ix} (hf : Fit x) (x0 x2 x3 x4 x7 x8 x9 xc xd : Int) (lx : List (Int × Int)) (x6 xa xb : ByteArray) (la : Option Addr) (lc B : Nat) (w : World) (h : IxAt I w x) (hl : LocsAt B w (.slice la lx.length lc) lx) (hz : lx.length ≤ 1000) (h6 : x6.size < 16384) (hxb : xb.size < 16384) (hc : recCheck ⟨x0, 1, ⟨x2, x3, x4, lx⟩, ⟨x6, x7, x8, x9, xa⟩, xb, xc, xd⟩ = 0) :
    Calls Tryz.prog 8 #[I.p, .agg #[.int .i64 x0, .int .i64 1, .int .i64 x2, .int .i64 x3, .int .i64 x4, .slice la lx.length lc, .string x6, .int .i64 x7, .int .i64 x8, .int .i64 x9, .string xa, .string xb, .int .i64 xc, .int .i64 xd]] w fun e w' => e = .returned (.int .i64 (x.may ⟨x0, 1, ⟨x2, x3, x4, lx⟩, ⟨x6, x7, x8, x9, xa⟩, xb, xc, xd⟩)) ∧ Kp [] w w' := by
  obtain ⟨R, hR⟩ : ∃ R, R = x.may ⟨x0, 1, ⟨x2, x3, x4, lx⟩, ⟨x6, x7, x8, x9, xa⟩, xb, xc, xd⟩ := ⟨_, rfl⟩
  rw [← hR]
  have HR := Lib.hid hR
  clear hR
  obtain ⟨w1, hw1⟩ : ∃ w1, w1 = w.alloc (.cells #[.int .i64 x0, .int .i64 1, .int .i64 x2, .int .i64 x3, .int .i64 x4, .slice la lx.length lc, .string x6, .int .i64 x7, .int .i64 x8, .int .i64 x9, .string xa, .string xb, .int .i64 xc, .int .i64 xd] 43) := ⟨_, rfl⟩
  have k1 : Kp [] w w1 := hw1 ▸ (Kp.refl _ _).alloc _
  have b1 : w1.heap[w.heap.size]? = some (.cells #[.int .i64 x0, .int .i64 1, .int .i64 x2, .int .i64 x3, .int .i64 x4, .slice la lx.length lc, .string x6, .int .i64 x7, .int .i64 x8, .int .i64 x9, .string xa, .string xb, .int .i64 xc, .int .i64 xd] 43 (0, 0)) := by rw [hw1]; exact block_new _ _
  have hch := rcheck ⟨x0, 1, ⟨x2, x3, x4, lx⟩, ⟨x6, x7, x8, x9, xa⟩, xb, xc, xd⟩ (.slice la lx.length lc) B w1 (hl.keep0 k1) hz h6 hxb
  simp only [RecV] at hch
  rw [hc] at hch
  obtain ⟨b6, bb, bc, bd, b2⟩ := (check_zero hc).bounds
  simp only at b6 bb bc bd b2
  obtain ⟨f0, f1, f2, f3, f4, f5, f6, f7, f8, f9, fa, fb, fc, fd⟩ := read14 b1
  have c1 := Kp.cellAt (X := []) f1 (by simp)
  have c2 := Kp.cellAt (X := []) f2 (by simp)
  have c3 := Kp.cellAt (X := []) f3 (by simp)
  have c4 := Kp.cellAt (X := []) f4 (by simp)
  have c5 := Kp.cellAt (X := []) f5 (by simp)
  have c6 := Kp.cellAt (X := []) f6 (by simp)
  have cb := Kp.cellAt (X := []) fb (by simp)
  have cc := Kp.cellAt (X := []) fc (by simp)
  have cd := Kp.cellAt (X := []) fd (by simp)
  have hK := Kp.refl [] w1
  have Hw1 := Lib.hid hw1
  have HCK := Lib.hid hc
  have h1 := h.keep0 k1
  clear hw1 b1 hc
  go_enter Tryz.func8, Tryz.ntmps8
  go_wp2_with fail
  rw [← Hw1.out]
  refine hch.mono ?_
  rintro e w2 ⟨rfl, k2⟩
  have hK := hK.trans k2
  clear hch
  go_wp2_with fail
  obtain ⟨w3, hw3⟩ : ∃ w3, w3 = w2.alloc (.cells #[.int .i64 x2, .int .i64 x3, .int .i64 x4, .slice la lx.length lc] 36) := ⟨_, rfl⟩
  have k3 : Kp [] w2 w3 := hw3 ▸ (Kp.refl _ _).alloc _
  have b3 : w3.heap[w2.heap.size]? = some (.cells #[.int .i64 x2, .int .i64 x3, .int .i64 x4, .slice la lx.length lc] 36 (0, 0)) := by rw [hw3]; exact block_new _ _
  have hK3 := hK.trans k3
  have kw3 := k1.trans hK3
  have h3 := h1.keep0 hK3
  obtain ⟨g0, g1, g2, -⟩ := read4 b3
  have e0 := Kp.cellAt (X := []) g0 (by simp)
  have e1 := Kp.cellAt (X := []) g1 (by simp)
  have e2 := Kp.cellAt (X := []) g2 (by simp)
  have m1 := Kp.cellAt (X := []) (c1 _ hK3) (by simp)
  have m2 := Kp.cellAt (X := []) (c2 _ hK3) (by simp)
  have m6 := Kp.cellAt (X := []) (c6 _ hK3) (by simp)
  have mb := Kp.cellAt (X := []) (cb _ hK3) (by simp)
  have mc := Kp.cellAt (X := []) (cc _ hK3) (by simp)
  have md := Kp.cellAt (X := []) (cd _ hK3) (by simp)
  obtain ⟨n0, n1, n2, n3, n4⟩ := h3.cells
  have o0 := Kp.cellAt (X := []) n0 (by simp)
  have o2 := Kp.cellAt (X := []) n2 (by simp)
  have o3 := Kp.cellAt (X := []) n3 (by simp)
  have hd2 : (Lit.int .i64 x2).wf = true := wf_i64 (by omega) (by omega)
  obtain ⟨lv0, hlv0, l0⟩ := look_vol_at h3 hf hd2
  obtain ⟨lv1, hlv1, l1⟩ := look_vol_at h3 hf (d := xc) (wf_i64 (by omega) (by omega))
  obtain ⟨lv2, hlv2, l2⟩ := look_vol_at h3 hf (d := xd) (wf_i64 (by omega) (by omega))
  have l4 : ∀ W, Kp [] w3 W → _ := fun W k => look_ent (h3.keep0 k) hf (max_key bb)
  have zc := vol_len_any hf xc
  have zd := vol_len_any hf xd
  obtain ⟨⟨p0, p1, p2, p3⟩, hp⟩ : ∃ q, q = (x.vol x2).1 := ⟨_, rfl⟩
  obtain ⟨⟨q0, q1, q2, q3⟩, hq⟩ : ∃ q, q = (x.vol xc).1 := ⟨_, rfl⟩
  obtain ⟨⟨r0, r1, r2, r3⟩, hr⟩ : ∃ q, q = (x.vol xd).1 := ⟨_, rfl⟩
  obtain ⟨⟨t0, t1, t2, t3, t4⟩, ht⟩ : ∃ q, q = (x.get xb).1 := ⟨_, rfl⟩
  rw [← hp] at l0 hlv0
  rw [← hq] at l1 hlv1 zc
  rw [← hr] at l2 hlv2 zd
  rw [← ht] at l4
  simp only at zc zd
  obtain ⟨pa, pc, rfl⟩ := slice_ex hlv0.at
  obtain ⟨qa, qc, rfl⟩ := slice_ex hlv1.at
  obtain ⟨ra, rc, rfl⟩ := slice_ex hlv2.at
  simp only [VolVA] at l0 l1 l2
  simp only [EntVA] at l4
  obtain ⟨s0, hs0⟩ : ∃ b, b = (aGet x2 x.V).isSome := ⟨_, rfl⟩
  obtain ⟨s1, hs1⟩ : ∃ b, b = (aGet xc x.V).isSome := ⟨_, rfl⟩
  obtain ⟨s2, hs2⟩ : ∃ b, b = (aGet xd x.V).isSome := ⟨_, rfl⟩
  obtain ⟨s4, hs4⟩ : ∃ b, b = (aGet xb x.E).isSome := ⟨_, rfl⟩
  rw [← hs0] at l0
  rw [← hs1] at l1
  rw [← hs2] at l2
  rw [← hs4] at l4
  have HP := Lib.hid hp
  have HQ := Lib.hid hq
  have HRR := Lib.hid hr
  have HS0 := Lib.hid hs0
  have HS1 := Lib.hid hs1
  have HS2 := Lib.hid hs2
  have HS4 := Lib.hid hs4
  have Hw3 := Lib.hid hw3
  have hK0 := Kp.refl [] w3
  clear hw3 hp hq hr ht hs0 hs1 hs2 hs4 f0 f1 f2 f3 f4 f5 f6 f7 f8 f9 fa fb fc fd c1 c2 c3 c4 c5 c6 cb cc cd b3 g0 g1 g2 n0 n1 n2 n3 n4 hlv0 hlv1 hlv2 hK
  rw [← Hw3.out]
  refine wpB_begin 999 (Kp [] w3) (by kernel_rfl) (by exact hK0.drew) (fun hHeld => ?_)
  refine wpB_take 0 _ ?_ rfl (by kernel_rfl) (fun _ _ _ h => h) rfl hHeld ?_ ?_
  rotate_left
  · (intro W hW; go_simp; try with_reducible rfl)
  try simp only [Act.put, List.setIfInBounds_toArray, List.set_cons_zero, List.set_cons_succ]
  refine wpB_take 1 _ ?_ rfl (by kernel_rfl) (fun _ _ _ h => h) rfl hHeld ?_ ?_
  rotate_left
  · (intro W hW; go_simp; try with_reducible rfl)
  try simp only [Act.put, List.setIfInBounds_toArray, List.set_cons_zero, List.set_cons_succ]
  refine wpB_take 2 _ ?_ rfl (by kernel_rfl) (fun _ _ _ h => h) rfl hHeld ?_ ?_
  rotate_left
  · (intro W hW; go_simp; try with_reducible rfl)
  try simp only [Act.put, List.setIfInBounds_toArray, List.set_cons_zero, List.set_cons_succ]
  refine wpB_take 3 _ ?_ rfl (by kernel_rfl) (fun _ _ _ h => h) rfl hHeld ?_ ?_
  rotate_left
  · (intro W hW; go_simp; try with_reducible rfl)
  try simp only [Act.put, List.setIfInBounds_toArray, List.set_cons_zero, List.set_cons_succ]
  refine wpB_take 4 _ ?_ rfl (by kernel_rfl) (fun _ _ _ h => h) rfl hHeld ?_ ?_
  rotate_left
  · (intro W hW; go_simp; try with_reducible rfl)
  try simp only [Act.put, List.setIfInBounds_toArray, List.set_cons_zero, List.set_cons_succ]
  refine wpB_take 5 _ ?_ rfl (by kernel_rfl) (fun _ _ _ h => h) rfl hHeld ?_ ?_
  rotate_left
  · (intro W hW; go_simp; try with_reducible rfl)
  try simp only [Act.put, List.setIfInBounds_toArray, List.set_cons_zero, List.set_cons_succ]
  refine wpB_take 6 _ ?_ rfl (by kernel_rfl) (fun _ _ _ h => h) rfl hHeld ?_ ?_
  rotate_left
  · (intro W hW; go_simp; try with_reducible rfl)
  try simp only [Act.put, List.setIfInBounds_toArray, List.set_cons_zero, List.set_cons_succ]
  refine wpB_take 7 _ ?_ rfl (by kernel_rfl) (fun _ _ _ h => h) rfl hHeld ?_ ?_
  rotate_left
  · (intro W hW; go_simp; try with_reducible rfl)
  try simp only [Act.put, List.setIfInBounds_toArray, List.set_cons_zero, List.set_cons_succ]
  refine wpB_take 8 _ ?_ rfl (by kernel_rfl) (fun _ _ _ h => h) rfl hHeld ?_ ?_
  rotate_left
  · (intro W hW; go_simp; try with_reducible rfl)
  try simp only [Act.put, List.setIfInBounds_toArray, List.set_cons_zero, List.set_cons_succ]
  refine wpB_take 9 _ ?_ rfl (by kernel_rfl) (fun _ _ _ h => h) rfl hHeld ?_ ?_
  rotate_left
  · (intro W hW; go_simp; try with_reducible rfl)
  try simp only [Act.put, List.setIfInBounds_toArray, List.set_cons_zero, List.set_cons_succ]
  refine wpB_step 10 _ rfl (by kernel_rfl) rfl rfl (fun K hK_ => ?_)
  go_simp
  refine hK_.out _ _ (by first | exact hHeld | exact hHeld.call ‹_› | exact hHeld.alloc _) (fun hHeld => ?_)
  clear hK_ K
  try simp only [Act.put, List.setIfInBounds_toArray, List.set_cons_zero, List.set_cons_succ]
  refine wpB_step 11 _ rfl (by kernel_rfl) rfl rfl (fun K hK_ => ?_)
  go_simp
  refine hK_.out _ _ (by exact (hK0.alloc _).drew) (fun hHeld => ?_)
  clear hK_ K
  try simp only [Act.put, List.setIfInBounds_toArray, List.set_cons_zero, List.set_cons_succ]
  refine wpB_take 12 _ ?_ rfl (by kernel_rfl) (fun _ _ _ h => h) rfl hHeld ?_ ?_
  rotate_left
  · (intro W hW; go_simp; try with_reducible rfl)
  try simp only [Act.put, List.setIfInBounds_toArray, List.set_cons_zero, List.set_cons_succ]
  refine wpB_done (by kernel_rfl) ?_ _
  obtain ⟨w4, hw4⟩ : ∃ w4, w4 = (w3.alloc (.cells #[.int .i64 p0, .int .i64 p1, .int .i64 p2, .slice pa p3.length pc] 36)).drew := ⟨_, rfl⟩
  have jw4 : Kp [] w3 w4 := hw4 ▸ ((Kp.refl _ _).alloc _).drew
  have qw4 : w4.heap[w3.heap.size]? = some (.cells #[.int .i64 p0, .int .i64 p1, .int .i64 p2, .slice pa p3.length pc] 36 (0, 0)) := by rw [hw4]; exact block_new _ _
  have Hw4 := Lib.hid hw4
  rw [← hw4]
  have kw4 := hK0.trans jw4
  clear hw4 hHeld
  go_wp2_with fail
  refine wpB_begin 999 (Kp [] w3) (by kernel_rfl) (by exact kw4.drew) (fun hHeld => ?_)
  refine wpB_take 0 _ ?_ rfl (by kernel_rfl) (fun _ _ _ h => h) rfl hHeld ?_ ?_
  rotate_left
  · (intro W hW; go_simp; try with_reducible rfl)
  try simp only [Act.put, List.setIfInBounds_toArray, List.set_cons_zero, List.set_cons_succ]
  refine wpB_take 1 _ ?_ rfl (by kernel_rfl) (fun _ _ _ h => h) rfl hHeld ?_ ?_
  rotate_left
  · (intro W hW; go_simp; try with_reducible rfl)
  try simp only [Act.put, List.setIfInBounds_toArray, List.set_cons_zero, List.set_cons_succ]
  refine wpB_take 2 _ ?_ rfl (by kernel_rfl) (fun _ _ _ h => h) rfl hHeld ?_ ?_
  rotate_left
  · (intro W hW; go_simp; try with_reducible rfl)
  try simp only [Act.put, List.setIfInBounds_toArray, List.set_cons_zero, List.set_cons_succ]
  refine wpB_take 3 _ ?_ rfl (by kernel_rfl) (fun _ _ _ h => h) rfl hHeld ?_ ?_
  rotate_left
  · (intro W hW; go_simp; try with_reducible rfl)
  try simp only [Act.put, List.setIfInBounds_toArray, List.set_cons_zero, List.set_cons_succ]
  refine wpB_take 4 _ ?_ rfl (by kernel_rfl) (fun _ _ _ h => h) rfl hHeld ?_ ?_
  rotate_left
  · (intro W hW; go_simp; try with_reducible rfl)
  try simp only [Act.put, List.setIfInBounds_toArray, List.set_cons_zero, List.set_cons_succ]
  refine wpB_take 5 _ ?_ rfl (by kernel_rfl) (fun _ _ _ h => h) rfl hHeld ?_ ?_
  rotate_left
  · (intro W hW; go_simp; try with_reducible rfl)
  try simp only [Act.put, List.setIfInBounds_toArray, List.set_cons_zero, List.set_cons_succ]
  refine wpB_take 6 _ ?_ rfl (by kernel_rfl) (fun _ _ _ h => h) rfl hHeld ?_ ?_
  rotate_left
  · (intro W hW; go_simp; try with_reducible rfl)
  try simp only [Act.put, List.setIfInBounds_toArray, List.set_cons_zero, List.set_cons_succ]
  refine wpB_take 7 _ ?_ rfl (by kernel_rfl) (fun _ _ _ h => h) rfl hHeld ?_ ?_
  rotate_left
  · (intro W hW; go_simp; try with_reducible rfl)
  try simp only [Act.put, List.setIfInBounds_toArray, List.set_cons_zero, List.set_cons_succ]
  refine wpB_take 8 _ ?_ rfl (by kernel_rfl) (fun _ _ _ h => h) rfl hHeld ?_ ?_
  rotate_left
  · (intro W hW; go_simp; try with_reducible rfl)
  try simp only [Act.put, List.setIfInBounds_toArray, List.set_cons_zero, List.set_cons_succ]
  refine wpB_take 9 _ ?_ rfl (by kernel_rfl) (fun _ _ _ h => h) rfl hHeld ?_ ?_
  rotate_left
  · (intro W hW; go_simp; try with_reducible rfl)
  try simp only [Act.put, List.setIfInBounds_toArray, List.set_cons_zero, List.set_cons_succ]
  refine wpB_step 10 _ rfl (by kernel_rfl) rfl rfl (fun K hK_ => ?_)
  go_simp
  refine hK_.out _ _ (by first | exact hHeld | exact hHeld.call ‹_› | exact hHeld.alloc _) (fun hHeld => ?_)
  clear hK_ K
  try simp only [Act.put, List.setIfInBounds_toArray, List.set_cons_zero, List.set_cons_succ]
  refine wpB_step 11 _ rfl (by kernel_rfl) rfl rfl (fun K hK_ => ?_)
  go_simp
  refine hK_.out _ _ (by exact (kw4.alloc _).drew) (fun hHeld => ?_)
  clear hK_ K
  try simp only [Act.put, List.setIfInBounds_toArray, List.set_cons_zero, List.set_cons_succ]
  refine wpB_take 12 _ ?_ rfl (by kernel_rfl) (fun _ _ _ h => h) rfl hHeld ?_ ?_
  rotate_left
  · (intro W hW; go_simp; try with_reducible rfl)
  try simp only [Act.put, List.setIfInBounds_toArray, List.set_cons_zero, List.set_cons_succ]
  refine wpB_done (by kernel_rfl) ?_ _
  obtain ⟨w5, hw5⟩ : ∃ w5, w5 = (w4.alloc (.cells #[.int .i64 q0, .int .i64 q1, .int .i64 q2, .slice qa q3.length qc] 36)).drew := ⟨_, rfl⟩
  have jw5 : Kp [] w4 w5 := hw5 ▸ ((Kp.refl _ _).alloc _).drew
  have qw5 : w5.heap[w4.heap.size]? = some (.cells #[.int .i64 q0, .int .i64 q1, .int .i64 q2, .slice qa q3.length qc] 36 (0, 0)) := by rw [hw5]; exact block_new _ _
  have Hw5 := Lib.hid hw5
  rw [← hw5]
  have kw5 := kw4.trans jw5
  clear hw5 hHeld
  go_wp2_with fail
  refine wpB_begin 999 (Kp [] w3) (by kernel_rfl) (by exact kw5.drew) (fun hHeld => ?_)
  refine wpB_take 0 _ ?_ rfl (by kernel_rfl) (fun _ _ _ h => h) rfl hHeld ?_ ?_
  rotate_left
  · (intro W hW; go_simp; try with_reducible rfl)
  try simp only [Act.put, List.setIfInBounds_toArray, List.set_cons_zero, List.set_cons_succ]
  refine wpB_take 1 _ ?_ rfl (by kernel_rfl) (fun _ _ _ h => h) rfl hHeld ?_ ?_
  rotate_left
  · (intro W hW; go_simp; try with_reducible rfl)
  try simp only [Act.put, List.setIfInBounds_toArray, List.set_cons_zero, List.set_cons_succ]
  refine wpB_take 2 _ ?_ rfl (by kernel_rfl) (fun _ _ _ h => h) rfl hHeld ?_ ?_
  rotate_left
  · (intro W hW; go_simp; try with_reducible rfl)
  try simp only [Act.put, List.setIfInBounds_toArray, List.set_cons_zero, List.set_cons_succ]
  refine wpB_take 3 _ ?_ rfl (by kernel_rfl) (fun _ _ _ h => h) rfl hHeld ?_ ?_
  rotate_left
  · (intro W hW; go_simp; try with_reducible rfl)
  try simp only [Act.put, List.setIfInBounds_toArray, List.set_cons_zero, List.set_cons_succ]
  refine wpB_take 4 _ ?_ rfl (by kernel_rfl) (fun _ _ _ h => h) rfl hHeld ?_ ?_
  rotate_left
  · (intro W hW; go_simp; try with_reducible rfl)
  try simp only [Act.put, List.setIfInBounds_toArray, List.set_cons_zero, List.set_cons_succ]
  refine wpB_take 5 _ ?_ rfl (by kernel_rfl) (fun _ _ _ h => h) rfl hHeld ?_ ?_
  rotate_left
  · (intro W hW; go_simp; try with_reducible rfl)
  try simp only [Act.put, List.setIfInBounds_toArray, List.set_cons_zero, List.set_cons_succ]
  refine wpB_take 6 _ ?_ rfl (by kernel_rfl) (fun _ _ _ h => h) rfl hHeld ?_ ?_
  rotate_left
  · (intro W hW; go_simp; try with_reducible rfl)
  try simp only [Act.put, List.setIfInBounds_toArray, List.set_cons_zero, List.set_cons_succ]
  refine wpB_take 7 _ ?_ rfl (by kernel_rfl) (fun _ _ _ h => h) rfl hHeld ?_ ?_
  rotate_left
  · (intro W hW; go_simp; try with_reducible rfl)
  try simp only [Act.put, List.setIfInBounds_toArray, List.set_cons_zero, List.set_cons_succ]
  refine wpB_take 8 _ ?_ rfl (by kernel_rfl) (fun _ _ _ h => h) rfl hHeld ?_ ?_
  rotate_left
  · (intro W hW; go_simp; try with_reducible rfl)
  try simp only [Act.put, List.setIfInBounds_toArray, List.set_cons_zero, List.set_cons_succ]
  refine wpB_take 9 _ ?_ rfl (by kernel_rfl) (fun _ _ _ h => h) rfl hHeld ?_ ?_
  rotate_left
  · (intro W hW; go_simp; try with_reducible rfl)
  try simp only [Act.put, List.setIfInBounds_toArray, List.set_cons_zero, List.set_cons_succ]
  refine wpB_step 10 _ rfl (by kernel_rfl) rfl rfl (fun K hK_ => ?_)
  go_simp
  refine hK_.out _ _ (by first | exact hHeld | exact hHeld.call ‹_› | exact hHeld.alloc _) (fun hHeld => ?_)
  clear hK_ K
  try simp only [Act.put, List.setIfInBounds_toArray, List.set_cons_zero, List.set_cons_succ]
  refine wpB_step 11 _ rfl (by kernel_rfl) rfl rfl (fun K hK_ => ?_)
  go_simp
  refine hK_.out _ _ (by exact (kw5.alloc _).drew) (fun hHeld => ?_)
  clear hK_ K
  try simp only [Act.put, List.setIfInBounds_toArray, List.set_cons_zero, List.set_cons_succ]
  refine wpB_take 12 _ ?_ rfl (by kernel_rfl) (fun _ _ _ h => h) rfl hHeld ?_ ?_
  rotate_left
  · (intro W hW; go_simp; try with_reducible rfl)
  try simp only [Act.put, List.setIfInBounds_toArray, List.set_cons_zero, List.set_cons_succ]
  refine wpB_done (by kernel_rfl) ?_ _
  obtain ⟨w6, hw6⟩ : ∃ w6, w6 = (w5.alloc (.cells #[.int .i64 r0, .int .i64 r1, .int .i64 r2, .slice ra r3.length rc] 36)).drew := ⟨_, rfl⟩
  have jw6 : Kp [] w5 w6 := hw6 ▸ ((Kp.refl _ _).alloc _).drew
  have qw6 : w6.heap[w5.heap.size]? = some (.cells #[.int .i64 r0, .int .i64 r1, .int .i64 r2, .slice ra r3.length rc] 36 (0, 0)) := by rw [hw6]; exact block_new _ _
  have Hw6 := Lib.hid hw6
  rw [← hw6]
  have kw6 := kw5.trans jw6
  clear hw6 hHeld
  go_wp2_with fail
  refine wpB_begin 999 (Kp [] w3) (by kernel_rfl) (by exact kw6.drew) (fun hHeld => ?_)
  refine wpB_take 0 _ ?_ rfl (by kernel_rfl) (fun _ _ _ h => h) rfl hHeld ?_ ?_
  rotate_left
  · (intro W hW; go_simp; try with_reducible rfl)
  try simp only [Act.put, List.setIfInBounds_toArray, List.set_cons_zero, List.set_cons_succ]
  refine wpB_take 1 _ ?_ rfl (by kernel_rfl) (fun _ _ _ h => h) rfl hHeld ?_ ?_
  rotate_left
  · (intro W hW; go_simp; try with_reducible rfl)
  try simp only [Act.put, List.setIfInBounds_toArray, List.set_cons_zero, List.set_cons_succ]
  refine wpB_take 2 _ ?_ rfl (by kernel_rfl) (fun _ _ _ h => h) rfl hHeld ?_ ?_
  rotate_left
  · (intro W hW; go_simp; try with_reducible rfl)
  try simp only [Act.put, List.setIfInBounds_toArray, List.set_cons_zero, List.set_cons_succ]
  refine wpB_take 3 _ ?_ rfl (by kernel_rfl) (fun _ _ _ h => h) rfl hHeld ?_ ?_
  rotate_left
  · (intro W hW; go_simp; try with_reducible rfl)
  try simp only [Act.put, List.setIfInBounds_toArray, List.set_cons_zero, List.set_cons_succ]
  refine wpB_take 4 _ ?_ rfl (by kernel_rfl) (fun _ _ _ h => h) rfl hHeld ?_ ?_
  rotate_left
  · (intro W hW; go_simp; try with_reducible rfl)
  try simp only [Act.put, List.setIfInBounds_toArray, List.set_cons_zero, List.set_cons_succ]
  refine wpB_take 5 _ ?_ rfl (by kernel_rfl) (fun _ _ _ h => h) rfl hHeld ?_ ?_
  rotate_left
  · (intro W hW; go_simp; try with_reducible rfl)
  try simp only [Act.put, List.setIfInBounds_toArray, List.set_cons_zero, List.set_cons_succ]
  refine wpB_take 6 _ ?_ rfl (by kernel_rfl) (fun _ _ _ h => h) rfl hHeld ?_ ?_
  rotate_left
  · (intro W hW; go_simp; try with_reducible rfl)
  try simp only [Act.put, List.setIfInBounds_toArray, List.set_cons_zero, List.set_cons_succ]
  refine wpB_take 7 _ ?_ rfl (by kernel_rfl) (fun _ _ _ h => h) rfl hHeld ?_ ?_
  rotate_left
  · (intro W hW; go_simp; try with_reducible rfl)
  try simp only [Act.put, List.setIfInBounds_toArray, List.set_cons_zero, List.set_cons_succ]
  refine wpB_take 8 _ ?_ rfl (by kernel_rfl) (fun _ _ _ h => h) rfl hHeld ?_ ?_
  rotate_left
  · (intro W hW; go_simp; try with_reducible rfl)
  try simp only [Act.put, List.setIfInBounds_toArray, List.set_cons_zero, List.set_cons_succ]
  refine wpB_take 9 _ ?_ rfl (by kernel_rfl) (fun _ _ _ h => h) rfl hHeld ?_ ?_
  rotate_left
  · (intro W hW; go_simp; try with_reducible rfl)
  try simp only [Act.put, List.setIfInBounds_toArray, List.set_cons_zero, List.set_cons_succ]
  refine wpB_step 10 _ rfl (by kernel_rfl) rfl rfl (fun K hK_ => ?_)
  go_simp
  refine hK_.out _ _ (by first | exact hHeld | exact hHeld.call ‹_› | exact hHeld.alloc _) (fun hHeld => ?_)
  clear hK_ K
  try simp only [Act.put, List.setIfInBounds_toArray, List.set_cons_zero, List.set_cons_succ]
  refine wpB_step 11 _ rfl (by kernel_rfl) rfl rfl (fun K hK_ => ?_)
  go_simp
  refine hK_.out _ _ (by exact (kw6.alloc _).drew) (fun hHeld => ?_)
  clear hK_ K
  try simp only [Act.put, List.setIfInBounds_toArray, List.set_cons_zero, List.set_cons_succ]
  refine wpB_take 12 _ ?_ rfl (by kernel_rfl) (fun _ _ _ h => h) rfl hHeld ?_ ?_
  rotate_left
  · (intro W hW; go_simp; try with_reducible rfl)
  try simp only [Act.put, List.setIfInBounds_toArray, List.set_cons_zero, List.set_cons_succ]
  refine wpB_done (by kernel_rfl) ?_ _
  obtain ⟨w7, hw7⟩ : ∃ w7, w7 = (w6.alloc (.cells #[.string t0, .int .i64 t1, .int .i64 t2, .int .i64 t3, .string t4] 38)).drew := ⟨_, rfl⟩
  have jw7 : Kp [] w6 w7 := hw7 ▸ ((Kp.refl _ _).alloc _).drew
  have qw7 : w7.heap[w6.heap.size]? = some (.cells #[.string t0, .int .i64 t1, .int .i64 t2, .int .i64 t3, .string t4] 38 (0, 0)) := by rw [hw7]; exact block_new _ _
  have Hw7 := Lib.hid hw7
  rw [← hw7]
  have kw7 := kw6.trans jw7
  clear hw7 hHeld
  go_wp2_with fail
  have qA := (((jw5.trans jw6).trans jw7).block _ (lt_of_block qw4) (by simp)).trans qw4
  have qB := ((jw6.trans jw7).block _ (lt_of_block qw5) (by simp)).trans qw5
  have qC := (jw7.block _ (lt_of_block qw6) (by simp)).trans qw6
  obtain ⟨-, gA1, gA2, -⟩ := read4 qA
  obtain ⟨-, -, gB2, -⟩ := read4 qB
  obtain ⟨-, -, gC2, -⟩ := read4 qC
  have a1 := Kp.cellAt (X := []) gA1 (by simp)
  have a2 := Kp.cellAt (X := []) gA2 (by simp)
  have a3 := Kp.cellAt (X := []) gB2 (by simp)
  have a4 := Kp.cellAt (X := []) gC2 (by simp)
  replace e0 := Kp.cellAt (X := []) (e0 _ kw7) (by simp)
  replace e1 := Kp.cellAt (X := []) (e1 _ kw7) (by simp)
  replace e2 := Kp.cellAt (X := []) (e2 _ kw7) (by simp)
  replace m1 := Kp.cellAt (X := []) (m1 _ kw7) (by simp)
  replace m2 := Kp.cellAt (X := []) (m2 _ kw7) (by simp)
  replace m6 := Kp.cellAt (X := []) (m6 _ kw7) (by simp)
  replace o3 := Kp.cellAt (X := []) (o3 _ kw7) (by simp)
  have h7 := h3.keep0 kw7
  have lh : ∀ W, Kp [] w7 W → _ := fun W k => look_had (h7.keep0 k) hf hd2
  have kz := kw3.trans kw7
  have hKz := Kp.refl [] w7
  clear l0 l1 l2 l4 mb mc md o0 o2 qA qB qC gA1 gA2 gB2 gC2 jw4 jw5 jw6 jw7 qw4 qw5 qw6 qw7 kw4 kw5 kw6 kw7 hK0 h1 h3 kw3 hK3
  refine wpB_begin 999 (Kp [] w7) (by kernel_rfl) (by exact hKz.drew) (fun hHeld => ?_)
  refine wpB_take 0 _ ?_ rfl (by kernel_rfl) (fun _ _ _ h => h) rfl hHeld ?_ ?_
  rotate_left
  · (intro W hW; go_simp; try with_reducible rfl)
  try simp only [Act.put, List.setIfInBounds_toArray, List.set_cons_zero, List.set_cons_succ]
  refine wpB_take 1 _ ?_ rfl (by kernel_rfl) (fun _ _ _ h => h) rfl hHeld ?_ ?_
  rotate_left
  · (intro W hW; go_simp; try with_reducible rfl)
  try simp only [Act.put, List.setIfInBounds_toArray, List.set_cons_zero, List.set_cons_succ]
  refine wpB_take 2 _ ?_ rfl (by kernel_rfl) (fun _ _ _ h => h) rfl hHeld ?_ ?_
  rotate_left
  · (intro W hW; go_simp; try with_reducible rfl)
  try simp only [Act.put, List.setIfInBounds_toArray, List.set_cons_zero, List.set_cons_succ]
  refine wpB_take 3 _ ?_ rfl (by kernel_rfl) (fun _ _ _ h => h) rfl hHeld ?_ ?_
  rotate_left
  · (intro W hW; go_simp; try with_reducible rfl)
  try simp only [Act.put, List.setIfInBounds_toArray, List.set_cons_zero, List.set_cons_succ]
  refine wpB_skip 4 _ rfl (by kernel_rfl) (fun _ _ _ h => h) rfl hHeld ?_
  try simp only [Act.put, List.setIfInBounds_toArray, List.set_cons_zero, List.set_cons_succ]
  refine wpB_skip 5 _ rfl (by kernel_rfl) (fun _ _ _ h => h) rfl hHeld ?_
  try simp only [Act.put, List.setIfInBounds_toArray, List.set_cons_zero, List.set_cons_succ]
  refine wpB_skip 6 _ rfl (by kernel_rfl) (fun _ _ _ h => h) rfl hHeld ?_
  try simp only [Act.put, List.setIfInBounds_toArray, List.set_cons_zero, List.set_cons_succ]
  refine wpB_skip 7 _ rfl (by kernel_rfl) (fun _ _ _ h => h) rfl hHeld ?_
  try simp only [Act.put, List.setIfInBounds_toArray, List.set_cons_zero, List.set_cons_succ]
  refine wpB_skip 8 _ rfl (by kernel_rfl) (fun _ _ _ h => h) rfl hHeld ?_
  try simp only [Act.put, List.setIfInBounds_toArray, List.set_cons_zero, List.set_cons_succ]
  refine wpB_skip 9 _ rfl (by kernel_rfl) (fun _ _ _ h => h) rfl hHeld ?_
  try simp only [Act.put, List.setIfInBounds_toArray, List.set_cons_zero, List.set_cons_succ]
  refine wpB_skip 10 _ rfl (by kernel_rfl) (fun _ _ _ h => h) rfl hHeld ?_
  try simp only [Act.put, List.setIfInBounds_toArray, List.set_cons_zero, List.set_cons_succ]
  refine wpB_skip 11 _ rfl (by kernel_rfl) (fun _ _ _ h => h) rfl hHeld ?_
  try simp only [Act.put, List.setIfInBounds_toArray, List.set_cons_zero, List.set_cons_succ]
  refine wpB_skip 12 _ rfl (by kernel_rfl) (fun _ _ _ h => h) rfl hHeld ?_
  try simp only [Act.put, List.setIfInBounds_toArray, List.set_cons_zero, List.set_cons_succ]
  refine wpB_skip 13 _ rfl (by kernel_rfl) (fun _ _ _ h => h) rfl hHeld ?_
  try simp only [Act.put, List.setIfInBounds_toArray, List.set_cons_zero, List.set_cons_succ]
  refine wpB_skip 14 _ rfl (by kernel_rfl) (fun _ _ _ h => h) rfl hHeld ?_
  try simp only [Act.put, List.setIfInBounds_toArray, List.set_cons_zero, List.set_cons_succ]
  refine wpB_skip 15 _ rfl (by kernel_rfl) (fun _ _ _ h => h) rfl hHeld ?_
  try simp only [Act.put, List.setIfInBounds_toArray, List.set_cons_zero, List.set_cons_succ]
  refine wpB_skip 16 _ rfl (by kernel_rfl) (fun _ _ _ h => h) rfl hHeld ?_
  try simp only [Act.put, List.setIfInBounds_toArray, List.set_cons_zero, List.set_cons_succ]
  refine wpB_skip 17 _ rfl (by kernel_rfl) (fun _ _ _ h => h) rfl hHeld ?_
  try simp only [Act.put, List.setIfInBounds_toArray, List.set_cons_zero, List.set_cons_succ]
  refine wpB_take 18 _ ?_ rfl (by kernel_rfl) (fun _ _ _ h => h) rfl hHeld ?_ ?_
  rotate_left
  · (intro W hW; go_simp; try with_reducible rfl)
  try simp only [Act.put, List.setIfInBounds_toArray, List.set_cons_zero, List.set_cons_succ]
  refine wpB_take 19 _ ?_ rfl (by kernel_rfl) (fun _ _ _ h => h) rfl hHeld ?_ ?_
  rotate_left
  · (intro W hW; go_simp; try with_reducible rfl)
  try simp only [Act.put, List.setIfInBounds_toArray, List.set_cons_zero, List.set_cons_succ]
  refine wpB_done (by kernel_rfl) ?_ _
  cases hb4 : s4 with
  | true =>
    have hs : (aGet xb x.E).isSome = true := by rw [← HS4.out]; exact hb4
    go_wp2_with fail
    refine wpB_begin 999 (Kp [] w7) (by kernel_rfl) (by exact hHeld.drew) (fun hHeld => ?_)
    refine wpB_take 0 _ ?_ rfl (by kernel_rfl) (fun _ _ _ h => h) rfl hHeld ?_ ?_
    rotate_left
    · (intro W hW; go_simp; try with_reducible rfl)
    try simp only [Act.put, List.setIfInBounds_toArray, List.set_cons_zero, List.set_cons_succ]
    refine wpB_take 1 _ ?_ rfl (by kernel_rfl) (fun _ _ _ h => h) rfl hHeld ?_ ?_
    rotate_left
    · (intro W hW; go_simp; try with_reducible rfl)
    try simp only [Act.put, List.setIfInBounds_toArray, List.set_cons_zero, List.set_cons_succ]
    refine wpB_take 2 _ ?_ rfl (by kernel_rfl) (fun _ _ _ h => h) rfl hHeld ?_ ?_
    rotate_left
    · (intro W hW; go_simp; try with_reducible rfl)
    try simp only [Act.put, List.setIfInBounds_toArray, List.set_cons_zero, List.set_cons_succ]
    refine wpB_take 3 _ ?_ rfl (by kernel_rfl) (fun _ _ _ h => h) rfl hHeld ?_ ?_
    rotate_left
    · (intro W hW; go_simp; try with_reducible rfl)
    try simp only [Act.put, List.setIfInBounds_toArray, List.set_cons_zero, List.set_cons_succ]
    refine wpB_skip 4 _ rfl (by kernel_rfl) (fun _ _ _ h => h) rfl hHeld ?_
    try simp only [Act.put, List.setIfInBounds_toArray, List.set_cons_zero, List.set_cons_succ]
    refine wpB_skip 5 _ rfl (by kernel_rfl) (fun _ _ _ h => h) rfl hHeld ?_
    try simp only [Act.put, List.setIfInBounds_toArray, List.set_cons_zero, List.set_cons_succ]
    refine wpB_skip 6 _ rfl (by kernel_rfl) (fun _ _ _ h => h) rfl hHeld ?_
    try simp only [Act.put, List.setIfInBounds_toArray, List.set_cons_zero, List.set_cons_succ]
    refine wpB_skip 7 _ rfl (by kernel_rfl) (fun _ _ _ h => h) rfl hHeld ?_
    try simp only [Act.put, List.setIfInBounds_toArray, List.set_cons_zero, List.set_cons_succ]
    refine wpB_skip 8 _ rfl (by kernel_rfl) (fun _ _ _ h => h) rfl hHeld ?_
    try simp only [Act.put, List.setIfInBounds_toArray, List.set_cons_zero, List.set_cons_succ]
    refine wpB_skip 9 _ rfl (by kernel_rfl) (fun _ _ _ h => h) rfl hHeld ?_
    try simp only [Act.put, List.setIfInBounds_toArray, List.set_cons_zero, List.set_cons_succ]
    refine wpB_skip 10 _ rfl (by kernel_rfl) (fun _ _ _ h => h) rfl hHeld ?_
    try simp only [Act.put, List.setIfInBounds_toArray, List.set_cons_zero, List.set_cons_succ]
    refine wpB_take 11 _ ?_ rfl (by kernel_rfl) (fun _ _ _ h => h) rfl hHeld ?_ ?_
    rotate_left
    · (intro W hW; go_simp; try with_reducible rfl)
    try simp only [Act.put, List.setIfInBounds_toArray, List.set_cons_zero, List.set_cons_succ]
    refine wpB_take 12 _ ?_ rfl (by kernel_rfl) (fun _ _ _ h => h) rfl hHeld ?_ ?_
    rotate_left
    · (intro W hW; go_simp; try with_reducible rfl)
    try simp only [Act.put, List.setIfInBounds_toArray, List.set_cons_zero, List.set_cons_succ]
    refine wpB_done (by kernel_rfl) ?_ _
    have hr : R = 0 := by rw [HR.out]; unfold Ix.may; rw [HCK.out]; simp [hs]
    have HRZ := Lib.hid hr
    clear hr
    go_wp2_with fail
    go_ret
    exact ⟨by rw [HRZ.out]; rfl, kz.trans hHeld⟩
  | false =>
    have hs : (aGet xb x.E).isSome = false := by rw [← HS4.out]; exact hb4
    have hr : R = 9 := by rw [HR.out]; unfold Ix.may; rw [HCK.out]; simp [hs]
    have HRZ := Lib.hid hr
    clear hr
    go_wp2_with fail
    go_ret
    exact ⟨by rw [HRZ.out]; rfl, kz.trans hHeld⟩
set_option maxHeartbeats 4000000 in
set_option maxRecDepth 20000 in
theorem imay2 {I : Ib} {x : Ix} (hf : Fit x) (x0 x2 x3 x4 x7 x8 x9 xc xd : Int) (lx : List (Int × Int)) (x6 xa xb : ByteArray) (la : Option Addr) (lc B : Nat) (w : World) (h : IxAt I w x) (hl : LocsAt B w (.slice la lx.length lc) lx) (hz : lx.length ≤ 1000) (h6 : x6.size < 16384) (hxb : xb.size < 16384) (hc : recCheck ⟨x0, 2, ⟨x2, x3, x4, lx⟩, ⟨x6, x7, x8, x9, xa⟩, xb, xc, xd⟩ = 0) :
    Calls Tryz.prog 8 #[I.p, .agg #[.int .i64 x0, .int .i64 2, .int .i64 x2, .int .i64 x3, .int .i64 x4, .slice la lx.length lc, .string x6, .int .i64 x7, .int .i64 x8, .int .i64 x9, .string xa, .string xb, .int .i64 xc, .int .i64 xd]] w fun e w' => e = .returned (.int .i64 (x.may ⟨x0, 2, ⟨x2, x3, x4, lx⟩, ⟨x6, x7, x8, x9, xa⟩, xb, xc, xd⟩)) ∧ Kp [] w w' := by
  obtain ⟨R, hR⟩ : ∃ R, R = x.may ⟨x0, 2, ⟨x2, x3, x4, lx⟩, ⟨x6, x7, x8, x9, xa⟩, xb, xc, xd⟩ := ⟨_, rfl⟩
  rw [← hR]
  have HR := Lib.hid hR
  clear hR
  obtain ⟨w1, hw1⟩ : ∃ w1, w1 = w.alloc (.cells #[.int .i64 x0, .int .i64 2, .int .i64 x2, .int .i64 x3, .int .i64 x4, .slice la lx.length lc, .string x6, .int .i64 x7, .int .i64 x8, .int .i64 x9, .string xa, .string xb, .int .i64 xc, .int .i64 xd] 43) := ⟨_, rfl⟩
  have k1 : Kp [] w w1 := hw1 ▸ (Kp.refl _ _).alloc _
  have b1 : w1.heap[w.heap.size]? = some (.cells #[.int .i64 x0, .int .i64 2, .int .i64 x2, .int .i64 x3, .int .i64 x4, .slice la lx.length lc, .string x6, .int .i64 x7, .int .i64 x8, .int .i64 x9, .string xa, .string xb, .int .i64 xc, .int .i64 xd] 43 (0, 0)) := by rw [hw1]; exact block_new _ _
  have hch := rcheck ⟨x0, 2, ⟨x2, x3, x4, lx⟩, ⟨x6, x7, x8, x9, xa⟩, xb, xc, xd⟩ (.slice la lx.length lc) B w1 (hl.keep0 k1) hz h6 hxb
  simp only [RecV] at hch
  rw [hc] at hch
  obtain ⟨b6, bb, bc, bd, b2⟩ := (check_zero hc).bounds
  simp only at b6 bb bc bd b2
  obtain ⟨f0, f1, f2, f3, f4, f5, f6, f7, f8, f9, fa, fb, fc, fd⟩ := read14 b1
  have c1 := Kp.cellAt (X := []) f1 (by simp)
  have c2 := Kp.cellAt (X := []) f2 (by simp)
  have c3 := Kp.cellAt (X := []) f3 (by simp)
  have c4 := Kp.cellAt (X := []) f4 (by simp)
  have c5 := Kp.cellAt (X := []) f5 (by simp)
  have c6 := Kp.cellAt (X := []) f6 (by simp)
  have cb := Kp.cellAt (X := []) fb (by simp)
  have cc := Kp.cellAt (X := []) fc (by simp)
  have cd := Kp.cellAt (X := []) fd (by simp)
  have hK := Kp.refl [] w1
  have Hw1 := Lib.hid hw1
  have HCK := Lib.hid hc
  have h1 := h.keep0 k1
  clear hw1 b1 hc
  go_enter Tryz.func8, Tryz.ntmps8
  go_wp2_with fail
  rw [← Hw1.out]
  refine hch.mono ?_
  rintro e w2 ⟨rfl, k2⟩
  have hK := hK.trans k2
  clear hch
  go_wp2_with fail
  obtain ⟨w3, hw3⟩ : ∃ w3, w3 = w2.alloc (.cells #[.int .i64 x2, .int .i64 x3, .int .i64 x4, .slice la lx.length lc] 36) := ⟨_, rfl⟩
  have k3 : Kp [] w2 w3 := hw3 ▸ (Kp.refl _ _).alloc _
  have b3 : w3.heap[w2.heap.size]? = some (.cells #[.int .i64 x2, .int .i64 x3, .int .i64 x4, .slice la lx.length lc] 36 (0, 0)) := by rw [hw3]; exact block_new _ _
  have hK3 := hK.trans k3
  have kw3 := k1.trans hK3
  have h3 := h1.keep0 hK3
  obtain ⟨g0, g1, g2, -⟩ := read4 b3
  have e0 := Kp.cellAt (X := []) g0 (by simp)
  have e1 := Kp.cellAt (X := []) g1 (by simp)
  have e2 := Kp.cellAt (X := []) g2 (by simp)
  have m1 := Kp.cellAt (X := []) (c1 _ hK3) (by simp)
  have m2 := Kp.cellAt (X := []) (c2 _ hK3) (by simp)
  have m6 := Kp.cellAt (X := []) (c6 _ hK3) (by simp)
  have mb := Kp.cellAt (X := []) (cb _ hK3) (by simp)
  have mc := Kp.cellAt (X := []) (cc _ hK3) (by simp)
  have md := Kp.cellAt (X := []) (cd _ hK3) (by simp)
  obtain ⟨n0, n1, n2, n3, n4⟩ := h3.cells
  have o0 := Kp.cellAt (X := []) n0 (by simp)
  have o2 := Kp.cellAt (X := []) n2 (by simp)
  have o3 := Kp.cellAt (X := []) n3 (by simp)
  have hd2 : (Lit.int .i64 x2).wf = true := wf_i64 (by omega) (by omega)
  obtain ⟨lv0, hlv0, l0⟩ := look_vol_at h3 hf hd2
  obtain ⟨lv1, hlv1, l1⟩ := look_vol_at h3 hf (d := xc) (wf_i64 (by omega) (by omega))
  obtain ⟨lv2, hlv2, l2⟩ := look_vol_at h3 hf (d := xd) (wf_i64 (by omega) (by omega))
  have l4 : ∀ W, Kp [] w3 W → _ := fun W k => look_ent (h3.keep0 k) hf (max_key bb)
  have zc := vol_len_any hf xc
  have zd := vol_len_any hf xd
  obtain ⟨⟨p0, p1, p2, p3⟩, hp⟩ : ∃ q, q = (x.vol x2).1 := ⟨_, rfl⟩
  obtain ⟨⟨q0, q1, q2, q3⟩, hq⟩ : ∃ q, q = (x.vol xc).1 := ⟨_, rfl⟩
  obtain ⟨⟨r0, r1, r2, r3⟩, hr⟩ : ∃ q, q = (x.vol xd).1 := ⟨_, rfl⟩
  obtain ⟨⟨t0, t1, t2, t3, t4⟩, ht⟩ : ∃ q, q = (x.get xb).1 := ⟨_, rfl⟩
  rw [← hp] at l0 hlv0
  rw [← hq] at l1 hlv1 zc
  rw [← hr] at l2 hlv2 zd
  rw [← ht] at l4
  simp only at zc zd
  obtain ⟨pa, pc, rfl⟩ := slice_ex hlv0.at
  obtain ⟨qa, qc, rfl⟩ := slice_ex hlv1.at
  obtain ⟨ra, rc, rfl⟩ := slice_ex hlv2.at
  simp only [VolVA] at l0 l1 l2
  simp only [EntVA] at l4
  obtain ⟨s0, hs0⟩ : ∃ b, b = (aGet x2 x.V).isSome := ⟨_, rfl⟩
  obtain ⟨s1, hs1⟩ : ∃ b, b = (aGet xc x.V).isSome := ⟨_, rfl⟩
  obtain ⟨s2, hs2⟩ : ∃ b, b = (aGet xd x.V).isSome := ⟨_, rfl⟩
  obtain ⟨s4, hs4⟩ : ∃ b, b = (aGet xb x.E).isSome := ⟨_, rfl⟩
  rw [← hs0] at l0
  rw [← hs1] at l1
  rw [← hs2] at l2
  rw [← hs4] at l4
  have HP := Lib.hid hp
  have HQ := Lib.hid hq
  have HRR := Lib.hid hr
  have HS0 := Lib.hid hs0
  have HS1 := Lib.hid hs1
  have HS2 := Lib.hid hs2
  have HS4 := Lib.hid hs4
  have Hw3 := Lib.hid hw3
  have hK0 := Kp.refl [] w3
  clear hw3 hp hq hr ht hs0 hs1 hs2 hs4 f0 f1 f2 f3 f4 f5 f6 f7 f8 f9 fa fb fc fd c1 c2 c3 c4 c5 c6 cb cc cd b3 g0 g1 g2 n0 n1 n2 n3 n4 hlv0 hlv1 hlv2 hK
  rw [← Hw3.out]
  refine wpB_begin 999 (Kp [] w3) (by kernel_rfl) (by exact hK0.drew) (fun hHeld => ?_)
  refine wpB_take 0 _ ?_ rfl (by kernel_rfl) (fun _ _ _ h => h) rfl hHeld ?_ ?_
  rotate_left
  · (intro W hW; go_simp; try with_reducible rfl)
  try simp only [Act.put, List.setIfInBounds_toArray, List.set_cons_zero, List.set_cons_succ]
  refine wpB_take 1 _ ?_ rfl (by kernel_rfl) (fun _ _ _ h => h) rfl hHeld ?_ ?_
  rotate_left
  · (intro W hW; go_simp; try with_reducible rfl)
  try simp only [Act.put, List.setIfInBounds_toArray, List.set_cons_zero, List.set_cons_succ]
  refine wpB_take 2 _ ?_ rfl (by kernel_rfl) (fun _ _ _ h => h) rfl hHeld ?_ ?_
  rotate_left
  · (intro W hW; go_simp; try with_reducible rfl)
  try simp only [Act.put, List.setIfInBounds_toArray, List.set_cons_zero, List.set_cons_succ]
  refine wpB_take 3 _ ?_ rfl (by kernel_rfl) (fun _ _ _ h => h) rfl hHeld ?_ ?_
  rotate_left
  · (intro W hW; go_simp; try with_reducible rfl)
  try simp only [Act.put, List.setIfInBounds_toArray, List.set_cons_zero, List.set_cons_succ]
  refine wpB_take 4 _ ?_ rfl (by kernel_rfl) (fun _ _ _ h => h) rfl hHeld ?_ ?_
  rotate_left
  · (intro W hW; go_simp; try with_reducible rfl)
  try simp only [Act.put, List.setIfInBounds_toArray, List.set_cons_zero, List.set_cons_succ]
  refine wpB_take 5 _ ?_ rfl (by kernel_rfl) (fun _ _ _ h => h) rfl hHeld ?_ ?_
  rotate_left
  · (intro W hW; go_simp; try with_reducible rfl)
  try simp only [Act.put, List.setIfInBounds_toArray, List.set_cons_zero, List.set_cons_succ]
  refine wpB_take 6 _ ?_ rfl (by kernel_rfl) (fun _ _ _ h => h) rfl hHeld ?_ ?_
  rotate_left
  · (intro W hW; go_simp; try with_reducible rfl)
  try simp only [Act.put, List.setIfInBounds_toArray, List.set_cons_zero, List.set_cons_succ]
  refine wpB_take 7 _ ?_ rfl (by kernel_rfl) (fun _ _ _ h => h) rfl hHeld ?_ ?_
  rotate_left
  · (intro W hW; go_simp; try with_reducible rfl)
  try simp only [Act.put, List.setIfInBounds_toArray, List.set_cons_zero, List.set_cons_succ]
  refine wpB_take 8 _ ?_ rfl (by kernel_rfl) (fun _ _ _ h => h) rfl hHeld ?_ ?_
  rotate_left
  · (intro W hW; go_simp; try with_reducible rfl)
  try simp only [Act.put, List.setIfInBounds_toArray, List.set_cons_zero, List.set_cons_succ]
  refine wpB_take 9 _ ?_ rfl (by kernel_rfl) (fun _ _ _ h => h) rfl hHeld ?_ ?_
  rotate_left
  · (intro W hW; go_simp; try with_reducible rfl)
  try simp only [Act.put, List.setIfInBounds_toArray, List.set_cons_zero, List.set_cons_succ]
  refine wpB_step 10 _ rfl (by kernel_rfl) rfl rfl (fun K hK_ => ?_)
  go_simp
  refine hK_.out _ _ (by first | exact hHeld | exact hHeld.call ‹_› | exact hHeld.alloc _) (fun hHeld => ?_)
  clear hK_ K
  try simp only [Act.put, List.setIfInBounds_toArray, List.set_cons_zero, List.set_cons_succ]
  refine wpB_step 11 _ rfl (by kernel_rfl) rfl rfl (fun K hK_ => ?_)
  go_simp
  refine hK_.out _ _ (by exact (hK0.alloc _).drew) (fun hHeld => ?_)
  clear hK_ K
  try simp only [Act.put, List.setIfInBounds_toArray, List.set_cons_zero, List.set_cons_succ]
  refine wpB_take 12 _ ?_ rfl (by kernel_rfl) (fun _ _ _ h => h) rfl hHeld ?_ ?_
  rotate_left
  · (intro W hW; go_simp; try with_reducible rfl)
  try simp only [Act.put, List.setIfInBounds_toArray, List.set_cons_zero, List.set_cons_succ]
  refine wpB_done (by kernel_rfl) ?_ _
  obtain ⟨w4, hw4⟩ : ∃ w4, w4 = (w3.alloc (.cells #[.int .i64 p0, .int .i64 p1, .int .i64 p2, .slice pa p3.length pc] 36)).drew := ⟨_, rfl⟩
  have jw4 : Kp [] w3 w4 := hw4 ▸ ((Kp.refl _ _).alloc _).drew
  have qw4 : w4.heap[w3.heap.size]? = some (.cells #[.int .i64 p0, .int .i64 p1, .int .i64 p2, .slice pa p3.length pc] 36 (0, 0)) := by rw [hw4]; exact block_new _ _
  have Hw4 := Lib.hid hw4
  rw [← hw4]
  have kw4 := hK0.trans jw4
  clear hw4 hHeld
  go_wp2_with fail
  refine wpB_begin 999 (Kp [] w3) (by kernel_rfl) (by exact kw4.drew) (fun hHeld => ?_)
  refine wpB_take 0 _ ?_ rfl (by kernel_rfl) (fun _ _ _ h => h) rfl hHeld ?_ ?_
  rotate_left
  · (intro W hW; go_simp; try with_reducible rfl)
  try simp only [Act.put, List.setIfInBounds_toArray, List.set_cons_zero, List.set_cons_succ]
  refine wpB_take 1 _ ?_ rfl (by kernel_rfl) (fun _ _ _ h => h) rfl hHeld ?_ ?_
  rotate_left
  · (intro W hW; go_simp; try with_reducible rfl)
  try simp only [Act.put, List.setIfInBounds_toArray, List.set_cons_zero, List.set_cons_succ]
  refine wpB_take 2 _ ?_ rfl (by kernel_rfl) (fun _ _ _ h => h) rfl hHeld ?_ ?_
  rotate_left
  · (intro W hW; go_simp; try with_reducible rfl)
  try simp only [Act.put, List.setIfInBounds_toArray, List.set_cons_zero, List.set_cons_succ]
  refine wpB_take 3 _ ?_ rfl (by kernel_rfl) (fun _ _ _ h => h) rfl hHeld ?_ ?_
  rotate_left
  · (intro W hW; go_simp; try with_reducible rfl)
  try simp only [Act.put, List.setIfInBounds_toArray, List.set_cons_zero, List.set_cons_succ]
  refine wpB_take 4 _ ?_ rfl (by kernel_rfl) (fun _ _ _ h => h) rfl hHeld ?_ ?_
  rotate_left
  · (intro W hW; go_simp; try with_reducible rfl)
  try simp only [Act.put, List.setIfInBounds_toArray, List.set_cons_zero, List.set_cons_succ]
  refine wpB_take 5 _ ?_ rfl (by kernel_rfl) (fun _ _ _ h => h) rfl hHeld ?_ ?_
  rotate_left
  · (intro W hW; go_simp; try with_reducible rfl)
  try simp only [Act.put, List.setIfInBounds_toArray, List.set_cons_zero, List.set_cons_succ]
  refine wpB_take 6 _ ?_ rfl (by kernel_rfl) (fun _ _ _ h => h) rfl hHeld ?_ ?_
  rotate_left
  · (intro W hW; go_simp; try with_reducible rfl)
  try simp only [Act.put, List.setIfInBounds_toArray, List.set_cons_zero, List.set_cons_succ]
  refine wpB_take 7 _ ?_ rfl (by kernel_rfl) (fun _ _ _ h => h) rfl hHeld ?_ ?_
  rotate_left
  · (intro W hW; go_simp; try with_reducible rfl)
  try simp only [Act.put, List.setIfInBounds_toArray, List.set_cons_zero, List.set_cons_succ]
  refine wpB_take 8 _ ?_ rfl (by kernel_rfl) (fun _ _ _ h => h) rfl hHeld ?_ ?_
  rotate_left
  · (intro W hW; go_simp; try with_reducible rfl)
  try simp only [Act.put, List.setIfInBounds_toArray, List.set_cons_zero, List.set_cons_succ]
  refine wpB_take 9 _ ?_ rfl (by kernel_rfl) (fun _ _ _ h => h) rfl hHeld ?_ ?_
  rotate_left
  · (intro W hW; go_simp; try with_reducible rfl)
  try simp only [Act.put, List.setIfInBounds_toArray, List.set_cons_zero, List.set_cons_succ]
  refine wpB_step 10 _ rfl (by kernel_rfl) rfl rfl (fun K hK_ => ?_)
  go_simp
  refine hK_.out _ _ (by first | exact hHeld | exact hHeld.call ‹_› | exact hHeld.alloc _) (fun hHeld => ?_)
  clear hK_ K
  try simp only [Act.put, List.setIfInBounds_toArray, List.set_cons_zero, List.set_cons_succ]
  refine wpB_step 11 _ rfl (by kernel_rfl) rfl rfl (fun K hK_ => ?_)
  go_simp
  refine hK_.out _ _ (by exact (kw4.alloc _).drew) (fun hHeld => ?_)
  clear hK_ K
  try simp only [Act.put, List.setIfInBounds_toArray, List.set_cons_zero, List.set_cons_succ]
  refine wpB_take 12 _ ?_ rfl (by kernel_rfl) (fun _ _ _ h => h) rfl hHeld ?_ ?_
  rotate_left
  · (intro W hW; go_simp; try with_reducible rfl)
  try simp only [Act.put, List.setIfInBounds_toArray, List.set_cons_zero, List.set_cons_succ]
  refine wpB_done (by kernel_rfl) ?_ _
  obtain ⟨w5, hw5⟩ : ∃ w5, w5 = (w4.alloc (.cells #[.int .i64 q0, .int .i64 q1, .int .i64 q2, .slice qa q3.length qc] 36)).drew := ⟨_, rfl⟩
  have jw5 : Kp [] w4 w5 := hw5 ▸ ((Kp.refl _ _).alloc _).drew
  have qw5 : w5.heap[w4.heap.size]? = some (.cells #[.int .i64 q0, .int .i64 q1, .int .i64 q2, .slice qa q3.length qc] 36 (0, 0)) := by rw [hw5]; exact block_new _ _
  have Hw5 := Lib.hid hw5
  rw [← hw5]
  have kw5 := kw4.trans jw5
  clear hw5 hHeld
  go_wp2_with fail
  refine wpB_begin 999 (Kp [] w3) (by kernel_rfl) (by exact kw5.drew) (fun hHeld => ?_)
  refine wpB_take 0 _ ?_ rfl (by kernel_rfl) (fun _ _ _ h => h) rfl hHeld ?_ ?_
  rotate_left
  · (intro W hW; go_simp; try with_reducible rfl)
  try simp only [Act.put, List.setIfInBounds_toArray, List.set_cons_zero, List.set_cons_succ]
  refine wpB_take 1 _ ?_ rfl (by kernel_rfl) (fun _ _ _ h => h) rfl hHeld ?_ ?_
  rotate_left
  · (intro W hW; go_simp; try with_reducible rfl)
  try simp only [Act.put, List.setIfInBounds_toArray, List.set_cons_zero, List.set_cons_succ]
  refine wpB_take 2 _ ?_ rfl (by kernel_rfl) (fun _ _ _ h => h) rfl hHeld ?_ ?_
  rotate_left
  · (intro W hW; go_simp; try with_reducible rfl)
  try simp only [Act.put, List.setIfInBounds_toArray, List.set_cons_zero, List.set_cons_succ]
  refine wpB_take 3 _ ?_ rfl (by kernel_rfl) (fun _ _ _ h => h) rfl hHeld ?_ ?_
  rotate_left
  · (intro W hW; go_simp; try with_reducible rfl)
  try simp only [Act.put, List.setIfInBounds_toArray, List.set_cons_zero, List.set_cons_succ]
  refine wpB_take 4 _ ?_ rfl (by kernel_rfl) (fun _ _ _ h => h) rfl hHeld ?_ ?_
  rotate_left
  · (intro W hW; go_simp; try with_reducible rfl)
  try simp only [Act.put, List.setIfInBounds_toArray, List.set_cons_zero, List.set_cons_succ]
  refine wpB_take 5 _ ?_ rfl (by kernel_rfl) (fun _ _ _ h => h) rfl hHeld ?_ ?_
  rotate_left
  · (intro W hW; go_simp; try with_reducible rfl)
  try simp only [Act.put, List.setIfInBounds_toArray, List.set_cons_zero, List.set_cons_succ]
  refine wpB_take 6 _ ?_ rfl (by kernel_rfl) (fun _ _ _ h => h) rfl hHeld ?_ ?_
  rotate_left
  · (intro W hW; go_simp; try with_reducible rfl)
  try simp only [Act.put, List.setIfInBounds_toArray, List.set_cons_zero, List.set_cons_succ]
  refine wpB_take 7 _ ?_ rfl (by kernel_rfl) (fun _ _ _ h => h) rfl hHeld ?_ ?_
  rotate_left
  · (intro W hW; go_simp; try with_reducible rfl)
  try simp only [Act.put, List.setIfInBounds_toArray, List.set_cons_zero, List.set_cons_succ]
  refine wpB_take 8 _ ?_ rfl (by kernel_rfl) (fun _ _ _ h => h) rfl hHeld ?_ ?_
  rotate_left
  · (intro W hW; go_simp; try with_reducible rfl)
  try simp only [Act.put, List.setIfInBounds_toArray, List.set_cons_zero, List.set_cons_succ]
  refine wpB_take 9 _ ?_ rfl (by kernel_rfl) (fun _ _ _ h => h) rfl hHeld ?_ ?_
  rotate_left
  · (intro W hW; go_simp; try with_reducible rfl)
  try simp only [Act.put, List.setIfInBounds_toArray, List.set_cons_zero, List.set_cons_succ]
  refine wpB_step 10 _ rfl (by kernel_rfl) rfl rfl (fun K hK_ => ?_)
  go_simp
  refine hK_.out _ _ (by first | exact hHeld | exact hHeld.call ‹_› | exact hHeld.alloc _) (fun hHeld => ?_)
  clear hK_ K
  try simp only [Act.put, List.setIfInBounds_toArray, List.set_cons_zero, List.set_cons_succ]
  refine wpB_step 11 _ rfl (by kernel_rfl) rfl rfl (fun K hK_ => ?_)
  go_simp
  refine hK_.out _ _ (by exact (kw5.alloc _).drew) (fun hHeld => ?_)
  clear hK_ K
  try simp only [Act.put, List.setIfInBounds_toArray, List.set_cons_zero, List.set_cons_succ]
  refine wpB_take 12 _ ?_ rfl (by kernel_rfl) (fun _ _ _ h => h) rfl hHeld ?_ ?_
  rotate_left
  · (intro W hW; go_simp; try with_reducible rfl)
  try simp only [Act.put, List.setIfInBounds_toArray, List.set_cons_zero, List.set_cons_succ]
  refine wpB_done (by kernel_rfl) ?_ _
  obtain ⟨w6, hw6⟩ : ∃ w6, w6 = (w5.alloc (.cells #[.int .i64 r0, .int .i64 r1, .int .i64 r2, .slice ra r3.length rc] 36)).drew := ⟨_, rfl⟩
  have jw6 : Kp [] w5 w6 := hw6 ▸ ((Kp.refl _ _).alloc _).drew
  have qw6 : w6.heap[w5.heap.size]? = some (.cells #[.int .i64 r0, .int .i64 r1, .int .i64 r2, .slice ra r3.length rc] 36 (0, 0)) := by rw [hw6]; exact block_new _ _
  have Hw6 := Lib.hid hw6
  rw [← hw6]
  have kw6 := kw5.trans jw6
  clear hw6 hHeld
  go_wp2_with fail
  refine wpB_begin 999 (Kp [] w3) (by kernel_rfl) (by exact kw6.drew) (fun hHeld => ?_)
  refine wpB_take 0 _ ?_ rfl (by kernel_rfl) (fun _ _ _ h => h) rfl hHeld ?_ ?_
  rotate_left
  · (intro W hW; go_simp; try with_reducible rfl)
  try simp only [Act.put, List.setIfInBounds_toArray, List.set_cons_zero, List.set_cons_succ]
  refine wpB_take 1 _ ?_ rfl (by kernel_rfl) (fun _ _ _ h => h) rfl hHeld ?_ ?_
  rotate_left
  · (intro W hW; go_simp; try with_reducible rfl)
  try simp only [Act.put, List.setIfInBounds_toArray, List.set_cons_zero, List.set_cons_succ]
  refine wpB_take 2 _ ?_ rfl (by kernel_rfl) (fun _ _ _ h => h) rfl hHeld ?_ ?_
  rotate_left
  · (intro W hW; go_simp; try with_reducible rfl)
  try simp only [Act.put, List.setIfInBounds_toArray, List.set_cons_zero, List.set_cons_succ]
  refine wpB_take 3 _ ?_ rfl (by kernel_rfl) (fun _ _ _ h => h) rfl hHeld ?_ ?_
  rotate_left
  · (intro W hW; go_simp; try with_reducible rfl)
  try simp only [Act.put, List.setIfInBounds_toArray, List.set_cons_zero, List.set_cons_succ]
  refine wpB_take 4 _ ?_ rfl (by kernel_rfl) (fun _ _ _ h => h) rfl hHeld ?_ ?_
  rotate_left
  · (intro W hW; go_simp; try with_reducible rfl)
  try simp only [Act.put, List.setIfInBounds_toArray, List.set_cons_zero, List.set_cons_succ]
  refine wpB_take 5 _ ?_ rfl (by kernel_rfl) (fun _ _ _ h => h) rfl hHeld ?_ ?_
  rotate_left
  · (intro W hW; go_simp; try with_reducible rfl)
  try simp only [Act.put, List.setIfInBounds_toArray, List.set_cons_zero, List.set_cons_succ]
  refine wpB_take 6 _ ?_ rfl (by kernel_rfl) (fun _ _ _ h => h) rfl hHeld ?_ ?_
  rotate_left
  · (intro W hW; go_simp; try with_reducible rfl)
  try simp only [Act.put, List.setIfInBounds_toArray, List.set_cons_zero, List.set_cons_succ]
  refine wpB_take 7 _ ?_ rfl (by kernel_rfl) (fun _ _ _ h => h) rfl hHeld ?_ ?_
  rotate_left
  · (intro W hW; go_simp; try with_reducible rfl)
  try simp only [Act.put, List.setIfInBounds_toArray, List.set_cons_zero, List.set_cons_succ]
  refine wpB_take 8 _ ?_ rfl (by kernel_rfl) (fun _ _ _ h => h) rfl hHeld ?_ ?_
  rotate_left
  · (intro W hW; go_simp; try with_reducible rfl)
  try simp only [Act.put, List.setIfInBounds_toArray, List.set_cons_zero, List.set_cons_succ]
  refine wpB_take 9 _ ?_ rfl (by kernel_rfl) (fun _ _ _ h => h) rfl hHeld ?_ ?_
  rotate_left
  · (intro W hW; go_simp; try with_reducible rfl)
  try simp only [Act.put, List.setIfInBounds_toArray, List.set_cons_zero, List.set_cons_succ]
  refine wpB_step 10 _ rfl (by kernel_rfl) rfl rfl (fun K hK_ => ?_)
  go_simp
  refine hK_.out _ _ (by first | exact hHeld | exact hHeld.call ‹_› | exact hHeld.alloc _) (fun hHeld => ?_)
  clear hK_ K
  try simp only [Act.put, List.setIfInBounds_toArray, List.set_cons_zero, List.set_cons_succ]
  refine wpB_step 11 _ rfl (by kernel_rfl) rfl rfl (fun K hK_ => ?_)
  go_simp
  refine hK_.out _ _ (by exact (kw6.alloc _).drew) (fun hHeld => ?_)
  clear hK_ K
  try simp only [Act.put, List.setIfInBounds_toArray, List.set_cons_zero, List.set_cons_succ]
  refine wpB_take 12 _ ?_ rfl (by kernel_rfl) (fun _ _ _ h => h) rfl hHeld ?_ ?_
  rotate_left
  · (intro W hW; go_simp; try with_reducible rfl)
  try simp only [Act.put, List.setIfInBounds_toArray, List.set_cons_zero, List.set_cons_succ]
  refine wpB_done (by kernel_rfl) ?_ _
  obtain ⟨w7, hw7⟩ : ∃ w7, w7 = (w6.alloc (.cells #[.string t0, .int .i64 t1, .int .i64 t2, .int .i64 t3, .string t4] 38)).drew := ⟨_, rfl⟩
  have jw7 : Kp [] w6 w7 := hw7 ▸ ((Kp.refl _ _).alloc _).drew
  have qw7 : w7.heap[w6.heap.size]? = some (.cells #[.string t0, .int .i64 t1, .int .i64 t2, .int .i64 t3, .string t4] 38 (0, 0)) := by rw [hw7]; exact block_new _ _
  have Hw7 := Lib.hid hw7
  rw [← hw7]
  have kw7 := kw6.trans jw7
  clear hw7 hHeld
  go_wp2_with fail
  have qA := (((jw5.trans jw6).trans jw7).block _ (lt_of_block qw4) (by simp)).trans qw4
  have qB := ((jw6.trans jw7).block _ (lt_of_block qw5) (by simp)).trans qw5
  have qC := (jw7.block _ (lt_of_block qw6) (by simp)).trans qw6
  obtain ⟨-, gA1, gA2, -⟩ := read4 qA
  obtain ⟨-, -, gB2, -⟩ := read4 qB
  obtain ⟨-, -, gC2, -⟩ := read4 qC
  have a1 := Kp.cellAt (X := []) gA1 (by simp)
  have a2 := Kp.cellAt (X := []) gA2 (by simp)
  have a3 := Kp.cellAt (X := []) gB2 (by simp)
  have a4 := Kp.cellAt (X := []) gC2 (by simp)
  replace e0 := Kp.cellAt (X := []) (e0 _ kw7) (by simp)
  replace e1 := Kp.cellAt (X := []) (e1 _ kw7) (by simp)
  replace e2 := Kp.cellAt (X := []) (e2 _ kw7) (by simp)
  replace m1 := Kp.cellAt (X := []) (m1 _ kw7) (by simp)
  replace m2 := Kp.cellAt (X := []) (m2 _ kw7) (by simp)
  replace m6 := Kp.cellAt (X := []) (m6 _ kw7) (by simp)
  replace o3 := Kp.cellAt (X := []) (o3 _ kw7) (by simp)
  have h7 := h3.keep0 kw7
  have lh : ∀ W, Kp [] w7 W → _ := fun W k => look_had (h7.keep0 k) hf hd2
  have kz := kw3.trans kw7
  have hKz := Kp.refl [] w7
  clear l0 l1 l2 l4 mb mc md o0 o2 qA qB qC gA1 gA2 gB2 gC2 jw4 jw5 jw6 jw7 qw4 qw5 qw6 qw7 kw4 kw5 kw6 kw7 hK0 h1 h3 kw3 hK3
  refine wpB_begin 999 (Kp [] w7) (by kernel_rfl) (by exact hKz.drew) (fun hHeld => ?_)
  refine wpB_take 0 _ ?_ rfl (by kernel_rfl) (fun _ _ _ h => h) rfl hHeld ?_ ?_
  rotate_left
  · (intro W hW; go_simp; try with_reducible rfl)
  try simp only [Act.put, List.setIfInBounds_toArray, List.set_cons_zero, List.set_cons_succ]
  refine wpB_take 1 _ ?_ rfl (by kernel_rfl) (fun _ _ _ h => h) rfl hHeld ?_ ?_
  rotate_left
  · (intro W hW; go_simp; try with_reducible rfl)
  try simp only [Act.put, List.setIfInBounds_toArray, List.set_cons_zero, List.set_cons_succ]
  refine wpB_take 2 _ ?_ rfl (by kernel_rfl) (fun _ _ _ h => h) rfl hHeld ?_ ?_
  rotate_left
  · (intro W hW; go_simp; try with_reducible rfl)
  try simp only [Act.put, List.setIfInBounds_toArray, List.set_cons_zero, List.set_cons_succ]
  refine wpB_take 3 _ ?_ rfl (by kernel_rfl) (fun _ _ _ h => h) rfl hHeld ?_ ?_
  rotate_left
  · (intro W hW; go_simp; try with_reducible rfl)
  try simp only [Act.put, List.setIfInBounds_toArray, List.set_cons_zero, List.set_cons_succ]
  refine wpB_skip 4 _ rfl (by kernel_rfl) (fun _ _ _ h => h) rfl hHeld ?_
  try simp only [Act.put, List.setIfInBounds_toArray, List.set_cons_zero, List.set_cons_succ]
  refine wpB_skip 5 _ rfl (by kernel_rfl) (fun _ _ _ h => h) rfl hHeld ?_
  try simp only [Act.put, List.setIfInBounds_toArray, List.set_cons_zero, List.set_cons_succ]
  refine wpB_skip 6 _ rfl (by kernel_rfl) (fun _ _ _ h => h) rfl hHeld ?_
  try simp only [Act.put, List.setIfInBounds_toArray, List.set_cons_zero, List.set_cons_succ]
  refine wpB_skip 7 _ rfl (by kernel_rfl) (fun _ _ _ h => h) rfl hHeld ?_
  try simp only [Act.put, List.setIfInBounds_toArray, List.set_cons_zero, List.set_cons_succ]
  refine wpB_skip 8 _ rfl (by kernel_rfl) (fun _ _ _ h => h) rfl hHeld ?_
  try simp only [Act.put, List.setIfInBounds_toArray, List.set_cons_zero, List.set_cons_succ]
  refine wpB_skip 9 _ rfl (by kernel_rfl) (fun _ _ _ h => h) rfl hHeld ?_
  try simp only [Act.put, List.setIfInBounds_toArray, List.set_cons_zero, List.set_cons_succ]
  refine wpB_skip 10 _ rfl (by kernel_rfl) (fun _ _ _ h => h) rfl hHeld ?_
  try simp only [Act.put, List.setIfInBounds_toArray, List.set_cons_zero, List.set_cons_succ]
  refine wpB_skip 11 _ rfl (by kernel_rfl) (fun _ _ _ h => h) rfl hHeld ?_
  try simp only [Act.put, List.setIfInBounds_toArray, List.set_cons_zero, List.set_cons_succ]
  refine wpB_skip 12 _ rfl (by kernel_rfl) (fun _ _ _ h => h) rfl hHeld ?_
  try simp only [Act.put, List.setIfInBounds_toArray, List.set_cons_zero, List.set_cons_succ]
  refine wpB_skip 13 _ rfl (by kernel_rfl) (fun _ _ _ h => h) rfl hHeld ?_
  try simp only [Act.put, List.setIfInBounds_toArray, List.set_cons_zero, List.set_cons_succ]
  refine wpB_skip 14 _ rfl (by kernel_rfl) (fun _ _ _ h => h) rfl hHeld ?_
  try simp only [Act.put, List.setIfInBounds_toArray, List.set_cons_zero, List.set_cons_succ]
  refine wpB_skip 15 _ rfl (by kernel_rfl) (fun _ _ _ h => h) rfl hHeld ?_
  try simp only [Act.put, List.setIfInBounds_toArray, List.set_cons_zero, List.set_cons_succ]
  refine wpB_skip 16 _ rfl (by kernel_rfl) (fun _ _ _ h => h) rfl hHeld ?_
  try simp only [Act.put, List.setIfInBounds_toArray, List.set_cons_zero, List.set_cons_succ]
  refine wpB_skip 17 _ rfl (by kernel_rfl) (fun _ _ _ h => h) rfl hHeld ?_
  try simp only [Act.put, List.setIfInBounds_toArray, List.set_cons_zero, List.set_cons_succ]
  refine wpB_take 18 _ ?_ rfl (by kernel_rfl) (fun _ _ _ h => h) rfl hHeld ?_ ?_
  rotate_left
  · (intro W hW; go_simp; try with_reducible rfl)
  try simp only [Act.put, List.setIfInBounds_toArray, List.set_cons_zero, List.set_cons_succ]
  refine wpB_take 19 _ ?_ rfl (by kernel_rfl) (fun _ _ _ h => h) rfl hHeld ?_ ?_
  rotate_left
  · (intro W hW; go_simp; try with_reducible rfl)
  try simp only [Act.put, List.setIfInBounds_toArray, List.set_cons_zero, List.set_cons_succ]
  refine wpB_done (by kernel_rfl) ?_ _
  have hg1 : (x.vol x2).1.gen = p1 := by rw [← HP.out]
  have hg2 : (x.vol x2).1.len = p2 := by rw [← HP.out]
  have HG1 := Lib.hid hg1
  have HG2 := Lib.hid hg2
  clear hg1 hg2
  cases hb0 : s0 with
  | false =>
    have hs : (aGet x2 x.V).isSome = false := by rw [← HS0.out]; exact hb0
    have hr : R = 9 := by rw [HR.out]; unfold Ix.may; rw [HCK.out]; simp [hs]
    have HRZ := Lib.hid hr
    clear hr
    go_wp2_with fail
    go_ret
    exact ⟨by rw [HRZ.out]; rfl, kz.trans hHeld⟩
  | true =>
    have hs : (aGet x2 x.V).isSome = true := by rw [← HS0.out]; exact hb0
    by_cases hg : x3 ≤ p1
    · have hgb : decide (x3 ≤ p1) = true := decide_eq_true hg
      have hr : R = 1 := by rw [HR.out]; unfold Ix.may; rw [HCK.out]; simp [hs, HG1.out, HG2.out, hg]
      have HRZ := Lib.hid hr
      clear hr
      go_wp2_with fail
      go_ret
      exact ⟨by rw [HRZ.out]; rfl, kz.trans hHeld⟩
    · have hgb : decide (x3 ≤ p1) = false := decide_eq_false hg
      by_cases hl2 : x4 = p2
      · have hlb : (x4 != p2) = false := by simp [hl2]
        have HL2 := Lib.hid hl2
        clear hl2
        go_wp2_with fail
        refine wpB_begin 999 (Kp [] w7) (by kernel_rfl) (by exact hHeld.drew) (fun hHeld => ?_)
        refine wpB_take 0 _ ?_ rfl (by kernel_rfl) (fun _ _ _ h => h) rfl hHeld ?_ ?_
        rotate_left
        · (intro W hW; go_simp; try with_reducible rfl)
        try simp only [Act.put, List.setIfInBounds_toArray, List.set_cons_zero, List.set_cons_succ]
        refine wpB_take 1 _ ?_ rfl (by kernel_rfl) (fun _ _ _ h => h) rfl hHeld ?_ ?_
        rotate_left
        · (intro W hW; go_simp; try with_reducible rfl)
        try simp only [Act.put, List.setIfInBounds_toArray, List.set_cons_zero, List.set_cons_succ]
        refine wpB_take 2 _ ?_ rfl (by kernel_rfl) (fun _ _ _ h => h) rfl hHeld ?_ ?_
        rotate_left
        · (intro W hW; go_simp; try with_reducible rfl)
        try simp only [Act.put, List.setIfInBounds_toArray, List.set_cons_zero, List.set_cons_succ]
        refine wpB_take 3 _ ?_ rfl (by kernel_rfl) (fun _ _ _ h => h) rfl hHeld ?_ ?_
        rotate_left
        · (intro W hW; go_simp; try with_reducible rfl)
        try simp only [Act.put, List.setIfInBounds_toArray, List.set_cons_zero, List.set_cons_succ]
        refine wpB_skip 4 _ rfl (by kernel_rfl) (fun _ _ _ h => h) rfl hHeld ?_
        try simp only [Act.put, List.setIfInBounds_toArray, List.set_cons_zero, List.set_cons_succ]
        refine wpB_skip 5 _ rfl (by kernel_rfl) (fun _ _ _ h => h) rfl hHeld ?_
        try simp only [Act.put, List.setIfInBounds_toArray, List.set_cons_zero, List.set_cons_succ]
        refine wpB_skip 6 _ rfl (by kernel_rfl) (fun _ _ _ h => h) rfl hHeld ?_
        try simp only [Act.put, List.setIfInBounds_toArray, List.set_cons_zero, List.set_cons_succ]
        refine wpB_skip 7 _ rfl (by kernel_rfl) (fun _ _ _ h => h) rfl hHeld ?_
        try simp only [Act.put, List.setIfInBounds_toArray, List.set_cons_zero, List.set_cons_succ]
        refine wpB_skip 8 _ rfl (by kernel_rfl) (fun _ _ _ h => h) rfl hHeld ?_
        try simp only [Act.put, List.setIfInBounds_toArray, List.set_cons_zero, List.set_cons_succ]
        refine wpB_skip 9 _ rfl (by kernel_rfl) (fun _ _ _ h => h) rfl hHeld ?_
        try simp only [Act.put, List.setIfInBounds_toArray, List.set_cons_zero, List.set_cons_succ]
        refine wpB_skip 10 _ rfl (by kernel_rfl) (fun _ _ _ h => h) rfl hHeld ?_
        try simp only [Act.put, List.setIfInBounds_toArray, List.set_cons_zero, List.set_cons_succ]
        refine wpB_take 11 _ ?_ rfl (by kernel_rfl) (fun _ _ _ h => h) rfl hHeld ?_ ?_
        rotate_left
        · (intro W hW; go_simp; try with_reducible rfl)
        try simp only [Act.put, List.setIfInBounds_toArray, List.set_cons_zero, List.set_cons_succ]
        refine wpB_take 12 _ ?_ rfl (by kernel_rfl) (fun _ _ _ h => h) rfl hHeld ?_ ?_
        rotate_left
        · (intro W hW; go_simp; try with_reducible rfl)
        try simp only [Act.put, List.setIfInBounds_toArray, List.set_cons_zero, List.set_cons_succ]
        refine wpB_done (by kernel_rfl) ?_ _
        have hl2 := HL2.out
        have hr : R = 0 := by rw [HR.out]; unfold Ix.may; rw [HCK.out]; simp [hs, HG1.out, HG2.out, hg, hl2]
        have HRZ := Lib.hid hr
        clear hr
        go_wp2_with fail
        go_ret
        exact ⟨by rw [HRZ.out]; rfl, kz.trans hHeld⟩
      · have hlb : (x4 != p2) = true := by simp [hl2]
        have hr : R = 1 := by rw [HR.out]; unfold Ix.may; rw [HCK.out]; simp [hs, HG1.out, HG2.out, hg, hl2]
        have HRZ := Lib.hid hr
        clear hr
        go_wp2_with fail
        go_ret
        exact ⟨by rw [HRZ.out]; rfl, kz.trans hHeld⟩
set_option maxHeartbeats 4000000 in
set_option maxRecDepth 20000 in
theorem imay3 {I : Ib} {x : Ix} (hf : Fit x) (x0 x2 x3 x4 x7 x8 x9 xc xd : Int) (lx : List (Int × Int)) (x6 xa xb : ByteArray) (la : Option Addr) (lc B : Nat) (w : World) (h : IxAt I w x) (hl : LocsAt B w (.slice la lx.length lc) lx) (hz : lx.length ≤ 1000) (h6 : x6.size < 16384) (hxb : xb.size < 16384) (hc : recCheck ⟨x0, 3, ⟨x2, x3, x4, lx⟩, ⟨x6, x7, x8, x9, xa⟩, xb, xc, xd⟩ = 0) :
    Calls Tryz.prog 8 #[I.p, .agg #[.int .i64 x0, .int .i64 3, .int .i64 x2, .int .i64 x3, .int .i64 x4, .slice la lx.length lc, .string x6, .int .i64 x7, .int .i64 x8, .int .i64 x9, .string xa, .string xb, .int .i64 xc, .int .i64 xd]] w fun e w' => e = .returned (.int .i64 (x.may ⟨x0, 3, ⟨x2, x3, x4, lx⟩, ⟨x6, x7, x8, x9, xa⟩, xb, xc, xd⟩)) ∧ Kp [] w w' := by
  obtain ⟨R, hR⟩ : ∃ R, R = x.may ⟨x0, 3, ⟨x2, x3, x4, lx⟩, ⟨x6, x7, x8, x9, xa⟩, xb, xc, xd⟩ := ⟨_, rfl⟩
  rw [← hR]
  have HR := Lib.hid hR
  clear hR
  obtain ⟨w1, hw1⟩ : ∃ w1, w1 = w.alloc (.cells #[.int .i64 x0, .int .i64 3, .int .i64 x2, .int .i64 x3, .int .i64 x4, .slice la lx.length lc, .string x6, .int .i64 x7, .int .i64 x8, .int .i64 x9, .string xa, .string xb, .int .i64 xc, .int .i64 xd] 43) := ⟨_, rfl⟩
  have k1 : Kp [] w w1 := hw1 ▸ (Kp.refl _ _).alloc _
  have b1 : w1.heap[w.heap.size]? = some (.cells #[.int .i64 x0, .int .i64 3, .int .i64 x2, .int .i64 x3, .int .i64 x4, .slice la lx.length lc, .string x6, .int .i64 x7, .int .i64 x8, .int .i64 x9, .string xa, .string xb, .int .i64 xc, .int .i64 xd] 43 (0, 0)) := by rw [hw1]; exact block_new _ _
  have hch := rcheck ⟨x0, 3, ⟨x2, x3, x4, lx⟩, ⟨x6, x7, x8, x9, xa⟩, xb, xc, xd⟩ (.slice la lx.length lc) B w1 (hl.keep0 k1) hz h6 hxb
  simp only [RecV] at hch
  rw [hc] at hch
  obtain ⟨b6, bb, bc, bd, b2⟩ := (check_zero hc).bounds
  simp only at b6 bb bc bd b2
  obtain ⟨f0, f1, f2, f3, f4, f5, f6, f7, f8, f9, fa, fb, fc, fd⟩ := read14 b1
  have c1 := Kp.cellAt (X := []) f1 (by simp)
  have c2 := Kp.cellAt (X := []) f2 (by simp)
  have c3 := Kp.cellAt (X := []) f3 (by simp)
  have c4 := Kp.cellAt (X := []) f4 (by simp)
  have c5 := Kp.cellAt (X := []) f5 (by simp)
  have c6 := Kp.cellAt (X := []) f6 (by simp)
  have cb := Kp.cellAt (X := []) fb (by simp)
  have cc := Kp.cellAt (X := []) fc (by simp)
  have cd := Kp.cellAt (X := []) fd (by simp)
  have hK := Kp.refl [] w1
  have Hw1 := Lib.hid hw1
  have HCK := Lib.hid hc
  have h1 := h.keep0 k1
  clear hw1 b1 hc
  go_enter Tryz.func8, Tryz.ntmps8
  go_wp2_with fail
  rw [← Hw1.out]
  refine hch.mono ?_
  rintro e w2 ⟨rfl, k2⟩
  have hK := hK.trans k2
  clear hch
  go_wp2_with fail
  obtain ⟨w3, hw3⟩ : ∃ w3, w3 = w2.alloc (.cells #[.int .i64 x2, .int .i64 x3, .int .i64 x4, .slice la lx.length lc] 36) := ⟨_, rfl⟩
  have k3 : Kp [] w2 w3 := hw3 ▸ (Kp.refl _ _).alloc _
  have b3 : w3.heap[w2.heap.size]? = some (.cells #[.int .i64 x2, .int .i64 x3, .int .i64 x4, .slice la lx.length lc] 36 (0, 0)) := by rw [hw3]; exact block_new _ _
  have hK3 := hK.trans k3
  have kw3 := k1.trans hK3
  have h3 := h1.keep0 hK3
  obtain ⟨g0, g1, g2, -⟩ := read4 b3
  have e0 := Kp.cellAt (X := []) g0 (by simp)
  have e1 := Kp.cellAt (X := []) g1 (by simp)
  have e2 := Kp.cellAt (X := []) g2 (by simp)
  have m1 := Kp.cellAt (X := []) (c1 _ hK3) (by simp)
  have m2 := Kp.cellAt (X := []) (c2 _ hK3) (by simp)
  have m6 := Kp.cellAt (X := []) (c6 _ hK3) (by simp)
  have mb := Kp.cellAt (X := []) (cb _ hK3) (by simp)
  have mc := Kp.cellAt (X := []) (cc _ hK3) (by simp)
  have md := Kp.cellAt (X := []) (cd _ hK3) (by simp)
  obtain ⟨n0, n1, n2, n3, n4⟩ := h3.cells
  have o0 := Kp.cellAt (X := []) n0 (by simp)
  have o2 := Kp.cellAt (X := []) n2 (by simp)
  have o3 := Kp.cellAt (X := []) n3 (by simp)
  have hd2 : (Lit.int .i64 x2).wf = true := wf_i64 (by omega) (by omega)
  obtain ⟨lv0, hlv0, l0⟩ := look_vol_at h3 hf hd2
  obtain ⟨lv1, hlv1, l1⟩ := look_vol_at h3 hf (d := xc) (wf_i64 (by omega) (by omega))
  obtain ⟨lv2, hlv2, l2⟩ := look_vol_at h3 hf (d := xd) (wf_i64 (by omega) (by omega))
  have l4 : ∀ W, Kp [] w3 W → _ := fun W k => look_ent (h3.keep0 k) hf (max_key bb)
  have zc := vol_len_any hf xc
  have zd := vol_len_any hf xd
  obtain ⟨⟨p0, p1, p2, p3⟩, hp⟩ : ∃ q, q = (x.vol x2).1 := ⟨_, rfl⟩
  obtain ⟨⟨q0, q1, q2, q3⟩, hq⟩ : ∃ q, q = (x.vol xc).1 := ⟨_, rfl⟩
  obtain ⟨⟨r0, r1, r2, r3⟩, hr⟩ : ∃ q, q = (x.vol xd).1 := ⟨_, rfl⟩
  obtain ⟨⟨t0, t1, t2, t3, t4⟩, ht⟩ : ∃ q, q = (x.get xb).1 := ⟨_, rfl⟩
  rw [← hp] at l0 hlv0
  rw [← hq] at l1 hlv1 zc
  rw [← hr] at l2 hlv2 zd
  rw [← ht] at l4
  simp only at zc zd
  obtain ⟨pa, pc, rfl⟩ := slice_ex hlv0.at
  obtain ⟨qa, qc, rfl⟩ := slice_ex hlv1.at
  obtain ⟨ra, rc, rfl⟩ := slice_ex hlv2.at
  simp only [VolVA] at l0 l1 l2
  simp only [EntVA] at l4
  obtain ⟨s0, hs0⟩ : ∃ b, b = (aGet x2 x.V).isSome := ⟨_, rfl⟩
  obtain ⟨s1, hs1⟩ : ∃ b, b = (aGet xc x.V).isSome := ⟨_, rfl⟩
  obtain ⟨s2, hs2⟩ : ∃ b, b = (aGet xd x.V).isSome := ⟨_, rfl⟩
  obtain ⟨s4, hs4⟩ : ∃ b, b = (aGet xb x.E).isSome := ⟨_, rfl⟩
  rw [← hs0] at l0
  rw [← hs1] at l1
  rw [← hs2] at l2
  rw [← hs4] at l4
  have HP := Lib.hid hp
  have HQ := Lib.hid hq
  have HRR := Lib.hid hr
  have HS0 := Lib.hid hs0
  have HS1 := Lib.hid hs1
  have HS2 := Lib.hid hs2
  have HS4 := Lib.hid hs4
  have Hw3 := Lib.hid hw3
  have hK0 := Kp.refl [] w3
  clear hw3 hp hq hr ht hs0 hs1 hs2 hs4 f0 f1 f2 f3 f4 f5 f6 f7 f8 f9 fa fb fc fd c1 c2 c3 c4 c5 c6 cb cc cd b3 g0 g1 g2 n0 n1 n2 n3 n4 hlv0 hlv1 hlv2 hK
  rw [← Hw3.out]
  refine wpB_begin 999 (Kp [] w3) (by kernel_rfl) (by exact hK0.drew) (fun hHeld => ?_)
  refine wpB_take 0 _ ?_ rfl (by kernel_rfl) (fun _ _ _ h => h) rfl hHeld ?_ ?_
  rotate_left
  · (intro W hW; go_simp; try with_reducible rfl)
  try simp only [Act.put, List.setIfInBounds_toArray, List.set_cons_zero, List.set_cons_succ]
  refine wpB_take 1 _ ?_ rfl (by kernel_rfl) (fun _ _ _ h => h) rfl hHeld ?_ ?_
  rotate_left
  · (intro W hW; go_simp; try with_reducible rfl)
  try simp only [Act.put, List.setIfInBounds_toArray, List.set_cons_zero, List.set_cons_succ]
  refine wpB_take 2 _ ?_ rfl (by kernel_rfl) (fun _ _ _ h => h) rfl hHeld ?_ ?_
  rotate_left
  · (intro W hW; go_simp; try with_reducible rfl)
  try simp only [Act.put, List.setIfInBounds_toArray, List.set_cons_zero, List.set_cons_succ]
  refine wpB_take 3 _ ?_ rfl (by kernel_rfl) (fun _ _ _ h => h) rfl hHeld ?_ ?_
  rotate_left
  · (intro W hW; go_simp; try with_reducible rfl)
  try simp only [Act.put, List.setIfInBounds_toArray, List.set_cons_zero, List.set_cons_succ]
  refine wpB_take 4 _ ?_ rfl (by kernel_rfl) (fun _ _ _ h => h) rfl hHeld ?_ ?_
  rotate_left
  · (intro W hW; go_simp; try with_reducible rfl)
  try simp only [Act.put, List.setIfInBounds_toArray, List.set_cons_zero, List.set_cons_succ]
  refine wpB_take 5 _ ?_ rfl (by kernel_rfl) (fun _ _ _ h => h) rfl hHeld ?_ ?_
  rotate_left
  · (intro W hW; go_simp; try with_reducible rfl)
  try simp only [Act.put, List.setIfInBounds_toArray, List.set_cons_zero, List.set_cons_succ]
  refine wpB_take 6 _ ?_ rfl (by kernel_rfl) (fun _ _ _ h => h) rfl hHeld ?_ ?_
  rotate_left
  · (intro W hW; go_simp; try with_reducible rfl)
  try simp only [Act.put, List.setIfInBounds_toArray, List.set_cons_zero, List.set_cons_succ]
  refine wpB_take 7 _ ?_ rfl (by kernel_rfl) (fun _ _ _ h => h) rfl hHeld ?_ ?_
  rotate_left
  · (intro W hW; go_simp; try with_reducible rfl)
  try simp only [Act.put, List.setIfInBounds_toArray, List.set_cons_zero, List.set_cons_succ]
  refine wpB_take 8 _ ?_ rfl (by kernel_rfl) (fun _ _ _ h => h) rfl hHeld ?_ ?_
  rotate_left
  · (intro W hW; go_simp; try with_reducible rfl)
  try simp only [Act.put, List.setIfInBounds_toArray, List.set_cons_zero, List.set_cons_succ]
  refine wpB_take 9 _ ?_ rfl (by kernel_rfl) (fun _ _ _ h => h) rfl hHeld ?_ ?_
  rotate_left
  · (intro W hW; go_simp; try with_reducible rfl)
  try simp only [Act.put, List.setIfInBounds_toArray, List.set_cons_zero, List.set_cons_succ]
  refine wpB_step 10 _ rfl (by kernel_rfl) rfl rfl (fun K hK_ => ?_)
  go_simp
  refine hK_.out _ _ (by first | exact hHeld | exact hHeld.call ‹_› | exact hHeld.alloc _) (fun hHeld => ?_)
  clear hK_ K
  try simp only [Act.put, List.setIfInBounds_toArray, List.set_cons_zero, List.set_cons_succ]
  refine wpB_step 11 _ rfl (by kernel_rfl) rfl rfl (fun K hK_ => ?_)
  go_simp
  refine hK_.out _ _ (by exact (hK0.alloc _).drew) (fun hHeld => ?_)
  clear hK_ K
  try simp only [Act.put, List.setIfInBounds_toArray, List.set_cons_zero, List.set_cons_succ]
  refine wpB_take 12 _ ?_ rfl (by kernel_rfl) (fun _ _ _ h => h) rfl hHeld ?_ ?_
  rotate_left
  · (intro W hW; go_simp; try with_reducible rfl)
  try simp only [Act.put, List.setIfInBounds_toArray, List.set_cons_zero, List.set_cons_succ]
  refine wpB_done (by kernel_rfl) ?_ _
  obtain ⟨w4, hw4⟩ : ∃ w4, w4 = (w3.alloc (.cells #[.int .i64 p0, .int .i64 p1, .int .i64 p2, .slice pa p3.length pc] 36)).drew := ⟨_, rfl⟩
  have jw4 : Kp [] w3 w4 := hw4 ▸ ((Kp.refl _ _).alloc _).drew
  have qw4 : w4.heap[w3.heap.size]? = some (.cells #[.int .i64 p0, .int .i64 p1, .int .i64 p2, .slice pa p3.length pc] 36 (0, 0)) := by rw [hw4]; exact block_new _ _
  have Hw4 := Lib.hid hw4
  rw [← hw4]
  have kw4 := hK0.trans jw4
  clear hw4 hHeld
  go_wp2_with fail
  refine wpB_begin 999 (Kp [] w3) (by kernel_rfl) (by exact kw4.drew) (fun hHeld => ?_)
  refine wpB_take 0 _ ?_ rfl (by kernel_rfl) (fun _ _ _ h => h) rfl hHeld ?_ ?_
  rotate_left
  · (intro W hW; go_simp; try with_reducible rfl)
  try simp only [Act.put, List.setIfInBounds_toArray, List.set_cons_zero, List.set_cons_succ]
  refine wpB_take 1 _ ?_ rfl (by kernel_rfl) (fun _ _ _ h => h) rfl hHeld ?_ ?_
  rotate_left
  · (intro W hW; go_simp; try with_reducible rfl)
  try simp only [Act.put, List.setIfInBounds_toArray, List.set_cons_zero, List.set_cons_succ]
  refine wpB_take 2 _ ?_ rfl (by kernel_rfl) (fun _ _ _ h => h) rfl hHeld ?_ ?_
  rotate_left
  · (intro W hW; go_simp; try with_reducible rfl)
  try simp only [Act.put, List.setIfInBounds_toArray, List.set_cons_zero, List.set_cons_succ]
  refine wpB_take 3 _ ?_ rfl (by kernel_rfl) (fun _ _ _ h => h) rfl hHeld ?_ ?_
  rotate_left
  · (intro W hW; go_simp; try with_reducible rfl)
  try simp only [Act.put, List.setIfInBounds_toArray, List.set_cons_zero, List.set_cons_succ]
  refine wpB_take 4 _ ?_ rfl (by kernel_rfl) (fun _ _ _ h => h) rfl hHeld ?_ ?_
  rotate_left
  · (intro W hW; go_simp; try with_reducible rfl)
  try simp only [Act.put, List.setIfInBounds_toArray, List.set_cons_zero, List.set_cons_succ]
  refine wpB_take 5 _ ?_ rfl (by kernel_rfl) (fun _ _ _ h => h) rfl hHeld ?_ ?_
  rotate_left
  · (intro W hW; go_simp; try with_reducible rfl)
  try simp only [Act.put, List.setIfInBounds_toArray, List.set_cons_zero, List.set_cons_succ]
  refine wpB_take 6 _ ?_ rfl (by kernel_rfl) (fun _ _ _ h => h) rfl hHeld ?_ ?_
  rotate_left
  · (intro W hW; go_simp; try with_reducible rfl)
  try simp only [Act.put, List.setIfInBounds_toArray, List.set_cons_zero, List.set_cons_succ]
  refine wpB_take 7 _ ?_ rfl (by kernel_rfl) (fun _ _ _ h => h) rfl hHeld ?_ ?_
  rotate_left
  · (intro W hW; go_simp; try with_reducible rfl)
  try simp only [Act.put, List.setIfInBounds_toArray, List.set_cons_zero, List.set_cons_succ]
  refine wpB_take 8 _ ?_ rfl (by kernel_rfl) (fun _ _ _ h => h) rfl hHeld ?_ ?_
  rotate_left
  · (intro W hW; go_simp; try with_reducible rfl)
  try simp only [Act.put, List.setIfInBounds_toArray, List.set_cons_zero, List.set_cons_succ]
  refine wpB_take 9 _ ?_ rfl (by kernel_rfl) (fun _ _ _ h => h) rfl hHeld ?_ ?_
  rotate_left
  · (intro W hW; go_simp; try with_reducible rfl)
  try simp only [Act.put, List.setIfInBounds_toArray, List.set_cons_zero, List.set_cons_succ]
  refine wpB_step 10 _ rfl (by kernel_rfl) rfl rfl (fun K hK_ => ?_)
  go_simp
  refine hK_.out _ _ (by first | exact hHeld | exact hHeld.call ‹_› | exact hHeld.alloc _) (fun hHeld => ?_)
  clear hK_ K
  try simp only [Act.put, List.setIfInBounds_toArray, List.set_cons_zero, List.set_cons_succ]
  refine wpB_step 11 _ rfl (by kernel_rfl) rfl rfl (fun K hK_ => ?_)
  go_simp
  refine hK_.out _ _ (by exact (kw4.alloc _).drew) (fun hHeld => ?_)
  clear hK_ K
  try simp only [Act.put, List.setIfInBounds_toArray, List.set_cons_zero, List.set_cons_succ]
  refine wpB_take 12 _ ?_ rfl (by kernel_rfl) (fun _ _ _ h => h) rfl hHeld ?_ ?_
  rotate_left
  · (intro W hW; go_simp; try with_reducible rfl)
  try simp only [Act.put, List.setIfInBounds_toArray, List.set_cons_zero, List.set_cons_succ]
  refine wpB_done (by kernel_rfl) ?_ _
  obtain ⟨w5, hw5⟩ : ∃ w5, w5 = (w4.alloc (.cells #[.int .i64 q0, .int .i64 q1, .int .i64 q2, .slice qa q3.length qc] 36)).drew := ⟨_, rfl⟩
  have jw5 : Kp [] w4 w5 := hw5 ▸ ((Kp.refl _ _).alloc _).drew
  have qw5 : w5.heap[w4.heap.size]? = some (.cells #[.int .i64 q0, .int .i64 q1, .int .i64 q2, .slice qa q3.length qc] 36 (0, 0)) := by rw [hw5]; exact block_new _ _
  have Hw5 := Lib.hid hw5
  rw [← hw5]
  have kw5 := kw4.trans jw5
  clear hw5 hHeld
  go_wp2_with fail
  refine wpB_begin 999 (Kp [] w3) (by kernel_rfl) (by exact kw5.drew) (fun hHeld => ?_)
  refine wpB_take 0 _ ?_ rfl (by kernel_rfl) (fun _ _ _ h => h) rfl hHeld ?_ ?_
  rotate_left
  · (intro W hW; go_simp; try with_reducible rfl)
  try simp only [Act.put, List.setIfInBounds_toArray, List.set_cons_zero, List.set_cons_succ]
  refine wpB_take 1 _ ?_ rfl (by kernel_rfl) (fun _ _ _ h => h) rfl hHeld ?_ ?_
  rotate_left
  · (intro W hW; go_simp; try with_reducible rfl)
  try simp only [Act.put, List.setIfInBounds_toArray, List.set_cons_zero, List.set_cons_succ]
  refine wpB_take 2 _ ?_ rfl (by kernel_rfl) (fun _ _ _ h => h) rfl hHeld ?_ ?_
  rotate_left
  · (intro W hW; go_simp; try with_reducible rfl)
  try simp only [Act.put, List.setIfInBounds_toArray, List.set_cons_zero, List.set_cons_succ]
  refine wpB_take 3 _ ?_ rfl (by kernel_rfl) (fun _ _ _ h => h) rfl hHeld ?_ ?_
  rotate_left
  · (intro W hW; go_simp; try with_reducible rfl)
  try simp only [Act.put, List.setIfInBounds_toArray, List.set_cons_zero, List.set_cons_succ]
  refine wpB_take 4 _ ?_ rfl (by kernel_rfl) (fun _ _ _ h => h) rfl hHeld ?_ ?_
  rotate_left
  · (intro W hW; go_simp; try with_reducible rfl)
  try simp only [Act.put, List.setIfInBounds_toArray, List.set_cons_zero, List.set_cons_succ]
  refine wpB_take 5 _ ?_ rfl (by kernel_rfl) (fun _ _ _ h => h) rfl hHeld ?_ ?_
  rotate_left
  · (intro W hW; go_simp; try with_reducible rfl)
  try simp only [Act.put, List.setIfInBounds_toArray, List.set_cons_zero, List.set_cons_succ]
  refine wpB_take 6 _ ?_ rfl (by kernel_rfl) (fun _ _ _ h => h) rfl hHeld ?_ ?_
  rotate_left
  · (intro W hW; go_simp; try with_reducible rfl)
  try simp only [Act.put, List.setIfInBounds_toArray, List.set_cons_zero, List.set_cons_succ]
  refine wpB_take 7 _ ?_ rfl (by kernel_rfl) (fun _ _ _ h => h) rfl hHeld ?_ ?_
  rotate_left
  · (intro W hW; go_simp; try with_reducible rfl)
  try simp only [Act.put, List.setIfInBounds_toArray, List.set_cons_zero, List.set_cons_succ]
  refine wpB_take 8 _ ?_ rfl (by kernel_rfl) (fun _ _ _ h => h) rfl hHeld ?_ ?_
  rotate_left
  · (intro W hW; go_simp; try with_reducible rfl)
  try simp only [Act.put, List.setIfInBounds_toArray, List.set_cons_zero, List.set_cons_succ]
  refine wpB_take 9 _ ?_ rfl (by kernel_rfl) (fun _ _ _ h => h) rfl hHeld ?_ ?_
  rotate_left
  · (intro W hW; go_simp; try with_reducible rfl)
  try simp only [Act.put, List.setIfInBounds_toArray, List.set_cons_zero, List.set_cons_succ]
  refine wpB_step 10 _ rfl (by kernel_rfl) rfl rfl (fun K hK_ => ?_)
  go_simp
  refine hK_.out _ _ (by first | exact hHeld | exact hHeld.call ‹_› | exact hHeld.alloc _) (fun hHeld => ?_)
  clear hK_ K
  try simp only [Act.put, List.setIfInBounds_toArray, List.set_cons_zero, List.set_cons_succ]
  refine wpB_step 11 _ rfl (by kernel_rfl) rfl rfl (fun K hK_ => ?_)
  go_simp
  refine hK_.out _ _ (by exact (kw5.alloc _).drew) (fun hHeld => ?_)
  clear hK_ K
  try simp only [Act.put, List.setIfInBounds_toArray, List.set_cons_zero, List.set_cons_succ]
  refine wpB_take 12 _ ?_ rfl (by kernel_rfl) (fun _ _ _ h => h) rfl hHeld ?_ ?_
  rotate_left
  · (intro W hW; go_simp; try with_reducible rfl)
  try simp only [Act.put, List.setIfInBounds_toArray, List.set_cons_zero, List.set_cons_succ]
  refine wpB_done (by kernel_rfl) ?_ _
  obtain ⟨w6, hw6⟩ : ∃ w6, w6 = (w5.alloc (.cells #[.int .i64 r0, .int .i64 r1, .int .i64 r2, .slice ra r3.length rc] 36)).drew := ⟨_, rfl⟩
  have jw6 : Kp [] w5 w6 := hw6 ▸ ((Kp.refl _ _).alloc _).drew
  have qw6 : w6.heap[w5.heap.size]? = some (.cells #[.int .i64 r0, .int .i64 r1, .int .i64 r2, .slice ra r3.length rc] 36 (0, 0)) := by rw [hw6]; exact block_new _ _
  have Hw6 := Lib.hid hw6
  rw [← hw6]
  have kw6 := kw5.trans jw6
  clear hw6 hHeld
  go_wp2_with fail
  refine wpB_begin 999 (Kp [] w3) (by kernel_rfl) (by exact kw6.drew) (fun hHeld => ?_)
  refine wpB_take 0 _ ?_ rfl (by kernel_rfl) (fun _ _ _ h => h) rfl hHeld ?_ ?_
  rotate_left
  · (intro W hW; go_simp; try with_reducible rfl)
  try simp only [Act.put, List.setIfInBounds_toArray, List.set_cons_zero, List.set_cons_succ]
  refine wpB_take 1 _ ?_ rfl (by kernel_rfl) (fun _ _ _ h => h) rfl hHeld ?_ ?_
  rotate_left
  · (intro W hW; go_simp; try with_reducible rfl)
  try simp only [Act.put, List.setIfInBounds_toArray, List.set_cons_zero, List.set_cons_succ]
  refine wpB_take 2 _ ?_ rfl (by kernel_rfl) (fun _ _ _ h => h) rfl hHeld ?_ ?_
  rotate_left
  · (intro W hW; go_simp; try with_reducible rfl)
  try simp only [Act.put, List.setIfInBounds_toArray, List.set_cons_zero, List.set_cons_succ]
  refine wpB_take 3 _ ?_ rfl (by kernel_rfl) (fun _ _ _ h => h) rfl hHeld ?_ ?_
  rotate_left
  · (intro W hW; go_simp; try with_reducible rfl)
  try simp only [Act.put, List.setIfInBounds_toArray, List.set_cons_zero, List.set_cons_succ]
  refine wpB_take 4 _ ?_ rfl (by kernel_rfl) (fun _ _ _ h => h) rfl hHeld ?_ ?_
  rotate_left
  · (intro W hW; go_simp; try with_reducible rfl)
  try simp only [Act.put, List.setIfInBounds_toArray, List.set_cons_zero, List.set_cons_succ]
  refine wpB_take 5 _ ?_ rfl (by kernel_rfl) (fun _ _ _ h => h) rfl hHeld ?_ ?_
  rotate_left
  · (intro W hW; go_simp; try with_reducible rfl)
  try simp only [Act.put, List.setIfInBounds_toArray, List.set_cons_zero, List.set_cons_succ]
  refine wpB_take 6 _ ?_ rfl (by kernel_rfl) (fun _ _ _ h => h) rfl hHeld ?_ ?_
  rotate_left
  · (intro W hW; go_simp; try with_reducible rfl)
  try simp only [Act.put, List.setIfInBounds_toArray, List.set_cons_zero, List.set_cons_succ]
  refine wpB_take 7 _ ?_ rfl (by kernel_rfl) (fun _ _ _ h => h) rfl hHeld ?_ ?_
  rotate_left
  · (intro W hW; go_simp; try with_reducible rfl)
  try simp only [Act.put, List.setIfInBounds_toArray, List.set_cons_zero, List.set_cons_succ]
  refine wpB_take 8 _ ?_ rfl (by kernel_rfl) (fun _ _ _ h => h) rfl hHeld ?_ ?_
  rotate_left
  · (intro W hW; go_simp; try with_reducible rfl)
  try simp only [Act.put, List.setIfInBounds_toArray, List.set_cons_zero, List.set_cons_succ]
  refine wpB_take 9 _ ?_ rfl (by kernel_rfl) (fun _ _ _ h => h) rfl hHeld ?_ ?_
  rotate_left
  · (intro W hW; go_simp; try with_reducible rfl)
  try simp only [Act.put, List.setIfInBounds_toArray, List.set_cons_zero, List.set_cons_succ]
  refine wpB_step 10 _ rfl (by kernel_rfl) rfl rfl (fun K hK_ => ?_)
  go_simp
  refine hK_.out _ _ (by first | exact hHeld | exact hHeld.call ‹_› | exact hHeld.alloc _) (fun hHeld => ?_)
  clear hK_ K
  try simp only [Act.put, List.setIfInBounds_toArray, List.set_cons_zero, List.set_cons_succ]
  refine wpB_step 11 _ rfl (by kernel_rfl) rfl rfl (fun K hK_ => ?_)
  go_simp
  refine hK_.out _ _ (by exact (kw6.alloc _).drew) (fun hHeld => ?_)
  clear hK_ K
  try simp only [Act.put, List.setIfInBounds_toArray, List.set_cons_zero, List.set_cons_succ]
  refine wpB_take 12 _ ?_ rfl (by kernel_rfl) (fun _ _ _ h => h) rfl hHeld ?_ ?_
  rotate_left
  · (intro W hW; go_simp; try with_reducible rfl)
  try simp only [Act.put, List.setIfInBounds_toArray, List.set_cons_zero, List.set_cons_succ]
  refine wpB_done (by kernel_rfl) ?_ _
  obtain ⟨w7, hw7⟩ : ∃ w7, w7 = (w6.alloc (.cells #[.string t0, .int .i64 t1, .int .i64 t2, .int .i64 t3, .string t4] 38)).drew := ⟨_, rfl⟩
  have jw7 : Kp [] w6 w7 := hw7 ▸ ((Kp.refl _ _).alloc _).drew
  have qw7 : w7.heap[w6.heap.size]? = some (.cells #[.string t0, .int .i64 t1, .int .i64 t2, .int .i64 t3, .string t4] 38 (0, 0)) := by rw [hw7]; exact block_new _ _
  have Hw7 := Lib.hid hw7
  rw [← hw7]
  have kw7 := kw6.trans jw7
  clear hw7 hHeld
  go_wp2_with fail
  have qA := (((jw5.trans jw6).trans jw7).block _ (lt_of_block qw4) (by simp)).trans qw4
  have qB := ((jw6.trans jw7).block _ (lt_of_block qw5) (by simp)).trans qw5
  have qC := (jw7.block _ (lt_of_block qw6) (by simp)).trans qw6
  obtain ⟨-, gA1, gA2, -⟩ := read4 qA
  obtain ⟨-, -, gB2, -⟩ := read4 qB
  obtain ⟨-, -, gC2, -⟩ := read4 qC
  have a1 := Kp.cellAt (X := []) gA1 (by simp)
  have a2 := Kp.cellAt (X := []) gA2 (by simp)
  have a3 := Kp.cellAt (X := []) gB2 (by simp)
  have a4 := Kp.cellAt (X := []) gC2 (by simp)
  replace e0 := Kp.cellAt (X := []) (e0 _ kw7) (by simp)
  replace e1 := Kp.cellAt (X := []) (e1 _ kw7) (by simp)
  replace e2 := Kp.cellAt (X := []) (e2 _ kw7) (by simp)
  replace m1 := Kp.cellAt (X := []) (m1 _ kw7) (by simp)
  replace m2 := Kp.cellAt (X := []) (m2 _ kw7) (by simp)
  replace m6 := Kp.cellAt (X := []) (m6 _ kw7) (by simp)
  replace o3 := Kp.cellAt (X := []) (o3 _ kw7) (by simp)
  have h7 := h3.keep0 kw7
  have lh : ∀ W, Kp [] w7 W → _ := fun W k => look_had (h7.keep0 k) hf hd2
  have kz := kw3.trans kw7
  have hKz := Kp.refl [] w7
  clear l0 l1 l2 l4 mb mc md o0 o2 qA qB qC gA1 gA2 gB2 gC2 jw4 jw5 jw6 jw7 qw4 qw5 qw6 qw7 kw4 kw5 kw6 kw7 hK0 h1 h3 kw3 hK3
  refine wpB_begin 999 (Kp [] w7) (by kernel_rfl) (by exact hKz.drew) (fun hHeld => ?_)
  refine wpB_take 0 _ ?_ rfl (by kernel_rfl) (fun _ _ _ h => h) rfl hHeld ?_ ?_
  rotate_left
  · (intro W hW; go_simp; try with_reducible rfl)
  try simp only [Act.put, List.setIfInBounds_toArray, List.set_cons_zero, List.set_cons_succ]
  refine wpB_take 1 _ ?_ rfl (by kernel_rfl) (fun _ _ _ h => h) rfl hHeld ?_ ?_
  rotate_left
  · (intro W hW; go_simp; try with_reducible rfl)
  try simp only [Act.put, List.setIfInBounds_toArray, List.set_cons_zero, List.set_cons_succ]
  refine wpB_take 2 _ ?_ rfl (by kernel_rfl) (fun _ _ _ h => h) rfl hHeld ?_ ?_
  rotate_left
  · (intro W hW; go_simp; try with_reducible rfl)
  try simp only [Act.put, List.setIfInBounds_toArray, List.set_cons_zero, List.set_cons_succ]
  refine wpB_take 3 _ ?_ rfl (by kernel_rfl) (fun _ _ _ h => h) rfl hHeld ?_ ?_
  rotate_left
  · (intro W hW; go_simp; try with_reducible rfl)
  try simp only [Act.put, List.setIfInBounds_toArray, List.set_cons_zero, List.set_cons_succ]
  refine wpB_skip 4 _ rfl (by kernel_rfl) (fun _ _ _ h => h) rfl hHeld ?_
  try simp only [Act.put, List.setIfInBounds_toArray, List.set_cons_zero, List.set_cons_succ]
  refine wpB_skip 5 _ rfl (by kernel_rfl) (fun _ _ _ h => h) rfl hHeld ?_
  try simp only [Act.put, List.setIfInBounds_toArray, List.set_cons_zero, List.set_cons_succ]
  refine wpB_skip 6 _ rfl (by kernel_rfl) (fun _ _ _ h => h) rfl hHeld ?_
  try simp only [Act.put, List.setIfInBounds_toArray, List.set_cons_zero, List.set_cons_succ]
  refine wpB_skip 7 _ rfl (by kernel_rfl) (fun _ _ _ h => h) rfl hHeld ?_
  try simp only [Act.put, List.setIfInBounds_toArray, List.set_cons_zero, List.set_cons_succ]
  refine wpB_skip 8 _ rfl (by kernel_rfl) (fun _ _ _ h => h) rfl hHeld ?_
  try simp only [Act.put, List.setIfInBounds_toArray, List.set_cons_zero, List.set_cons_succ]
  refine wpB_skip 9 _ rfl (by kernel_rfl) (fun _ _ _ h => h) rfl hHeld ?_
  try simp only [Act.put, List.setIfInBounds_toArray, List.set_cons_zero, List.set_cons_succ]
  refine wpB_skip 10 _ rfl (by kernel_rfl) (fun _ _ _ h => h) rfl hHeld ?_
  try simp only [Act.put, List.setIfInBounds_toArray, List.set_cons_zero, List.set_cons_succ]
  refine wpB_skip 11 _ rfl (by kernel_rfl) (fun _ _ _ h => h) rfl hHeld ?_
  try simp only [Act.put, List.setIfInBounds_toArray, List.set_cons_zero, List.set_cons_succ]
  refine wpB_skip 12 _ rfl (by kernel_rfl) (fun _ _ _ h => h) rfl hHeld ?_
  try simp only [Act.put, List.setIfInBounds_toArray, List.set_cons_zero, List.set_cons_succ]
  refine wpB_skip 13 _ rfl (by kernel_rfl) (fun _ _ _ h => h) rfl hHeld ?_
  try simp only [Act.put, List.setIfInBounds_toArray, List.set_cons_zero, List.set_cons_succ]
  refine wpB_skip 14 _ rfl (by kernel_rfl) (fun _ _ _ h => h) rfl hHeld ?_
  try simp only [Act.put, List.setIfInBounds_toArray, List.set_cons_zero, List.set_cons_succ]
  refine wpB_skip 15 _ rfl (by kernel_rfl) (fun _ _ _ h => h) rfl hHeld ?_
  try simp only [Act.put, List.setIfInBounds_toArray, List.set_cons_zero, List.set_cons_succ]
  refine wpB_skip 16 _ rfl (by kernel_rfl) (fun _ _ _ h => h) rfl hHeld ?_
  try simp only [Act.put, List.setIfInBounds_toArray, List.set_cons_zero, List.set_cons_succ]
  refine wpB_skip 17 _ rfl (by kernel_rfl) (fun _ _ _ h => h) rfl hHeld ?_
  try simp only [Act.put, List.setIfInBounds_toArray, List.set_cons_zero, List.set_cons_succ]
  refine wpB_take 18 _ ?_ rfl (by kernel_rfl) (fun _ _ _ h => h) rfl hHeld ?_ ?_
  rotate_left
  · (intro W hW; go_simp; try with_reducible rfl)
  try simp only [Act.put, List.setIfInBounds_toArray, List.set_cons_zero, List.set_cons_succ]
  refine wpB_take 19 _ ?_ rfl (by kernel_rfl) (fun _ _ _ h => h) rfl hHeld ?_ ?_
  rotate_left
  · (intro W hW; go_simp; try with_reducible rfl)
  try simp only [Act.put, List.setIfInBounds_toArray, List.set_cons_zero, List.set_cons_succ]
  refine wpB_done (by kernel_rfl) ?_ _
  have hg1 : (x.vol xc).1.len = q2 := by rw [← HQ.out]
  have hg2 : (x.vol xd).1.len = r2 := by rw [← HRR.out]
  have HG1 := Lib.hid hg1
  have HG2 := Lib.hid hg2
  clear hg1 hg2
  cases hb1 : s1 with
  | false =>
    have hs : (aGet xc x.V).isSome = false := by rw [← HS1.out]; exact hb1
    have hr : R = 9 := by rw [HR.out]; unfold Ix.may; rw [HCK.out]; simp [hs]
    have HRZ := Lib.hid hr
    clear hr
    go_wp2_with fail
    go_ret
    exact ⟨by rw [HRZ.out]; rfl, kz.trans hHeld⟩
  | true =>
    have hs : (aGet xc x.V).isSome = true := by rw [← HS1.out]; exact hb1
    cases hb2 : s2 with
    | false =>
      have hs2 : (aGet xd x.V).isSome = false := by rw [← HS2.out]; exact hb2
      have hr : R = 9 := by rw [HR.out]; unfold Ix.may; rw [HCK.out]; simp [hs, hs2]
      have HRZ := Lib.hid hr
      clear hr
      go_wp2_with fail
      go_ret
      exact ⟨by rw [HRZ.out]; rfl, kz.trans hHeld⟩
    | true =>
      have hs2 : (aGet xd x.V).isSome = true := by rw [← HS2.out]; exact hb2
      go_wp2_with fail
      cases hhd : has x.H x2 with
      | true =>
        rw [hhd] at lh
        refine wpB_begin 999 (Kp [] w7) (by kernel_rfl) (by exact hHeld.drew) (fun hHeld => ?_)
        refine wpB_take 0 _ ?_ rfl (by kernel_rfl) (fun _ _ _ h => h) rfl hHeld ?_ ?_
        rotate_left
        · (intro W hW; go_simp; try with_reducible rfl)
        try simp only [Act.put, List.setIfInBounds_toArray, List.set_cons_zero, List.set_cons_succ]
        refine wpB_take 1 _ ?_ rfl (by kernel_rfl) (fun _ _ _ h => h) rfl hHeld ?_ ?_
        rotate_left
        · (intro W hW; go_simp; try with_reducible rfl)
        try simp only [Act.put, List.setIfInBounds_toArray, List.set_cons_zero, List.set_cons_succ]
        refine wpB_take 2 _ ?_ rfl (by kernel_rfl) (fun _ _ _ h => h) rfl hHeld ?_ ?_
        rotate_left
        · (intro W hW; go_simp; try with_reducible rfl)
        try simp only [Act.put, List.setIfInBounds_toArray, List.set_cons_zero, List.set_cons_succ]
        refine wpB_take 3 _ ?_ rfl (by kernel_rfl) (fun _ _ _ h => h) rfl hHeld ?_ ?_
        rotate_left
        · (intro W hW; go_simp; try with_reducible rfl)
        try simp only [Act.put, List.setIfInBounds_toArray, List.set_cons_zero, List.set_cons_succ]
        refine wpB_take 4 _ ?_ rfl (by kernel_rfl) (fun _ _ _ h => h) rfl hHeld ?_ ?_
        rotate_left
        · (intro W hW; go_simp; try with_reducible rfl)
        try simp only [Act.put, List.setIfInBounds_toArray, List.set_cons_zero, List.set_cons_succ]
        refine wpB_take 5 _ ?_ rfl (by kernel_rfl) (fun _ _ _ h => h) rfl hHeld ?_ ?_
        rotate_left
        · (intro W hW; go_simp; try with_reducible rfl)
        try simp only [Act.put, List.setIfInBounds_toArray, List.set_cons_zero, List.set_cons_succ]
        refine wpB_take 6 _ ?_ rfl (by kernel_rfl) (fun _ _ _ h => h) rfl hHeld ?_ ?_
        rotate_left
        · (intro W hW; go_simp; try with_reducible rfl)
        try simp only [Act.put, List.setIfInBounds_toArray, List.set_cons_zero, List.set_cons_succ]
        refine wpB_take 7 _ ?_ rfl (by kernel_rfl) (fun _ _ _ h => h) rfl hHeld ?_ ?_
        rotate_left
        · (intro W hW; go_simp; try with_reducible rfl)
        try simp only [Act.put, List.setIfInBounds_toArray, List.set_cons_zero, List.set_cons_succ]
        refine wpB_take 8 _ ?_ rfl (by kernel_rfl) (fun _ _ _ h => h) rfl hHeld ?_ ?_
        rotate_left
        · (intro W hW; go_simp; try with_reducible rfl)
        try simp only [Act.put, List.setIfInBounds_toArray, List.set_cons_zero, List.set_cons_succ]
        refine wpB_take 9 _ ?_ rfl (by kernel_rfl) (fun _ _ _ h => h) rfl hHeld ?_ ?_
        rotate_left
        · (intro W hW; go_simp; try with_reducible rfl)
        try simp only [Act.put, List.setIfInBounds_toArray, List.set_cons_zero, List.set_cons_succ]
        refine wpB_take 10 _ ?_ rfl (by kernel_rfl) (fun _ _ _ h => h) rfl hHeld ?_ ?_
        rotate_left
        · (intro W hW; go_simp; try with_reducible rfl)
        try simp only [Act.put, List.setIfInBounds_toArray, List.set_cons_zero, List.set_cons_succ]
        refine wpB_take 11 _ ?_ rfl (by kernel_rfl) (fun _ _ _ h => h) rfl hHeld ?_ ?_
        rotate_left
        · (intro W hW; go_simp; try with_reducible rfl)
        try simp only [Act.put, List.setIfInBounds_toArray, List.set_cons_zero, List.set_cons_succ]
        refine wpB_take 12 _ ?_ rfl (by kernel_rfl) (fun _ _ _ h => h) rfl hHeld ?_ ?_
        rotate_left
        · (intro W hW; go_simp; try with_reducible rfl)
        try simp only [Act.put, List.setIfInBounds_toArray, List.set_cons_zero, List.set_cons_succ]
        refine wpB_done (by kernel_rfl) ?_ _
        have hr : R = 13 := by rw [HR.out]; unfold Ix.may; rw [HCK.out]; simp [hs, hs2, hhd]
        have HRZ := Lib.hid hr
        clear hr
        go_wp2_with fail
        go_ret
        exact ⟨by rw [HRZ.out]; rfl, kz.trans hHeld⟩
      | false =>
        rw [hhd] at lh
        refine wpB_begin 999 (Kp [] w7) (by kernel_rfl) (by exact hHeld.drew) (fun hHeld => ?_)
        refine wpB_take 0 _ ?_ rfl (by kernel_rfl) (fun _ _ _ h => h) rfl hHeld ?_ ?_
        rotate_left
        · (intro W hW; go_simp; try with_reducible rfl)
        try simp only [Act.put, List.setIfInBounds_toArray, List.set_cons_zero, List.set_cons_succ]
        refine wpB_take 1 _ ?_ rfl (by kernel_rfl) (fun _ _ _ h => h) rfl hHeld ?_ ?_
        rotate_left
        · (intro W hW; go_simp; try with_reducible rfl)
        try simp only [Act.put, List.setIfInBounds_toArray, List.set_cons_zero, List.set_cons_succ]
        refine wpB_take 2 _ ?_ rfl (by kernel_rfl) (fun _ _ _ h => h) rfl hHeld ?_ ?_
        rotate_left
        · (intro W hW; go_simp; try with_reducible rfl)
        try simp only [Act.put, List.setIfInBounds_toArray, List.set_cons_zero, List.set_cons_succ]
        refine wpB_take 3 _ ?_ rfl (by kernel_rfl) (fun _ _ _ h => h) rfl hHeld ?_ ?_
        rotate_left
        · (intro W hW; go_simp; try with_reducible rfl)
        try simp only [Act.put, List.setIfInBounds_toArray, List.set_cons_zero, List.set_cons_succ]
        refine wpB_take 4 _ ?_ rfl (by kernel_rfl) (fun _ _ _ h => h) rfl hHeld ?_ ?_
        rotate_left
        · (intro W hW; go_simp; try with_reducible rfl)
        try simp only [Act.put, List.setIfInBounds_toArray, List.set_cons_zero, List.set_cons_succ]
        refine wpB_take 5 _ ?_ rfl (by kernel_rfl) (fun _ _ _ h => h) rfl hHeld ?_ ?_
        rotate_left
        · (intro W hW; go_simp; try with_reducible rfl)
        try simp only [Act.put, List.setIfInBounds_toArray, List.set_cons_zero, List.set_cons_succ]
        refine wpB_take 6 _ ?_ rfl (by kernel_rfl) (fun _ _ _ h => h) rfl hHeld ?_ ?_
        rotate_left
        · (intro W hW; go_simp; try with_reducible rfl)
        try simp only [Act.put, List.setIfInBounds_toArray, List.set_cons_zero, List.set_cons_succ]
        refine wpB_take 7 _ ?_ rfl (by kernel_rfl) (fun _ _ _ h => h) rfl hHeld ?_ ?_
        rotate_left
        · (intro W hW; go_simp; try with_reducible rfl)
        try simp only [Act.put, List.setIfInBounds_toArray, List.set_cons_zero, List.set_cons_succ]
        refine wpB_take 8 _ ?_ rfl (by kernel_rfl) (fun _ _ _ h => h) rfl hHeld ?_ ?_
        rotate_left
        · (intro W hW; go_simp; try with_reducible rfl)
        try simp only [Act.put, List.setIfInBounds_toArray, List.set_cons_zero, List.set_cons_succ]
        refine wpB_take 9 _ ?_ rfl (by kernel_rfl) (fun _ _ _ h => h) rfl hHeld ?_ ?_
        rotate_left
        · (intro W hW; go_simp; try with_reducible rfl)
        try simp only [Act.put, List.setIfInBounds_toArray, List.set_cons_zero, List.set_cons_succ]
        refine wpB_take 10 _ ?_ rfl (by kernel_rfl) (fun _ _ _ h => h) rfl hHeld ?_ ?_
        rotate_left
        · (intro W hW; go_simp; try with_reducible rfl)
        try simp only [Act.put, List.setIfInBounds_toArray, List.set_cons_zero, List.set_cons_succ]
        refine wpB_take 11 _ ?_ rfl (by kernel_rfl) (fun _ _ _ h => h) rfl hHeld ?_ ?_
        rotate_left
        · (intro W hW; go_simp; try with_reducible rfl)
        try simp only [Act.put, List.setIfInBounds_toArray, List.set_cons_zero, List.set_cons_succ]
        refine wpB_take 12 _ ?_ rfl (by kernel_rfl) (fun _ _ _ h => h) rfl hHeld ?_ ?_
        rotate_left
        · (intro W hW; go_simp; try with_reducible rfl)
        try simp only [Act.put, List.setIfInBounds_toArray, List.set_cons_zero, List.set_cons_succ]
        refine wpB_done (by kernel_rfl) ?_ _
        have hwr := wrap_id (q2 + r2) (by omega) (by omega)
        by_cases hl2 : x4 = q2 + r2
        · have hlb : (x4 != q2 + r2) = false := by simp [hl2]
          have hr : R = 0 := by rw [HR.out]; unfold Ix.may; rw [HCK.out]; simp [hs, hs2, hhd, HG1.out, HG2.out, hl2]
          have HRZ := Lib.hid hr
          clear hr
          go_wp2_with fail
          go_ret
          exact ⟨by rw [HRZ.out]; rfl, kz.trans hHeld⟩
        · have hlb : (x4 != q2 + r2) = true := by simp [hl2]
          have hr : R = 1 := by rw [HR.out]; unfold Ix.may; rw [HCK.out]; simp [hs, hs2, hhd, HG1.out, HG2.out, hl2]
          have HRZ := Lib.hid hr
          clear hr
          go_wp2_with fail
          go_ret
          exact ⟨by rw [HRZ.out]; rfl, kz.trans hHeld⟩
theorem imay {I : Ib} {x : Ix} (hf : Fit x) (c : RecD) (lv : Value) (B : Nat) (w : World) (h : IxAt I w x) (hl : LocsAt B w lv c.vol.locs) (hz : c.vol.locs.length ≤ 1000) (h6 : c.ent.key.size < 16384) (hxb : c.key.size < 16384) :
    Calls Tryz.prog 8 #[I.p, .agg (RecV c lv)] w fun e w' => e = .returned (.int .i64 (x.may c)) ∧ Kp [] w w' := by
  obtain ⟨la, lc, rfl⟩ := slice_ex hl
  obtain ⟨x0, x1, ⟨x2, x3, x4, lx⟩, ⟨x6, x7, x8, x9, xa⟩, xb, xc, xd⟩ := c
  simp only [RecV]
  simp only at hl hz h6 hxb
  by_cases hc : recCheck ⟨x0, x1, ⟨x2, x3, x4, lx⟩, ⟨x6, x7, x8, x9, xa⟩, xb, xc, xd⟩ = 0
  · have hk := inB_true (check_zero hc).kind
    simp only at hk
    have : x1 = 0 ∨ x1 = 1 ∨ x1 = 2 ∨ x1 = 3 := by omega
    rcases this with rfl | rfl | rfl | rfl
    · exact imay0 hf x0 x2 x3 x4 x7 x8 x9 xc xd lx x6 xa xb la lc B w h hl hz h6 hxb hc
    · exact imay1 hf x0 x2 x3 x4 x7 x8 x9 xc xd lx x6 xa xb la lc B w h hl hz h6 hxb hc
    · exact imay2 hf x0 x2 x3 x4 x7 x8 x9 xc xd lx x6 xa xb la lc B w h hl hz h6 hxb hc
    · exact imay3 hf x0 x2 x3 x4 x7 x8 x9 xc xd lx x6 xa xb la lc B w h hl hz h6 hxb hc
  · exact imay_no hf x0 x1 x2 x3 x4 x7 x8 x9 xc xd lx x6 xa xb la lc B w h hl hz h6 hxb hc
end Go.Proofs.YtdhhddifmkijhaaGreat
