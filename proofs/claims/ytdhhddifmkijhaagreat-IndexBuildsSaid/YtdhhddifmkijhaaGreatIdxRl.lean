/-
  The document's index: Apply.
-/
import Derived.Test.YtdhhddifmkijhaaGreatIdxRk
namespace Go.Proofs.YtdhhddifmkijhaaGreat
open Go.RowKit Go.ChangeMaps Go.Maps Go.WideShapes Go.WideMaps Go.WideElems Go.MapKept Go.ChangeShapes

def Rx.apply (k : Rx) (r : RecD) : List VolD × Int × Rx :=
  if k.may r ≠ 0 then ([], k.may r, k)
  else if r.kind = 0 then ([], 0, { k with E := k.E ++ [r.ent], V := insD r.vol k.V, H := k.H ++ [r.vol.id] })
  else if r.kind = 1 then ((k.remove r.key (k.get r.key).1.vol).1, 0, (k.remove r.key (k.get r.key).1.vol).2)
  else if r.kind = 2 then ([(k.vol r.vol.id).1], 0, { k with V := k.V.map fun x => if x.id = r.vol.id then r.vol else x })
  else ((k.merge r.vol r.frm r.to).1, 0, (k.merge r.vol r.frm r.to).2)
set_option maxHeartbeats 4000000 in
set_option maxRecDepth 20000 in
theorem kapply_no {B kb : Nat} {k : Rx} (x0 x1 x2 x3 x4 x7 x8 x9 xc xd : Int) (lx : List (Int × Int)) (x6 xa xb : ByteArray) (la : Option Addr) (lc : Nat) (w : World)
    (h : RIn B kb w k) (hl : LocsAt B w (.slice la lx.length lc) lx) (hz : lx.length ≤ 1000) (h6 : x6.size < 16384) (hxb : xb.size < 16384) (hzE : k.E.length ≤ 900) (hzG : k.G.length ≤ 900) (hzV : k.V.length ≤ 900) (hzH : k.H.length ≤ 900) (hlen : ∀ v ∈ k.V, 0 ≤ v.len ∧ v.len ≤ 384)
    (hm : k.may ⟨x0, x1, ⟨x2, x3, x4, lx⟩, ⟨x6, x7, x8, x9, xa⟩, xb, xc, xd⟩ ≠ 0) :
    Calls Tryz.prog 12 #[.pointer (some ⟨kb, 0, none⟩), .agg #[.int .i64 x0, .int .i64 x1, .int .i64 x2, .int .i64 x3, .int .i64 x4, .slice la lx.length lc, .string x6, .int .i64 x7, .int .i64 x8, .int .i64 x9, .string xa, .string xb, .int .i64 xc, .int .i64 xd]] w fun e w' => ∃ v, e = .returned (.tuple #[v, .int .i64 (k.may ⟨x0, x1, ⟨x2, x3, x4, lx⟩, ⟨x6, x7, x8, x9, xa⟩, xb, xc, xd⟩)]) ∧ VolsAt w'.heap.size w' v [] ∧ RIn B kb w' k ∧ Turn B w w' := by
  obtain ⟨w1, hw1⟩ : ∃ w1, w1 = w.alloc (.cells #[.int .i64 x0, .int .i64 x1, .int .i64 x2, .int .i64 x3, .int .i64 x4, .slice la lx.length lc, .string x6, .int .i64 x7, .int .i64 x8, .int .i64 x9, .string xa, .string xb, .int .i64 xc, .int .i64 xd] 40) := ⟨_, rfl⟩
  have k1 : Kp [] w w1 := hw1 ▸ (Kp.refl _ _).alloc _
  have b1 : w1.heap[w.heap.size]? = some (.cells #[.int .i64 x0, .int .i64 x1, .int .i64 x2, .int .i64 x3, .int .i64 x4, .slice la lx.length lc, .string x6, .int .i64 x7, .int .i64 x8, .int .i64 x9, .string xa, .string xb, .int .i64 xc, .int .i64 xd] 40 (0, 0)) := by rw [hw1]; exact block_new _ _
  have hmy := kmay ⟨x0, x1, ⟨x2, x3, x4, lx⟩, ⟨x6, x7, x8, x9, xa⟩, xb, xc, xd⟩ (.slice la lx.length lc) w1 (h.keep0 k1) (hl.keep0 k1) hz h6 hxb hzE hzG hzV hzH hlen
  simp only [RecV] at hmy
  obtain ⟨C, hC⟩ : ∃ C, C = k.may ⟨x0, x1, ⟨x2, x3, x4, lx⟩, ⟨x6, x7, x8, x9, xa⟩, xb, xc, xd⟩ := ⟨_, rfl⟩
  rw [← hC] at hmy hm ⊢
  have hb : (C != 0) = true := by simpa using hm
  obtain ⟨f0, f1, f2, f3, f4, f5, f6, f7, f8, f9, fa, fb, fc, fd⟩ := read14 b1
  have Hw1 := Lib.hid hw1
  clear hw1 b1 hC hm
  go_enter Tryz.func12, Tryz.ntmps12
  go_wp2_with fail
  rw [← Hw1.out]
  refine hmy.mono ?_
  rintro e w2 ⟨rfl, k2⟩
  have hk := k1.trans k2
  clear hmy
  go_wp2_with fail
  go_ret2
  exact ⟨_, rfl, nil_vols _ _, h.keep0 hk, Turn.of_kp hk⟩
set_option maxHeartbeats 4000000 in
set_option maxRecDepth 20000 in
theorem kapply0 {B kb : Nat} {k : Rx} (x0 x2 x3 x4 x7 x8 x9 xc xd : Int) (lx : List (Int × Int)) (x6 xa xb : ByteArray) (la : Option Addr) (lc : Nat) (w : World)
    (h : RIn B kb w k) (hl : LocsAt B w (.slice la lx.length lc) lx) (hz : lx.length ≤ 1000) (h6 : x6.size < 16384) (hxb : xb.size < 16384) (hzE : k.E.length ≤ 900) (hzG : k.G.length ≤ 900) (hzV : k.V.length ≤ 900) (hzH : k.H.length ≤ 900) (hlen : ∀ v ∈ k.V, 0 ≤ v.len ∧ v.len ≤ 384)
    (hm : k.may ⟨x0, 0, ⟨x2, x3, x4, lx⟩, ⟨x6, x7, x8, x9, xa⟩, xb, xc, xd⟩ = 0) :
    Calls Tryz.prog 12 #[.pointer (some ⟨kb, 0, none⟩), .agg #[.int .i64 x0, .int .i64 0, .int .i64 x2, .int .i64 x3, .int .i64 x4, .slice la lx.length lc, .string x6, .int .i64 x7, .int .i64 x8, .int .i64 x9, .string xa, .string xb, .int .i64 xc, .int .i64 xd]] w fun e w' => ∃ v, e = .returned (.tuple #[v, .int .i64 0]) ∧ VolsAt w'.heap.size w' v [] ∧ RIn B kb w' { k with E := k.E ++ [⟨x6, x7, x8, x9, xa⟩], V := insD ⟨x2, x3, x4, lx⟩ k.V, H := k.H ++ [x2] } ∧ Turn B w w' := by
  obtain ⟨i0, hi0, hz0, hz1, hz2⟩ := info_parts Tryz.infoE'
  obtain ⟨w1, hw1⟩ : ∃ w1, w1 = w.alloc (.cells #[.int .i64 x0, .int .i64 0, .int .i64 x2, .int .i64 x3, .int .i64 x4, .slice la lx.length lc, .string x6, .int .i64 x7, .int .i64 x8, .int .i64 x9, .string xa, .string xb, .int .i64 xc, .int .i64 xd] 40) := ⟨_, rfl⟩
  have k1 : Kp [] w w1 := hw1 ▸ (Kp.refl _ _).alloc _
  have b1 : w1.heap[w.heap.size]? = some (.cells #[.int .i64 x0, .int .i64 0, .int .i64 x2, .int .i64 x3, .int .i64 x4, .slice la lx.length lc, .string x6, .int .i64 x7, .int .i64 x8, .int .i64 x9, .string xa, .string xb, .int .i64 xc, .int .i64 xd] 40 (0, 0)) := by rw [hw1]; exact block_new _ _
  have hmy := kmay ⟨x0, 0, ⟨x2, x3, x4, lx⟩, ⟨x6, x7, x8, x9, xa⟩, xb, xc, xd⟩ (.slice la lx.length lc) w1 (h.keep0 k1) (hl.keep0 k1) hz h6 hxb hzE hzG hzV hzH hlen
  simp only [RecV] at hmy
  rw [hm] at hmy
  obtain ⟨c0, c1, c2, c3, c4, c5, c6, c7, c8, c9, ca, cb, cc, cd⟩ := cells14 b1
  have hK := Kp.refl [] w1
  have Hw1 := Lib.hid hw1
  have hri := h.keep0 k1
  have hkw : kb < w.heap.size := by
    obtain ⟨_, _, _, _, hh⟩ := h
    exact lt_of_block hh.top
  have hws : w.heap.size < w1.heap.size := lt_of_block b1
  have hl1 := hl.keep0 k1
  clear hw1
  go_enter Tryz.func12, Tryz.ntmps12
  go_wp2_with fail
  rw [← Hw1.out]
  refine hmy.mono ?_
  rintro e w2 ⟨rfl, k2⟩
  have hK2 := hK.trans k2
  have hri2 := hri.keep0 k2
  have hl2 := hl1.keep0 k2
  have kw2 := k1.trans k2
  have b2 := (k2.block _ (lt_of_block b1) (by simp)).trans b1
  have hws2 := k2.size
  clear hmy hK
  obtain ⟨eA, eC, gA, gC, vA, vC, hA, hC, hat⟩ := hri2.open
  have hE2 := hat.ents
  have hkl := lt_of_block hat.top
  have hlow := hat.low
  obtain ⟨OWN, hOWN⟩ : ∃ OWN : List Nat, OWN = (Value.slice eA k.E.length eC).ownBlock.toList := ⟨_, rfl⟩
  have hob : ∀ g ∈ OWN, ∃ cur, w2.heap[g]? = some (.cells cur 38 (0, 0)) := fun g hg => by
    rw [hOWN, Option.mem_toList] at hg
    exact (owns_cells hE2 g hg).2
  have nkb : kb ∉ OWN := fun hm => by
    obtain ⟨cur, hc⟩ := hob _ hm
    rw [hat.top] at hc
    simp only [Option.some.injEq, Obj.cells.injEq] at hc
    exact absurd hc.2.1 (by decide)
  have nbx : w.heap.size ∉ OWN := fun hm => by
    obtain ⟨cur, hc⟩ := hob _ hm
    rw [b2] at hc
    simp only [Option.some.injEq, Obj.cells.injEq] at hc
    exact absurd hc.2.1 (by decide)
  have m1 := c1 _ hK2
  have g6 := Kp.cellAt (X := OWN) (c6 _ hK2) nbx
  have g7 := Kp.cellAt (X := OWN) (c7 _ hK2) nbx
  have g8 := Kp.cellAt (X := OWN) (c8 _ hK2) nbx
  have g9 := Kp.cellAt (X := OWN) (c9 _ hK2) nbx
  have ga := Kp.cellAt (X := OWN) (ca _ hK2) nbx
  have ge := Kp.cellAt (X := OWN) (cell_of_cells (o := 0) hat.top rfl) nkb
  have HOWN := Lib.hid hOWN
  have hBW : B ≤ w2.heap.size := by omega
  clear hOWN hob c0 c1 c2 c3 c4 c5 c6 c7 c8 c9 ca cb cc cd
  go_wp2_with fail
  refine wpB_begin 11 (Kp OWN w2) (by kernel_rfl) (by exact (Kp.refl _ _).drew) (fun hHeld => ?_)
  refine wpB_take 0 _ ?_ rfl (by kernel_rfl) (fun _ _ _ h => h) rfl hHeld ?_ ?_
  rotate_left
  · (intro W hW; go_simp; try with_reducible rfl)
  try simp only [Act.put, List.setIfInBounds_toArray, List.set_cons_zero, List.set_cons_succ]
  refine wpB_take 1 _ ?_ rfl (by kernel_rfl) (fun _ _ _ h => h) rfl hHeld ?_ ?_
  rotate_left
  · (intro W hW; go_simp; try with_reducible rfl)
  try simp only [Act.put, List.setIfInBounds_toArray, List.set_cons_zero, List.set_cons_succ]
  refine wpB_take 2 _ ?_ rfl (by kernel_rfl) (fun _ _ _ h => h) rfl hHeld ?_ ?_
  rotate_left
  · (intro W hW; go_simp; try with_reducible rfl)
  try simp only [Act.put, List.setIfInBounds_toArray, List.set_cons_zero, List.set_cons_succ]
  refine wpB_take 3 _ ?_ rfl (by kernel_rfl) (fun _ _ _ h => h) rfl hHeld ?_ ?_
  rotate_left
  · (intro W hW; go_simp; try with_reducible rfl)
  try simp only [Act.put, List.setIfInBounds_toArray, List.set_cons_zero, List.set_cons_succ]
  refine wpB_take 4 _ ?_ rfl (by kernel_rfl) (fun _ _ _ h => h) rfl hHeld ?_ ?_
  rotate_left
  · (intro W hW; go_simp; try with_reducible rfl)
  try simp only [Act.put, List.setIfInBounds_toArray, List.set_cons_zero, List.set_cons_succ]
  refine wpB_take 5 _ ?_ rfl (by kernel_rfl) (fun _ _ _ h => h) rfl hHeld ?_ ?_
  rotate_left
  · (intro W hW; go_simp; try with_reducible rfl)
  try simp only [Act.put, List.setIfInBounds_toArray, List.set_cons_zero, List.set_cons_succ]
  refine wpB_take 6 _ ?_ rfl (by kernel_rfl) (fun _ _ _ h => h) rfl hHeld ?_ ?_
  rotate_left
  · (intro W hW; go_simp; try with_reducible rfl)
  try simp only [Act.put, List.setIfInBounds_toArray, List.set_cons_zero, List.set_cons_succ]
  refine wpB_step 7 _ rfl (by kernel_rfl) rfl rfl (fun K hK_ => ?_)
  go_simp
  refine hK_.out _ _ (by first | exact hHeld | exact hHeld.call ‹_› | exact hHeld.alloc _) (fun hHeld => ?_)
  clear hK_ K
  try simp only [Act.put, List.setIfInBounds_toArray, List.set_cons_zero, List.set_cons_succ]
  refine wpB_step 8 _ rfl (by kernel_rfl) rfl rfl (fun K hK_ => ?_)
  have hk23 : Kp [] w2 ((w2.alloc (.cells #[.string x6, .int .i64 x7, .int .i64 x8, .int .i64 x9, .string xa] 38)).drew) := ((Kp.refl _ _).alloc _).drew
  refine wp_append_mine _ (.tmp 25) (.tmp 28) 28 rfl B 38 i0 (.agg #[.string ByteArray.empty, .int .i64 0, .int .i64 0, .int .i64 0, .string ByteArray.empty]) 5 56 Tryz.underlyingE' hi0 hz0 hz1 hz2 rfl (by decide) (.slice eA k.E.length eC) k.E.length (k.E.flatMap EntV) rfl (owns_other hE2 hk23 (fun _ _ => by simp)) ⟨w2.heap.size, 0, none⟩ 1 1 [.string x6, .int .i64 x7, .int .i64 x8, .int .i64 x9, .string xa] rfl rfl (new_cells w2 _ _) (oneCell_ent _ _ _ _ _) (by unfold maxLen; omega) (by omega) (by have := hHeld.size; omega) ?_
  intro v' w7 hown' hkp _ _
  refine hK_.out _ _ (by exact hHeld.trans (HOWN.out ▸ hkp)) (fun hHeld => ?_)
  clear hK_ K
  try simp only [Act.put, List.setIfInBounds_toArray, List.set_cons_zero, List.set_cons_succ]
  refine wpB_take 9 _ ?_ rfl (by kernel_rfl) (fun _ _ _ h => h) rfl hHeld ?_ ?_
  rotate_left
  · (intro W hW; go_simp; try with_reducible rfl)
  try simp only [Act.put, List.setIfInBounds_toArray, List.set_cons_zero, List.set_cons_succ]
  refine wpB_take 10 _ ?_ rfl (by kernel_rfl) (fun _ _ _ h => h) rfl hHeld ?_ ?_
  rotate_left
  · (intro W hW; go_simp; try with_reducible rfl)
  try simp only [Act.put, List.setIfInBounds_toArray, List.set_cons_zero, List.set_cons_succ]
  refine wpB_bar (fun_true) 999 _ rfl (by kernel_rfl) rfl (fun K hK_ => ?_)
  obtain ⟨ha7, hc7, rfl⟩ := ownsRow_ex hown'
  have hE6 := owns_other hE2 hk23 (fun _ _ => by simp)
  have b6 := (hk23.block kb hkl (by simp)).trans hat.top
  have b7 := (hkp.block kb (lt_of_block b6) (fun hm => by rw [Option.mem_toList] at hm; exact owns_not hE6 b6 (by decide) kb hm (by simp))).trans b6
  have c7 := cell_of_cells (o := 0) b7 rfl
  have f7 := frozen_of_cells b7 0
  go_simp
  refine hK_.out _ _ (by trivial) (fun hHeld => ?_)
  clear hK_ K
  try simp only [Act.put, List.setIfInBounds_toArray, List.set_cons_zero, List.set_cons_succ]
  refine wpB_done (by kernel_rfl) ?_ _
  have hx6 := (hk23.block _ (lt_of_block b2) (by simp)).trans b2
  have hx7 := (hkp.block _ (lt_of_block hx6) (fun hm => by rw [Option.mem_toList] at hm; exact owns_not hE6 hx6 (by decide) _ hm (by simp))).trans hx6
  obtain ⟨w8, hw8⟩ : ∃ w8, w8 = w7.setCell ⟨kb, 0, none⟩ (.slice ha7 (k.E.length + 1) hc7) := ⟨_, rfl⟩
  have b8 : w8.heap[kb]? = some (.cells #[.slice ha7 (k.E.length + 1) hc7, .slice gA k.G.length gC, .slice vA k.V.length vC, .slice hA k.H.length hC] 32 (0, 0)) := by rw [hw8, block_setCell b7]; rfl
  have k8 : Kp [kb] w7 w8 := hw8 ▸ (Kp.refl _ _).setCell (.inl (by simp)) _
  have hx8 := (k8.block _ (lt_of_block hx7) (by simp only [List.mem_singleton]; omega)).trans hx7
  have keep : ∀ {e : TypeId} {b sz n : Nat} {v : Value} {xs : List Value}, w2.ownsRow b e sz v n xs → e ≠ 32 → e ≠ 38 → w8.ownsRow b e sz v n xs := fun hr he1 he2 => by
    have r6 := owns_other hr hk23 (fun _ _ => by simp)
    have r7 := owns_other r6 hkp (owns_apart r6 hE6 he2)
    exact owns_other r7 k8 (owns_not r7 b7 he1)
  have t28 : Turn B w2 w8 := (Turn.of_kp hk23).trans ((Turn.of_own hE6 (Nat.le_refl _) hkp ⟨by decide, by decide, by decide⟩).trans (Turn.of_block hlow b7 k8 ⟨by decide, by decide, by decide⟩))
  obtain ⟨vls, hvm, hvo, hvl⟩ := hat.vols
  have hrin8 : RIn B kb w8 { k with E := k.E ++ [⟨x6, x7, x8, x9, xa⟩] } := by
    refine ⟨_, _, _, _, b8, hlow, ?_, keep hat.gone (by decide) (by decide), ⟨vls, hvm, keep hvo (by decide) (by decide), fun q hq => t28.locs (hvl q hq)⟩, keep hat.had (by decide) (by decide)⟩
    have e1 : (k.E ++ [(⟨x6, x7, x8, x9, xa⟩ : EntD)]).length = k.E.length + 1 := by simp
    show w8.ownsRow B 38 5 _ (k.E ++ [(⟨x6, x7, x8, x9, xa⟩ : EntD)]).length ((k.E ++ [(⟨x6, x7, x8, x9, xa⟩ : EntD)]).flatMap EntV)
    rw [e1, List.flatMap_append]
    exact owns_other hown' k8 (owns_not hown' b7 (by decide))
  have hly := klay ⟨x2, x3, x4, lx⟩ (.slice la lx.length lc) w8 hrin8 hzV hzH (t28.locs hl2)
  simp only [VolVA] at hly
  obtain ⟨-, -, z2, z3, z4, z5, -⟩ := read14 hx8
  have T28 := Lib.hid ((Turn.of_kp (B := B) kw2).trans t28)
  rw [hw8] at z2 z3 z4 z5
  have HW8 := Lib.hid hw8
  clear hw8 hrin8 t28 keep hown' hkp hE6 b6 b7 b8 k8 hvo hvl hE2 hx6 hx7 hx8 f7 c7
  go_wp2_with fail
  rw [← HW8.out]
  refine hly.mono ?_
  rintro e w9 ⟨rfl, hR9, t9⟩
  clear hly
  go_wp2_with fail
  go_ret2
  exact ⟨_, rfl, nil_vols _ _, hR9, T28.out.trans t9⟩
set_option maxHeartbeats 4000000 in
set_option maxRecDepth 20000 in
theorem kapply1 {B kb : Nat} {k : Rx} (x0 x2 x3 x4 x7 x8 x9 xc xd : Int) (lx : List (Int × Int)) (x6 xa xb : ByteArray) (la : Option Addr) (lc : Nat) (w : World)
    (h : RIn B kb w k) (hl : LocsAt B w (.slice la lx.length lc) lx) (hz : lx.length ≤ 1000) (h6 : x6.size < 16384) (hxb : xb.size < 16384) (hzE : k.E.length ≤ 900) (hzG : k.G.length ≤ 900) (hzV : k.V.length ≤ 900) (hzH : k.H.length ≤ 900) (hlen : ∀ v ∈ k.V, 0 ≤ v.len ∧ v.len ≤ 384)
    (hm : k.may ⟨x0, 1, ⟨x2, x3, x4, lx⟩, ⟨x6, x7, x8, x9, xa⟩, xb, xc, xd⟩ = 0) (i : Nat) (hi : k.entry xb = some i) (hil : i < k.E.length) (id : Int) (hid : k.E[i].vol = id) :
    Calls Tryz.prog 12 #[.pointer (some ⟨kb, 0, none⟩), .agg #[.int .i64 x0, .int .i64 1, .int .i64 x2, .int .i64 x3, .int .i64 x4, .slice la lx.length lc, .string x6, .int .i64 x7, .int .i64 x8, .int .i64 x9, .string xa, .string xb, .int .i64 xc, .int .i64 xd]] w fun e w' => ∃ v, e = .returned (.tuple #[v, .int .i64 0]) ∧ VolsAt w'.heap.size w' v (k.remove xb id).1 ∧ RIn B kb w' (k.remove xb id).2 ∧ Turn B w w' := by
  obtain ⟨w1, hw1⟩ : ∃ w1, w1 = w.alloc (.cells #[.int .i64 x0, .int .i64 1, .int .i64 x2, .int .i64 x3, .int .i64 x4, .slice la lx.length lc, .string x6, .int .i64 x7, .int .i64 x8, .int .i64 x9, .string xa, .string xb, .int .i64 xc, .int .i64 xd] 40) := ⟨_, rfl⟩
  have k1 : Kp [] w w1 := hw1 ▸ (Kp.refl _ _).alloc _
  have b1 : w1.heap[w.heap.size]? = some (.cells #[.int .i64 x0, .int .i64 1, .int .i64 x2, .int .i64 x3, .int .i64 x4, .slice la lx.length lc, .string x6, .int .i64 x7, .int .i64 x8, .int .i64 x9, .string xa, .string xb, .int .i64 xc, .int .i64 xd] 40 (0, 0)) := by rw [hw1]; exact block_new _ _
  have hmy := kmay ⟨x0, 1, ⟨x2, x3, x4, lx⟩, ⟨x6, x7, x8, x9, xa⟩, xb, xc, xd⟩ (.slice la lx.length lc) w1 (h.keep0 k1) (hl.keep0 k1) hz h6 hxb hzE hzG hzV hzH hlen
  simp only [RecV] at hmy
  rw [hm] at hmy
  obtain ⟨c0, c1, c2, c3, c4, c5, c6, c7, c8, c9, ca, cb, cc, cd⟩ := cells14 b1
  have hK := Kp.refl [] w1
  have Hw1 := Lib.hid hw1
  have hri := h.keep0 k1
  have hkw : kb < w.heap.size := by
    obtain ⟨_, _, _, _, hh⟩ := h
    exact lt_of_block hh.top
  have hws : w.heap.size < w1.heap.size := lt_of_block b1
  have hl1 := hl.keep0 k1
  clear hw1
  go_enter Tryz.func12, Tryz.ntmps12
  go_wp2_with fail
  rw [← Hw1.out]
  refine hmy.mono ?_
  rintro e w2 ⟨rfl, k2⟩
  have hK2 := hK.trans k2
  have hri2 := hri.keep0 k2
  have hl2 := hl1.keep0 k2
  have kw2 := k1.trans k2
  have b2 := (k2.block _ (lt_of_block b1) (by simp)).trans b1
  have hws2 := k2.size
  clear hmy hK
  have hrm := kremove xb w2 hri2 hzE hzG hzV i hi hil id hid
  have m1 := c1 _ hK2
  have mb := cb _ hK2
  clear c0 c1 c2 c3 c4 c5 c6 c7 c8 c9 ca cb cc cd
  go_wp2_with fail
  refine hrm.mono ?_
  rintro e w3 ⟨v, rfl, hv, hR3, t3⟩
  clear hrm
  go_wp2_with fail
  go_ret2
  exact ⟨_, rfl, hv, hR3, (Turn.of_kp kw2).trans t3⟩
set_option maxHeartbeats 4000000 in
set_option maxRecDepth 20000 in
theorem kapply3 {B kb : Nat} {k : Rx} (x0 x2 x3 x4 x7 x8 x9 xc xd : Int) (lx : List (Int × Int)) (x6 xa xb : ByteArray) (la : Option Addr) (lc : Nat) (w : World)
    (h : RIn B kb w k) (hl : LocsAt B w (.slice la lx.length lc) lx) (hz : lx.length ≤ 1000) (h6 : x6.size < 16384) (hxb : xb.size < 16384) (hzE : k.E.length ≤ 900) (hzG : k.G.length ≤ 900) (hzV : k.V.length ≤ 900) (hzH : k.H.length ≤ 900) (hlen : ∀ v ∈ k.V, 0 ≤ v.len ∧ v.len ≤ 384)
    (hm : k.may ⟨x0, 3, ⟨x2, x3, x4, lx⟩, ⟨x6, x7, x8, x9, xa⟩, xb, xc, xd⟩ = 0) (hoff : ∀ e ∈ k.E, 0 ≤ e.off ∧ e.off ≤ 384) (hal : 0 ≤ (k.vol xc).1.len ∧ (k.vol xc).1.len ≤ 384) :
    Calls Tryz.prog 12 #[.pointer (some ⟨kb, 0, none⟩), .agg #[.int .i64 x0, .int .i64 3, .int .i64 x2, .int .i64 x3, .int .i64 x4, .slice la lx.length lc, .string x6, .int .i64 x7, .int .i64 x8, .int .i64 x9, .string xa, .string xb, .int .i64 xc, .int .i64 xd]] w fun e w' => ∃ v, e = .returned (.tuple #[v, .int .i64 0]) ∧ VolsAt w'.heap.size w' v (k.merge ⟨x2, x3, x4, lx⟩ xc xd).1 ∧ RIn B kb w' (k.merge ⟨x2, x3, x4, lx⟩ xc xd).2 ∧ Turn B w w' := by
  obtain ⟨w1, hw1⟩ : ∃ w1, w1 = w.alloc (.cells #[.int .i64 x0, .int .i64 3, .int .i64 x2, .int .i64 x3, .int .i64 x4, .slice la lx.length lc, .string x6, .int .i64 x7, .int .i64 x8, .int .i64 x9, .string xa, .string xb, .int .i64 xc, .int .i64 xd] 40) := ⟨_, rfl⟩
  have k1 : Kp [] w w1 := hw1 ▸ (Kp.refl _ _).alloc _
  have b1 : w1.heap[w.heap.size]? = some (.cells #[.int .i64 x0, .int .i64 3, .int .i64 x2, .int .i64 x3, .int .i64 x4, .slice la lx.length lc, .string x6, .int .i64 x7, .int .i64 x8, .int .i64 x9, .string xa, .string xb, .int .i64 xc, .int .i64 xd] 40 (0, 0)) := by rw [hw1]; exact block_new _ _
  have hmy := kmay ⟨x0, 3, ⟨x2, x3, x4, lx⟩, ⟨x6, x7, x8, x9, xa⟩, xb, xc, xd⟩ (.slice la lx.length lc) w1 (h.keep0 k1) (hl.keep0 k1) hz h6 hxb hzE hzG hzV hzH hlen
  simp only [RecV] at hmy
  rw [hm] at hmy
  obtain ⟨c0, c1, c2, c3, c4, c5, c6, c7, c8, c9, ca, cb, cc, cd⟩ := cells14 b1
  have hK := Kp.refl [] w1
  have Hw1 := Lib.hid hw1
  have hri := h.keep0 k1
  have hkw : kb < w.heap.size := by
    obtain ⟨_, _, _, _, hh⟩ := h
    exact lt_of_block hh.top
  have hws : w.heap.size < w1.heap.size := lt_of_block b1
  have hl1 := hl.keep0 k1
  clear hw1
  go_enter Tryz.func12, Tryz.ntmps12
  go_wp2_with fail
  rw [← Hw1.out]
  refine hmy.mono ?_
  rintro e w2 ⟨rfl, k2⟩
  have hK2 := hK.trans k2
  have hri2 := hri.keep0 k2
  have hl2 := hl1.keep0 k2
  have kw2 := k1.trans k2
  have b2 := (k2.block _ (lt_of_block b1) (by simp)).trans b1
  have hws2 := k2.size
  clear hmy hK
  have hmg := kmerge x0 3 x2 x3 x4 x7 x8 x9 xc xd lx x6 xa xb la lc w2 hri2 hzE hzV hzH hl2 hoff hal
  obtain ⟨m0, m1, m2, m3, m4, m5, m6, m7, m8, m9, ma, mb, mc, md⟩ := read14 b2
  clear c0 c1 c2 c3 c4 c5 c6 c7 c8 c9 ca cb cc cd
  go_wp2_with fail
  refine hmg.mono ?_
  rintro e w3 ⟨v, rfl, hv, hR3, t3⟩
  clear hmg
  go_wp2_with fail
  go_ret2
  exact ⟨_, rfl, hv, hR3, (Turn.of_kp kw2).trans t3⟩
end Go.Proofs.YtdhhddifmkijhaaGreat
