/-
  The document's index: Apply, a volume's change; and the whole.
-/
import Derived.Test.YtdhhddifmkijhaaGreatIdxRl
namespace Go.Proofs.YtdhhddifmkijhaaGreat
open Go.RowKit Go.ChangeMaps Go.Maps Go.WideShapes Go.WideMaps Go.WideElems Go.MapKept Go.ChangeShapes

def setQ (q : VolD × Value) (vls : List (VolD × Value)) : List (VolD × Value) := vls.map fun x => if x.1.id = q.1.id then q else x
theorem setQ_next {q y : VolD × Value} {vls : List (VolD × Value)} {n : Nat} (h : vls.take (n + 1) = vls.take n ++ [y]) : setQ q (vls.take (n + 1)) = setQ q (vls.take n) ++ [if y.1.id = q.1.id then q else y] := by
  rw [h]; unfold setQ; rw [List.map_append]; rfl
theorem setQ_map (q : VolD × Value) (vls : List (VolD × Value)) : (setQ q vls).map (·.1) = (vls.map (·.1)).map fun x => if x.id = q.1.id then q.1 else x := by
  unfold setQ
  rw [List.map_map, List.map_map]
  apply List.map_congr_left
  intro x _
  show (if x.1.id = q.1.id then q else x).1 = if x.1.id = q.1.id then q.1 else x.1
  split <;> rfl
set_option maxHeartbeats 4000000 in
set_option maxRecDepth 20000 in
theorem kapply2 {B kb : Nat} {k : Rx} (x0 x2 x3 x4 x7 x8 x9 xc xd : Int) (lx : List (Int × Int)) (x6 xa xb : ByteArray) (la : Option Addr) (lc : Nat) (w : World)
    (h : RIn B kb w k) (hl : LocsAt B w (.slice la lx.length lc) lx) (hz : lx.length ≤ 1000) (h6 : x6.size < 16384) (hxb : xb.size < 16384) (hzE : k.E.length ≤ 900) (hzG : k.G.length ≤ 900) (hzV : k.V.length ≤ 900) (hzH : k.H.length ≤ 900) (hlen : ∀ v ∈ k.V, 0 ≤ v.len ∧ v.len ≤ 384)
    (hm : k.may ⟨x0, 2, ⟨x2, x3, x4, lx⟩, ⟨x6, x7, x8, x9, xa⟩, xb, xc, xd⟩ = 0) :
    Calls Tryz.prog 12 #[.pointer (some ⟨kb, 0, none⟩), .agg #[.int .i64 x0, .int .i64 2, .int .i64 x2, .int .i64 x3, .int .i64 x4, .slice la lx.length lc, .string x6, .int .i64 x7, .int .i64 x8, .int .i64 x9, .string xa, .string xb, .int .i64 xc, .int .i64 xd]] w fun e w' => ∃ v, e = .returned (.tuple #[v, .int .i64 0]) ∧ VolsAt w'.heap.size w' v [(k.vol x2).1] ∧ RIn B kb w' { k with V := k.V.map fun x => if x.id = x2 then ⟨x2, x3, x4, lx⟩ else x } ∧ Turn B w w' := by
  obtain ⟨i0, hi, hz0, hz1, hz2⟩ := info_parts Tryz.info36
  obtain ⟨w1, hw1⟩ : ∃ w1, w1 = w.alloc (.cells #[.int .i64 x0, .int .i64 2, .int .i64 x2, .int .i64 x3, .int .i64 x4, .slice la lx.length lc, .string x6, .int .i64 x7, .int .i64 x8, .int .i64 x9, .string xa, .string xb, .int .i64 xc, .int .i64 xd] 40) := ⟨_, rfl⟩
  have k1 : Kp [] w w1 := hw1 ▸ (Kp.refl _ _).alloc _
  have b1 : w1.heap[w.heap.size]? = some (.cells #[.int .i64 x0, .int .i64 2, .int .i64 x2, .int .i64 x3, .int .i64 x4, .slice la lx.length lc, .string x6, .int .i64 x7, .int .i64 x8, .int .i64 x9, .string xa, .string xb, .int .i64 xc, .int .i64 xd] 40 (0, 0)) := by rw [hw1]; exact block_new _ _
  have hmy := kmay ⟨x0, 2, ⟨x2, x3, x4, lx⟩, ⟨x6, x7, x8, x9, xa⟩, xb, xc, xd⟩ (.slice la lx.length lc) w1 (h.keep0 k1) (hl.keep0 k1) hz h6 hxb hzE hzG hzV hzH hlen
  simp only [RecV] at hmy
  rw [hm] at hmy
  obtain ⟨c0, c1, c2, c3, c4, c5, c6, c7, c8, c9, ca, cb, cc, cd⟩ := cells14 b1
  have hK := Kp.refl [] w1
  have Hw1 := Lib.hid hw1
  have hri := h.keep0 k1
  have hkw : kb < w.heap.size := by
    obtain ⟨_, _, _, _, hh⟩ := h
    exact lt_of_block hh.top
  have hws : w.heap.size < w1.heap.size := lt_of_block b1
  have hl1 := hl.keep0 k1
  clear hw1
  go_enter Tryz.func12, Tryz.ntmps12
  go_wp2_with fail
  rw [← Hw1.out]
  refine hmy.mono ?_
  rintro e w2 ⟨rfl, k2⟩
  have hK2 := hK.trans k2
  have hri2 := hri.keep0 k2
  have hl2 := hl1.keep0 k2
  have kw2 := k1.trans k2
  have b2 := (k2.block _ (lt_of_block b1) (by simp)).trans b1
  have hws2 := k2.size
  clear hmy hK
  have hvo := kvolume x2 w2 hri2 (by omega)
  obtain ⟨⟨⟨a1, a2, a3, al⟩, er⟩, hvv⟩ : ∃ x, x = k.vol x2 := ⟨_, rfl⟩
  rw [← hvv] at hvo
  have HVV := Lib.hid hvv
  simp only [VolVA] at hvo
  have m1 := c1 _ hK2
  have m2 := c2 _ hK2
  clear hvv
  go_wp2_with fail
  refine hvo.mono ?_
  rintro e w3 ⟨lv, rfl, hlv, k3⟩
  obtain ⟨oa, oc, rfl⟩ := slice_ex hlv
  obtain ⟨w4, hw4⟩ : ∃ w4, w4 = w3.alloc (.cells #[.int .i64 a1, .int .i64 a2, .int .i64 a3, .slice oa al.length oc] 36) := ⟨_, rfl⟩
  have k4 : Kp [] w3 w4 := hw4 ▸ (Kp.refl _ _).alloc _
  have b4 : w4.heap[w3.heap.size]? = some (.cells #[.int .i64 a1, .int .i64 a2, .int .i64 a3, .slice oa al.length oc] 36 (0, 0)) := by rw [hw4]; exact block_new _ _
  have k24 := k3.trans k4
  have hK4 := hK2.trans k24
  have kw4 := kw2.trans k24
  have hlv4 := hlv.keep0 k4
  have hl4 := hl2.keep0 k24
  obtain ⟨eA, eC, gA, gC, vA, vC, hA, hC, hat⟩ := (hri2.keep0 k24).open
  obtain ⟨vls, hvm, hvo, hvl⟩ := hat.vols
  have hvn : vls.length = k.V.length := by rw [← hvm, List.length_map]
  have hvs := SliceAt.of_owns hvo
  have hsl := vols_slices hvl
  rw [← hvn] at hvs
  have t2 := Kp.cellAt (X := []) (cell_of_cells (o := 2) hat.top rfl) (by simp)
  have d2 := Kp.cellAt (X := []) (c2 _ hK4) (by simp)
  have d3 := Kp.cellAt (X := []) (c3 _ hK4) (by simp)
  have d4 := Kp.cellAt (X := []) (c4 _ hK4) (by simp)
  have d5 := Kp.cellAt (X := []) (c5 _ hK4) (by simp)
  have hK := Kp.refl [] w4
  have hO0 : w4.ownsRow w4.heap.size 36 4 (.slice none 0 0) 0 [] := ⟨rfl, .inl ⟨rfl, rfl⟩⟩
  have hlow := hat.low
  have hkl := lt_of_block hat.top
  have hws4 := hK4.size
  have hvz : vls.length ≤ 900 := by omega
  obtain ⟨q, hq⟩ : ∃ q : VolD × Value, q = (⟨x2, x3, x4, lx⟩, .slice la lx.length lc) := ⟨_, rfl⟩
  have hqi : q.1.id = x2 := by rw [hq]
  have hqc : volC q = [.int .i64 x2, .int .i64 x3, .int .i64 x4, .slice la lx.length lc] := by rw [hq]; rfl
  have HQI := Lib.hid hqi
  have HQC := Lib.hid hqc
  have HQ := Lib.hid hq
  have HW4 := Lib.hid hw4
  have HVN := Lib.hid hvn
  rw [← hvn] at t2
  have hkb3 : kb ≠ w3.heap.size := by
    have := k3.size
    omega
  clear hw4 c0 c1 c2 c3 c4 c5 c6 c7 c8 c9 ca cb cc cd hqi hqc hq hvn
  go_wp2_with fail
  rw [← HW4.out]
  go_loopg [9, 10] vls.length (fun g l i wr => ∃ (n : Nat) (av : Option Addr) (cv : Nat) (L : List (VolD × Value)), n + g = vls.length ∧ i = .int .i64 n ∧ l = .slice av L.length cv ∧ Kp [] w4 wr ∧ wr.ownsRow w4.heap.size 36 4 (.slice av L.length cv) L.length (L.flatMap volC) ∧ L = setQ q (vls.take n))
  case atStart => exact ⟨0, none, 0, [], by omega, rfl, rfl, hK, hO0, rfl⟩
  case round =>
    clear hK hO0
    obtain ⟨n, av, cv, L, hn, rfl, rfl, hK, hO, hL⟩ := hrel
    have HN := Lib.hid hn
    have hLz : L.length ≤ 900 := by rw [hL]; unfold setQ; rw [List.length_map, List.length_take]; omega
    have HL := Lib.hid hL
    clear hL
    have hsK := hK.size
    by_cases hlt : n < vls.length
    · obtain ⟨g', rfl⟩ : ∃ g', gk = g' + 1 := ⟨gk - 1, by omega⟩
      clear hn
      have hltI : (n : Int) < (vls.length : Int) := by omega
      obtain ⟨g, o, c, hv', e0, e1, e2, e3⟩ := vols_cell hvs n hlt
      simp only [Value.slice.injEq] at hv'
      obtain ⟨rfl, -, rfl⟩ := hv'
      obtain ⟨ya, yn, yc, hy2'⟩ := hsl _ (List.getElem_mem hlt)
      have htn := setQ_next (q := q) (take_next hlt)
      rw [hy2'] at e3
      have u0 := Kp.cellAt (X := []) e0 (by simp)
      have u1 := Kp.cellAt (X := []) e1 (by simp)
      have u2 := Kp.cellAt (X := []) e2 (by simp)
      have u3 := Kp.cellAt (X := []) e3 (by simp)
      obtain ⟨⟨⟨y0, y1, y2, yl⟩, yv⟩, hy⟩ : ∃ y, y = vls[n] := ⟨_, rfl⟩
      rw [← hy] at u0 u1 u2 htn hy2'
      simp only at u0 u1 u2 hy2' htn
      subst hy2'
      rw [HQI.out, ← HL.out] at htn
      clear e0 e1 e2 e3 hy
      by_cases hyx : y0 = x2
      · have hb : (y0 == x2) = true := by simp [hyx]
        rw [if_pos hyx] at htn
        have HTN := Lib.hid htn
        clear htn hyx
        go_wp2_with fail
        refine wpB_begin 999 (Kp [] w4) (by kernel_rfl) (by exact hK.drew) (fun hHeld => ?_)
        refine wpB_take 0 _ ?_ rfl (by kernel_rfl) (fun _ _ _ h => h) rfl hHeld ?_ ?_
        rotate_left
        · (intro W hW; go_simp; try with_reducible rfl)
        try simp only [Act.put, List.setIfInBounds_toArray, List.set_cons_zero, List.set_cons_succ]
        refine wpB_take 1 _ ?_ rfl (by kernel_rfl) (fun _ _ _ h => h) rfl hHeld ?_ ?_
        rotate_left
        · (intro W hW; go_simp; try with_reducible rfl)
        try simp only [Act.put, List.setIfInBounds_toArray, List.set_cons_zero, List.set_cons_succ]
        refine wpB_take 2 _ ?_ rfl (by kernel_rfl) (fun _ _ _ h => h) rfl hHeld ?_ ?_
        rotate_left
        · (intro W hW; go_simp; try with_reducible rfl)
        try simp only [Act.put, List.setIfInBounds_toArray, List.set_cons_zero, List.set_cons_succ]
        refine wpB_take 3 _ ?_ rfl (by kernel_rfl) (fun _ _ _ h => h) rfl hHeld ?_ ?_
        rotate_left
        · (intro W hW; go_simp; try with_reducible rfl)
        try simp only [Act.put, List.setIfInBounds_toArray, List.set_cons_zero, List.set_cons_succ]
        refine wpB_take 4 _ ?_ rfl (by kernel_rfl) (fun _ _ _ h => h) rfl hHeld ?_ ?_
        rotate_left
        · (intro W hW; go_simp; try with_reducible rfl)
        try simp only [Act.put, List.setIfInBounds_toArray, List.set_cons_zero, List.set_cons_succ]
        refine wpB_take 5 _ ?_ rfl (by kernel_rfl) (fun _ _ _ h => h) rfl hHeld ?_ ?_
        rotate_left
        · (intro W hW; go_simp; try with_reducible rfl)
        try simp only [Act.put, List.setIfInBounds_toArray, List.set_cons_zero, List.set_cons_succ]
        refine wpB_take 6 _ ?_ rfl (by kernel_rfl) (fun _ _ _ h => h) rfl hHeld ?_ ?_
        rotate_left
        · (intro W hW; go_simp; try with_reducible rfl)
        try simp only [Act.put, List.setIfInBounds_toArray, List.set_cons_zero, List.set_cons_succ]
        refine wpB_take 7 _ ?_ rfl (by kernel_rfl) (fun _ _ _ h => h) rfl hHeld ?_ ?_
        rotate_left
        · (intro W hW; go_simp; try with_reducible rfl)
        try simp only [Act.put, List.setIfInBounds_toArray, List.set_cons_zero, List.set_cons_succ]
        refine wpB_take 8 _ ?_ rfl (by kernel_rfl) (fun _ _ _ h => h) rfl hHeld ?_ ?_
        rotate_left
        · (intro W hW; go_simp; try with_reducible rfl)
        try simp only [Act.put, List.setIfInBounds_toArray, List.set_cons_zero, List.set_cons_succ]
        refine wpB_take 9 _ ?_ rfl (by kernel_rfl) (fun _ _ _ h => h) rfl hHeld ?_ ?_
        rotate_left
        · (intro W hW; go_simp; try with_reducible rfl)
        try simp only [Act.put, List.setIfInBounds_toArray, List.set_cons_zero, List.set_cons_succ]
        refine wpB_take 10 _ ?_ rfl (by kernel_rfl) (fun _ _ _ h => h) rfl hHeld ?_ ?_
        rotate_left
        · (intro W hW; go_simp; try with_reducible rfl)
        try simp only [Act.put, List.setIfInBounds_toArray, List.set_cons_zero, List.set_cons_succ]
        refine wpB_take 11 _ ?_ rfl (by kernel_rfl) (fun _ _ _ h => h) rfl hHeld ?_ ?_
        rotate_left
        · (intro W hW; go_simp; try with_reducible rfl)
        try simp only [Act.put, List.setIfInBounds_toArray, List.set_cons_zero, List.set_cons_succ]
        refine wpB_done (by kernel_rfl) ?_ _
        obtain ⟨wd, hwd⟩ : ∃ wd, wd = wr.drew := ⟨_, rfl⟩
        have hOd : wd.ownsRow w4.heap.size 36 4 (.slice av L.length cv) L.length (L.flatMap volC) := by rw [hwd]; exact hO
        rw [← hwd] at hHeld ⊢
        have hK := hHeld
        have hsK := hK.size
        clear hwd hO hHeld
        have hge := own_block_ge hOd
        go_wp2_with (first | (at_builtin; refine wpList_append_mine _ rfl (.tmp 73) (.tmp 76) 29 rfl w4.heap.size 36 i0 (.agg #[.int .i64 0, .int .i64 0, .int .i64 0, .slice none 0 0]) 4 48 Tryz.underlying29 hi hz0 hz1 hz2 rfl (by decide) (.slice av L.length cv) L.length (L.flatMap volC) rfl (ownsRow_keep (X := []) hOd ((Kp.refl _ wd).alloc _) (fun _ _ => by simp)) ⟨wd.heap.size, 0, none⟩ 1 1 [.int .i64 x2, .int .i64 x3, .int .i64 x4, .slice la lx.length lc] rfl rfl (new_cells wd _ _) (oneCell_vol _ _ _ _ _ _) (by unfold maxLen; omega) (by omega) (by simp; omega) ?_))
        intro v' w5 hown' hkp _ _
        obtain ⟨av3, cv3, rfl⟩ := ownsRow_ex hown'
        have hK3 : Kp [] w4 w5 := hK.step (((Kp.refl _ wd).alloc _).trans hkp) (fun i hi hm => by
          rw [Option.mem_toList] at hm
          have := hge i hm
          omega)
        clear hkp
        have hO4 := owns_snoc (q := q) HQC.out hown'
        have HO4 := Lib.hid hO4
        clear hown' hO4 hge
        go_wp2_with fail
        go_roundg g'
        case rel => exact ⟨n + 1, av3, cv3, _, st_next HN.out, by go_num, by simp, hK3, HO4.out, HTN.out.symm⟩
        case measure => omega
      · have hb : (y0 == x2) = false := by simp [hyx]
        rw [if_neg hyx] at htn
        have HTN := Lib.hid htn
        clear htn hyx
        go_wp2_with fail
        refine wpB_begin 999 (Kp [] w4) (by kernel_rfl) (by exact hK.drew) (fun hHeld => ?_)
        refine wpB_take 0 _ ?_ rfl (by kernel_rfl) (fun _ _ _ h => h) rfl hHeld ?_ ?_
        rotate_left
        · (intro W hW; go_simp; try with_reducible rfl)
        try simp only [Act.put, List.setIfInBounds_toArray, List.set_cons_zero, List.set_cons_succ]
        refine wpB_take 1 _ ?_ rfl (by kernel_rfl) (fun _ _ _ h => h) rfl hHeld ?_ ?_
        rotate_left
        · (intro W hW; go_simp; try with_reducible rfl)
        try simp only [Act.put, List.setIfInBounds_toArray, List.set_cons_zero, List.set_cons_succ]
        refine wpB_take 2 _ ?_ rfl (by kernel_rfl) (fun _ _ _ h => h) rfl hHeld ?_ ?_
        rotate_left
        · (intro W hW; go_simp; try with_reducible rfl)
        try simp only [Act.put, List.setIfInBounds_toArray, List.set_cons_zero, List.set_cons_succ]
        refine wpB_take 3 _ ?_ rfl (by kernel_rfl) (fun _ _ _ h => h) rfl hHeld ?_ ?_
        rotate_left
        · (intro W hW; go_simp; try with_reducible rfl)
        try simp only [Act.put, List.setIfInBounds_toArray, List.set_cons_zero, List.set_cons_succ]
        refine wpB_take 4 _ ?_ rfl (by kernel_rfl) (fun _ _ _ h => h) rfl hHeld ?_ ?_
        rotate_left
        · (intro W hW; go_simp; try with_reducible rfl)
        try simp only [Act.put, List.setIfInBounds_toArray, List.set_cons_zero, List.set_cons_succ]
        refine wpB_take 5 _ ?_ rfl (by kernel_rfl) (fun _ _ _ h => h) rfl hHeld ?_ ?_
        rotate_left
        · (intro W hW; go_simp; try with_reducible rfl)
        try simp only [Act.put, List.setIfInBounds_toArray, List.set_cons_zero, List.set_cons_succ]
        refine wpB_take 6 _ ?_ rfl (by kernel_rfl) (fun _ _ _ h => h) rfl hHeld ?_ ?_
        rotate_left
        · (intro W hW; go_simp; try with_reducible rfl)
        try simp only [Act.put, List.setIfInBounds_toArray, List.set_cons_zero, List.set_cons_succ]
        refine wpB_take 7 _ ?_ rfl (by kernel_rfl) (fun _ _ _ h => h) rfl hHeld ?_ ?_
        rotate_left
        · (intro W hW; go_simp; try with_reducible rfl)
        try simp only [Act.put, List.setIfInBounds_toArray, List.set_cons_zero, List.set_cons_succ]
        refine wpB_take 8 _ ?_ rfl (by kernel_rfl) (fun _ _ _ h => h) rfl hHeld ?_ ?_
        rotate_left
        · (intro W hW; go_simp; try with_reducible rfl)
        try simp only [Act.put, List.setIfInBounds_toArray, List.set_cons_zero, List.set_cons_succ]
        refine wpB_take 9 _ ?_ rfl (by kernel_rfl) (fun _ _ _ h => h) rfl hHeld ?_ ?_
        rotate_left
        · (intro W hW; go_simp; try with_reducible rfl)
        try simp only [Act.put, List.setIfInBounds_toArray, List.set_cons_zero, List.set_cons_succ]
        refine wpB_take 10 _ ?_ rfl (by kernel_rfl) (fun _ _ _ h => h) rfl hHeld ?_ ?_
        rotate_left
        · (intro W hW; go_simp; try with_reducible rfl)
        try simp only [Act.put, List.setIfInBounds_toArray, List.set_cons_zero, List.set_cons_succ]
        refine wpB_take 11 _ ?_ rfl (by kernel_rfl) (fun _ _ _ h => h) rfl hHeld ?_ ?_
        rotate_left
        · (intro W hW; go_simp; try with_reducible rfl)
        try simp only [Act.put, List.setIfInBounds_toArray, List.set_cons_zero, List.set_cons_succ]
        refine wpB_done (by kernel_rfl) ?_ _
        obtain ⟨wd, hwd⟩ : ∃ wd, wd = wr.drew := ⟨_, rfl⟩
        have hOd : wd.ownsRow w4.heap.size 36 4 (.slice av L.length cv) L.length (L.flatMap volC) := by rw [hwd]; exact hO
        rw [← hwd] at hHeld ⊢
        have hK := hHeld
        have hsK := hK.size
        clear hwd hO hHeld
        have hge := own_block_ge hOd
        go_wp2_with (first | (at_builtin; refine wpList_append_mine _ rfl (.tmp 78) (.tmp 86) 29 rfl w4.heap.size 36 i0 (.agg #[.int .i64 0, .int .i64 0, .int .i64 0, .slice none 0 0]) 4 48 Tryz.underlying29 hi hz0 hz1 hz2 rfl (by decide) (.slice av L.length cv) L.length (L.flatMap volC) rfl (ownsRow_keep (X := []) hOd ((Kp.refl _ wd).alloc _) (fun _ _ => by simp)) ⟨wd.heap.size, 0, none⟩ 1 1 [.int .i64 y0, .int .i64 y1, .int .i64 y2, .slice ya yn yc] rfl rfl (new_cells wd _ _) (oneCell_vol _ _ _ _ _ _) (by unfold maxLen; omega) (by omega) (by simp; omega) ?_))
        intro v' w5 hown' hkp _ _
        obtain ⟨av3, cv3, rfl⟩ := ownsRow_ex hown'
        have hK3 : Kp [] w4 w5 := hK.step (((Kp.refl _ wd).alloc _).trans hkp) (fun i hi hm => by
          rw [Option.mem_toList] at hm
          have := hge i hm
          omega)
        clear hkp
        have hO4 := owns_snoc (q := (⟨y0, y1, y2, yl⟩, .slice ya yn yc)) rfl hown'
        have HO4 := Lib.hid hO4
        clear hown' hO4 hge
        go_wp2_with fail
        go_roundg g'
        case rel => exact ⟨n + 1, av3, cv3, _, st_next HN.out, by go_num, by simp, hK3, HO4.out, HTN.out.symm⟩
        case measure => omega
    · obtain rfl : n = vls.length := by omega
      obtain rfl : gk = 0 := by omega
      have hL := HL.out
      rw [List.take_length] at hL
      have bt := (hK.block kb hkl (by simp)).trans hat.top
      have ft := frozen_of_cells bt 2
      have ct := cell_of_cells (o := 2) bt rfl
      obtain ⟨w5, hw5⟩ : ∃ w5, w5 = wr.setCell ⟨kb, 2, none⟩ (.slice av L.length cv) := ⟨_, rfl⟩
      have b5 : w5.heap[kb]? = some (.cells #[.slice eA k.E.length eC, .slice gA k.G.length gC, .slice av L.length cv, .slice hA k.H.length hC] 32 (0, 0)) := by rw [hw5, block_setCell bt]; rfl
      have k5 : Kp [kb] wr w5 := hw5 ▸ (Kp.refl _ _).setCell (.inl (by simp)) _
      have t45 : Turn B w4 w5 := (Turn.of_kp hK).trans (Turn.of_block hlow bt k5 ⟨by decide, by decide, by decide⟩)
      have keep : ∀ {e : TypeId} {b sz n : Nat} {v : Value} {xs : List Value}, w4.ownsRow b e sz v n xs → e ≠ 32 → w5.ownsRow b e sz v n xs := fun hr he1 => by
        have r3 := owns_other hr hK (fun _ _ => by simp)
        exact owns_other r3 k5 (owns_not r3 bt he1)
      have hVm : L.map (·.1) = k.V.map fun x => if x.id = x2 then ⟨x2, x3, x4, lx⟩ else x := by
        rw [hL, setQ_map, hvm, HQI.out, HQ.out]
      have hl5 := t45.locs hlv4
      have hlx5 := t45.locs hl4
      have hrin5 : RIn B kb w5 { k with V := k.V.map fun x => if x.id = x2 then ⟨x2, x3, x4, lx⟩ else x } := by
        rw [← hVm]
        refine ⟨_, _, _, _, b5, hlow, keep hat.ents (by decide), keep hat.gone (by decide), ⟨L, rfl, ?_, fun z hz' => ?_⟩, keep hat.had (by decide)⟩
        · show w5.ownsRow B 36 4 _ (L.map (·.1)).length _
          rw [List.length_map]
          exact owns_other (ownsRow_base hO (by omega)) k5 (owns_not hO bt (by decide))
        · rw [hL] at hz'
          obtain ⟨z1, hz1', hz2'⟩ := List.mem_map.1 hz'
          rw [← hz2']
          split
          · rw [HQ.out]; exact hlx5
          · exact t45.locs (hvl z1 hz1')
      obtain ⟨p0, p1, p2, p3⟩ := read4 (t45.vbox b4)
      have hone := one_vols (v := ⟨a1, a2, a3, al⟩) hl5
      simp only at hone
      have hs5 : w5.heap.size = wr.heap.size := by rw [hw5]; simp
      obtain ⟨w6, hw6⟩ : ∃ w6, w6 = w5.alloc (.cells #[.int .i64 a1, .int .i64 a2, .int .i64 a3, .slice oa al.length oc] 36) := ⟨_, rfl⟩
      have k6 : Kp [] w5 w6 := hw6 ▸ (Kp.refl _ _).alloc _
      have hs6 : w6.heap.size = w5.heap.size + 1 := by rw [hw6, World.size_alloc]
      rw [← hw6, ← hs6, hs5] at hone
      have HONE := Lib.hid hone
      have HR6 := Lib.hid (hrin5.keep0 k6)
      have HT6 := Lib.hid ((Turn.of_kp (B := B) kw4).trans (t45.trans (Turn.of_kp k6)))
      rw [hw5] at p0 p1 p2 p3
      have HW5 := Lib.hid hw5
      have HW6 := Lib.hid hw6
      clear hw5 hw6 hone hrin5 t45 keep hl5 hlx5 hO hvo k5 k6 hs6 hs5 hn hL
      go_wp2_with fail
      rw [← HW5.out, ← HW6.out]
      go_ret2
      exact ⟨_, rfl, by rw [← HVV.out]; exact HONE.out, HR6.out, HT6.out⟩
theorem Rx.found {k : Rx} {key : ByteArray} {i : Nat} (h : k.entry key = some i) : ∃ hi : i < k.E.length, (k.get key).1 = k.E[i] := by
  obtain ⟨hi, hf⟩ := find_idx (p := fun e : EntD => decide (e.key = key)) (show k.E.findIdx? _ = some i from h)
  refine ⟨hi, ?_⟩
  unfold Rx.get
  rw [hf]
set_option maxHeartbeats 1000000 in
theorem kapply {B kb : Nat} {k : Rx} (r : RecD) (lv : Value) (w : World) (h : RIn B kb w k) (hl : LocsAt B w lv r.vol.locs) (hz : r.vol.locs.length ≤ 1000) (h6 : r.ent.key.size < 16384) (hxb : r.key.size < 16384) (hzE : k.E.length ≤ 900) (hzG : k.G.length ≤ 900) (hzV : k.V.length ≤ 900) (hzH : k.H.length ≤ 900) (hlen : ∀ v ∈ k.V, 0 ≤ v.len ∧ v.len ≤ 384) (hoff : ∀ e ∈ k.E, 0 ≤ e.off ∧ e.off ≤ 384) (hal : 0 ≤ (k.vol r.frm).1.len ∧ (k.vol r.frm).1.len ≤ 384) :
    Calls Tryz.prog 12 #[.pointer (some ⟨kb, 0, none⟩), .agg (RecV r lv)] w fun e w' => ∃ v, e = .returned (.tuple #[v, .int .i64 (k.apply r).2.1]) ∧ VolsAt w'.heap.size w' v (k.apply r).1 ∧ RIn B kb w' (k.apply r).2.2 ∧ Turn B w w' := by
  obtain ⟨la, lc, rfl⟩ := slice_ex hl
  obtain ⟨x0, x1, ⟨x2, x3, x4, lx⟩, ⟨x6, x7, x8, x9, xa⟩, xb, xc, xd⟩ := r
  simp only [RecV]
  simp only at hl hz h6 hxb hal
  by_cases hm : k.may ⟨x0, x1, ⟨x2, x3, x4, lx⟩, ⟨x6, x7, x8, x9, xa⟩, xb, xc, xd⟩ = 0
  · have hc : recCheck ⟨x0, x1, ⟨x2, x3, x4, lx⟩, ⟨x6, x7, x8, x9, xa⟩, xb, xc, xd⟩ = 0 := by
      apply Decidable.byContradiction
      intro hc
      unfold Rx.may at hm
      rw [if_pos hc] at hm
      exact hc hm
    have hb := inB_true (check_zero hc).kind
    simp only at hb
    have : x1 = 0 ∨ x1 = 1 ∨ x1 = 2 ∨ x1 = 3 := by omega
    rcases this with rfl | rfl | rfl | rfl
    · have he : k.apply ⟨x0, 0, ⟨x2, x3, x4, lx⟩, ⟨x6, x7, x8, x9, xa⟩, xb, xc, xd⟩ = ([], 0, { k with E := k.E ++ [⟨x6, x7, x8, x9, xa⟩], V := insD ⟨x2, x3, x4, lx⟩ k.V, H := k.H ++ [x2] }) := by
        unfold Rx.apply; simp [hm]
      rw [he]
      exact kapply0 x0 x2 x3 x4 x7 x8 x9 xc xd lx x6 xa xb la lc w h hl hz h6 hxb hzE hzG hzV hzH hlen hm
    · have he : k.apply ⟨x0, 1, ⟨x2, x3, x4, lx⟩, ⟨x6, x7, x8, x9, xa⟩, xb, xc, xd⟩ = ((k.remove xb (k.get xb).1.vol).1, 0, (k.remove xb (k.get xb).1.vol).2) := by
        unfold Rx.apply; simp [hm]
      rw [he]
      have hen : ∃ i, k.entry xb = some i := by
        cases hP : k.entry xb with
        | some i => exact ⟨i, rfl⟩
        | none => unfold Rx.may at hm; rw [hc] at hm; simp [hP] at hm
      obtain ⟨i, hi⟩ := hen
      obtain ⟨hil, hg⟩ := Rx.found hi
      exact kapply1 x0 x2 x3 x4 x7 x8 x9 xc xd lx x6 xa xb la lc w h hl hz h6 hxb hzE hzG hzV hzH hlen hm i hi hil _ (by rw [hg])
    · have he : k.apply ⟨x0, 2, ⟨x2, x3, x4, lx⟩, ⟨x6, x7, x8, x9, xa⟩, xb, xc, xd⟩ = ([(k.vol x2).1], 0, { k with V := k.V.map fun x => if x.id = x2 then ⟨x2, x3, x4, lx⟩ else x }) := by
        unfold Rx.apply; simp [hm]
      rw [he]
      exact kapply2 x0 x2 x3 x4 x7 x8 x9 xc xd lx x6 xa xb la lc w h hl hz h6 hxb hzE hzG hzV hzH hlen hm
    · have he : k.apply ⟨x0, 3, ⟨x2, x3, x4, lx⟩, ⟨x6, x7, x8, x9, xa⟩, xb, xc, xd⟩ = ((k.merge ⟨x2, x3, x4, lx⟩ xc xd).1, 0, (k.merge ⟨x2, x3, x4, lx⟩ xc xd).2) := by
        unfold Rx.apply; simp [hm]
      rw [he]
      exact kapply3 x0 x2 x3 x4 x7 x8 x9 xc xd lx x6 xa xb la lc w h hl hz h6 hxb hzE hzG hzV hzH hlen hm hoff hal
  · have he : k.apply ⟨x0, x1, ⟨x2, x3, x4, lx⟩, ⟨x6, x7, x8, x9, xa⟩, xb, xc, xd⟩ = ([], k.may ⟨x0, x1, ⟨x2, x3, x4, lx⟩, ⟨x6, x7, x8, x9, xa⟩, xb, xc, xd⟩, k) := by
      unfold Rx.apply; rw [if_pos hm]
    rw [he]
    exact kapply_no x0 x1 x2 x3 x4 x7 x8 x9 xc xd lx x6 xa xb la lc w h hl hz h6 hxb hzE hzG hzV hzH hlen hm
end Go.Proofs.YtdhhddifmkijhaaGreat
