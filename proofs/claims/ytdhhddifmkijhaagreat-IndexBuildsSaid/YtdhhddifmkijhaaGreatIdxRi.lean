/-
  The document's index: remove.
-/
import Derived.Test.YtdhhddifmkijhaaGreatIdxRh
namespace Go.Proofs.YtdhhddifmkijhaaGreat
open Go.RowKit Go.ChangeMaps Go.Maps Go.WideShapes Go.WideMaps Go.WideElems Go.MapKept Go.ChangeShapes

theorem Tryz.infoE' : (Tryz.prog.info? 38).map (fun i => (i.zero, i.size, i.bytes)) = some (some (.agg #[.string ByteArray.empty, .int .i64 0, .int .i64 0, .int .i64 0, .string ByteArray.empty]), 5, 56) := by kernel_rfl
theorem Tryz.infoS' : (Tryz.prog.info? 9).map (fun i => (i.zero, i.size, i.bytes)) = some (some (.string ByteArray.empty), 1, 16) := by kernel_rfl
theorem Tryz.underlyingE' : Tryz.prog.underlying 28 = some (.slice 38) := by kernel_rfl
theorem Tryz.underlyingS' : Tryz.prog.underlying 23 = some (.slice 9) := by kernel_rfl
theorem oneCell_ent (a : ByteArray) (b c d : Int) (e : ByteArray) : ∀ u, u ∈ [Value.string a, .int .i64 b, .int .i64 c, .int .i64 d, .string e] → u.oneCell' = true := by
  intro u hu
  simp only [List.mem_cons, List.not_mem_nil, or_false] at hu
  rcases hu with rfl | rfl | rfl | rfl | rfl <;> rfl
theorem one_str1 {s : ByteArray} : ∀ u, u ∈ [Value.string s] → u.oneCell' = true := by
  intro u hu
  simp only [List.mem_singleton] at hu
  subst hu; rfl
/-- the entries but a key's -/
def dropE (key : ByteArray) (l : List EntD) : List EntD := l.filter fun e => !decide (e.key = key)
def Rx.without (k : Rx) (id : Int) : List VolD := k.V.filter fun v => !decide (v.id = id)
def Rx.remove (k : Rx) (key : ByteArray) (id : Int) : List VolD × Rx :=
  if (dropE key k.E).any (fun e => e.vol == id) then ([], { k with E := dropE key k.E, G := k.G ++ [key] })
  else ([(k.vol id).1], { k with E := dropE key k.E, G := k.G ++ [key], V := k.without id })
theorem dropE_next (key : ByteArray) {l : List EntD} {n : Nat} (h : n < l.length) : dropE key (l.take (n + 1)) = dropE key (l.take n) ++ if l[n].key = key then [] else [l[n]] := by
  unfold dropE
  rw [take_next h, List.filter_append]
  congr 1
  by_cases h : l[n].key = key <;> simp [h]
theorem dropE_le (key : ByteArray) (l : List EntD) : (dropE key l).length ≤ l.length := List.length_filter_le _ _
theorem dropV_map (d : Int) (vls : List (VolD × Value)) : (dropV d vls).map (·.1) = (vls.map (·.1)).filter fun v => !decide (v.id = d) := by
  unfold dropV
  rw [List.filter_map]; rfl
theorem owns_ent {W : World} {base : Nat} {L : List EntD} {av : Option Addr} {cv : Nat} {q : EntD} (h : W.ownsRow base 38 5 (.slice av (L.length + 1) cv) (L.length + 1) (L.flatMap EntV ++ EntV q)) : W.ownsRow base 38 5 (.slice av (L ++ [q]).length cv) (L ++ [q]).length ((L ++ [q]).flatMap EntV) := by
  have e1 : (L ++ [q]).length = L.length + 1 := by simp
  have e2 : (L ++ [q]).flatMap EntV = L.flatMap EntV ++ EntV q := by rw [List.flatMap_append]; simp
  rw [e1, e2]
  exact h
theorem nil_vols (B : Nat) (W : World) : VolsAt B W (.slice none 0 0) [] := ⟨[], none, 0, rfl, rfl, ⟨rfl, none, 0, rfl, fun h => absurd h (by decide)⟩, by simp⟩
theorem one_vols {B : Nat} {W : World} {v : VolD} {la : Option Addr} {lc : Nat} (hl : LocsAt B W (.slice la v.locs.length lc) v.locs) : VolsAt (W.heap.size + 1) (W.alloc (.cells #[.int .i64 v.id, .int .i64 v.gen, .int .i64 v.len, .slice la v.locs.length lc] 36)) (.slice (some ⟨W.heap.size, 0, none⟩) 1 1) [v] := by
  have hk : Kp [] W (W.alloc (.cells #[.int .i64 v.id, .int .i64 v.gen, .int .i64 v.len, .slice la v.locs.length lc] 36)) := (Kp.refl _ _).alloc _
  refine ⟨[(v, .slice la v.locs.length lc)], _, 1, rfl, rfl, slice_new W 36 (volC (v, .slice la v.locs.length lc)) 4 1 rfl, fun q hq => ?_⟩
  rw [List.mem_singleton] at hq
  subst hq
  obtain ⟨h0, av, cap, hv, hi⟩ := hl.keep0 hk
  exact ⟨h0, av, cap, hv, fun hn => by
    obtain ⟨b, o, e1, e2, e3, e4, e5⟩ := hi hn
    have hb : b < W.heap.size := by
      obtain ⟨-, av2, cap2, hv2, hi2⟩ := hl
      obtain ⟨b2, o2, f1, -, -, f4, -⟩ := hi2 hn
      rw [hv2] at hv
      simp only [Value.slice.injEq] at hv
      rw [f1, e1] at hv
      simp only [Option.some.injEq, Addr.mk.injEq] at hv
      omega
    exact ⟨b, o, e1, e2, by omega, e4, e5⟩⟩
set_option maxHeartbeats 4000000 in
set_option maxRecDepth 20000 in
theorem kremove {B kb : Nat} {k : Rx} (key : ByteArray) (w : World) (h : RIn B kb w k) (hzE : k.E.length ≤ 900) (hzG : k.G.length ≤ 900) (hzV : k.V.length ≤ 900) (i : Nat) (hi : k.entry key = some i) (hil : i < k.E.length) (id : Int) (hid : k.E[i].vol = id) :
    Calls Tryz.prog 36 #[.pointer (some ⟨kb, 0, none⟩), .string key] w fun e w' => ∃ v, e = .returned v ∧ VolsAt w'.heap.size w' v (k.remove key id).1 ∧ RIn B kb w' (k.remove key id).2 ∧ Turn B w w' := by
  obtain ⟨i0, hi0, hz0, hz1, hz2⟩ := info_parts Tryz.infoE'
  obtain ⟨j0, hj, hy0, hy1, hy2⟩ := info_parts Tryz.infoS'
  have hri := h
  obtain ⟨eA, eC, gA, gC, vA, vC, hA, hC, hat⟩ := h.open
  have hen := fun W (k0 : Kp [] w W) => kentry key W (hri.keep0 k0) (by omega)
  rw [hi] at hen
  simp only [placeI] at hen
  have hes := SliceAt.of_owns hat.ents
  obtain ⟨g, o, c, hv', -, e1, -, -, -⟩ := ent_at hes i hil
  simp only [Value.slice.injEq] at hv'
  obtain ⟨rfl, -, rfl⟩ := hv'
  rw [hid] at e1
  have u1 := Kp.cellAt (X := []) e1 (by simp)
  have c0 := Kp.cellAt (X := []) (cell_of_cells (o := 0) hat.top rfl) (by simp)
  have hlow := hat.low
  have hkl := lt_of_block hat.top
  have hiI : (i : Int) < (k.E.length : Int) := by omega
  have hi00 : (0 : Int) ≤ (i : Int) := by omega
  have hK0 := Kp.refl [] w
  have HI := Lib.hid hi
  have HID := Lib.hid hid
  clear e1 hi hid
  go_enter Tryz.func36, Tryz.ntmps36
  go_wp2_with fail
  refine wpB_begin 999 (Kp [] w) (by kernel_rfl) (by exact hK0.drew) (fun hHeld => ?_)
  refine wpB_take 0 _ ?_ rfl (by kernel_rfl) (fun _ _ _ h => h) rfl hHeld ?_ ?_
  rotate_left
  · (intro W hW; go_simp; try with_reducible rfl)
  try simp only [Act.put, List.setIfInBounds_toArray, List.set_cons_zero, List.set_cons_succ]
  refine wpB_take 1 _ ?_ rfl (by kernel_rfl) (fun _ _ _ h => h) rfl hHeld ?_ ?_
  rotate_left
  · (intro W hW; go_simp; try with_reducible rfl)
  try simp only [Act.put, List.setIfInBounds_toArray, List.set_cons_zero, List.set_cons_succ]
  refine wpB_take 2 _ ?_ rfl (by kernel_rfl) (fun _ _ _ h => h) rfl hHeld ?_ ?_
  rotate_left
  · (intro W hW; go_simp; try with_reducible rfl)
  try simp only [Act.put, List.setIfInBounds_toArray, List.set_cons_zero, List.set_cons_succ]
  refine wpB_take 3 _ ?_ rfl (by kernel_rfl) (fun _ _ _ h => h) rfl hHeld ?_ ?_
  rotate_left
  · (intro W hW; go_simp; try with_reducible rfl)
  try simp only [Act.put, List.setIfInBounds_toArray, List.set_cons_zero, List.set_cons_succ]
  refine wpB_take 4 _ ?_ rfl (by kernel_rfl) (fun _ _ _ h => h) rfl hHeld ?_ ?_
  rotate_left
  · (intro W hW; go_simp; try with_reducible rfl)
  try simp only [Act.put, List.setIfInBounds_toArray, List.set_cons_zero, List.set_cons_succ]
  refine wpB_take 5 _ ?_ rfl (by kernel_rfl) (fun _ _ _ h => h) rfl hHeld ?_ ?_
  rotate_left
  · (intro W hW; go_simp; try with_reducible rfl)
  try simp only [Act.put, List.setIfInBounds_toArray, List.set_cons_zero, List.set_cons_succ]
  refine wpB_step 6 _ rfl (by kernel_rfl) rfl rfl (fun K hK_ => ?_)
  go_simp
  refine (hen _ hHeld).mono ?_
  rintro e w2 ⟨rfl, k2⟩
  refine hK_.out _ _ (by exact hHeld.trans k2) (fun hHeld => ?_)
  clear hK_ K
  try simp only [Act.put, List.setIfInBounds_toArray, List.set_cons_zero, List.set_cons_succ]
  refine wpB_take 7 _ ?_ rfl (by kernel_rfl) (fun _ _ _ h => h) rfl hHeld ?_ ?_
  rotate_left
  · (intro W hW; go_simp; try with_reducible rfl)
  try simp only [Act.put, List.setIfInBounds_toArray, List.set_cons_zero, List.set_cons_succ]
  refine wpB_take 8 _ ?_ rfl (by kernel_rfl) (fun _ _ _ h => h) rfl hHeld ?_ ?_
  rotate_left
  · (intro W hW; go_simp; try with_reducible rfl)
  try simp only [Act.put, List.setIfInBounds_toArray, List.set_cons_zero, List.set_cons_succ]
  refine wpB_take 9 _ ?_ rfl (by kernel_rfl) (fun _ _ _ h => h) rfl hHeld ?_ ?_
  rotate_left
  · (intro W hW; go_simp; try with_reducible rfl)
  try simp only [Act.put, List.setIfInBounds_toArray, List.set_cons_zero, List.set_cons_succ]
  refine wpB_take 10 _ ?_ rfl (by kernel_rfl) (fun _ _ _ h => h) rfl hHeld ?_ ?_
  rotate_left
  · (intro W hW; go_simp; try with_reducible rfl)
  try simp only [Act.put, List.setIfInBounds_toArray, List.set_cons_zero, List.set_cons_succ]
  refine wpB_done (by kernel_rfl) ?_ _
  obtain ⟨w1, hw1⟩ : ∃ w1, w1 = w2 := ⟨_, rfl⟩
  rw [← hw1] at hHeld ⊢
  have hKw := hHeld
  have hsw := hKw.size
  have hK := Kp.refl [] w1
  have hO0 : w1.ownsRow w1.heap.size 38 5 (.slice none 0 0) 0 [] := ⟨rfl, .inl ⟨rfl, rfl⟩⟩
  clear hHeld hw1 hen k2 hK0
  go_wp2_with fail
  go_loopg [6, 7, 8] k.E.length (fun g l b i wr => ∃ (n : Nat) (av : Option Addr) (cv : Nat) (L : List EntD) (bb : Bool), n + g = k.E.length ∧ i = .int .i64 n ∧ l = .slice av L.length cv ∧ b = .bool bb ∧ Kp [] w1 wr ∧ wr.ownsRow w1.heap.size 38 5 (.slice av L.length cv) L.length (L.flatMap EntV) ∧ (L = dropE key (k.E.take n) ∧ bb = L.any (fun e => e.vol == id)))
  case atStart => exact ⟨0, none, 0, [], false, by omega, rfl, rfl, rfl, hK, hO0, rfl, rfl⟩
  case round =>
    clear hK hO0
    obtain ⟨n, av, cv, L, bb, hn, rfl, rfl, rfl, hK, hO, hL⟩ := hrel
    have HN := Lib.hid hn
    have hLz : L.length ≤ 900 := by
      have h1 := dropE_le key (k.E.take n)
      rw [List.length_take, ← hL.1] at h1
      omega
    have HL := Lib.hid hL
    clear hL
    have hsK := hK.size
    have hKr := hKw.trans hK
    by_cases hlt : n < k.E.length
    · obtain ⟨g', rfl⟩ : ∃ g', gk = g' + 1 := ⟨gk - 1, by omega⟩
      clear hn
      have hltI : (n : Int) < (k.E.length : Int) := by omega
      obtain ⟨g3, o3, c3, hv', f0, f1, f2, f3, f4⟩ := ent_at hes n hlt
      simp only [Value.slice.injEq, Option.some.injEq, Addr.mk.injEq] at hv'
      obtain ⟨⟨rfl, rfl, -⟩, -, rfl⟩ := hv'
      have htn := dropE_next key hlt
      have x0 := Kp.cellAt (X := []) f0 (by simp)
      have x1 := Kp.cellAt (X := []) f1 (by simp)
      have x2 := Kp.cellAt (X := []) f2 (by simp)
      have x3 := Kp.cellAt (X := []) f3 (by simp)
      have x4 := Kp.cellAt (X := []) f4 (by simp)
      obtain ⟨⟨y0, y1, y2, y3, y4⟩, hy⟩ : ∃ y, y = k.E[n] := ⟨_, rfl⟩
      rw [← hy] at x0 x1 x2 x3 x4 htn
      simp only at x0 x1 x2 x3 x4 htn
      clear f0 f1 f2 f3 f4 hy
      by_cases hyk : y0 = key
      · have hb := bytes_eqb hyk
        rw [if_pos hyk, List.append_nil] at htn
        have HTN := Lib.hid htn
        clear hyk htn
        go_wp2_with fail
        go_roundg g'
        case rel => exact ⟨n + 1, av, cv, L, bb, st_next HN.out, by go_num, rfl, rfl, hK, hO, by rw [HTN.out]; exact HL.out.1, HL.out.2⟩
        case measure => omega
      · have hb := bytes_ne hyk
        rw [if_neg hyk] at htn
        have HTN := Lib.hid htn
        have hge := own_block_ge hO
        clear hyk htn
        go_wp2_with (first | (at_builtin; refine wpList_append_mine _ rfl (.tmp 40) (.tmp 48) 28 rfl w1.heap.size 38 i0 (.agg #[.string ByteArray.empty, .int .i64 0, .int .i64 0, .int .i64 0, .string ByteArray.empty]) 5 56 Tryz.underlyingE' hi0 hz0 hz1 hz2 rfl (by decide) (.slice av L.length cv) L.length (L.flatMap EntV) rfl (ownsRow_keep (X := []) hO ((Kp.refl _ wr).alloc _) (fun _ _ => by simp)) ⟨wr.heap.size, 0, none⟩ 1 1 [.string y0, .int .i64 y1, .int .i64 y2, .int .i64 y3, .string y4] rfl rfl (new_cells wr _ _) (oneCell_ent _ _ _ _ _) (by unfold maxLen; omega) (by omega) (by simp; omega) ?_))
        intro v' w3 hown' hkp _ _
        obtain ⟨av3, cv3, rfl⟩ := ownsRow_ex hown'
        have k3 : Kp (Value.slice av L.length cv).ownBlock.toList wr w3 := ((Kp.refl _ wr).alloc _).trans hkp
        have hK3 : Kp [] w1 w3 := hK.step k3 (fun i hi hm => by
          rw [Option.mem_toList] at hm
          have := hge i hm
          omega)
        have hKr3 := hKw.trans hK3
        have hO4 := owns_ent (q := ⟨y0, y1, y2, y3, y4⟩) hown'
        have HO4 := Lib.hid hO4
        have hany : (L ++ [(⟨y0, y1, y2, y3, y4⟩ : EntD)]).any (fun e => e.vol == id) = (bb || (y1 == id)) := by
          rw [List.any_append, ← HL.out.2]
          simp
        have HANY := Lib.hid hany
        have hdr : L ++ [(⟨y0, y1, y2, y3, y4⟩ : EntD)] = dropE key (k.E.take (n + 1)) := by rw [HTN.out, ← HL.out.1]
        have HDR := Lib.hid hdr
        clear hkp hown' k3 hge hO4 hany hdr hKr
        cases bb with
        | true =>
          go_wp2_with fail
          go_roundg g'
          case rel => exact ⟨n + 1, av3, cv3, _, true, st_next HN.out, by go_num, by simp, rfl, hK3, HO4.out, HDR.out, HANY.out.symm⟩
          case measure => omega
        | false =>
          go_wp2_with fail
          go_roundg g'
          case rel => exact ⟨n + 1, av3, cv3, _, (y1 == id), st_next HN.out, by go_num, by simp, rfl, hK3, HO4.out, HDR.out, HANY.out.symm⟩
          case measure => omega
    · obtain rfl : n = k.E.length := by omega
      obtain rfl : gk = 0 := by omega
      have hL := HL.out
      rw [List.take_length] at hL
      have HL := Lib.hid hL
      have bt := (hKr.block kb hkl (by simp)).trans hat.top
      have ct := cell_of_cells (o := 0) bt rfl
      have c1r := cell_of_cells (o := 1) bt rfl
      have ft := frozen_of_cells bt 0
      obtain ⟨w5, hw5⟩ : ∃ w5, w5 = wr.setCell ⟨kb, 0, none⟩ (.slice av L.length cv) := ⟨_, rfl⟩
      have b5 : w5.heap[kb]? = some (.cells #[.slice av L.length cv, .slice gA k.G.length gC, .slice vA k.V.length vC, .slice hA k.H.length hC] 32 (0, 0)) := by rw [hw5, block_setCell bt]; rfl
      have k5 : Kp [kb] wr w5 := hw5 ▸ (Kp.refl _ _).setCell (.inl (by simp)) _
      have hG5 : w5.ownsRow B 9 1 (.slice gA k.G.length gC) k.G.length (k.G.map Value.string) := by
        have h1 := owns_other hat.gone hKr (fun _ _ => by simp)
        exact owns_other h1 k5 (owns_not h1 bt (by decide))
      have c1 := cell_of_cells (o := 1) b5 rfl
      have hBW : B ≤ w5.heap.size := by have := lt_of_block b5; omega
      have hsz5 : w5.heap.size = wr.heap.size := by rw [hw5]; simp
      have hGa := owns_other hG5 ((Kp.refl [] w5).alloc (.cells #[.string key] 9)) (fun _ _ => by simp)
      have hna := new_cells w5 9 [.string key]
      rw [hsz5] at hna
      have hGa' := hGa
      rw [hw5] at hGa' hna
      have hBs : B ≤ wr.heap.size := by omega
      have HW5 := Lib.hid hw5
      have HG5 := Lib.hid hG5
      clear hw5 hn hL hG5 hGa c1
      go_wp2_with (first | (at_builtin; refine wpList_append_mine _ rfl (.tmp 71) (.tmp 73) 23 rfl B 9 j0 (.string ByteArray.empty) 1 16 Tryz.underlyingS' hj hy0 hy1 hy2 rfl (by decide) (.slice gA k.G.length gC) k.G.length (k.G.map Value.string) rfl hGa' ⟨wr.heap.size, 0, none⟩ 1 1 [.string key] rfl rfl hna one_str1 (by unfold maxLen; omega) (by omega) (by simp; omega) ?_))
      have hG5 := HG5.out
      intro v' w7 hown' hkp _ _
      rw [← HW5.out] at hkp
      obtain ⟨ga7, gc7, rfl⟩ := ownsRow_ex hown'
      have k56 : Kp [] w5 (w5.alloc (.cells #[.string key] 9)) := (Kp.refl _ _).alloc _
      have hG6 := owns_other hG5 k56 (fun _ _ => by simp)
      have b6 := (k56.block kb (lt_of_block b5) (by simp)).trans b5
      have b7 := (hkp.block kb (lt_of_block b6) (fun hm => by rw [Option.mem_toList] at hm; exact owns_not hG6 b6 (by decide) kb hm (by simp))).trans b6
      have c7 := cell_of_cells (o := 1) b7 rfl
      have f7 := frozen_of_cells b7 1
      obtain ⟨w8, hw8⟩ : ∃ w8, w8 = w7.setCell ⟨kb, 1, none⟩ (.slice ga7 (k.G.length + 1) gc7) := ⟨_, rfl⟩
      have b8 : w8.heap[kb]? = some (.cells #[.slice av L.length cv, .slice ga7 (k.G.length + 1) gc7, .slice vA k.V.length vC, .slice hA k.H.length hC] 32 (0, 0)) := by rw [hw8, block_setCell b7]; rfl
      have k8 : Kp [kb] w7 w8 := hw8 ▸ (Kp.refl _ _).setCell (.inl (by simp)) _
      have keep : ∀ {e : TypeId} {b sz n : Nat} {v : Value} {xs : List Value}, wr.ownsRow b e sz v n xs → e ≠ 32 → e ≠ 9 → w8.ownsRow b e sz v n xs := fun hr he1 he2 => by
        have r5 := owns_other hr k5 (owns_not hr bt he1)
        have r6 := owns_other r5 k56 (fun _ _ => by simp)
        have r7 := owns_other r6 hkp (owns_apart r6 hG6 he2)
        exact owns_other r7 k8 (owns_not r7 b7 he1)
      have tw8 : Turn B w w8 := (Turn.of_kp hKr).trans ((Turn.of_block hlow bt k5 ⟨by decide, by decide, by decide⟩).trans ((Turn.of_kp k56).trans ((Turn.of_own hG6 (Nat.le_refl _) hkp ⟨by decide, by decide, by decide⟩).trans (Turn.of_block hlow b7 k8 ⟨by decide, by decide, by decide⟩))))
      obtain ⟨vls, hvm, hvo, hvl⟩ := hat.vols
      have hE8 := ownsRow_base (keep hO (by decide) (by decide)) (base' := B) (by omega)
      have hV8 := keep (owns_other hvo hKr (fun _ _ => by simp)) (by decide) (by decide)
      have hH8 := keep (owns_other hat.had hKr (fun _ _ => by simp)) (by decide) (by decide)
      have hG8 := owns_other hown' k8 (owns_not hown' b7 (by decide))
      have hl8 : ∀ q ∈ vls, LocsAt B w8 q.2 q.1.locs := fun q hq => tw8.locs (hvl q hq)
      have hgm : k.G.map Value.string ++ [Value.string key] = (k.G ++ [key]).map Value.string := by simp
      have hgl : (k.G ++ [key]).length = k.G.length + 1 := by simp
      rw [hgm] at hG8
      have hrin8 : RIn B kb w8 { k with E := L, G := k.G ++ [key] } := by
        refine ⟨_, _, _, _, b8, hlow, hE8, ?_, ⟨vls, hvm, hV8, hl8⟩, hH8⟩
        show w8.ownsRow B 9 1 _ (k.G ++ [key]).length _
        rw [hgl]
        exact hG8
      have HR8 := Lib.hid hrin8
      have HE8 := Lib.hid hE8
      have HG8 := Lib.hid hG8
      have HH8 := Lib.hid hH8
      have HGL := Lib.hid hgl
      have HT8 := Lib.hid tw8
      have HW8 := Lib.hid hw8
      have c8 := cell_of_cells (o := 2) b8 rfl
      have hBw8 : B ≤ w8.heap.size := by have := lt_of_block b8; omega
      clear hw8 hkp hown' hG5 hG6 hrin8 tw8 hvo hvl keep b6 hO hE8 hH8 hG8 hgm
      cases bb with
      | true =>
        have hrem : k.remove key id = ([], { k with E := L, G := k.G ++ [key] }) := by
          unfold Rx.remove
          rw [← HL.out.1, ← HL.out.2]
          rfl
        have HREM := Lib.hid hrem
        clear hrem hV8 hl8 hgl
        go_wp2_with fail
        rw [← HW8.out]
        go_ret
        exact ⟨_, rfl, by rw [HREM.out]; exact nil_vols _ _, by rw [HREM.out]; exact HR8.out, HT8.out⟩
      | false =>
        have hkv : (Rx.vol { k with E := L, G := k.G ++ [key] } id) = k.vol id := rfl
        have hvo := kvolume id w8 HR8.out (by show k.V.length ≤ 1000; omega)
        rw [hkv] at hvo
        have hrem : k.remove key id = ([(k.vol id).1], { k with E := L, G := k.G ++ [key], V := k.without id }) := by
          unfold Rx.remove
          rw [← HL.out.1, ← HL.out.2]
          rfl
        have HREM := Lib.hid hrem
        obtain ⟨⟨⟨a1, a2, a3, al⟩, er⟩, hvv⟩ : ∃ x, x = k.vol id := ⟨_, rfl⟩
        rw [← hvv] at hvo
        have HVV := Lib.hid hvv
        simp only [VolVA] at hvo
        clear hrem hkv hvv
        go_wp2_with fail
        rw [← HW8.out]
        refine hvo.mono ?_
        rintro e w9 ⟨lv, rfl, hlv, k9⟩
        obtain ⟨la, lc, rfl⟩ := slice_ex hlv
        obtain ⟨w10, hw10⟩ : ∃ w10, w10 = w9.alloc (.cells #[.int .i64 a1, .int .i64 a2, .int .i64 a3, .slice la al.length lc] 36) := ⟨_, rfl⟩
        have k10 : Kp [] w9 w10 := hw10 ▸ (Kp.refl _ _).alloc _
        have b10 : w10.heap[w9.heap.size]? = some (.cells #[.int .i64 a1, .int .i64 a2, .int .i64 a3, .slice la al.length lc] 36 (0, 0)) := by rw [hw10]; exact block_new _ _
        have k810 := k9.trans k10
        have c10 := (k810.cell (p := ⟨kb, 2, none⟩) (lt_of_block b8) (by simp)).trans c8
        have d10 := c10
        rw [hw10] at d10
        have hvn : vls.length = k.V.length := by rw [← hvm, List.length_map]
        have hV10 := owns_other hV8 k810 (fun _ _ => by simp)
        have hs10 := SliceAt.of_owns hV10
        rw [← hvn] at hs10
        have hwt := kwithout vls id (.slice vA vls.length vC) _ w10 hs10 (by omega) (vols_slices hl8)
        rw [hvn] at hwt
        have HW10 := Lib.hid hw10
        have hsz9 := k9.size
        clear hvo hw10 hs10 hV10 c10
        go_wp2_with fail
        rw [← HW10.out]
        refine hwt.mono ?_
        rintro e w11 ⟨na, nc, rfl, hN11, k11⟩
        have k811 := k810.trans k11
        have b11 := (k811.block kb (lt_of_block b8) (by simp)).trans b8
        have c11 := cell_of_cells (o := 2) b11 rfl
        have f11 := frozen_of_cells b11 2
        have hkb9 : kb < w9.heap.size := Nat.lt_of_lt_of_le (lt_of_block b8) hsz9
        obtain ⟨w12, hw12⟩ : ∃ w12, w12 = w11.setCell ⟨kb, 2, none⟩ (.slice na (dropV id vls).length nc) := ⟨_, rfl⟩
        have k12 : Kp [kb] w11 w12 := hw12 ▸ (Kp.refl _ _).setCell (.inl (by simp)) _
        have b12 : w12.heap[kb]? = some (.cells #[.slice av L.length cv, .slice ga7 (k.G.length + 1) gc7, .slice na (dropV id vls).length nc, .slice hA k.H.length hC] 32 (0, 0)) := by rw [hw12, block_setCell b11]; rfl
        have b10' := (k12.block _ (Nat.lt_of_lt_of_le (lt_of_block b10) k11.size) (by simp; omega)).trans ((k11.block _ (lt_of_block b10) (by simp)).trans b10)
        obtain ⟨z0, z1, z2, z3⟩ := read4 b10'
        rw [hw12] at z0 z1 z2 z3
        have t812 : Turn B w8 w12 := (Turn.of_kp k811).trans (Turn.of_block hlow b11 k12 ⟨by decide, by decide, by decide⟩)
        have hl12 : LocsAt B w12 (.slice la al.length lc) al := ((Turn.of_kp (k10.trans k11)).trans (Turn.of_block hlow b11 k12 ⟨by decide, by decide, by decide⟩)).locs hlv
        have hs12 : w12.heap.size = w11.heap.size := by rw [hw12]; simp
        have HW12 := Lib.hid hw12
        obtain ⟨w13, hw13⟩ : ∃ w13, w13 = w12.alloc (.cells #[.int .i64 a1, .int .i64 a2, .int .i64 a3, .slice la al.length lc] 36) := ⟨_, rfl⟩
        have k13 : Kp [] w12 w13 := hw13 ▸ (Kp.refl _ _).alloc _
        have hs13 : w13.heap.size = w12.heap.size + 1 := by rw [hw13, World.size_alloc]
        have hone := one_vols (v := ⟨a1, a2, a3, al⟩) (hl12)
        simp only at hone
        rw [← hw13, ← hs13, hs12] at hone
        have HW13 := Lib.hid hw13
        have HONE := Lib.hid hone
        have hfin : RIn B kb w13 { k with E := L, G := k.G ++ [key], V := k.without id } := by
          have keep2 : ∀ {e : TypeId} {b sz n : Nat} {v : Value} {xs : List Value}, w8.ownsRow b e sz v n xs → e ≠ 32 → w13.ownsRow b e sz v n xs := fun hr he1 => by
            have r5 := owns_other hr k811 (fun _ _ => by simp)
            exact owns_other (owns_other r5 k12 (owns_not r5 b11 he1)) k13 (fun _ _ => by simp)
          refine ⟨_, _, _, _, (k13.block kb (lt_of_block b12) (by simp)).trans b12, hlow, keep2 HE8.out (by decide), ?_, ⟨dropV id vls, by rw [dropV_map, hvm]; rfl, ?_, fun q hq => ?_⟩, keep2 HH8.out (by decide)⟩
          · show w13.ownsRow B 9 1 _ (k.G ++ [key]).length _
            rw [HGL.out]
            exact keep2 HG8.out (by decide)
          · have e1 : (k.without id).length = (dropV id vls).length := by
              have : (dropV id vls).map (·.1) = k.without id := by rw [dropV_map, hvm]; rfl
              rw [← this, List.length_map]
            show w13.ownsRow B 36 4 _ (k.without id).length _
            rw [e1]
            have hlow10 : B ≤ w10.heap.size := by have := k810.size; omega
            exact owns_other (owns_other (ownsRow_base hN11 hlow10) k12 (owns_not hN11 b11 (by decide))) k13 (fun _ _ => by simp)
          · exact ((Turn.of_kp (B := B) k13).locs (t812.locs (hl8 q (List.mem_filter.1 hq).1)))
        have HFIN := Lib.hid hfin
        have HTF := Lib.hid (HT8.out.trans (t812.trans (Turn.of_kp k13)))
        clear hwt hw12 hw13 hs12 hs13 hone hfin t812 hN11 hV8 hl8
        go_wp2_with fail
        rw [← HW12.out, ← HW13.out]
        go_ret
        exact ⟨_, rfl, by rw [HREM.out, ← HVV.out]; exact HONE.out, by rw [HREM.out]; exact HFIN.out, HTF.out⟩
end Go.Proofs.YtdhhddifmkijhaaGreat
