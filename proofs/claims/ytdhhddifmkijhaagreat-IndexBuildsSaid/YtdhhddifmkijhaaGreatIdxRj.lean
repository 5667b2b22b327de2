/-
  The document's index: merge.
-/
import Derived.Test.YtdhhddifmkijhaaGreatIdxRi
namespace Go.Proofs.YtdhhddifmkijhaaGreat
open Go.RowKit Go.ChangeMaps Go.Maps Go.WideShapes Go.WideMaps Go.WideElems Go.MapKept Go.ChangeShapes

def Rx.merge (k : Rx) (v : VolD) (frm to : Int) : List VolD × Rx :=
  ([(k.vol frm).1, (k.vol to).1], { k with E := k.E.map (moved frm to v.id (k.vol frm).1.len), V := insD v ((k.V.filter fun x => !decide (x.id = frm)).filter fun x => !decide (x.id = to)), H := k.H ++ [v.id] })
theorem two_vols {B : Nat} {W : World} {a b : VolD} {la lb : Option Addr} {ca cb : Nat} (hb : B ≤ W.heap.size) (h1 : LocsAt B W (.slice la a.locs.length ca) a.locs) (h2 : LocsAt B W (.slice lb b.locs.length cb) b.locs) :
    VolsAt (W.heap.size + 1) (W.alloc (.cells #[.int .i64 a.id, .int .i64 a.gen, .int .i64 a.len, .slice la a.locs.length ca, .int .i64 b.id, .int .i64 b.gen, .int .i64 b.len, .slice lb b.locs.length cb] 36)) (.slice (some ⟨W.heap.size, 0, none⟩) 2 2) [a, b] := by
  have hk : Kp [] W (W.alloc (.cells #[.int .i64 a.id, .int .i64 a.gen, .int .i64 a.len, .slice la a.locs.length ca, .int .i64 b.id, .int .i64 b.gen, .int .i64 b.len, .slice lb b.locs.length cb] 36)) := (Kp.refl _ _).alloc _
  refine ⟨[(a, .slice la a.locs.length ca), (b, .slice lb b.locs.length cb)], _, 2, rfl, rfl, slice_new W 36 (volC (a, .slice la a.locs.length ca) ++ volC (b, .slice lb b.locs.length cb)) 4 2 rfl, fun q hq => ?_⟩
  simp only [List.mem_cons, List.not_mem_nil, or_false] at hq
  rcases hq with rfl | rfl
  · exact SliceAt.up (h1.keep0 hk) (by omega)
  · exact SliceAt.up (h2.keep0 hk) (by omega)
set_option maxHeartbeats 4000000 in
set_option maxRecDepth 20000 in
theorem kmerge {B kb : Nat} {k : Rx} (x0 x1 x2 x3 x4 x7 x8 x9 xc xd : Int) (lx : List (Int × Int)) (x6 xa xb : ByteArray) (la : Option Addr) (lc : Nat) (w : World) (h : RIn B kb w k) (hzE : k.E.length ≤ 900) (hzV : k.V.length ≤ 900) (hzH : k.H.length ≤ 900) (hl : LocsAt B w (.slice la lx.length lc) lx)
    (hoff : ∀ e ∈ k.E, 0 ≤ e.off ∧ e.off ≤ 384) (hal : 0 ≤ (k.vol xc).1.len ∧ (k.vol xc).1.len ≤ 384) :
    Calls Tryz.prog 38 #[.pointer (some ⟨kb, 0, none⟩), .agg #[.int .i64 x0, .int .i64 x1, .int .i64 x2, .int .i64 x3, .int .i64 x4, .slice la lx.length lc, .string x6, .int .i64 x7, .int .i64 x8, .int .i64 x9, .string xa, .string xb, .int .i64 xc, .int .i64 xd]] w fun e w' => ∃ v, e = .returned v ∧ VolsAt w'.heap.size w' v (k.merge ⟨x2, x3, x4, lx⟩ xc xd).1 ∧ RIn B kb w' (k.merge ⟨x2, x3, x4, lx⟩ xc xd).2 ∧ Turn B w w' := by
  obtain ⟨i0, hi0, hz0, hz1, hz2⟩ := info_parts Tryz.infoE'
  obtain ⟨w0, hw0⟩ : ∃ w0, w0 = w.alloc (.cells #[.int .i64 x0, .int .i64 x1, .int .i64 x2, .int .i64 x3, .int .i64 x4, .slice la lx.length lc, .string x6, .int .i64 x7, .int .i64 x8, .int .i64 x9, .string xa, .string xb, .int .i64 xc, .int .i64 xd] 40) := ⟨_, rfl⟩
  have k0 : Kp [] w w0 := hw0 ▸ (Kp.refl _ _).alloc _
  have b0 : w0.heap[w.heap.size]? = some (.cells #[.int .i64 x0, .int .i64 x1, .int .i64 x2, .int .i64 x3, .int .i64 x4, .slice la lx.length lc, .string x6, .int .i64 x7, .int .i64 x8, .int .i64 x9, .string xa, .string xb, .int .i64 xc, .int .i64 xd] 40 (0, 0)) := by rw [hw0]; exact block_new _ _
  obtain ⟨c0, c1, c2, c3, c4, c5, c6, c7, c8, c9, ca, cb, cc, cd⟩ := cells14 b0
  have hri := h.keep0 k0
  have hl0 := hl.keep0 k0
  have hkw : kb < w.heap.size := by
    obtain ⟨_, _, _, _, hh⟩ := h
    exact lt_of_block hh.top
  have hws : w.heap.size < w0.heap.size := lt_of_block b0
  have hva := fun W (k1 : Kp [] w0 W) => kvolume xc W (hri.keep0 k1) (by omega)
  have hvb := fun W (k1 : Kp [] w0 W) => kvolume xd W (hri.keep0 k1) (by omega)
  obtain ⟨⟨⟨a0, a1, al, als⟩, ae⟩, hva'⟩ : ∃ x, x = k.vol xc := ⟨_, rfl⟩
  obtain ⟨⟨⟨d0, d1, d2, dls⟩, de⟩, hvb'⟩ : ∃ x, x = k.vol xd := ⟨_, rfl⟩
  rw [← hva'] at hva hal
  rw [← hvb'] at hvb
  simp only [VolVA] at hva hvb
  simp only at hal
  have HVA := Lib.hid hva'
  have HVB := Lib.hid hvb'
  have hK0 := Kp.refl [] w0
  have Hw0 := Lib.hid hw0
  clear hw0 b0 hva' hvb'
  go_enter Tryz.func38, Tryz.ntmps38
  go_wp2_with fail
  rw [← Hw0.out]
  refine (hva _ hK0).mono ?_
  rintro e wa ⟨lva, rfl, hla, ka⟩
  obtain ⟨aa, ac, rfl⟩ := slice_ex hla
  obtain ⟨wb, hwb⟩ : ∃ wb, wb = wa.alloc (.cells #[.int .i64 a0, .int .i64 a1, .int .i64 al, .slice aa als.length ac] 36) := ⟨_, rfl⟩
  have kab : Kp [] wa wb := hwb ▸ (Kp.refl _ _).alloc _
  have bA : wb.heap[wa.heap.size]? = some (.cells #[.int .i64 a0, .int .i64 a1, .int .i64 al, .slice aa als.length ac] 36 (0, 0)) := by rw [hwb]; exact block_new _ _
  have k0b := ka.trans kab
  have cd' := cd _ k0b
  rw [hwb] at cd'
  have hvb1 := hvb wb k0b
  have HWB := Lib.hid hwb
  clear hva hvb hwb hK0
  go_wp2_with fail
  rw [← HWB.out]
  refine hvb1.mono ?_
  rintro e wc ⟨lvb, rfl, hlb, kc⟩
  obtain ⟨ba, bc, rfl⟩ := slice_ex hlb
  obtain ⟨w1, hw1⟩ : ∃ w1, w1 = wc.alloc (.cells #[.int .i64 d0, .int .i64 d1, .int .i64 d2, .slice ba dls.length bc] 36) := ⟨_, rfl⟩
  have kc1 : Kp [] wc w1 := hw1 ▸ (Kp.refl _ _).alloc _
  have bB : w1.heap[wc.heap.size]? = some (.cells #[.int .i64 d0, .int .i64 d1, .int .i64 d2, .slice ba dls.length bc] 36 (0, 0)) := by rw [hw1]; exact block_new _ _
  have kb1 := kc.trans kc1
  have k01 := k0b.trans kb1
  have bA1 := (kb1.block _ (lt_of_block bA) (by simp)).trans bA
  have hla1 := hla.keep0 (kab.trans kb1)
  have hlb1 := hlb.keep0 kc1
  have hlx1 := hl0.keep0 k01
  have hri1 := hri.keep0 k01
  obtain ⟨eA, eC, gA, gC, vA, vC, hA, hC, hat⟩ := hri1.open
  have hes := SliceAt.of_owns hat.ents
  have e0k := Kp.cellAt (X := []) (cell_of_cells (o := 0) hat.top rfl) (by simp)
  have fA := Kp.cellAt (X := []) (cell_of_cells (o := 2) (v := .int .i64 al) bA1 rfl) (by simp)
  have r2 := Kp.cellAt (X := []) (c2 _ k01) (by simp)
  have rc := Kp.cellAt (X := []) (cc _ k01) (by simp)
  have rd := Kp.cellAt (X := []) (cd _ k01) (by simp)
  have r3 := Kp.cellAt (X := []) (c3 _ k01) (by simp)
  have r4 := Kp.cellAt (X := []) (c4 _ k01) (by simp)
  have r5 := Kp.cellAt (X := []) (c5 _ k01) (by simp)
  have hlow := hat.low
  have hkl := lt_of_block hat.top
  have hK := Kp.refl [] w1
  have hO0 : w1.ownsRow w1.heap.size 38 5 (.slice none 0 0) 0 [] := ⟨rfl, .inl ⟨rfl, rfl⟩⟩
  have HW1 := Lib.hid hw1
  have kw1 := k0.trans k01
  have hwz1 : wa.heap.size < wc.heap.size := Nat.lt_of_lt_of_le (lt_of_block bA) kc.size
  have hwz0 := ka.size
  have hwzc : wc.heap.size < w1.heap.size := lt_of_block bB
  clear hw1 hvb1 c0 c1 c2 c3 c4 c5 c6 c7 c8 c9 ca cb cc cd cd'
  go_wp2_with fail
  rw [← HW1.out]
  go_loopg [9, 10] k.E.length (fun g l i wr => ∃ (n : Nat) (av : Option Addr) (cv : Nat) (L : List EntD), n + g = k.E.length ∧ i = .int .i64 n ∧ l = .slice av L.length cv ∧ Kp [] w1 wr ∧ wr.ownsRow w1.heap.size 38 5 (.slice av L.length cv) L.length (L.flatMap EntV) ∧ L = (k.E.take n).map (moved xc xd x2 al))
  case atStart => exact ⟨0, none, 0, [], by omega, rfl, rfl, hK, hO0, rfl⟩
  case round =>
    clear hK hO0
    obtain ⟨n, av, cv, L, hn, rfl, rfl, hK, hO, hL⟩ := hrel
    have HN := Lib.hid hn
    have hLz : L.length ≤ 900 := by rw [hL, List.length_map, List.length_take]; omega
    have HL := Lib.hid hL
    clear hL
    have hsK := hK.size
    have hKr := hK
    have hKa : ∀ o, Kp [] w1 (wr.alloc o) := fun o => hK.alloc o
    by_cases hlt : n < k.E.length
    · obtain ⟨g', rfl⟩ : ∃ g', gk = g' + 1 := ⟨gk - 1, by omega⟩
      clear hn
      have hltI : (n : Int) < (k.E.length : Int) := by omega
      obtain ⟨g3, o3, c3, hv', f0, f1, f2, f3, f4⟩ := ent_at hes n hlt
      simp only [Value.slice.injEq] at hv'
      obtain ⟨rfl, -, rfl⟩ := hv'
      have htn := take_next hlt
      have hof := hoff _ (List.getElem_mem hlt)
      have u0 := Kp.cellAt (X := []) f0 (by simp)
      have u1 := Kp.cellAt (X := []) f1 (by simp)
      have u2 := Kp.cellAt (X := []) f2 (by simp)
      have u3 := Kp.cellAt (X := []) f3 (by simp)
      have u4 := Kp.cellAt (X := []) f4 (by simp)
      obtain ⟨⟨y0, y1, y2, y3, y4⟩, hy⟩ : ∃ y, y = k.E[n] := ⟨_, rfl⟩
      rw [← hy] at u0 u1 u2 u3 u4 htn hof
      simp only at u0 u1 u2 u3 u4 hof
      have HTN := Lib.hid htn
      have hge := own_block_ge hO
      have q2 := r2 _ hK
      have qc := rc _ hK
      have qd := rd _ hK
      have qf := fA _ hK
      clear f0 f1 f2 f3 f4 hy htn
      by_cases hto : y1 = xd
      · have hb : (y1 == xd) = true := by simp [hto]
        have hmv : (⟨y0, x2, y2 + al, y3, y4⟩ : EntD) = moved xc xd x2 al ⟨y0, y1, y2, y3, y4⟩ := by unfold moved; rw [if_pos hto]
        have HMV := Lib.hid hmv
        clear hto hmv
        have hwr := wrap_id (y2 + al) (by omega) (by omega)
        obtain ⟨w5, hw5⟩ : ∃ w5, w5 = wr.alloc (.cells #[.string y0, .int .i64 (x2), .int .i64 (y2 + al), .int .i64 y3, .string y4] 38) := ⟨_, rfl⟩
        have k5 : Kp [] wr w5 := hw5 ▸ (Kp.refl _ _).alloc _
        have hsz5 : w5.heap.size = wr.heap.size + 1 := by rw [hw5, World.size_alloc]
        have hOa := owns_other (owns_other hO k5 (fun _ _ => by simp)) ((Kp.refl [] w5).alloc (.cells #[.string y0, .int .i64 (x2), .int .i64 (y2 + al), .int .i64 y3, .string y4] 38)) (fun _ _ => by simp)
        have hna := new_cells w5 38 [.string y0, .int .i64 (x2), .int .i64 (y2 + al), .int .i64 y3, .string y4]
        rw [hsz5] at hna
        rw [hw5] at hOa hna
        have HW5 := Lib.hid hw5
        clear hw5 hsz5
        go_wp2_with (first | (at_builtin; refine wpList_append_mine _ rfl (.tmp 66) (.tmp 68) 28 rfl w1.heap.size 38 i0 (.agg #[.string ByteArray.empty, .int .i64 0, .int .i64 0, .int .i64 0, .string ByteArray.empty]) 5 56 Tryz.underlyingE' hi0 hz0 hz1 hz2 rfl (by decide) (.slice av L.length cv) L.length (L.flatMap EntV) rfl hOa ⟨wr.heap.size + 1, 0, none⟩ 1 1 [.string y0, .int .i64 (x2), .int .i64 (y2 + al), .int .i64 y3, .string y4] rfl rfl hna (oneCell_ent _ _ _ _ _) (by unfold maxLen; omega) (by omega) (by simp; omega) ?_))
        intro v' w3 hown' hkp _ _
        rw [← HW5.out] at hkp
        obtain ⟨av3, cv3, rfl⟩ := ownsRow_ex hown'
        have k3 : Kp (Value.slice av L.length cv).ownBlock.toList wr w3 := (k5.weaken (fun _ _ h => by cases h)).trans (((Kp.refl _ w5).alloc _).trans hkp)
        have hK3 : Kp [] w1 w3 := hK.step k3 (fun i hi hm => by
          rw [Option.mem_toList] at hm
          have := hge i hm
          omega)
        have hO4 := owns_ent (q := ⟨y0, x2, y2 + al, y3, y4⟩) hown'
        have HO4 := Lib.hid hO4
        have hst : L ++ [(⟨y0, x2, y2 + al, y3, y4⟩ : EntD)] = (k.E.take (n + 1)).map (moved xc xd x2 al) := by rw [HTN.out, List.map_append, ← HL.out, List.map_cons, List.map_nil, ← HMV.out]
        have HST := Lib.hid hst
        clear hkp hown' k3 hge hO4 hst hKr hOa hna k5 hO
        go_wp2_with fail
        go_roundg g'
        case rel => exact ⟨n + 1, av3, cv3, _, st_next HN.out, by go_num, by simp, hK3, HO4.out, HST.out⟩
        case measure => omega
      · have hb : (y1 == xd) = false := by simp [hto]
        by_cases hfr : y1 = xc
        · have hb2 : (y1 == xc) = true := by simp [hfr]
          have hmv : (⟨y0, x2, y2, y3, y4⟩ : EntD) = moved xc xd x2 al ⟨y0, y1, y2, y3, y4⟩ := by unfold moved; rw [if_neg hto, if_pos hfr]
          have HMV := Lib.hid hmv
          clear hto hmv hfr
          obtain ⟨w5, hw5⟩ : ∃ w5, w5 = wr.alloc (.cells #[.string y0, .int .i64 (x2), .int .i64 (y2), .int .i64 y3, .string y4] 38) := ⟨_, rfl⟩
          have k5 : Kp [] wr w5 := hw5 ▸ (Kp.refl _ _).alloc _
          have hsz5 : w5.heap.size = wr.heap.size + 1 := by rw [hw5, World.size_alloc]
          have hOa := owns_other (owns_other hO k5 (fun _ _ => by simp)) ((Kp.refl [] w5).alloc (.cells #[.string y0, .int .i64 (x2), .int .i64 (y2), .int .i64 y3, .string y4] 38)) (fun _ _ => by simp)
          have hna := new_cells w5 38 [.string y0, .int .i64 (x2), .int .i64 (y2), .int .i64 y3, .string y4]
          rw [hsz5] at hna
          rw [hw5] at hOa hna
          have HW5 := Lib.hid hw5
          clear hw5 hsz5
          go_wp2_with (first | (at_builtin; refine wpList_append_mine _ rfl (.tmp 66) (.tmp 68) 28 rfl w1.heap.size 38 i0 (.agg #[.string ByteArray.empty, .int .i64 0, .int .i64 0, .int .i64 0, .string ByteArray.empty]) 5 56 Tryz.underlyingE' hi0 hz0 hz1 hz2 rfl (by decide) (.slice av L.length cv) L.length (L.flatMap EntV) rfl hOa ⟨wr.heap.size + 1, 0, none⟩ 1 1 [.string y0, .int .i64 (x2), .int .i64 (y2), .int .i64 y3, .string y4] rfl rfl hna (oneCell_ent _ _ _ _ _) (by unfold maxLen; omega) (by omega) (by simp; omega) ?_))
          intro v' w3 hown' hkp _ _
          rw [← HW5.out] at hkp
          obtain ⟨av3, cv3, rfl⟩ := ownsRow_ex hown'
          have k3 : Kp (Value.slice av L.length cv).ownBlock.toList wr w3 := (k5.weaken (fun _ _ h => by cases h)).trans (((Kp.refl _ w5).alloc _).trans hkp)
          have hK3 : Kp [] w1 w3 := hK.step k3 (fun i hi hm => by
            rw [Option.mem_toList] at hm
            have := hge i hm
            omega)
          have hO4 := owns_ent (q := ⟨y0, x2, y2, y3, y4⟩) hown'
          have HO4 := Lib.hid hO4
          have hst : L ++ [(⟨y0, x2, y2, y3, y4⟩ : EntD)] = (k.E.take (n + 1)).map (moved xc xd x2 al) := by rw [HTN.out, List.map_append, ← HL.out, List.map_cons, List.map_nil, ← HMV.out]
          have HST := Lib.hid hst
          clear hkp hown' k3 hge hO4 hst hKr hOa hna k5 hO
          go_wp2_with fail
          go_roundg g'
          case rel => exact ⟨n + 1, av3, cv3, _, st_next HN.out, by go_num, by simp, hK3, HO4.out, HST.out⟩
          case measure => omega
        · have hb2 : (y1 == xc) = false := by simp [hfr]
          have hmv : (⟨y0, y1, y2, y3, y4⟩ : EntD) = moved xc xd x2 al ⟨y0, y1, y2, y3, y4⟩ := by unfold moved; rw [if_neg hto, if_neg hfr]
          have HMV := Lib.hid hmv
          clear hto hmv hfr
          obtain ⟨w5, hw5⟩ : ∃ w5, w5 = wr.alloc (.cells #[.string y0, .int .i64 (y1), .int .i64 (y2), .int .i64 y3, .string y4] 38) := ⟨_, rfl⟩
          have k5 : Kp [] wr w5 := hw5 ▸ (Kp.refl _ _).alloc _
          have hsz5 : w5.heap.size = wr.heap.size + 1 := by rw [hw5, World.size_alloc]
          have hOa := owns_other (owns_other hO k5 (fun _ _ => by simp)) ((Kp.refl [] w5).alloc (.cells #[.string y0, .int .i64 (y1), .int .i64 (y2), .int .i64 y3, .string y4] 38)) (fun _ _ => by simp)
          have hna := new_cells w5 38 [.string y0, .int .i64 (y1), .int .i64 (y2), .int .i64 y3, .string y4]
          rw [hsz5] at hna
          rw [hw5] at hOa hna
          have HW5 := Lib.hid hw5
          clear hw5 hsz5
          go_wp2_with (first | (at_builtin; refine wpList_append_mine _ rfl (.tmp 66) (.tmp 68) 28 rfl w1.heap.size 38 i0 (.agg #[.string ByteArray.empty, .int .i64 0, .int .i64 0, .int .i64 0, .string ByteArray.empty]) 5 56 Tryz.underlyingE' hi0 hz0 hz1 hz2 rfl (by decide) (.slice av L.length cv) L.length (L.flatMap EntV) rfl hOa ⟨wr.heap.size + 1, 0, none⟩ 1 1 [.string y0, .int .i64 (y1), .int .i64 (y2), .int .i64 y3, .string y4] rfl rfl hna (oneCell_ent _ _ _ _ _) (by unfold maxLen; omega) (by omega) (by simp; omega) ?_))
          intro v' w3 hown' hkp _ _
          rw [← HW5.out] at hkp
          obtain ⟨av3, cv3, rfl⟩ := ownsRow_ex hown'
          have k3 : Kp (Value.slice av L.length cv).ownBlock.toList wr w3 := (k5.weaken (fun _ _ h => by cases h)).trans (((Kp.refl _ w5).alloc _).trans hkp)
          have hK3 : Kp [] w1 w3 := hK.step k3 (fun i hi hm => by
            rw [Option.mem_toList] at hm
            have := hge i hm
            omega)
          have hO4 := owns_ent (q := ⟨y0, y1, y2, y3, y4⟩) hown'
          have HO4 := Lib.hid hO4
          have hst : L ++ [(⟨y0, y1, y2, y3, y4⟩ : EntD)] = (k.E.take (n + 1)).map (moved xc xd x2 al) := by rw [HTN.out, List.map_append, ← HL.out, List.map_cons, List.map_nil, ← HMV.out]
          have HST := Lib.hid hst
          clear hkp hown' k3 hge hO4 hst hKr hOa hna k5 hO
          go_wp2_with fail
          go_roundg g'
          case rel => exact ⟨n + 1, av3, cv3, _, st_next HN.out, by go_num, by simp, hK3, HO4.out, HST.out⟩
          case measure => omega
    · obtain rfl : n = k.E.length := by omega
      obtain rfl : gk = 0 := by omega
      have hL := HL.out
      rw [List.take_length] at hL
      have HLL := Lib.hid hL
      have bt := (hK.block kb hkl (by simp)).trans hat.top
      have ct := cell_of_cells (o := 0) bt rfl
      have ft := frozen_of_cells bt 0
      obtain ⟨w5, hw5⟩ : ∃ w5, w5 = wr.setCell ⟨kb, 0, none⟩ (.slice av L.length cv) := ⟨_, rfl⟩
      have b5 : w5.heap[kb]? = some (.cells #[.slice av L.length cv, .slice gA k.G.length gC, .slice vA k.V.length vC, .slice hA k.H.length hC] 32 (0, 0)) := by rw [hw5, block_setCell bt]; rfl
      have k5 : Kp [kb] wr w5 := hw5 ▸ (Kp.refl _ _).setCell (.inl (by simp)) _
      have t15 : Turn B w1 w5 := (Turn.of_kp hK).trans (Turn.of_block hlow bt k5 ⟨by decide, by decide, by decide⟩)
      have keep : ∀ {e : TypeId} {b sz n : Nat} {v : Value} {xs : List Value}, wr.ownsRow b e sz v n xs → e ≠ 32 → w5.ownsRow b e sz v n xs := fun hr he1 => owns_other hr k5 (owns_not hr bt he1)
      obtain ⟨vls, hvm, hvo, hvl⟩ := hat.vols
      have hvn : vls.length = k.V.length := by rw [← hvm, List.length_map]
      have hE5 := ownsRow_base (keep hO (by decide)) (base' := B) (by omega)
      have hV5 := keep (owns_other hvo hK (fun _ _ => by simp)) (by decide)
      have hH5 := keep (owns_other hat.had hK (fun _ _ => by simp)) (by decide)
      have hG5 := keep (owns_other hat.gone hK (fun _ _ => by simp)) (by decide)
      have hv5 : ∀ q ∈ vls, LocsAt B w5 q.2 q.1.locs := fun q hq => t15.locs (hvl q hq)
      have cell5 : ∀ (b o : Nat) (u : Value), w1.cell? ⟨b, o, none⟩ = some u → b ≠ kb → w5.cell? ⟨b, o, none⟩ = some u := fun b o u hc hne => (k5.cell (p := ⟨b, o, none⟩) (Nat.lt_of_lt_of_le (lt_of_cell hc) hsK) (by simpa using hne)).trans ((hK.cell (lt_of_cell hc) (by simp)).trans hc)
      have rc5 := Kp.cellAt (X := []) (cell5 _ _ _ (rc _ (Kp.refl _ _)) (by omega)) (by simp)
      have rd5 := Kp.cellAt (X := []) (cell5 _ _ _ (rd _ (Kp.refl _ _)) (by omega)) (by simp)
      have v5c := Kp.cellAt (X := []) (cell_of_cells (o := 2) b5 rfl) (by simp)
      have h5s : w1.heap.size ≤ w5.heap.size := t15.size
      have hw1 := fun W (k1 : Kp [] w5 W) => kwithout vls xc (.slice vA vls.length vC) _ W (by have := SliceAt.of_owns (owns_other hV5 k1 (fun _ _ => by simp)); rw [← hvn] at this; exact this) (by omega) (vols_slices hv5)
      rw [hvn] at hw1
      have HW5 := Lib.hid hw5
      clear hw5 hn hL ct
      go_wp2_with fail
      rw [← HW5.out]
      refine wpB_begin 13 (Kp [] w5) (by kernel_rfl) (by exact (Kp.refl _ _).drew) (fun hHeld => ?_)
      refine wpB_take 0 _ ?_ rfl (by kernel_rfl) (fun _ _ _ h => h) rfl hHeld ?_ ?_
      rotate_left
      · (intro W hW; go_simp; try with_reducible rfl)
      try simp only [Act.put, List.setIfInBounds_toArray, List.set_cons_zero, List.set_cons_succ]
      refine wpB_take 1 _ ?_ rfl (by kernel_rfl) (fun _ _ _ h => h) rfl hHeld ?_ ?_
      rotate_left
      · (intro W hW; go_simp; try with_reducible rfl)
      try simp only [Act.put, List.setIfInBounds_toArray, List.set_cons_zero, List.set_cons_succ]
      refine wpB_take 2 _ ?_ rfl (by kernel_rfl) (fun _ _ _ h => h) rfl hHeld ?_ ?_
      rotate_left
      · (intro W hW; go_simp; try with_reducible rfl)
      try simp only [Act.put, List.setIfInBounds_toArray, List.set_cons_zero, List.set_cons_succ]
      refine wpB_take 3 _ ?_ rfl (by kernel_rfl) (fun _ _ _ h => h) rfl hHeld ?_ ?_
      rotate_left
      · (intro W hW; go_simp; try with_reducible rfl)
      try simp only [Act.put, List.setIfInBounds_toArray, List.set_cons_zero, List.set_cons_succ]
      refine wpB_take 4 _ ?_ rfl (by kernel_rfl) (fun _ _ _ h => h) rfl hHeld ?_ ?_
      rotate_left
      · (intro W hW; go_simp; try with_reducible rfl)
      try simp only [Act.put, List.setIfInBounds_toArray, List.set_cons_zero, List.set_cons_succ]
      refine wpB_take 5 _ ?_ rfl (by kernel_rfl) (fun _ _ _ h => h) rfl hHeld ?_ ?_
      rotate_left
      · (intro W hW; go_simp; try with_reducible rfl)
      try simp only [Act.put, List.setIfInBounds_toArray, List.set_cons_zero, List.set_cons_succ]
      refine wpB_take 6 _ ?_ rfl (by kernel_rfl) (fun _ _ _ h => h) rfl hHeld ?_ ?_
      rotate_left
      · (intro W hW; go_simp; try with_reducible rfl)
      try simp only [Act.put, List.setIfInBounds_toArray, List.set_cons_zero, List.set_cons_succ]
      refine wpB_take 8 _ ?_ rfl (by kernel_rfl) (fun _ _ _ h => h) rfl hHeld ?_ ?_
      rotate_left
      · (intro W hW; go_simp; try with_reducible rfl)
      try simp only [Act.put, List.setIfInBounds_toArray, List.set_cons_zero, List.set_cons_succ]
      refine wpB_take 9 _ ?_ rfl (by kernel_rfl) (fun _ _ _ h => h) rfl hHeld ?_ ?_
      rotate_left
      · (intro W hW; go_simp; try with_reducible rfl)
      try simp only [Act.put, List.setIfInBounds_toArray, List.set_cons_zero, List.set_cons_succ]
      refine wpB_step 7 _ rfl (by kernel_rfl) rfl rfl (fun K hK_ => ?_)
      go_simp
      refine (hw1 _ hHeld).mono ?_
      rintro e w6 ⟨na, nc, rfl, hN6, k6⟩
      refine hK_.out _ _ (by exact hHeld.trans k6) (fun hHeld => ?_)
      clear hK_ K
      try simp only [Act.put, List.setIfInBounds_toArray, List.set_cons_zero, List.set_cons_succ]
      refine wpB_step 10 _ rfl (by kernel_rfl) rfl rfl (fun K hK_ => ?_)
      go_simp
      refine (kwithout (dropV xc vls) xd (.slice na (dropV xc vls).length nc) _ w6 (SliceAt.of_owns hN6) (Nat.le_trans (List.length_filter_le _ _) (by omega)) (fun q hq => vols_slices hv5 q (List.mem_filter.1 hq).1)).mono ?_
      rintro e w7 ⟨ma, mc, rfl, hN7, k7⟩
      have hH7 := hHeld.trans k7
      refine hK_.out _ _ (by exact hHeld.trans k7) (fun hHeld => ?_)
      clear hK_ K
      try simp only [Act.put, List.setIfInBounds_toArray, List.set_cons_zero, List.set_cons_succ]
      refine wpB_take 11 _ ?_ rfl (by kernel_rfl) (fun _ _ _ h => h) rfl hHeld ?_ ?_
      rotate_left
      · (intro W hW; go_simp; try with_reducible rfl)
      try simp only [Act.put, List.setIfInBounds_toArray, List.set_cons_zero, List.set_cons_succ]
      refine wpB_take 12 _ ?_ rfl (by kernel_rfl) (fun _ _ _ h => h) rfl hHeld ?_ ?_
      rotate_left
      · (intro W hW; go_simp; try with_reducible rfl)
      try simp only [Act.put, List.setIfInBounds_toArray, List.set_cons_zero, List.set_cons_succ]
      refine wpB_bar (fun_true) 999 _ rfl (by kernel_rfl) rfl (fun K hK_ => ?_)
      have b7 := (hH7.block kb (lt_of_block b5) (by simp)).trans b5
      have c7 := cell_of_cells (o := 2) b7 rfl
      have f7 := frozen_of_cells b7 2
      go_simp
      refine hK_.out _ _ (by trivial) (fun hHeld => ?_)
      clear hK_ K
      try simp only [Act.put, List.setIfInBounds_toArray, List.set_cons_zero, List.set_cons_succ]
      refine wpB_done (by kernel_rfl) ?_ _
      have k57 : Kp [] w5 w7 := ((Kp.refl _ _).drew.trans k6).trans k7
      have b7 := (k57.block kb (lt_of_block b5) (by simp)).trans b5
      have hBw6 : B ≤ w6.heap.size := by
        have := ((Kp.refl [] w5).drew.trans k6).size
        have := lt_of_block b5
        omega
      obtain ⟨w8, hw8⟩ : ∃ w8, w8 = w7.setCell ⟨kb, 2, none⟩ (.slice ma (dropV xd (dropV xc vls)).length mc) := ⟨_, rfl⟩
      have b8 : w8.heap[kb]? = some (.cells #[.slice av L.length cv, .slice gA k.G.length gC, .slice ma (dropV xd (dropV xc vls)).length mc, .slice hA k.H.length hC] 32 (0, 0)) := by rw [hw8, block_setCell b7]; rfl
      have k8 : Kp [kb] w7 w8 := hw8 ▸ (Kp.refl _ _).setCell (.inl (by simp)) _
      have keep8 : ∀ {e : TypeId} {b sz n : Nat} {v : Value} {xs : List Value}, w5.ownsRow b e sz v n xs → e ≠ 32 → w8.ownsRow b e sz v n xs := fun hr he1 => by
        have r7 := owns_other hr k57 (fun _ _ => by simp)
        exact owns_other r7 k8 (owns_not r7 b7 he1)
      have t58 : Turn B w5 w8 := (Turn.of_kp k57).trans (Turn.of_block hlow b7 k8 ⟨by decide, by decide, by decide⟩)
      have t18 : Turn B w1 w8 := t15.trans t58
      have cell8 : ∀ (b o : Nat) (u : Value), w1.cell? ⟨b, o, none⟩ = some u → b ≠ kb → w8.cell? ⟨b, o, none⟩ = some u := fun b o u hc hne => by
        have hc5 := cell5 b o u hc hne
        exact (k8.cell (p := ⟨b, o, none⟩) (Nat.lt_of_lt_of_le (lt_of_cell hc5) k57.size) (by simpa using hne)).trans ((k57.cell (lt_of_cell hc5) (by simp)).trans hc5)
      have z2 := cell8 _ _ _ (r2 _ (Kp.refl _ _)) (by omega)
      have z3 := cell8 _ _ _ (r3 _ (Kp.refl _ _)) (by omega)
      have z4 := cell8 _ _ _ (r4 _ (Kp.refl _ _)) (by omega)
      have z5 := cell8 _ _ _ (r5 _ (Kp.refl _ _)) (by omega)
      have hm2 : (dropV xd (dropV xc vls)).map (·.1) = (k.V.filter fun x => !decide (x.id = xc)).filter fun x => !decide (x.id = xd) := by rw [dropV_map, dropV_map, hvm]
      have hrin8 : RIn B kb w8 { k with E := k.E.map (moved xc xd x2 al), V := (k.V.filter fun x => !decide (x.id = xc)).filter fun x => !decide (x.id = xd) } := by
        rw [← HLL.out, ← hm2]
        refine ⟨_, _, _, _, b8, hlow, keep8 hE5 (by decide), keep8 hG5 (by decide), ⟨dropV xd (dropV xc vls), rfl, ?_, fun q hq => ?_⟩, keep8 hH5 (by decide)⟩
        · show w8.ownsRow B 36 4 _ ((dropV xd (dropV xc vls)).map (·.1)).length _
          rw [List.length_map]
          exact owns_other (ownsRow_base hN7 hBw6) k8 (owns_not hN7 b7 (by decide))
        · exact t58.locs (hv5 q (List.mem_filter.1 (List.mem_filter.1 hq).1).1)
      have hly := klay ⟨x2, x3, x4, lx⟩ (.slice la lx.length lc) w8 hrin8 (Nat.le_trans (List.length_filter_le _ _) (Nat.le_trans (List.length_filter_le _ _) hzV)) hzH (t18.locs hlx1)
      simp only [VolVA] at hly
      have hla8 := t18.locs hla1
      have hlb8 := t18.locs hlb1
      have bA8 := t18.vbox bA1
      have bB8 := t18.vbox bB
      have T18 := Lib.hid ((Turn.of_kp (B := B) kw1).trans t18)
      have hB8 : B ≤ w8.heap.size := by have := lt_of_block b8; omega
      rw [hw8] at z2 z3 z4 z5
      have HW8 := Lib.hid hw8
      clear hw8 hrin8 t18 t58 keep8 cell8 hN7 hN6 k6 k7 k57 hw1 hE5 hV5 hH5 hG5 hO hvo keep bt ft
      go_wp2_with fail
      rw [← HW8.out]
      refine hly.mono ?_
      rintro e w9 ⟨rfl, hR9, t9⟩
      obtain ⟨p0, p1, p2, p3⟩ := read4 (t9.vbox bA8)
      obtain ⟨q0, q1, q2, q3⟩ := read4 (t9.vbox bB8)
      have hB9 : B ≤ w9.heap.size := Nat.le_trans hB8 t9.size
      have htwo := two_vols (a := ⟨a0, a1, al, als⟩) (b := ⟨d0, d1, d2, dls⟩) hB9 (t9.locs hla8) (t9.locs hlb8)
      simp only at htwo
      obtain ⟨w10, hw10⟩ : ∃ w10, w10 = w9.alloc (.cells #[.int .i64 a0, .int .i64 a1, .int .i64 al, .slice aa als.length ac, .int .i64 d0, .int .i64 d1, .int .i64 d2, .slice ba dls.length bc] 36) := ⟨_, rfl⟩
      have k10 : Kp [] w9 w10 := hw10 ▸ (Kp.refl _ _).alloc _
      have hs10 : w10.heap.size = w9.heap.size + 1 := by rw [hw10, World.size_alloc]
      rw [← hw10, ← hs10] at htwo
      have HW10 := Lib.hid hw10
      have HTWO := Lib.hid htwo
      have HR10 := Lib.hid (hR9.keep0 k10)
      have HT10 := Lib.hid (T18.out.trans (t9.trans (Turn.of_kp k10)))
      clear hw10 hs10 htwo hly hla8 hlb8 bA8 bB8 t9 hR9
      go_wp2_with fail
      rw [← HW10.out]
      go_ret
      refine ⟨_, rfl, ?_, ?_, HT10.out⟩
      · show VolsAt _ _ _ [(k.vol xc).1, (k.vol xd).1]
        rw [← HVA.out, ← HVB.out]
        exact HTWO.out
      · unfold Rx.merge
        rw [← HVA.out]
        exact HR10.out
end Go.Proofs.YtdhhddifmkijhaaGreat
