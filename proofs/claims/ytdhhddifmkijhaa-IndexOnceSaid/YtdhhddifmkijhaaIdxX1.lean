/-
  IndexOnce: a key that is known is never put again, whatever else is applied; what is gone stays gone. For every list of records, every number.
  Conditions: none beyond the row's own.
-/
import Derived.Test.YtdhhddifmkijhaaIdxLv
import Derived.Test.YtdhhddifmkijhaaIdxBd
import Derived.Test.YtdhhddifmkijhaaIdxSm
namespace Go.Proofs.Ytdhhddifmkijhaa
open Go.ChangeShapes Go.WideShapes Go.ChangeAt Go.RowKit Go.WideElems

theorem Try.info9' : (Try.prog.info? 9).map (fun i => (i.zero, i.size, i.bytes)) = some (some (.string ByteArray.empty), 1, 16) := by kernel_rfl
theorem Try.underlying26' : Try.prog.underlying 26 = some (.slice 9) := by kernel_rfl
theorem owns_typed {W : World} {base : Nat} {e : TypeId} {sz n : Nat} {v : Value} {xs : List Value} (h : W.ownsRow base e sz v n xs) : ∀ g, v.ownBlock = some g → ∃ cur, W.heap[g]? = some (.cells cur e (0, 0)) := by
  obtain ⟨hl, ⟨hv, hn⟩ | ⟨g, cap, cur, hv, hg, hb, hc, hm, hs, ht⟩⟩ := h
  · intro g hg; rw [hv] at hg; cases hg
  · intro g' hg'; rw [hv] at hg'
    obtain rfl : g = g' := by simpa [Value.ownBlock] using hg'
    exact ⟨cur, hb⟩
set_option maxHeartbeats 8000000 in
set_option maxRecDepth 100000 in
theorem once_walk (v : Value) (rs : List (RecD × Value)) (id : Int) (w : World) (hr : RecsAt w.heap.size w v rs) : Calls Try.prog 3 #[v, .int .i64 id] w fun e w' => e = .returned (.bool true) ∧ Kp [] w w' := by
  obtain ⟨va, vc, rfl⟩ := slice_ex hr.1
  have hK := Kp.refl [] w
  by_cases hlen : 30 < rs.length
  · have hlenI : (30 : Int) < (rs.length : Int) := by omega
    go_enter Try.func3, Try.ntmps3
    go_wp2_with fail
    refine (live_true _).mono ?_
    rintro e wl ⟨rfl, kl⟩
    have hkl := (hK).trans kl
    clear kl
    go_wp2_with fail
    go_ret
    exact ⟨rfl, hkl⟩
  have hlenI : (rs.length : Int) ≤ 30 := by omega
  by_cases hid0 : id < 0
  · go_enter Try.func3, Try.ntmps3
    go_wp2_with fail
    refine (live_true _).mono ?_
    rintro e wl ⟨rfl, kl⟩
    have hkl := (hK).trans kl
    clear kl
    go_wp2_with fail
    go_ret
    exact ⟨rfl, hkl⟩
  by_cases hid1 : 549755813888 < id
  · go_enter Try.func3, Try.ntmps3
    go_wp2_with fail
    refine (live_true _).mono ?_
    rintro e wl ⟨rfl, kl⟩
    have hkl := (hK).trans kl
    clear kl
    go_wp2_with fail
    go_ret
    exact ⟨rfl, hkl⟩
  replace hid0 : 0 ≤ id := by omega
  replace hid1 : id ≤ 549755813888 := by omega
  obtain ⟨i0, hi, hz0, hz1, hz2⟩ := info_parts Try.info9'
  go_enter Try.func3, Try.ntmps3
  go_wp2_with fail
  refine (inew w).mono ?_
  rintro e w1 ⟨I, rfl, hI, k1, hX⟩
  have hs1 := k1.size
  have hO : w1.ownsRow w1.heap.size 9 1 (.slice none 0 0) 0 [] := ⟨rfl, .inl ⟨rfl, rfl⟩⟩
  have hlt1 := hI.lts
  go_wp2_with fail
  go_loopg [6, 7] rs.length (fun g gv i wr => ∃ (n : Nat) (ga : Option Addr) (gc : Nat) (gs : List ByteArray), n + g = rs.length ∧ i = .int .i64 n ∧ gv = .slice ga gs.length gc ∧ Kp [] w wr ∧ IxAt I wr (ixs ((rs.take n).map (·.1))) ∧ wr.ownsRow w1.heap.size 9 1 (.slice ga gs.length gc) gs.length (gs.map Value.string) ∧ gs.length ≤ n ∧ (∀ k ∈ gs, k ∈ (ixs ((rs.take n).map (·.1))).G) ∧ w1.heap.size ≤ wr.heap.size)
  case atStart => exact ⟨0, none, 0, [], by omega, rfl, rfl, k1, hI, hO, Nat.le_refl _, by simp, Nat.le_refl _⟩
  case round =>
    clear hI k1 hK hO
    obtain ⟨n, ga, gc, gs, hn, rfl, rfl, hK, hIr, hO, hgl, hgG, hsz⟩ := hrel
    have HN := Lib.hid hn
    have HG := Lib.hid hgG
    clear hgG
    by_cases hlt : n < rs.length
    · obtain ⟨g', rfl⟩ : ∃ g', gk = g' + 1 := ⟨gk - 1, by omega⟩
      clear hn
      have hltI : (n : Int) < (rs.length : Int) := by omega
      have htk : (rs.take (n + 1)).map (·.1) = (rs.take n).map (·.1) ++ [rs[n].1] := by rw [take_next hlt, List.map_append]; rfl
      have hlt2 : ((rs.take n).map (·.1)).length = n := by rw [List.length_map, List.length_take]; omega
      have hze := (ixs_le ((rs.take n).map (·.1))).1
      rw [hlt2] at hze
      have hiv := ixs_inv ((rs.take n).map (·.1))
      obtain ⟨g, o, c, hv', f0, f1, f2, f3, f4, f5, f6, f7, f8, f9, fa, fb, fc, fd⟩ := rec_at hr n hlt
      simp only [Value.slice.injEq] at hv'
      obtain ⟨rfl, -, rfl⟩ := hv'
      obtain ⟨q, hq⟩ : ∃ q, q = rs[n] := ⟨_, rfl⟩
      have hlq := hr.2 _ (List.getElem_mem hlt)
      rw [← hq] at f0 f1 f2 f3 f4 f5 f6 f7 f8 f9 fa fb fc fd hlq
      obtain ⟨⟨x0, x1, ⟨x2, x3, x4, lx⟩, ⟨x6, x7, x8, x9, xa⟩, xb, xc, xd⟩, lv⟩ := q
      simp only at f0 f1 f2 f3 f4 f5 f6 f7 f8 f9 fa fb fc fd hlq
      obtain ⟨la, lc, rfl⟩ := slice_ex hlq
      have r0 := Kp.cellAt (X := []) f0 (by simp) wr hK
      have r1 := Kp.cellAt (X := []) f1 (by simp) wr hK
      have r2 := Kp.cellAt (X := []) f2 (by simp) wr hK
      have r3 := Kp.cellAt (X := []) f3 (by simp) wr hK
      have r4 := Kp.cellAt (X := []) f4 (by simp) wr hK
      have r5 := Kp.cellAt (X := []) f5 (by simp) wr hK
      have r6 := Kp.cellAt (X := []) f6 (by simp) wr hK
      have r7 := Kp.cellAt (X := []) f7 (by simp) wr hK
      have r8 := Kp.cellAt (X := []) f8 (by simp) wr hK
      have r9 := Kp.cellAt (X := []) f9 (by simp) wr hK
      have ra := Kp.cellAt (X := []) fa (by simp) wr hK
      have rb := Kp.cellAt (X := []) fb (by simp) wr hK
      have rc := Kp.cellAt (X := []) fc (by simp) wr hK
      have rd := Kp.cellAt (X := []) fd (by simp) wr hK
      have HQR := Lib.hid hq
      have hgw := lt_of_cell f0
      clear f0 f1 f2 f3 f4 f5 f6 f7 f8 f9 fa fb fc fd hq
      rw [← HQR.out] at htk
      simp only at htk
      have hsm := fun W (k : Kp [] w W) => rsmall ⟨x0, x1, ⟨x2, x3, x4, lx⟩, ⟨x6, x7, x8, x9, xa⟩, xb, xc, xd⟩ (.slice la lx.length lc) w.heap.size W (hlq.keep0 k)
      have how := fun W => own_any ⟨x0, x1, ⟨x2, x3, x4, lx⟩, ⟨x6, x7, x8, x9, xa⟩, xb, xc, xd⟩ la lx.length lc W
      simp only [RecV] at hsm how
      obtain ⟨Xn, hXn⟩ : ∃ X, X = ixs ((rs.take n).map (·.1)) := ⟨_, rfl⟩
      rw [← hXn] at hze hiv hIr
      have HXN := Lib.hid hXn
      have HTK := Lib.hid htk
      have HO := Lib.hid hO
      clear hXn htk hlt2 hO
      cases hS : smallR ⟨x0, x1, ⟨x2, x3, x4, lx⟩, ⟨x6, x7, x8, x9, xa⟩, xb, xc, xd⟩ with
      | false =>
        rw [hS] at hsm
        go_wp2_with fail
        refine (hsm _ hK).mono ?_
        rintro e w2 ⟨rfl, k2⟩
        clear hsm how
        go_wp2_with fail
        refine (live_true _).mono ?_
        rintro e wl ⟨rfl, kl⟩
        have hkl := (hK.trans k2).trans kl
        clear kl
        go_wp2_with fail
        go_ret
        exact ⟨rfl, hkl⟩
      | true =>
        rw [hS] at hsm
        obtain ⟨z1, z2, z3, z4⟩ := small_spec hS
        simp only at z1 z2 z3 z4
        clear hS
        go_wp2_with fail
        refine (hsm _ hK).mono ?_
        rintro e w2 ⟨rfl, k2⟩
        have hK2 := hK.trans k2
        have hI2 := hIr.keep0 k2
        have hrq : ∀ (j : Nat) (u : Value), wr.cell? ⟨g, o + n * 14 + j, none⟩ = some u → w2.cell? ⟨g, o + n * 14 + j, none⟩ = some u := fun j u h => (k2.cell (lt_of_cell h) (by simp)).trans h
        have q0 := (k2.cell (lt_of_cell r0) (by simp)).trans r0
        have q1 := (k2.cell (lt_of_cell r1) (by simp)).trans r1
        have q2 := (k2.cell (lt_of_cell r2) (by simp)).trans r2
        have q3 := (k2.cell (lt_of_cell r3) (by simp)).trans r3
        have q4 := (k2.cell (lt_of_cell r4) (by simp)).trans r4
        have q5 := (k2.cell (lt_of_cell r5) (by simp)).trans r5
        have q6 := (k2.cell (lt_of_cell r6) (by simp)).trans r6
        have q7 := (k2.cell (lt_of_cell r7) (by simp)).trans r7
        have q8 := (k2.cell (lt_of_cell r8) (by simp)).trans r8
        have q9 := (k2.cell (lt_of_cell r9) (by simp)).trans r9
        have qa := (k2.cell (lt_of_cell ra) (by simp)).trans ra
        have qb := (k2.cell (lt_of_cell rb) (by simp)).trans rb
        have qc := (k2.cell (lt_of_cell rc) (by simp)).trans rc
        have qd := (k2.cell (lt_of_cell rd) (by simp)).trans rd
        have hO2 := owns_other HO.out k2 (fun _ _ => by simp)
        clear hsm hrq r0 r1 r2 r3 r4 r5 r6 r7 r8 r9 ra rb rc rd
        go_wp2_with fail
        refine (how _).mono ?_
        rintro e w3 ⟨rfl, k3⟩
        have hK3 := hK2.trans k3
        have hap := iapply hiv (by omega) ⟨x0, x1, ⟨x2, x3, x4, lx⟩, ⟨x6, x7, x8, x9, xa⟩, xb, xc, xd⟩ (.slice la lx.length lc) w3 (hI2.keep0 k3) (locs_in hlq hK3 hX) (by simp only; omega) (by simp only; omega) (by simp only; omega)
        simp only [RecV] at hap
        have p1 := (k3.cell (lt_of_cell q1) (by simp)).trans q1
        have pb := (k3.cell (lt_of_cell qb) (by simp)).trans qb
        have hO3 := owns_other hO2 k3 (fun _ _ => by simp)
        obtain ⟨X', hX'⟩ : ∃ X', X' = (Xn.apply ⟨x0, x1, ⟨x2, x3, x4, lx⟩, ⟨x6, x7, x8, x9, xa⟩, xb, xc, xd⟩).1 := ⟨_, rfl⟩
        obtain ⟨C, hC⟩ : ∃ C, C = (Xn.apply ⟨x0, x1, ⟨x2, x3, x4, lx⟩, ⟨x6, x7, x8, x9, xa⟩, xb, xc, xd⟩).2.2 := ⟨_, rfl⟩
        rw [← hC, ← hX'] at hap
        rw [apply_code] at hC
        have hix : ixs ((rs.take (n + 1)).map (·.1)) = X' := by rw [HTK.out, ixs_snoc, ← HXN.out, hX']
        have hic2 : Inv X' := by rw [← hix]; exact ixs_inv _
        have hgG' : ∀ k ∈ gs, k ∈ X'.G := fun k hk => by
          rw [hX']
          exact gone_grows _ _ (by rw [HXN.out]; exact HG.out k hk)
        obtain ⟨NN, hNN⟩ : ∃ NN, NN = X'.N := ⟨_, rfl⟩
        have HC := Lib.hid hC
        have HX' := Lib.hid hX'
        have HIX := Lib.hid hix
        have HNN := Lib.hid hNN.symm
        have HGP := Lib.hid hgG'
        clear hC hX' how hO2 hgG' q0 q1 q2 q3 q4 q5 q6 q7 q8 q9 qa qb qc qd hix hNN hI2
        go_wp2_with fail
        refine hap.mono ?_
        rintro e w4 ⟨ov, rfl, hOl, hI4, k4⟩
        obtain ⟨-, oa, oc, rfl, -⟩ := _root_.id hOl
        have hK4 : Kp [] w w4 := kp_in hK3 k4 hX
        have hge := own_block_ge hO3
        have hO4 := owns_other hO3 k4 (fun g hg hm => by have := hlt1 g hm; have := hge g hg; omega)
        have hN1 := hic2.fit.next
        rw [HNN.out] at hN1
        have hs4 : w1.heap.size ≤ w4.heap.size := Nat.le_trans (Nat.le_trans (Nat.le_trans hsz k2.size) k3.size) k4.size
        clear hap hOl hO3
        have hgX : g ∉ I.X := fun hm => by have := hX g hm; omega
        have p14 := (k4.cell (p := ⟨g, o + n * 14 + 1, none⟩) (lt_of_cell p1) hgX).trans p1
        have pb4 := (k4.cell (p := ⟨g, o + n * 14 + 11, none⟩) (lt_of_cell pb) hgX).trans pb
        clear p1 pb k4 k3 k2
        by_cases hc0 : C = 0
        · have hb : (C == 0) = true := by simp [hc0]
          have hm0 : Xn.may ⟨x0, x1, ⟨x2, x3, x4, lx⟩, ⟨x6, x7, x8, x9, xa⟩, xb, xc, xd⟩ = 0 := by rw [← HC.out]; exact hc0
          by_cases hk1 : x1 = 1
          · have hkb : (x1 == 1) = true := by simp [hk1]
            have hnew : xb ∈ X'.G := by rw [HX'.out]; exact gone_new hm0 hk1
            have HNEW := Lib.hid hnew
            clear hc0 hk1 hm0 hnew
            go_wp2_with (first | (at_builtin; refine wpList_append_mine _ rfl (.tmp 61) (.tmp 67) 26 rfl w1.heap.size 9 i0 (.string ByteArray.empty) 1 16 Try.underlying26' hi hz0 hz1 hz2 rfl (by decide) (.slice ga gs.length gc) gs.length (gs.map Value.string) rfl (ownsRow_keep (X := []) hO4 ((Kp.refl _ w4).alloc _) (fun _ _ => by simp)) ⟨w4.heap.size, 0, none⟩ 1 1 [.string xb] rfl rfl (new_cells w4 _ _) (by intro u hu; simp only [List.mem_singleton] at hu; subst hu; rfl) (by unfold maxLen; omega) (by omega) (by have := hK4.size; have := hs4; simp; omega) ?_))
            intro v' w5 hown' hkp _ _
            obtain ⟨ga', gc', rfl⟩ := ownsRow_ex hown'
            have k5 : Kp (Value.slice ga gs.length gc).ownBlock.toList w4 w5 := ((Kp.refl _ w4).alloc _).trans hkp
            have hI5 := hI4.keepRows k5 (fun g' hg' => by
              rw [Option.mem_toList] at hg'
              obtain ⟨cur, hc⟩ := owns_typed hO4 g' hg'
              exact ⟨cur, _, _, hc, by decide, by decide⟩)
            have hK5 : Kp [] w w5 := hK4.step k5 (fun i hi hm => by
              rw [Option.mem_toList] at hm
              have := hge i hm
              omega)
            have hO5 : w5.ownsRow w1.heap.size 9 1 (.slice ga' (gs ++ [xb]).length gc') (gs ++ [xb]).length ((gs ++ [xb]).map Value.string) := by
              have e1 : (gs ++ [xb]).length = gs.length + 1 := by simp
              rw [e1, List.map_append]
              exact hown'
            have hgl5 : (gs ++ [xb]).length ≤ n + 1 := by simp; omega
            have hgG5 : ∀ k ∈ gs ++ [xb], k ∈ X'.G := fun k hk => by
              rw [List.mem_append, List.mem_singleton] at hk
              rcases hk with hk | rfl
              · exact HGP.out k hk
              · exact HNEW.out
            have hsl : Value.slice ga' (gs.length + 1) gc' = Value.slice ga' (gs ++ [xb]).length gc' := by simp
            obtain ⟨gs', hgs'⟩ : ∃ gs', gs' = gs ++ [xb] := ⟨_, rfl⟩
            rw [← hgs'] at hO5 hgl5 hgG5 hsl
            rw [hsl]
            have k5s := k5.size
            clear hkp hown' k5 hI4 hK4 hO4 hgs' hsl hge
            have HKc := Lib.hid (hK5)
            have hic := hI5
            have HOC := Lib.hid (hO5)
            have HGL := Lib.hid (hgl5)
            have HGG := Lib.hid (hgG5)
            have HSZ := Lib.hid (Nat.le_trans hs4 k5s)
            have hsc := SliceAt.of_owns (hO5)
            have hKc0 := Kp.refl [] w5
            go_wp2_with fail
            go_loopg [10] (gs').length (fun g i wx => ∃ m : Nat, m + g = (gs').length ∧ i = .int .i64 m ∧ Kp [] w5 wx)
            case atStart => exact ⟨0, by omega, rfl, hKc0⟩
            case round =>
              clear hKc0
              obtain ⟨m, hm, rfl, hKx⟩ := hrel
              have HM := Lib.hid hm
              by_cases hmx : m < (gs').length
              · obtain ⟨g2, rfl⟩ : ∃ g2, gk = g2 + 1 := ⟨gk - 1, by omega⟩
                clear hm
                have hmI : (m : Int) < ((gs').length : Int) := by omega
                obtain ⟨gb, gbo, gcc, hv', e1⟩ := strv_at hsc m hmx
                simp only [Value.slice.injEq] at hv'
                obtain ⟨rfl, -, rfl⟩ := hv'
                have hkG := HGG.out _ (List.getElem_mem hmx)
                obtain ⟨kk, hkk⟩ : ∃ kk, kk = (gs')[m] := ⟨_, rfl⟩
                rw [← hkk] at e1 hkG
                have d1 := Kp.cellAt (X := []) e1 (by simp)
                have hkok := hic2.plainG _ hkG
                have hkm := max_key (keyOk_size hkok)
                have hgt := iget hic2.fit kk hkm wr (hic.keep0 hKx)
                rw [gone_get hic2 hkG] at hgt
                simp only [EntVA] at hgt
                have HKK := Lib.hid hkk
                have HKO := Lib.hid hkok
                clear e1 hkk hkok
                go_wp2_with fail
                refine hgt.mono ?_
                rintro e wy ⟨rfl, ky⟩
                have hKy := hKx.trans ky
                clear hgt ky hKx
                go_wp2_with fail
                obtain ⟨wz, hwz⟩ : ∃ wz, wz = wy.alloc (.cells #[.string E0, .int .i64 0, .int .i64 0, .int .i64 0, .string E0] 32) := ⟨_, rfl⟩
                have hKz : Kp [] w5 wz := hwz ▸ hKy.alloc _
                rw [← hwz]
                have HWZ := Lib.hid hwz
                have hkn := fun W (k : Kp [] w5 W) => iknown hic2.fit kk hkm W (hic.keep0 k)
                rw [gone_known hkG] at hkn
                have hnx := fun W (k : Kp [] w5 W) => inext W (hic.keep0 k)
                have hpt := fun W => put_any kk (NN + id) W
                clear hwz
                by_cases hle : NN + id ≤ 1099511627776
                · have hma := fun (la : Option Addr) (lc B : Nat) (W : World) (k : Kp [] w5 W) (hl : LocsAt B W (.slice la 9 lc) (locs9 9)) => imay hic2.fit (putR kk (NN + id)) (.slice la 9 lc) B W (hic.keep0 k) hl (by show (locs9 9).length ≤ 1000; decide) (by have := keyOk_size HKO.out; show kk.size < 16384; omega) (by show E0.size < 16384; decide)
                  rw [put_held HKO.out (gone_known hkG) (by omega) hle] at hma
                  have hwr := wrap_id (NN + id) (by omega) (by omega)
                  refine wpB_begin 999 (Kp [] w5) (by kernel_rfl) (by exact hKz.drew) (fun hHeld => ?_)
                  refine wpB_take 0 _ ?_ rfl (by kernel_rfl) (fun _ _ _ h => h) rfl hHeld ?_ ?_
                  rotate_left
                  · (intro W hW; go_simp; try with_reducible rfl)
                  try simp only [Act.put, List.setIfInBounds_toArray, List.set_cons_zero, List.set_cons_succ]
                  refine wpB_take 1 _ ?_ rfl (by kernel_rfl) (fun _ _ _ h => h) rfl hHeld ?_ ?_
                  rotate_left
                  · (intro W hW; go_simp; try with_reducible rfl)
                  try simp only [Act.put, List.setIfInBounds_toArray, List.set_cons_zero, List.set_cons_succ]
                  refine wpB_take 2 _ ?_ rfl (by kernel_rfl) (fun _ _ _ h => h) rfl hHeld ?_ ?_
                  rotate_left
                  · (intro W hW; go_simp; try with_reducible rfl)
                  try simp only [Act.put, List.setIfInBounds_toArray, List.set_cons_zero, List.set_cons_succ]
                  refine wpB_take 3 _ ?_ rfl (by kernel_rfl) (fun _ _ _ h => h) rfl hHeld ?_ ?_
                  rotate_left
                  · (intro W hW; go_simp; try with_reducible rfl)
                  try simp only [Act.put, List.setIfInBounds_toArray, List.set_cons_zero, List.set_cons_succ]
                  refine wpB_take 4 _ ?_ rfl (by kernel_rfl) (fun _ _ _ h => h) rfl hHeld ?_ ?_
                  rotate_left
                  · (intro W hW; go_simp; try with_reducible rfl)
                  try simp only [Act.put, List.setIfInBounds_toArray, List.set_cons_zero, List.set_cons_succ]
                  refine wpB_take 5 _ ?_ rfl (by kernel_rfl) (fun _ _ _ h => h) rfl hHeld ?_ ?_
                  rotate_left
                  · (intro W hW; go_simp; try with_reducible rfl)
                  try simp only [Act.put, List.setIfInBounds_toArray, List.set_cons_zero, List.set_cons_succ]
                  refine wpB_take 6 _ ?_ rfl (by kernel_rfl) (fun _ _ _ h => h) rfl hHeld ?_ ?_
                  rotate_left
                  · (intro W hW; go_simp; try with_reducible rfl)
                  try simp only [Act.put, List.setIfInBounds_toArray, List.set_cons_zero, List.set_cons_succ]
                  refine wpB_take 7 _ ?_ rfl (by kernel_rfl) (fun _ _ _ h => h) rfl hHeld ?_ ?_
                  rotate_left
                  · (intro W hW; go_simp; try with_reducible rfl)
                  try simp only [Act.put, List.setIfInBounds_toArray, List.set_cons_zero, List.set_cons_succ]
                  refine wpB_step 8 _ rfl (by kernel_rfl) rfl rfl (fun K hK_ => ?_)
                  go_simp
                  refine (hkn _ hHeld).mono ?_
                  rintro e wq ⟨rfl, kq⟩
                  refine hK_.out _ _ (by exact hHeld.trans kq) (fun hHeld => ?_)
                  clear hK_ K
                  try simp only [Act.put, List.setIfInBounds_toArray, List.set_cons_zero, List.set_cons_succ]
                  refine wpB_take 9 _ ?_ rfl (by kernel_rfl) (fun _ _ _ h => h) rfl hHeld ?_ ?_
                  rotate_left
                  · (intro W hW; go_simp; try with_reducible rfl)
                  try simp only [Act.put, List.setIfInBounds_toArray, List.set_cons_zero, List.set_cons_succ]
                  refine wpB_take 10 _ ?_ rfl (by kernel_rfl) (fun _ _ _ h => h) rfl hHeld ?_ ?_
                  rotate_left
                  · (intro W hW; go_simp; try with_reducible rfl)
                  try simp only [Act.put, List.setIfInBounds_toArray, List.set_cons_zero, List.set_cons_succ]
                  refine wpB_take 11 _ ?_ rfl (by kernel_rfl) (fun _ _ _ h => h) rfl hHeld ?_ ?_
                  rotate_left
                  · (intro W hW; go_simp; try with_reducible rfl)
                  try simp only [Act.put, List.setIfInBounds_toArray, List.set_cons_zero, List.set_cons_succ]
                  refine wpB_take 12 _ ?_ rfl (by kernel_rfl) (fun _ _ _ h => h) rfl hHeld ?_ ?_
                  rotate_left
                  · (intro W hW; go_simp; try with_reducible rfl)
                  try simp only [Act.put, List.setIfInBounds_toArray, List.set_cons_zero, List.set_cons_succ]
                  refine wpB_take 14 _ ?_ rfl (by kernel_rfl) (fun _ _ _ h => h) rfl hHeld ?_ ?_
                  rotate_left
                  · (intro W hW; go_simp; try with_reducible rfl)
                  try simp only [Act.put, List.setIfInBounds_toArray, List.set_cons_zero, List.set_cons_succ]
                  refine wpB_step 13 _ rfl (by kernel_rfl) rfl rfl (fun K hK_ => ?_)
                  go_simp
                  refine (hnx _ hHeld).mono ?_
                  rintro e wq ⟨rfl, kq⟩
                  rw [HNN.out]
                  refine hK_.out _ _ (by exact hHeld.trans kq) (fun hHeld => ?_)
                  clear hK_ K
                  try simp only [Act.put, List.setIfInBounds_toArray, List.set_cons_zero, List.set_cons_succ]
                  refine wpB_take 15 _ ?_ rfl (by kernel_rfl) (fun _ _ _ h => h) rfl hHeld ?_ ?_
                  rotate_left
                  · (intro W hW; go_simp; try with_reducible rfl)
                  try simp only [Act.put, List.setIfInBounds_toArray, List.set_cons_zero, List.set_cons_succ]
                  refine wpB_take 16 _ ?_ rfl (by kernel_rfl) (fun _ _ _ h => h) rfl hHeld ?_ ?_
                  rotate_left
                  · (intro W hW; go_simp; try with_reducible rfl)
                  try simp only [Act.put, List.setIfInBounds_toArray, List.set_cons_zero, List.set_cons_succ]
                  refine wpB_take 17 _ ?_ rfl (by kernel_rfl) (fun _ _ _ h => h) rfl hHeld ?_ ?_
                  rotate_left
                  · (intro W hW; go_simp; try with_reducible rfl)
                  try simp only [Act.put, List.setIfInBounds_toArray, List.set_cons_zero, List.set_cons_succ]
                  refine wpB_take 18 _ ?_ rfl (by kernel_rfl) (fun _ _ _ h => h) rfl hHeld ?_ ?_
                  rotate_left
                  · (intro W hW; go_simp; try with_reducible rfl)
                  try simp only [Act.put, List.setIfInBounds_toArray, List.set_cons_zero, List.set_cons_succ]
                  refine wpB_take 19 _ ?_ rfl (by kernel_rfl) (fun _ _ _ h => h) rfl hHeld ?_ ?_
                  rotate_left
                  · (intro W hW; go_simp; try with_reducible rfl)
                  try simp only [Act.put, List.setIfInBounds_toArray, List.set_cons_zero, List.set_cons_succ]
                  refine wpB_take 20 _ ?_ rfl (by kernel_rfl) (fun _ _ _ h => h) rfl hHeld ?_ ?_
                  rotate_left
                  · (intro W hW; go_simp; try with_reducible rfl)
                  try simp only [Act.put, List.setIfInBounds_toArray, List.set_cons_zero, List.set_cons_succ]
                  refine wpB_take 21 _ ?_ rfl (by kernel_rfl) (fun _ _ _ h => h) rfl hHeld ?_ ?_
                  rotate_left
                  · (intro W hW; go_simp; try with_reducible rfl)
                  try simp only [Act.put, List.setIfInBounds_toArray, List.set_cons_zero, List.set_cons_succ]
                  refine wpB_take 22 _ ?_ rfl (by kernel_rfl) (fun _ _ _ h => h) rfl hHeld ?_ ?_
                  rotate_left
                  · (intro W hW; go_simp; try with_reducible rfl)
                  try simp only [Act.put, List.setIfInBounds_toArray, List.set_cons_zero, List.set_cons_succ]
                  refine wpB_take 23 _ ?_ rfl (by kernel_rfl) (fun _ _ _ h => h) rfl hHeld ?_ ?_
                  rotate_left
                  · (intro W hW; go_simp; try with_reducible rfl)
                  try simp only [Act.put, List.setIfInBounds_toArray, List.set_cons_zero, List.set_cons_succ]
                  refine wpB_take 25 _ ?_ rfl (by kernel_rfl) (fun _ _ _ h => h) rfl hHeld ?_ ?_
                  rotate_left
                  · (intro W hW; go_simp; try with_reducible rfl)
                  try simp only [Act.put, List.setIfInBounds_toArray, List.set_cons_zero, List.set_cons_succ]
                  refine wpB_step 24 _ rfl (by kernel_rfl) rfl rfl (fun K hK_ => ?_)
                  go_simp
                  refine (hnx _ hHeld).mono ?_
                  rintro e wq ⟨rfl, kq⟩
                  rw [HNN.out]
                  refine hK_.out _ _ (by exact hHeld.trans kq) (fun hHeld => ?_)
                  clear hK_ K
                  try simp only [Act.put, List.setIfInBounds_toArray, List.set_cons_zero, List.set_cons_succ]
                  refine wpB_take 26 _ ?_ rfl (by kernel_rfl) (fun _ _ _ h => h) rfl hHeld ?_ ?_
                  rotate_left
                  · (intro W hW; go_simp; try with_reducible rfl)
                  try simp only [Act.put, List.setIfInBounds_toArray, List.set_cons_zero, List.set_cons_succ]
                  refine wpB_step 27 _ rfl (by kernel_rfl) rfl rfl (fun K hK_ => ?_)
                  go_simp
                  refine (hpt _).mono ?_
                  rintro e wq ⟨pa, pc, rfl, hOp, kq⟩
                  refine hK_.out _ _ (by exact hHeld.trans kq) (fun hHeld => ?_)
                  clear hK_ K
                  try simp only [Act.put, List.setIfInBounds_toArray, List.set_cons_zero, List.set_cons_succ]
                  refine wpB_step 28 _ rfl (by kernel_rfl) rfl rfl (fun K hK_ => ?_)
                  go_simp
                  refine (hma pa pc _ _ hHeld (SliceAt.of_owns hOp)).mono ?_
                  rintro e wq2 ⟨rfl, kq2⟩
                  refine hK_.out _ _ (by exact hHeld.trans kq2) (fun hHeld => ?_)
                  clear hK_ K
                  try simp only [Act.put, List.setIfInBounds_toArray, List.set_cons_zero, List.set_cons_succ]
                  refine wpB_take 29 _ ?_ rfl (by kernel_rfl) (fun _ _ _ h => h) rfl hHeld ?_ ?_
                  rotate_left
                  · (intro W hW; go_simp; try with_reducible rfl)
                  try simp only [Act.put, List.setIfInBounds_toArray, List.set_cons_zero, List.set_cons_succ]
                  refine wpB_take 30 _ ?_ rfl (by kernel_rfl) (fun _ _ _ h => h) rfl hHeld ?_ ?_
                  rotate_left
                  · (intro W hW; go_simp; try with_reducible rfl)
                  try simp only [Act.put, List.setIfInBounds_toArray, List.set_cons_zero, List.set_cons_succ]
                  refine wpB_take 31 _ ?_ rfl (by kernel_rfl) (fun _ _ _ h => h) rfl hHeld ?_ ?_
                  rotate_left
                  · (intro W hW; go_simp; try with_reducible rfl)
                  try simp only [Act.put, List.setIfInBounds_toArray, List.set_cons_zero, List.set_cons_succ]
                  refine wpB_done (by kernel_rfl) ?_ _
                  clear hma hkn hnx hpt
                  go_wp2_with fail
                  go_roundg g2
                  case rel => exact ⟨m + 1, st_next HM.out, by go_num, hHeld⟩
                  case measure => omega
                · have hwr := wrap_id (NN + id) (by omega) (by omega)
                  refine wpB_begin 999 (Kp [] w5) (by kernel_rfl) (by exact hKz.drew) (fun hHeld => ?_)
                  refine wpB_take 0 _ ?_ rfl (by kernel_rfl) (fun _ _ _ h => h) rfl hHeld ?_ ?_
                  rotate_left
                  · (intro W hW; go_simp; try with_reducible rfl)
                  try simp only [Act.put, List.setIfInBounds_toArray, List.set_cons_zero, List.set_cons_succ]
                  refine wpB_take 1 _ ?_ rfl (by kernel_rfl) (fun _ _ _ h => h) rfl hHeld ?_ ?_
                  rotate_left
                  · (intro W hW; go_simp; try with_reducible rfl)
                  try simp only [Act.put, List.setIfInBounds_toArray, List.set_cons_zero, List.set_cons_succ]
                  refine wpB_take 2 _ ?_ rfl (by kernel_rfl) (fun _ _ _ h => h) rfl hHeld ?_ ?_
                  rotate_left
                  · (intro W hW; go_simp; try with_reducible rfl)
                  try simp only [Act.put, List.setIfInBounds_toArray, List.set_cons_zero, List.set_cons_succ]
                  refine wpB_take 3 _ ?_ rfl (by kernel_rfl) (fun _ _ _ h => h) rfl hHeld ?_ ?_
                  rotate_left
                  · (intro W hW; go_simp; try with_reducible rfl)
                  try simp only [Act.put, List.setIfInBounds_toArray, List.set_cons_zero, List.set_cons_succ]
                  refine wpB_take 4 _ ?_ rfl (by kernel_rfl) (fun _ _ _ h => h) rfl hHeld ?_ ?_
                  rotate_left
                  · (intro W hW; go_simp; try with_reducible rfl)
                  try simp only [Act.put, List.setIfInBounds_toArray, List.set_cons_zero, List.set_cons_succ]
                  refine wpB_take 5 _ ?_ rfl (by kernel_rfl) (fun _ _ _ h => h) rfl hHeld ?_ ?_
                  rotate_left
                  · (intro W hW; go_simp; try with_reducible rfl)
                  try simp only [Act.put, List.setIfInBounds_toArray, List.set_cons_zero, List.set_cons_succ]
                  refine wpB_take 6 _ ?_ rfl (by kernel_rfl) (fun _ _ _ h => h) rfl hHeld ?_ ?_
                  rotate_left
                  · (intro W hW; go_simp; try with_reducible rfl)
                  try simp only [Act.put, List.setIfInBounds_toArray, List.set_cons_zero, List.set_cons_succ]
                  refine wpB_take 7 _ ?_ rfl (by kernel_rfl) (fun _ _ _ h => h) rfl hHeld ?_ ?_
                  rotate_left
                  · (intro W hW; go_simp; try with_reducible rfl)
                  try simp only [Act.put, List.setIfInBounds_toArray, List.set_cons_zero, List.set_cons_succ]
                  refine wpB_step 8 _ rfl (by kernel_rfl) rfl rfl (fun K hK_ => ?_)
                  go_simp
                  refine (hkn _ hHeld).mono ?_
                  rintro e wq ⟨rfl, kq⟩
                  refine hK_.out _ _ (by exact hHeld.trans kq) (fun hHeld => ?_)
                  clear hK_ K
                  try simp only [Act.put, List.setIfInBounds_toArray, List.set_cons_zero, List.set_cons_succ]
                  refine wpB_take 9 _ ?_ rfl (by kernel_rfl) (fun _ _ _ h => h) rfl hHeld ?_ ?_
                  rotate_left
                  · (intro W hW; go_simp; try with_reducible rfl)
                  try simp only [Act.put, List.setIfInBounds_toArray, List.set_cons_zero, List.set_cons_succ]
                  refine wpB_take 10 _ ?_ rfl (by kernel_rfl) (fun _ _ _ h => h) rfl hHeld ?_ ?_
                  rotate_left
                  · (intro W hW; go_simp; try with_reducible rfl)
                  try simp only [Act.put, List.setIfInBounds_toArray, List.set_cons_zero, List.set_cons_succ]
                  refine wpB_take 11 _ ?_ rfl (by kernel_rfl) (fun _ _ _ h => h) rfl hHeld ?_ ?_
                  rotate_left
                  · (intro W hW; go_simp; try with_reducible rfl)
                  try simp only [Act.put, List.setIfInBounds_toArray, List.set_cons_zero, List.set_cons_succ]
                  refine wpB_take 12 _ ?_ rfl (by kernel_rfl) (fun _ _ _ h => h) rfl hHeld ?_ ?_
                  rotate_left
                  · (intro W hW; go_simp; try with_reducible rfl)
                  try simp only [Act.put, List.setIfInBounds_toArray, List.set_cons_zero, List.set_cons_succ]
                  refine wpB_take 14 _ ?_ rfl (by kernel_rfl) (fun _ _ _ h => h) rfl hHeld ?_ ?_
                  rotate_left
                  · (intro W hW; go_simp; try with_reducible rfl)
                  try simp only [Act.put, List.setIfInBounds_toArray, List.set_cons_zero, List.set_cons_succ]
                  refine wpB_step 13 _ rfl (by kernel_rfl) rfl rfl (fun K hK_ => ?_)
                  go_simp
                  refine (hnx _ hHeld).mono ?_
                  rintro e wq ⟨rfl, kq⟩
                  rw [HNN.out]
                  refine hK_.out _ _ (by exact hHeld.trans kq) (fun hHeld => ?_)
                  clear hK_ K
                  try simp only [Act.put, List.setIfInBounds_toArray, List.set_cons_zero, List.set_cons_succ]
                  refine wpB_take 15 _ ?_ rfl (by kernel_rfl) (fun _ _ _ h => h) rfl hHeld ?_ ?_
                  rotate_left
                  · (intro W hW; go_simp; try with_reducible rfl)
                  try simp only [Act.put, List.setIfInBounds_toArray, List.set_cons_zero, List.set_cons_succ]
                  refine wpB_take 16 _ ?_ rfl (by kernel_rfl) (fun _ _ _ h => h) rfl hHeld ?_ ?_
                  rotate_left
                  · (intro W hW; go_simp; try with_reducible rfl)
                  try simp only [Act.put, List.setIfInBounds_toArray, List.set_cons_zero, List.set_cons_succ]
                  refine wpB_take 17 _ ?_ rfl (by kernel_rfl) (fun _ _ _ h => h) rfl hHeld ?_ ?_
                  rotate_left
                  · (intro W hW; go_simp; try with_reducible rfl)
                  try simp only [Act.put, List.setIfInBounds_toArray, List.set_cons_zero, List.set_cons_succ]
                  refine wpB_skip 18 _ rfl (by kernel_rfl) (fun _ _ _ h => h) rfl hHeld ?_
                  try simp only [Act.put, List.setIfInBounds_toArray, List.set_cons_zero, List.set_cons_succ]
                  refine wpB_skip 19 _ rfl (by kernel_rfl) (fun _ _ _ h => h) rfl hHeld ?_
                  try simp only [Act.put, List.setIfInBounds_toArray, List.set_cons_zero, List.set_cons_succ]
                  refine wpB_skip 20 _ rfl (by kernel_rfl) (fun _ _ _ h => h) rfl hHeld ?_
                  try simp only [Act.put, List.setIfInBounds_toArray, List.set_cons_zero, List.set_cons_succ]
                  refine wpB_skip 21 _ rfl (by kernel_rfl) (fun _ _ _ h => h) rfl hHeld ?_
                  try simp only [Act.put, List.setIfInBounds_toArray, List.set_cons_zero, List.set_cons_succ]
                  refine wpB_skip 22 _ rfl (by kernel_rfl) (fun _ _ _ h => h) rfl hHeld ?_
                  try simp only [Act.put, List.setIfInBounds_toArray, List.set_cons_zero, List.set_cons_succ]
                  refine wpB_skip 23 _ rfl (by kernel_rfl) (fun _ _ _ h => h) rfl hHeld ?_
                  try simp only [Act.put, List.setIfInBounds_toArray, List.set_cons_zero, List.set_cons_succ]
                  refine wpB_skip 24 _ rfl (by kernel_rfl) (fun _ _ _ h => h) rfl hHeld ?_
                  try simp only [Act.put, List.setIfInBounds_toArray, List.set_cons_zero, List.set_cons_succ]
                  refine wpB_skip 25 _ rfl (by kernel_rfl) (fun _ _ _ h => h) rfl hHeld ?_
                  try simp only [Act.put, List.setIfInBounds_toArray, List.set_cons_zero, List.set_cons_succ]
                  refine wpB_skip 26 _ rfl (by kernel_rfl) (fun _ _ _ h => h) rfl hHeld ?_
                  try simp only [Act.put, List.setIfInBounds_toArray, List.set_cons_zero, List.set_cons_succ]
                  refine wpB_skip 27 _ rfl (by kernel_rfl) (fun _ _ _ h => h) rfl hHeld ?_
                  try simp only [Act.put, List.setIfInBounds_toArray, List.set_cons_zero, List.set_cons_succ]
                  refine wpB_skip 28 _ rfl (by kernel_rfl) (fun _ _ _ h => h) rfl hHeld ?_
                  try simp only [Act.put, List.setIfInBounds_toArray, List.set_cons_zero, List.set_cons_succ]
                  refine wpB_skip 29 _ rfl (by kernel_rfl) (fun _ _ _ h => h) rfl hHeld ?_
                  try simp only [Act.put, List.setIfInBounds_toArray, List.set_cons_zero, List.set_cons_succ]
                  refine wpB_take 30 _ ?_ rfl (by kernel_rfl) (fun _ _ _ h => h) rfl hHeld ?_ ?_
                  rotate_left
                  · (intro W hW; go_simp; try with_reducible rfl)
                  try simp only [Act.put, List.setIfInBounds_toArray, List.set_cons_zero, List.set_cons_succ]
                  refine wpB_take 31 _ ?_ rfl (by kernel_rfl) (fun _ _ _ h => h) rfl hHeld ?_ ?_
                  rotate_left
                  · (intro W hW; go_simp; try with_reducible rfl)
                  try simp only [Act.put, List.setIfInBounds_toArray, List.set_cons_zero, List.set_cons_succ]
                  refine wpB_done (by kernel_rfl) ?_ _
                  clear hkn hnx hpt
                  go_wp2_with fail
                  go_roundg g2
                  case rel => exact ⟨m + 1, st_next HM.out, by go_num, hHeld⟩
                  case measure => omega
              · obtain rfl : m = (gs').length := by omega
                obtain rfl : gk = 0 := by omega
                have hfin : Kp [] w wr := HKc.out.trans hKx
                have HIF := Lib.hid (hic.keep0 hKx)
                have HOF := Lib.hid (owns_other HOC.out hKx (fun _ _ => by simp))
                clear hm
                go_wp2_with fail
                go_roundg g'
                case rel => exact ⟨n + 1, ga', gc', gs', st_next HN.out, by go_num, rfl, hfin, by rw [HIX.out]; exact HIF.out, HOF.out, HGL.out, by rw [HIX.out]; exact HGG.out, Nat.le_trans HSZ.out hKx.size⟩
                case measure => omega
          · have hkb : (x1 == 1) = false := by simp [hk1]
            have hgl4 : gs.length ≤ n + 1 := by omega
            have hgG4 := HGP.out
            clear hc0 hk1 hm0 hge
            have HKc := Lib.hid (hK4)
            have hic := hI4
            have HOC := Lib.hid (hO4)
            have HGL := Lib.hid (hgl4)
            have HGG := Lib.hid (hgG4)
            have HSZ := Lib.hid (hs4)
            have hsc := SliceAt.of_owns (hO4)
            have hKc0 := Kp.refl [] w4
            go_wp2_with fail
            go_loopg [10] (gs).length (fun g i wx => ∃ m : Nat, m + g = (gs).length ∧ i = .int .i64 m ∧ Kp [] w4 wx)
            case atStart => exact ⟨0, by omega, rfl, hKc0⟩
            case round =>
              clear hKc0
              obtain ⟨m, hm, rfl, hKx⟩ := hrel
              have HM := Lib.hid hm
              by_cases hmx : m < (gs).length
              · obtain ⟨g2, rfl⟩ : ∃ g2, gk = g2 + 1 := ⟨gk - 1, by omega⟩
                clear hm
                have hmI : (m : Int) < ((gs).length : Int) := by omega
                obtain ⟨gb, gbo, gcc, hv', e1⟩ := strv_at hsc m hmx
                simp only [Value.slice.injEq] at hv'
                obtain ⟨rfl, -, rfl⟩ := hv'
                have hkG := HGG.out _ (List.getElem_mem hmx)
                obtain ⟨kk, hkk⟩ : ∃ kk, kk = (gs)[m] := ⟨_, rfl⟩
                rw [← hkk] at e1 hkG
                have d1 := Kp.cellAt (X := []) e1 (by simp)
                have hkok := hic2.plainG _ hkG
                have hkm := max_key (keyOk_size hkok)
                have hgt := iget hic2.fit kk hkm wr (hic.keep0 hKx)
                rw [gone_get hic2 hkG] at hgt
                simp only [EntVA] at hgt
                have HKK := Lib.hid hkk
                have HKO := Lib.hid hkok
                clear e1 hkk hkok
                go_wp2_with fail
                refine hgt.mono ?_
                rintro e wy ⟨rfl, ky⟩
                have hKy := hKx.trans ky
                clear hgt ky hKx
                go_wp2_with fail
                obtain ⟨wz, hwz⟩ : ∃ wz, wz = wy.alloc (.cells #[.string E0, .int .i64 0, .int .i64 0, .int .i64 0, .string E0] 32) := ⟨_, rfl⟩
                have hKz : Kp [] w4 wz := hwz ▸ hKy.alloc _
                rw [← hwz]
                have HWZ := Lib.hid hwz
                have hkn := fun W (k : Kp [] w4 W) => iknown hic2.fit kk hkm W (hic.keep0 k)
                rw [gone_known hkG] at hkn
                have hnx := fun W (k : Kp [] w4 W) => inext W (hic.keep0 k)
                have hpt := fun W => put_any kk (NN + id) W
                clear hwz
                by_cases hle : NN + id ≤ 1099511627776
                · have hma := fun (la : Option Addr) (lc B : Nat) (W : World) (k : Kp [] w4 W) (hl : LocsAt B W (.slice la 9 lc) (locs9 9)) => imay hic2.fit (putR kk (NN + id)) (.slice la 9 lc) B W (hic.keep0 k) hl (by show (locs9 9).length ≤ 1000; decide) (by have := keyOk_size HKO.out; show kk.size < 16384; omega) (by show E0.size < 16384; decide)
                  rw [put_held HKO.out (gone_known hkG) (by omega) hle] at hma
                  have hwr := wrap_id (NN + id) (by omega) (by omega)
                  refine wpB_begin 999 (Kp [] w4) (by kernel_rfl) (by exact hKz.drew) (fun hHeld => ?_)
                  refine wpB_take 0 _ ?_ rfl (by kernel_rfl) (fun _ _ _ h => h) rfl hHeld ?_ ?_
                  rotate_left
                  · (intro W hW; go_simp; try with_reducible rfl)
                  try simp only [Act.put, List.setIfInBounds_toArray, List.set_cons_zero, List.set_cons_succ]
                  refine wpB_take 1 _ ?_ rfl (by kernel_rfl) (fun _ _ _ h => h) rfl hHeld ?_ ?_
                  rotate_left
                  · (intro W hW; go_simp; try with_reducible rfl)
                  try simp only [Act.put, List.setIfInBounds_toArray, List.set_cons_zero, List.set_cons_succ]
                  refine wpB_take 2 _ ?_ rfl (by kernel_rfl) (fun _ _ _ h => h) rfl hHeld ?_ ?_
                  rotate_left
                  · (intro W hW; go_simp; try with_reducible rfl)
                  try simp only [Act.put, List.setIfInBounds_toArray, List.set_cons_zero, List.set_cons_succ]
                  refine wpB_take 3 _ ?_ rfl (by kernel_rfl) (fun _ _ _ h => h) rfl hHeld ?_ ?_
                  rotate_left
                  · (intro W hW; go_simp; try with_reducible rfl)
                  try simp only [Act.put, List.setIfInBounds_toArray, List.set_cons_zero, List.set_cons_succ]
                  refine wpB_take 4 _ ?_ rfl (by kernel_rfl) (fun _ _ _ h => h) rfl hHeld ?_ ?_
                  rotate_left
                  · (intro W hW; go_simp; try with_reducible rfl)
                  try simp only [Act.put, List.setIfInBounds_toArray, List.set_cons_zero, List.set_cons_succ]
                  refine wpB_take 5 _ ?_ rfl (by kernel_rfl) (fun _ _ _ h => h) rfl hHeld ?_ ?_
                  rotate_left
                  · (intro W hW; go_simp; try with_reducible rfl)
                  try simp only [Act.put, List.setIfInBounds_toArray, List.set_cons_zero, List.set_cons_succ]
                  refine wpB_take 6 _ ?_ rfl (by kernel_rfl) (fun _ _ _ h => h) rfl hHeld ?_ ?_
                  rotate_left
                  · (intro W hW; go_simp; try with_reducible rfl)
                  try simp only [Act.put, List.setIfInBounds_toArray, List.set_cons_zero, List.set_cons_succ]
                  refine wpB_take 7 _ ?_ rfl (by kernel_rfl) (fun _ _ _ h => h) rfl hHeld ?_ ?_
                  rotate_left
                  · (intro W hW; go_simp; try with_reducible rfl)
                  try simp only [Act.put, List.setIfInBounds_toArray, List.set_cons_zero, List.set_cons_succ]
                  refine wpB_step 8 _ rfl (by kernel_rfl) rfl rfl (fun K hK_ => ?_)
                  go_simp
                  refine (hkn _ hHeld).mono ?_
                  rintro e wq ⟨rfl, kq⟩
                  refine hK_.out _ _ (by exact hHeld.trans kq) (fun hHeld => ?_)
                  clear hK_ K
                  try simp only [Act.put, List.setIfInBounds_toArray, List.set_cons_zero, List.set_cons_succ]
                  refine wpB_take 9 _ ?_ rfl (by kernel_rfl) (fun _ _ _ h => h) rfl hHeld ?_ ?_
                  rotate_left
                  · (intro W hW; go_simp; try with_reducible rfl)
                  try simp only [Act.put, List.setIfInBounds_toArray, List.set_cons_zero, List.set_cons_succ]
                  refine wpB_take 10 _ ?_ rfl (by kernel_rfl) (fun _ _ _ h => h) rfl hHeld ?_ ?_
                  rotate_left
                  · (intro W hW; go_simp; try with_reducible rfl)
                  try simp only [Act.put, List.setIfInBounds_toArray, List.set_cons_zero, List.set_cons_succ]
                  refine wpB_take 11 _ ?_ rfl (by kernel_rfl) (fun _ _ _ h => h) rfl hHeld ?_ ?_
                  rotate_left
                  · (intro W hW; go_simp; try with_reducible rfl)
                  try simp only [Act.put, List.setIfInBounds_toArray, List.set_cons_zero, List.set_cons_succ]
                  refine wpB_take 12 _ ?_ rfl (by kernel_rfl) (fun _ _ _ h => h) rfl hHeld ?_ ?_
                  rotate_left
                  · (intro W hW; go_simp; try with_reducible rfl)
                  try simp only [Act.put, List.setIfInBounds_toArray, List.set_cons_zero, List.set_cons_succ]
                  refine wpB_take 14 _ ?_ rfl (by kernel_rfl) (fun _ _ _ h => h) rfl hHeld ?_ ?_
                  rotate_left
                  · (intro W hW; go_simp; try with_reducible rfl)
                  try simp only [Act.put, List.setIfInBounds_toArray, List.set_cons_zero, List.set_cons_succ]
                  refine wpB_step 13 _ rfl (by kernel_rfl) rfl rfl (fun K hK_ => ?_)
                  go_simp
                  refine (hnx _ hHeld).mono ?_
                  rintro e wq ⟨rfl, kq⟩
                  rw [HNN.out]
                  refine hK_.out _ _ (by exact hHeld.trans kq) (fun hHeld => ?_)
                  clear hK_ K
                  try simp only [Act.put, List.setIfInBounds_toArray, List.set_cons_zero, List.set_cons_succ]
                  refine wpB_take 15 _ ?_ rfl (by kernel_rfl) (fun _ _ _ h => h) rfl hHeld ?_ ?_
                  rotate_left
                  · (intro W hW; go_simp; try with_reducible rfl)
                  try simp only [Act.put, List.setIfInBounds_toArray, List.set_cons_zero, List.set_cons_succ]
                  refine wpB_take 16 _ ?_ rfl (by kernel_rfl) (fun _ _ _ h => h) rfl hHeld ?_ ?_
                  rotate_left
                  · (intro W hW; go_simp; try with_reducible rfl)
                  try simp only [Act.put, List.setIfInBounds_toArray, List.set_cons_zero, List.set_cons_succ]
                  refine wpB_take 17 _ ?_ rfl (by kernel_rfl) (fun _ _ _ h => h) rfl hHeld ?_ ?_
                  rotate_left
                  · (intro W hW; go_simp; try with_reducible rfl)
                  try simp only [Act.put, List.setIfInBounds_toArray, List.set_cons_zero, List.set_cons_succ]
                  refine wpB_take 18 _ ?_ rfl (by kernel_rfl) (fun _ _ _ h => h) rfl hHeld ?_ ?_
                  rotate_left
                  · (intro W hW; go_simp; try with_reducible rfl)
                  try simp only [Act.put, List.setIfInBounds_toArray, List.set_cons_zero, List.set_cons_succ]
                  refine wpB_take 19 _ ?_ rfl (by kernel_rfl) (fun _ _ _ h => h) rfl hHeld ?_ ?_
                  rotate_left
                  · (intro W hW; go_simp; try with_reducible rfl)
                  try simp only [Act.put, List.setIfInBounds_toArray, List.set_cons_zero, List.set_cons_succ]
                  refine wpB_take 20 _ ?_ rfl (by kernel_rfl) (fun _ _ _ h => h) rfl hHeld ?_ ?_
                  rotate_left
                  · (intro W hW; go_simp; try with_reducible rfl)
                  try simp only [Act.put, List.setIfInBounds_toArray, List.set_cons_zero, List.set_cons_succ]
                  refine wpB_take 21 _ ?_ rfl (by kernel_rfl) (fun _ _ _ h => h) rfl hHeld ?_ ?_
                  rotate_left
                  · (intro W hW; go_simp; try with_reducible rfl)
                  try simp only [Act.put, List.setIfInBounds_toArray, List.set_cons_zero, List.set_cons_succ]
                  refine wpB_take 22 _ ?_ rfl (by kernel_rfl) (fun _ _ _ h => h) rfl hHeld ?_ ?_
                  rotate_left
                  · (intro W hW; go_simp; try with_reducible rfl)
                  try simp only [Act.put, List.setIfInBounds_toArray, List.set_cons_zero, List.set_cons_succ]
                  refine wpB_take 23 _ ?_ rfl (by kernel_rfl) (fun _ _ _ h => h) rfl hHeld ?_ ?_
                  rotate_left
                  · (intro W hW; go_simp; try with_reducible rfl)
                  try simp only [Act.put, List.setIfInBounds_toArray, List.set_cons_zero, List.set_cons_succ]
                  refine wpB_take 25 _ ?_ rfl (by kernel_rfl) (fun _ _ _ h => h) rfl hHeld ?_ ?_
                  rotate_left
                  · (intro W hW; go_simp; try with_reducible rfl)
                  try simp only [Act.put, List.setIfInBounds_toArray, List.set_cons_zero, List.set_cons_succ]
                  refine wpB_step 24 _ rfl (by kernel_rfl) rfl rfl (fun K hK_ => ?_)
                  go_simp
                  refine (hnx _ hHeld).mono ?_
                  rintro e wq ⟨rfl, kq⟩
                  rw [HNN.out]
                  refine hK_.out _ _ (by exact hHeld.trans kq) (fun hHeld => ?_)
                  clear hK_ K
                  try simp only [Act.put, List.setIfInBounds_toArray, List.set_cons_zero, List.set_cons_succ]
                  refine wpB_take 26 _ ?_ rfl (by kernel_rfl) (fun _ _ _ h => h) rfl hHeld ?_ ?_
                  rotate_left
                  · (intro W hW; go_simp; try with_reducible rfl)
                  try simp only [Act.put, List.setIfInBounds_toArray, List.set_cons_zero, List.set_cons_succ]
                  refine wpB_step 27 _ rfl (by kernel_rfl) rfl rfl (fun K hK_ => ?_)
                  go_simp
                  refine (hpt _).mono ?_
                  rintro e wq ⟨pa, pc, rfl, hOp, kq⟩
                  refine hK_.out _ _ (by exact hHeld.trans kq) (fun hHeld => ?_)
                  clear hK_ K
                  try simp only [Act.put, List.setIfInBounds_toArray, List.set_cons_zero, List.set_cons_succ]
                  refine wpB_step 28 _ rfl (by kernel_rfl) rfl rfl (fun K hK_ => ?_)
                  go_simp
                  refine (hma pa pc _ _ hHeld (SliceAt.of_owns hOp)).mono ?_
                  rintro e wq2 ⟨rfl, kq2⟩
                  refine hK_.out _ _ (by exact hHeld.trans kq2) (fun hHeld => ?_)
                  clear hK_ K
                  try simp only [Act.put, List.setIfInBounds_toArray, List.set_cons_zero, List.set_cons_succ]
                  refine wpB_take 29 _ ?_ rfl (by kernel_rfl) (fun _ _ _ h => h) rfl hHeld ?_ ?_
                  rotate_left
                  · (intro W hW; go_simp; try with_reducible rfl)
                  try simp only [Act.put, List.setIfInBounds_toArray, List.set_cons_zero, List.set_cons_succ]
                  refine wpB_take 30 _ ?_ rfl (by kernel_rfl) (fun _ _ _ h => h) rfl hHeld ?_ ?_
                  rotate_left
                  · (intro W hW; go_simp; try with_reducible rfl)
                  try simp only [Act.put, List.setIfInBounds_toArray, List.set_cons_zero, List.set_cons_succ]
                  refine wpB_take 31 _ ?_ rfl (by kernel_rfl) (fun _ _ _ h => h) rfl hHeld ?_ ?_
                  rotate_left
                  · (intro W hW; go_simp; try with_reducible rfl)
                  try simp only [Act.put, List.setIfInBounds_toArray, List.set_cons_zero, List.set_cons_succ]
                  refine wpB_done (by kernel_rfl) ?_ _
                  clear hma hkn hnx hpt
                  go_wp2_with fail
                  go_roundg g2
                  case rel => exact ⟨m + 1, st_next HM.out, by go_num, hHeld⟩
                  case measure => omega
                · have hwr := wrap_id (NN + id) (by omega) (by omega)
                  refine wpB_begin 999 (Kp [] w4) (by kernel_rfl) (by exact hKz.drew) (fun hHeld => ?_)
                  refine wpB_take 0 _ ?_ rfl (by kernel_rfl) (fun _ _ _ h => h) rfl hHeld ?_ ?_
                  rotate_left
                  · (intro W hW; go_simp; try with_reducible rfl)
                  try simp only [Act.put, List.setIfInBounds_toArray, List.set_cons_zero, List.set_cons_succ]
                  refine wpB_take 1 _ ?_ rfl (by kernel_rfl) (fun _ _ _ h => h) rfl hHeld ?_ ?_
                  rotate_left
                  · (intro W hW; go_simp; try with_reducible rfl)
                  try simp only [Act.put, List.setIfInBounds_toArray, List.set_cons_zero, List.set_cons_succ]
                  refine wpB_take 2 _ ?_ rfl (by kernel_rfl) (fun _ _ _ h => h) rfl hHeld ?_ ?_
                  rotate_left
                  · (intro W hW; go_simp; try with_reducible rfl)
                  try simp only [Act.put, List.setIfInBounds_toArray, List.set_cons_zero, List.set_cons_succ]
                  refine wpB_take 3 _ ?_ rfl (by kernel_rfl) (fun _ _ _ h => h) rfl hHeld ?_ ?_
                  rotate_left
                  · (intro W hW; go_simp; try with_reducible rfl)
                  try simp only [Act.put, List.setIfInBounds_toArray, List.set_cons_zero, List.set_cons_succ]
                  refine wpB_take 4 _ ?_ rfl (by kernel_rfl) (fun _ _ _ h => h) rfl hHeld ?_ ?_
                  rotate_left
                  · (intro W hW; go_simp; try with_reducible rfl)
                  try simp only [Act.put, List.setIfInBounds_toArray, List.set_cons_zero, List.set_cons_succ]
                  refine wpB_take 5 _ ?_ rfl (by kernel_rfl) (fun _ _ _ h => h) rfl hHeld ?_ ?_
                  rotate_left
                  · (intro W hW; go_simp; try with_reducible rfl)
                  try simp only [Act.put, List.setIfInBounds_toArray, List.set_cons_zero, List.set_cons_succ]
                  refine wpB_take 6 _ ?_ rfl (by kernel_rfl) (fun _ _ _ h => h) rfl hHeld ?_ ?_
                  rotate_left
                  · (intro W hW; go_simp; try with_reducible rfl)
                  try simp only [Act.put, List.setIfInBounds_toArray, List.set_cons_zero, List.set_cons_succ]
                  refine wpB_take 7 _ ?_ rfl (by kernel_rfl) (fun _ _ _ h => h) rfl hHeld ?_ ?_
                  rotate_left
                  · (intro W hW; go_simp; try with_reducible rfl)
                  try simp only [Act.put, List.setIfInBounds_toArray, List.set_cons_zero, List.set_cons_succ]
                  refine wpB_step 8 _ rfl (by kernel_rfl) rfl rfl (fun K hK_ => ?_)
                  go_simp
                  refine (hkn _ hHeld).mono ?_
                  rintro e wq ⟨rfl, kq⟩
                  refine hK_.out _ _ (by exact hHeld.trans kq) (fun hHeld => ?_)
                  clear hK_ K
                  try simp only [Act.put, List.setIfInBounds_toArray, List.set_cons_zero, List.set_cons_succ]
                  refine wpB_take 9 _ ?_ rfl (by kernel_rfl) (fun _ _ _ h => h) rfl hHeld ?_ ?_
                  rotate_left
                  · (intro W hW; go_simp; try with_reducible rfl)
                  try simp only [Act.put, List.setIfInBounds_toArray, List.set_cons_zero, List.set_cons_succ]
                  refine wpB_take 10 _ ?_ rfl (by kernel_rfl) (fun _ _ _ h => h) rfl hHeld ?_ ?_
                  rotate_left
                  · (intro W hW; go_simp; try with_reducible rfl)
                  try simp only [Act.put, List.setIfInBounds_toArray, List.set_cons_zero, List.set_cons_succ]
                  refine wpB_take 11 _ ?_ rfl (by kernel_rfl) (fun _ _ _ h => h) rfl hHeld ?_ ?_
                  rotate_left
                  · (intro W hW; go_simp; try with_reducible rfl)
                  try simp only [Act.put, List.setIfInBounds_toArray, List.set_cons_zero, List.set_cons_succ]
                  refine wpB_take 12 _ ?_ rfl (by kernel_rfl) (fun _ _ _ h => h) rfl hHeld ?_ ?_
                  rotate_left
                  · (intro W hW; go_simp; try with_reducible rfl)
                  try simp only [Act.put, List.setIfInBounds_toArray, List.set_cons_zero, List.set_cons_succ]
                  refine wpB_take 14 _ ?_ rfl (by kernel_rfl) (fun _ _ _ h => h) rfl hHeld ?_ ?_
                  rotate_left
                  · (intro W hW; go_simp; try with_reducible rfl)
                  try simp only [Act.put, List.setIfInBounds_toArray, List.set_cons_zero, List.set_cons_succ]
                  refine wpB_step 13 _ rfl (by kernel_rfl) rfl rfl (fun K hK_ => ?_)
                  go_simp
                  refine (hnx _ hHeld).mono ?_
                  rintro e wq ⟨rfl, kq⟩
                  rw [HNN.out]
                  refine hK_.out _ _ (by exact hHeld.trans kq) (fun hHeld => ?_)
                  clear hK_ K
                  try simp only [Act.put, List.setIfInBounds_toArray, List.set_cons_zero, List.set_cons_succ]
                  refine wpB_take 15 _ ?_ rfl (by kernel_rfl) (fun _ _ _ h => h) rfl hHeld ?_ ?_
                  rotate_left
                  · (intro W hW; go_simp; try with_reducible rfl)
                  try simp only [Act.put, List.setIfInBounds_toArray, List.set_cons_zero, List.set_cons_succ]
                  refine wpB_take 16 _ ?_ rfl (by kernel_rfl) (fun _ _ _ h => h) rfl hHeld ?_ ?_
                  rotate_left
                  · (intro W hW; go_simp; try with_reducible rfl)
                  try simp only [Act.put, List.setIfInBounds_toArray, List.set_cons_zero, List.set_cons_succ]
                  refine wpB_take 17 _ ?_ rfl (by kernel_rfl) (fun _ _ _ h => h) rfl hHeld ?_ ?_
                  rotate_left
                  · (intro W hW; go_simp; try with_reducible rfl)
                  try simp only [Act.put, List.setIfInBounds_toArray, List.set_cons_zero, List.set_cons_succ]
                  refine wpB_skip 18 _ rfl (by kernel_rfl) (fun _ _ _ h => h) rfl hHeld ?_
                  try simp only [Act.put, List.setIfInBounds_toArray, List.set_cons_zero, List.set_cons_succ]
                  refine wpB_skip 19 _ rfl (by kernel_rfl) (fun _ _ _ h => h) rfl hHeld ?_
                  try simp only [Act.put, List.setIfInBounds_toArray, List.set_cons_zero, List.set_cons_succ]
                  refine wpB_skip 20 _ rfl (by kernel_rfl) (fun _ _ _ h => h) rfl hHeld ?_
                  try simp only [Act.put, List.setIfInBounds_toArray, List.set_cons_zero, List.set_cons_succ]
                  refine wpB_skip 21 _ rfl (by kernel_rfl) (fun _ _ _ h => h) rfl hHeld ?_
                  try simp only [Act.put, List.setIfInBounds_toArray, List.set_cons_zero, List.set_cons_succ]
                  refine wpB_skip 22 _ rfl (by kernel_rfl) (fun _ _ _ h => h) rfl hHeld ?_
                  try simp only [Act.put, List.setIfInBounds_toArray, List.set_cons_zero, List.set_cons_succ]
                  refine wpB_skip 23 _ rfl (by kernel_rfl) (fun _ _ _ h => h) rfl hHeld ?_
                  try simp only [Act.put, List.setIfInBounds_toArray, List.set_cons_zero, List.set_cons_succ]
                  refine wpB_skip 24 _ rfl (by kernel_rfl) (fun _ _ _ h => h) rfl hHeld ?_
                  try simp only [Act.put, List.setIfInBounds_toArray, List.set_cons_zero, List.set_cons_succ]
                  refine wpB_skip 25 _ rfl (by kernel_rfl) (fun _ _ _ h => h) rfl hHeld ?_
                  try simp only [Act.put, List.setIfInBounds_toArray, List.set_cons_zero, List.set_cons_succ]
                  refine wpB_skip 26 _ rfl (by kernel_rfl) (fun _ _ _ h => h) rfl hHeld ?_
                  try simp only [Act.put, List.setIfInBounds_toArray, List.set_cons_zero, List.set_cons_succ]
                  refine wpB_skip 27 _ rfl (by kernel_rfl) (fun _ _ _ h => h) rfl hHeld ?_
                  try simp only [Act.put, List.setIfInBounds_toArray, List.set_cons_zero, List.set_cons_succ]
                  refine wpB_skip 28 _ rfl (by kernel_rfl) (fun _ _ _ h => h) rfl hHeld ?_
                  try simp only [Act.put, List.setIfInBounds_toArray, List.set_cons_zero, List.set_cons_succ]
                  refine wpB_skip 29 _ rfl (by kernel_rfl) (fun _ _ _ h => h) rfl hHeld ?_
                  try simp only [Act.put, List.setIfInBounds_toArray, List.set_cons_zero, List.set_cons_succ]
                  refine wpB_take 30 _ ?_ rfl (by kernel_rfl) (fun _ _ _ h => h) rfl hHeld ?_ ?_
                  rotate_left
                  · (intro W hW; go_simp; try with_reducible rfl)
                  try simp only [Act.put, List.setIfInBounds_toArray, List.set_cons_zero, List.set_cons_succ]
                  refine wpB_take 31 _ ?_ rfl (by kernel_rfl) (fun _ _ _ h => h) rfl hHeld ?_ ?_
                  rotate_left
                  · (intro W hW; go_simp; try with_reducible rfl)
                  try simp only [Act.put, List.setIfInBounds_toArray, List.set_cons_zero, List.set_cons_succ]
                  refine wpB_done (by kernel_rfl) ?_ _
                  clear hkn hnx hpt
                  go_wp2_with fail
                  go_roundg g2
                  case rel => exact ⟨m + 1, st_next HM.out, by go_num, hHeld⟩
                  case measure => omega
              · obtain rfl : m = (gs).length := by omega
                obtain rfl : gk = 0 := by omega
                have hfin : Kp [] w wr := HKc.out.trans hKx
                have HIF := Lib.hid (hic.keep0 hKx)
                have HOF := Lib.hid (owns_other HOC.out hKx (fun _ _ => by simp))
                clear hm
                go_wp2_with fail
                go_roundg g'
                case rel => exact ⟨n + 1, ga, gc, gs, st_next HN.out, by go_num, rfl, hfin, by rw [HIX.out]; exact HIF.out, HOF.out, HGL.out, by rw [HIX.out]; exact HGG.out, Nat.le_trans HSZ.out hKx.size⟩
                case measure => omega
        · have hb : (C == 0) = false := by simp [hc0]
          have hgl4 : gs.length ≤ n + 1 := by omega
          have hgG4 := HGP.out
          clear hc0 hge
          have HKc := Lib.hid (hK4)
          have hic := hI4
          have HOC := Lib.hid (hO4)
          have HGL := Lib.hid (hgl4)
          have HGG := Lib.hid (hgG4)
          have HSZ := Lib.hid (hs4)
          have hsc := SliceAt.of_owns (hO4)
          have hKc0 := Kp.refl [] w4
          go_wp2_with fail
          go_loopg [10] (gs).length (fun g i wx => ∃ m : Nat, m + g = (gs).length ∧ i = .int .i64 m ∧ Kp [] w4 wx)
          case atStart => exact ⟨0, by omega, rfl, hKc0⟩
          case round =>
            clear hKc0
            obtain ⟨m, hm, rfl, hKx⟩ := hrel
            have HM := Lib.hid hm
            by_cases hmx : m < (gs).length
            · obtain ⟨g2, rfl⟩ : ∃ g2, gk = g2 + 1 := ⟨gk - 1, by omega⟩
              clear hm
              have hmI : (m : Int) < ((gs).length : Int) := by omega
              obtain ⟨gb, gbo, gcc, hv', e1⟩ := strv_at hsc m hmx
              simp only [Value.slice.injEq] at hv'
              obtain ⟨rfl, -, rfl⟩ := hv'
              have hkG := HGG.out _ (List.getElem_mem hmx)
              obtain ⟨kk, hkk⟩ : ∃ kk, kk = (gs)[m] := ⟨_, rfl⟩
              rw [← hkk] at e1 hkG
              have d1 := Kp.cellAt (X := []) e1 (by simp)
              have hkok := hic2.plainG _ hkG
              have hkm := max_key (keyOk_size hkok)
              have hgt := iget hic2.fit kk hkm wr (hic.keep0 hKx)
              rw [gone_get hic2 hkG] at hgt
              simp only [EntVA] at hgt
              have HKK := Lib.hid hkk
              have HKO := Lib.hid hkok
              clear e1 hkk hkok
              go_wp2_with fail
              refine hgt.mono ?_
              rintro e wy ⟨rfl, ky⟩
              have hKy := hKx.trans ky
              clear hgt ky hKx
              go_wp2_with fail
              obtain ⟨wz, hwz⟩ : ∃ wz, wz = wy.alloc (.cells #[.string E0, .int .i64 0, .int .i64 0, .int .i64 0, .string E0] 32) := ⟨_, rfl⟩
              have hKz : Kp [] w4 wz := hwz ▸ hKy.alloc _
              rw [← hwz]
              have HWZ := Lib.hid hwz
              have hkn := fun W (k : Kp [] w4 W) => iknown hic2.fit kk hkm W (hic.keep0 k)
              rw [gone_known hkG] at hkn
              have hnx := fun W (k : Kp [] w4 W) => inext W (hic.keep0 k)
              have hpt := fun W => put_any kk (NN + id) W
              clear hwz
              by_cases hle : NN + id ≤ 1099511627776
              · have hma := fun (la : Option Addr) (lc B : Nat) (W : World) (k : Kp [] w4 W) (hl : LocsAt B W (.slice la 9 lc) (locs9 9)) => imay hic2.fit (putR kk (NN + id)) (.slice la 9 lc) B W (hic.keep0 k) hl (by show (locs9 9).length ≤ 1000; decide) (by have := keyOk_size HKO.out; show kk.size < 16384; omega) (by show E0.size < 16384; decide)
                rw [put_held HKO.out (gone_known hkG) (by omega) hle] at hma
                have hwr := wrap_id (NN + id) (by omega) (by omega)
                refine wpB_begin 999 (Kp [] w4) (by kernel_rfl) (by exact hKz.drew) (fun hHeld => ?_)
                refine wpB_take 0 _ ?_ rfl (by kernel_rfl) (fun _ _ _ h => h) rfl hHeld ?_ ?_
                rotate_left
                · (intro W hW; go_simp; try with_reducible rfl)
                try simp only [Act.put, List.setIfInBounds_toArray, List.set_cons_zero, List.set_cons_succ]
                refine wpB_take 1 _ ?_ rfl (by kernel_rfl) (fun _ _ _ h => h) rfl hHeld ?_ ?_
                rotate_left
                · (intro W hW; go_simp; try with_reducible rfl)
                try simp only [Act.put, List.setIfInBounds_toArray, List.set_cons_zero, List.set_cons_succ]
                refine wpB_take 2 _ ?_ rfl (by kernel_rfl) (fun _ _ _ h => h) rfl hHeld ?_ ?_
                rotate_left
                · (intro W hW; go_simp; try with_reducible rfl)
                try simp only [Act.put, List.setIfInBounds_toArray, List.set_cons_zero, List.set_cons_succ]
                refine wpB_take 3 _ ?_ rfl (by kernel_rfl) (fun _ _ _ h => h) rfl hHeld ?_ ?_
                rotate_left
                · (intro W hW; go_simp; try with_reducible rfl)
                try simp only [Act.put, List.setIfInBounds_toArray, List.set_cons_zero, List.set_cons_succ]
                refine wpB_take 4 _ ?_ rfl (by kernel_rfl) (fun _ _ _ h => h) rfl hHeld ?_ ?_
                rotate_left
                · (intro W hW; go_simp; try with_reducible rfl)
                try simp only [Act.put, List.setIfInBounds_toArray, List.set_cons_zero, List.set_cons_succ]
                refine wpB_take 5 _ ?_ rfl (by kernel_rfl) (fun _ _ _ h => h) rfl hHeld ?_ ?_
                rotate_left
                · (intro W hW; go_simp; try with_reducible rfl)
                try simp only [Act.put, List.setIfInBounds_toArray, List.set_cons_zero, List.set_cons_succ]
                refine wpB_take 6 _ ?_ rfl (by kernel_rfl) (fun _ _ _ h => h) rfl hHeld ?_ ?_
                rotate_left
                · (intro W hW; go_simp; try with_reducible rfl)
                try simp only [Act.put, List.setIfInBounds_toArray, List.set_cons_zero, List.set_cons_succ]
                refine wpB_take 7 _ ?_ rfl (by kernel_rfl) (fun _ _ _ h => h) rfl hHeld ?_ ?_
                rotate_left
                · (intro W hW; go_simp; try with_reducible rfl)
                try simp only [Act.put, List.setIfInBounds_toArray, List.set_cons_zero, List.set_cons_succ]
                refine wpB_step 8 _ rfl (by kernel_rfl) rfl rfl (fun K hK_ => ?_)
                go_simp
                refine (hkn _ hHeld).mono ?_
                rintro e wq ⟨rfl, kq⟩
                refine hK_.out _ _ (by exact hHeld.trans kq) (fun hHeld => ?_)
                clear hK_ K
                try simp only [Act.put, List.setIfInBounds_toArray, List.set_cons_zero, List.set_cons_succ]
                refine wpB_take 9 _ ?_ rfl (by kernel_rfl) (fun _ _ _ h => h) rfl hHeld ?_ ?_
                rotate_left
                · (intro W hW; go_simp; try with_reducible rfl)
                try simp only [Act.put, List.setIfInBounds_toArray, List.set_cons_zero, List.set_cons_succ]
                refine wpB_take 10 _ ?_ rfl (by kernel_rfl) (fun _ _ _ h => h) rfl hHeld ?_ ?_
                rotate_left
                · (intro W hW; go_simp; try with_reducible rfl)
                try simp only [Act.put, List.setIfInBounds_toArray, List.set_cons_zero, List.set_cons_succ]
                refine wpB_take 11 _ ?_ rfl (by kernel_rfl) (fun _ _ _ h => h) rfl hHeld ?_ ?_
                rotate_left
                · (intro W hW; go_simp; try with_reducible rfl)
                try simp only [Act.put, List.setIfInBounds_toArray, List.set_cons_zero, List.set_cons_succ]
                refine wpB_take 12 _ ?_ rfl (by kernel_rfl) (fun _ _ _ h => h) rfl hHeld ?_ ?_
                rotate_left
                · (intro W hW; go_simp; try with_reducible rfl)
                try simp only [Act.put, List.setIfInBounds_toArray, List.set_cons_zero, List.set_cons_succ]
                refine wpB_take 14 _ ?_ rfl (by kernel_rfl) (fun _ _ _ h => h) rfl hHeld ?_ ?_
                rotate_left
                · (intro W hW; go_simp; try with_reducible rfl)
                try simp only [Act.put, List.setIfInBounds_toArray, List.set_cons_zero, List.set_cons_succ]
                refine wpB_step 13 _ rfl (by kernel_rfl) rfl rfl (fun K hK_ => ?_)
                go_simp
                refine (hnx _ hHeld).mono ?_
                rintro e wq ⟨rfl, kq⟩
                rw [HNN.out]
                refine hK_.out _ _ (by exact hHeld.trans kq) (fun hHeld => ?_)
                clear hK_ K
                try simp only [Act.put, List.setIfInBounds_toArray, List.set_cons_zero, List.set_cons_succ]
                refine wpB_take 15 _ ?_ rfl (by kernel_rfl) (fun _ _ _ h => h) rfl hHeld ?_ ?_
                rotate_left
                · (intro W hW; go_simp; try with_reducible rfl)
                try simp only [Act.put, List.setIfInBounds_toArray, List.set_cons_zero, List.set_cons_succ]
                refine wpB_take 16 _ ?_ rfl (by kernel_rfl) (fun _ _ _ h => h) rfl hHeld ?_ ?_
                rotate_left
                · (intro W hW; go_simp; try with_reducible rfl)
                try simp only [Act.put, List.setIfInBounds_toArray, List.set_cons_zero, List.set_cons_succ]
                refine wpB_take 17 _ ?_ rfl (by kernel_rfl) (fun _ _ _ h => h) rfl hHeld ?_ ?_
                rotate_left
                · (intro W hW; go_simp; try with_reducible rfl)
                try simp only [Act.put, List.setIfInBounds_toArray, List.set_cons_zero, List.set_cons_succ]
                refine wpB_take 18 _ ?_ rfl (by kernel_rfl) (fun _ _ _ h => h) rfl hHeld ?_ ?_
                rotate_left
                · (intro W hW; go_simp; try with_reducible rfl)
                try simp only [Act.put, List.setIfInBounds_toArray, List.set_cons_zero, List.set_cons_succ]
                refine wpB_take 19 _ ?_ rfl (by kernel_rfl) (fun _ _ _ h => h) rfl hHeld ?_ ?_
                rotate_left
                · (intro W hW; go_simp; try with_reducible rfl)
                try simp only [Act.put, List.setIfInBounds_toArray, List.set_cons_zero, List.set_cons_succ]
                refine wpB_take 20 _ ?_ rfl (by kernel_rfl) (fun _ _ _ h => h) rfl hHeld ?_ ?_
                rotate_left
                · (intro W hW; go_simp; try with_reducible rfl)
                try simp only [Act.put, List.setIfInBounds_toArray, List.set_cons_zero, List.set_cons_succ]
                refine wpB_take 21 _ ?_ rfl (by kernel_rfl) (fun _ _ _ h => h) rfl hHeld ?_ ?_
                rotate_left
                · (intro W hW; go_simp; try with_reducible rfl)
                try simp only [Act.put, List.setIfInBounds_toArray, List.set_cons_zero, List.set_cons_succ]
                refine wpB_take 22 _ ?_ rfl (by kernel_rfl) (fun _ _ _ h => h) rfl hHeld ?_ ?_
                rotate_left
                · (intro W hW; go_simp; try with_reducible rfl)
                try simp only [Act.put, List.setIfInBounds_toArray, List.set_cons_zero, List.set_cons_succ]
                refine wpB_take 23 _ ?_ rfl (by kernel_rfl) (fun _ _ _ h => h) rfl hHeld ?_ ?_
                rotate_left
                · (intro W hW; go_simp; try with_reducible rfl)
                try simp only [Act.put, List.setIfInBounds_toArray, List.set_cons_zero, List.set_cons_succ]
                refine wpB_take 25 _ ?_ rfl (by kernel_rfl) (fun _ _ _ h => h) rfl hHeld ?_ ?_
                rotate_left
                · (intro W hW; go_simp; try with_reducible rfl)
                try simp only [Act.put, List.setIfInBounds_toArray, List.set_cons_zero, List.set_cons_succ]
                refine wpB_step 24 _ rfl (by kernel_rfl) rfl rfl (fun K hK_ => ?_)
                go_simp
                refine (hnx _ hHeld).mono ?_
                rintro e wq ⟨rfl, kq⟩
                rw [HNN.out]
                refine hK_.out _ _ (by exact hHeld.trans kq) (fun hHeld => ?_)
                clear hK_ K
                try simp only [Act.put, List.setIfInBounds_toArray, List.set_cons_zero, List.set_cons_succ]
                refine wpB_take 26 _ ?_ rfl (by kernel_rfl) (fun _ _ _ h => h) rfl hHeld ?_ ?_
                rotate_left
                · (intro W hW; go_simp; try with_reducible rfl)
                try simp only [Act.put, List.setIfInBounds_toArray, List.set_cons_zero, List.set_cons_succ]
                refine wpB_step 27 _ rfl (by kernel_rfl) rfl rfl (fun K hK_ => ?_)
                go_simp
                refine (hpt _).mono ?_
                rintro e wq ⟨pa, pc, rfl, hOp, kq⟩
                refine hK_.out _ _ (by exact hHeld.trans kq) (fun hHeld => ?_)
                clear hK_ K
                try simp only [Act.put, List.setIfInBounds_toArray, List.set_cons_zero, List.set_cons_succ]
                refine wpB_step 28 _ rfl (by kernel_rfl) rfl rfl (fun K hK_ => ?_)
                go_simp
                refine (hma pa pc _ _ hHeld (SliceAt.of_owns hOp)).mono ?_
                rintro e wq2 ⟨rfl, kq2⟩
                refine hK_.out _ _ (by exact hHeld.trans kq2) (fun hHeld => ?_)
                clear hK_ K
                try simp only [Act.put, List.setIfInBounds_toArray, List.set_cons_zero, List.set_cons_succ]
                refine wpB_take 29 _ ?_ rfl (by kernel_rfl) (fun _ _ _ h => h) rfl hHeld ?_ ?_
                rotate_left
                · (intro W hW; go_simp; try with_reducible rfl)
                try simp only [Act.put, List.setIfInBounds_toArray, List.set_cons_zero, List.set_cons_succ]
                refine wpB_take 30 _ ?_ rfl (by kernel_rfl) (fun _ _ _ h => h) rfl hHeld ?_ ?_
                rotate_left
                · (intro W hW; go_simp; try with_reducible rfl)
                try simp only [Act.put, List.setIfInBounds_toArray, List.set_cons_zero, List.set_cons_succ]
                refine wpB_take 31 _ ?_ rfl (by kernel_rfl) (fun _ _ _ h => h) rfl hHeld ?_ ?_
                rotate_left
                · (intro W hW; go_simp; try with_reducible rfl)
                try simp only [Act.put, List.setIfInBounds_toArray, List.set_cons_zero, List.set_cons_succ]
                refine wpB_done (by kernel_rfl) ?_ _
                clear hma hkn hnx hpt
                go_wp2_with fail
                go_roundg g2
                case rel => exact ⟨m + 1, st_next HM.out, by go_num, hHeld⟩
                case measure => omega
              · have hwr := wrap_id (NN + id) (by omega) (by omega)
                refine wpB_begin 999 (Kp [] w4) (by kernel_rfl) (by exact hKz.drew) (fun hHeld => ?_)
                refine wpB_take 0 _ ?_ rfl (by kernel_rfl) (fun _ _ _ h => h) rfl hHeld ?_ ?_
                rotate_left
                · (intro W hW; go_simp; try with_reducible rfl)
                try simp only [Act.put, List.setIfInBounds_toArray, List.set_cons_zero, List.set_cons_succ]
                refine wpB_take 1 _ ?_ rfl (by kernel_rfl) (fun _ _ _ h => h) rfl hHeld ?_ ?_
                rotate_left
                · (intro W hW; go_simp; try with_reducible rfl)
                try simp only [Act.put, List.setIfInBounds_toArray, List.set_cons_zero, List.set_cons_succ]
                refine wpB_take 2 _ ?_ rfl (by kernel_rfl) (fun _ _ _ h => h) rfl hHeld ?_ ?_
                rotate_left
                · (intro W hW; go_simp; try with_reducible rfl)
                try simp only [Act.put, List.setIfInBounds_toArray, List.set_cons_zero, List.set_cons_succ]
                refine wpB_take 3 _ ?_ rfl (by kernel_rfl) (fun _ _ _ h => h) rfl hHeld ?_ ?_
                rotate_left
                · (intro W hW; go_simp; try with_reducible rfl)
                try simp only [Act.put, List.setIfInBounds_toArray, List.set_cons_zero, List.set_cons_succ]
                refine wpB_take 4 _ ?_ rfl (by kernel_rfl) (fun _ _ _ h => h) rfl hHeld ?_ ?_
                rotate_left
                · (intro W hW; go_simp; try with_reducible rfl)
                try simp only [Act.put, List.setIfInBounds_toArray, List.set_cons_zero, List.set_cons_succ]
                refine wpB_take 5 _ ?_ rfl (by kernel_rfl) (fun _ _ _ h => h) rfl hHeld ?_ ?_
                rotate_left
                · (intro W hW; go_simp; try with_reducible rfl)
                try simp only [Act.put, List.setIfInBounds_toArray, List.set_cons_zero, List.set_cons_succ]
                refine wpB_take 6 _ ?_ rfl (by kernel_rfl) (fun _ _ _ h => h) rfl hHeld ?_ ?_
                rotate_left
                · (intro W hW; go_simp; try with_reducible rfl)
                try simp only [Act.put, List.setIfInBounds_toArray, List.set_cons_zero, List.set_cons_succ]
                refine wpB_take 7 _ ?_ rfl (by kernel_rfl) (fun _ _ _ h => h) rfl hHeld ?_ ?_
                rotate_left
                · (intro W hW; go_simp; try with_reducible rfl)
                try simp only [Act.put, List.setIfInBounds_toArray, List.set_cons_zero, List.set_cons_succ]
                refine wpB_step 8 _ rfl (by kernel_rfl) rfl rfl (fun K hK_ => ?_)
                go_simp
                refine (hkn _ hHeld).mono ?_
                rintro e wq ⟨rfl, kq⟩
                refine hK_.out _ _ (by exact hHeld.trans kq) (fun hHeld => ?_)
                clear hK_ K
                try simp only [Act.put, List.setIfInBounds_toArray, List.set_cons_zero, List.set_cons_succ]
                refine wpB_take 9 _ ?_ rfl (by kernel_rfl) (fun _ _ _ h => h) rfl hHeld ?_ ?_
                rotate_left
                · (intro W hW; go_simp; try with_reducible rfl)
                try simp only [Act.put, List.setIfInBounds_toArray, List.set_cons_zero, List.set_cons_succ]
                refine wpB_take 10 _ ?_ rfl (by kernel_rfl) (fun _ _ _ h => h) rfl hHeld ?_ ?_
                rotate_left
                · (intro W hW; go_simp; try with_reducible rfl)
                try simp only [Act.put, List.setIfInBounds_toArray, List.set_cons_zero, List.set_cons_succ]
                refine wpB_take 11 _ ?_ rfl (by kernel_rfl) (fun _ _ _ h => h) rfl hHeld ?_ ?_
                rotate_left
                · (intro W hW; go_simp; try with_reducible rfl)
                try simp only [Act.put, List.setIfInBounds_toArray, List.set_cons_zero, List.set_cons_succ]
                refine wpB_take 12 _ ?_ rfl (by kernel_rfl) (fun _ _ _ h => h) rfl hHeld ?_ ?_
                rotate_left
                · (intro W hW; go_simp; try with_reducible rfl)
                try simp only [Act.put, List.setIfInBounds_toArray, List.set_cons_zero, List.set_cons_succ]
                refine wpB_take 14 _ ?_ rfl (by kernel_rfl) (fun _ _ _ h => h) rfl hHeld ?_ ?_
                rotate_left
                · (intro W hW; go_simp; try with_reducible rfl)
                try simp only [Act.put, List.setIfInBounds_toArray, List.set_cons_zero, List.set_cons_succ]
                refine wpB_step 13 _ rfl (by kernel_rfl) rfl rfl (fun K hK_ => ?_)
                go_simp
                refine (hnx _ hHeld).mono ?_
                rintro e wq ⟨rfl, kq⟩
                rw [HNN.out]
                refine hK_.out _ _ (by exact hHeld.trans kq) (fun hHeld => ?_)
                clear hK_ K
                try simp only [Act.put, List.setIfInBounds_toArray, List.set_cons_zero, List.set_cons_succ]
                refine wpB_take 15 _ ?_ rfl (by kernel_rfl) (fun _ _ _ h => h) rfl hHeld ?_ ?_
                rotate_left
                · (intro W hW; go_simp; try with_reducible rfl)
                try simp only [Act.put, List.setIfInBounds_toArray, List.set_cons_zero, List.set_cons_succ]
                refine wpB_take 16 _ ?_ rfl (by kernel_rfl) (fun _ _ _ h => h) rfl hHeld ?_ ?_
                rotate_left
                · (intro W hW; go_simp; try with_reducible rfl)
                try simp only [Act.put, List.setIfInBounds_toArray, List.set_cons_zero, List.set_cons_succ]
                refine wpB_take 17 _ ?_ rfl (by kernel_rfl) (fun _ _ _ h => h) rfl hHeld ?_ ?_
                rotate_left
                · (intro W hW; go_simp; try with_reducible rfl)
                try simp only [Act.put, List.setIfInBounds_toArray, List.set_cons_zero, List.set_cons_succ]
                refine wpB_skip 18 _ rfl (by kernel_rfl) (fun _ _ _ h => h) rfl hHeld ?_
                try simp only [Act.put, List.setIfInBounds_toArray, List.set_cons_zero, List.set_cons_succ]
                refine wpB_skip 19 _ rfl (by kernel_rfl) (fun _ _ _ h => h) rfl hHeld ?_
                try simp only [Act.put, List.setIfInBounds_toArray, List.set_cons_zero, List.set_cons_succ]
                refine wpB_skip 20 _ rfl (by kernel_rfl) (fun _ _ _ h => h) rfl hHeld ?_
                try simp only [Act.put, List.setIfInBounds_toArray, List.set_cons_zero, List.set_cons_succ]
                refine wpB_skip 21 _ rfl (by kernel_rfl) (fun _ _ _ h => h) rfl hHeld ?_
                try simp only [Act.put, List.setIfInBounds_toArray, List.set_cons_zero, List.set_cons_succ]
                refine wpB_skip 22 _ rfl (by kernel_rfl) (fun _ _ _ h => h) rfl hHeld ?_
                try simp only [Act.put, List.setIfInBounds_toArray, List.set_cons_zero, List.set_cons_succ]
                refine wpB_skip 23 _ rfl (by kernel_rfl) (fun _ _ _ h => h) rfl hHeld ?_
                try simp only [Act.put, List.setIfInBounds_toArray, List.set_cons_zero, List.set_cons_succ]
                refine wpB_skip 24 _ rfl (by kernel_rfl) (fun _ _ _ h => h) rfl hHeld ?_
                try simp only [Act.put, List.setIfInBounds_toArray, List.set_cons_zero, List.set_cons_succ]
                refine wpB_skip 25 _ rfl (by kernel_rfl) (fun _ _ _ h => h) rfl hHeld ?_
                try simp only [Act.put, List.setIfInBounds_toArray, List.set_cons_zero, List.set_cons_succ]
                refine wpB_skip 26 _ rfl (by kernel_rfl) (fun _ _ _ h => h) rfl hHeld ?_
                try simp only [Act.put, List.setIfInBounds_toArray, List.set_cons_zero, List.set_cons_succ]
                refine wpB_skip 27 _ rfl (by kernel_rfl) (fun _ _ _ h => h) rfl hHeld ?_
                try simp only [Act.put, List.setIfInBounds_toArray, List.set_cons_zero, List.set_cons_succ]
                refine wpB_skip 28 _ rfl (by kernel_rfl) (fun _ _ _ h => h) rfl hHeld ?_
                try simp only [Act.put, List.setIfInBounds_toArray, List.set_cons_zero, List.set_cons_succ]
                refine wpB_skip 29 _ rfl (by kernel_rfl) (fun _ _ _ h => h) rfl hHeld ?_
                try simp only [Act.put, List.setIfInBounds_toArray, List.set_cons_zero, List.set_cons_succ]
                refine wpB_take 30 _ ?_ rfl (by kernel_rfl) (fun _ _ _ h => h) rfl hHeld ?_ ?_
                rotate_left
                · (intro W hW; go_simp; try with_reducible rfl)
                try simp only [Act.put, List.setIfInBounds_toArray, List.set_cons_zero, List.set_cons_succ]
                refine wpB_take 31 _ ?_ rfl (by kernel_rfl) (fun _ _ _ h => h) rfl hHeld ?_ ?_
                rotate_left
                · (intro W hW; go_simp; try with_reducible rfl)
                try simp only [Act.put, List.setIfInBounds_toArray, List.set_cons_zero, List.set_cons_succ]
                refine wpB_done (by kernel_rfl) ?_ _
                clear hkn hnx hpt
                go_wp2_with fail
                go_roundg g2
                case rel => exact ⟨m + 1, st_next HM.out, by go_num, hHeld⟩
                case measure => omega
            · obtain rfl : m = (gs).length := by omega
              obtain rfl : gk = 0 := by omega
              have hfin : Kp [] w wr := HKc.out.trans hKx
              have HIF := Lib.hid (hic.keep0 hKx)
              have HOF := Lib.hid (owns_other HOC.out hKx (fun _ _ => by simp))
              clear hm
              go_wp2_with fail
              go_roundg g'
              case rel => exact ⟨n + 1, ga, gc, gs, st_next HN.out, by go_num, rfl, hfin, by rw [HIX.out]; exact HIF.out, HOF.out, HGL.out, by rw [HIX.out]; exact HGG.out, Nat.le_trans HSZ.out hKx.size⟩
              case measure => omega
    · obtain rfl : n = rs.length := by omega
      obtain rfl : gk = 0 := by omega
      clear hn hO
      go_wp2_with fail
      refine (live_true _).mono ?_
      rintro e wl ⟨rfl, kl⟩
      have hkl := (hK).trans kl
      clear kl
      go_wp2_with fail
      go_ret
      exact ⟨rfl, hkl⟩
set_option maxRecDepth 100000 in
theorem once_lifted (os : Os) (started : os.Started) (H : Type) (enc : TypeId × Value → H) :
    ReturnsInHanded {} Try.checked os 3 .any (Rows.indexOnceSpec.pre6 enc Try.prog Try.f3 Rows.indexOnceRow.domain false) (Rows.indexOnceSpec.post enc Try.prog Try.f3 false true false false) := by
  refine law_lifted Rows.indexOnceSpec Try.func3 (by kernel_rfl) Try.underlying4 rfl (by decide +kernel) rfl ?_ ?_ os started H enc
    (ChangeSpec.witness6 (enc := enc) (C := Try.checked) false ⟨#[], #[.slice none 0 0, .int .i64 0], []⟩ 8 (by kernel_rfl) (by kernel_rfl) (by kernel_rfl) (by kernel_rfl))
  · intro H ds hl
    match ds, hl with
    | [d, d2], _ => exact ⟨rfl, rfl, rfl⟩
  · (rintro W vs ⟨v, vs1, base, rfl, hok, hrd, v2, vs2, base2, rfl, hok2, hrd2, rfl⟩; obtain ⟨av, l, c, rfl, -⟩ := okWide_slice Try.underlying22 hok; obtain ⟨rs, hr⟩ := recs_arg hrd rfl; obtain ⟨n, rfl⟩ := okWide_int Try.underlying3 hok2; exact once_walk _ rs n W hr)
set_option maxRecDepth 100000 in
theorem once_holds : Rows.IndexOnceSaid :=
  OpenClaim.holds_of_wide 3 Try.f3 rfl rfl rfl rfl rfl rfl rfl ⟨rfl, rfl, rfl, rfl, rfl⟩ rfl rfl rfl rfl rfl (by kernel_rfl) Try.func3 (by kernel_rfl)
    (of_decide_eq_true (by kernel_rfl)) (by unfold Func.isWrapper; first | (rw [if_pos (by decide +kernel)]; kernel_rfl) | (rw [if_neg (by decide +kernel)]; exact ⟨rfl, rfl⟩))
    (fun os started H enc _ => once_lifted os started H enc)
#print axioms once_holds
end Go.Proofs.Ytdhhddifmkijhaa
