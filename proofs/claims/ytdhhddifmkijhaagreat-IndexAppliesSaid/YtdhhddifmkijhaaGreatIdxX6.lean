/-
  IndexApplies: whatever records are applied, an index tells, and keeps, what the document says. For every list of records, every list of keys.
  Conditions: none beyond the row's own.
-/
import Derived.Test.YtdhhddifmkijhaaGreatIdxSb
namespace Go.Proofs.YtdhhddifmkijhaaGreat
open Go.ChangeShapes Go.WideShapes Go.ChangeAt Go.RowKit Go.WideElems Go.Sort

set_option maxHeartbeats 8000000 in
set_option maxRecDepth 100000 in
theorem applies_walk (v vk : Value) (rs : List (RecD × Value)) (ks : List ByteArray) (w : World) (hr : RecsAt w.heap.size w v rs) (hk : SliceAt w.heap.size w vk 1 ks.length (ks.map Value.string)) (hkz : ∀ s ∈ ks, s.size ≤ maxLen) : Calls Tryz.prog 3 #[v, vk] w fun e w' => e = .returned (.bool true) ∧ Kp [] w w' := by
  obtain ⟨va, vc, rfl⟩ := slice_ex hr.1
  obtain ⟨ka, kc, rfl⟩ := slice_ex hk
  have hK := Kp.refl [] w
  by_cases hlen : 30 < rs.length
  · have hlenI : (30 : Int) < (rs.length : Int) := by omega
    go_enter Tryz.func3, Tryz.ntmps3
    go_wp2_with fail
    refine (live_true _).mono ?_
    rintro e wl ⟨rfl, kl⟩
    have hkl := (hK).trans kl
    clear kl
    go_wp2_with fail
    go_ret
    exact ⟨rfl, hkl⟩
  have hlenI : (rs.length : Int) ≤ 30 := by omega
  by_cases hlen2 : 12 < ks.length
  · have hlenI2 : (12 : Int) < (ks.length : Int) := by omega
    go_enter Tryz.func3, Tryz.ntmps3
    go_wp2_with fail
    refine (live_true _).mono ?_
    rintro e wl ⟨rfl, kl⟩
    have hkl := (hK).trans kl
    clear kl
    go_wp2_with fail
    go_ret
    exact ⟨rfl, hkl⟩
  have hlenI2 : (ks.length : Int) ≤ 12 := by omega
  go_enter Tryz.func3, Tryz.ntmps3
  go_wp2_with fail
  refine (inew w).mono ?_
  rintro e w1 ⟨I, rfl, hI1, k1, hX⟩
  obtain ⟨w2, hw2⟩ : ∃ w2, w2 = w1.alloc (.cells #[.slice none 0 0, .slice none 0 0, .slice none 0 0, .slice none 0 0] 32) := ⟨_, rfl⟩
  have k2 : Kp [] w1 w2 := hw2 ▸ (Kp.refl _ _).alloc _
  have hR2 : RIn w.heap.size w1.heap.size w2 Rx.zero := by rw [hw2]; exact rin_new k1.size
  have hI2 := hI1.keep0 k2
  have hK2 := k1.trans k2
  obtain ⟨kb, hkb⟩ : ∃ kb, kb = w1.heap.size := ⟨_, rfl⟩
  rw [← hkb] at hR2
  have HW2 := Lib.hid hw2
  have HKB := Lib.hid hkb
  clear hw2 hkb k1 k2 hI1
  go_wp2_with fail
  rw [← HW2.out, ← HKB.out]
  go_loopg [7] rs.length (fun g i wr => ∃ (n : Nat) (k : Rx), n + g = rs.length ∧ i = .int .i64 n ∧ Kp [] w wr ∧ IxAt I wr (ixs ((rs.take n).map (·.1))) ∧ RIn w.heap.size kb wr k ∧ Rel (ixs ((rs.take n).map (·.1))) k)
  case atStart => exact ⟨0, Rx.zero, by omega, rfl, hK2, hI2, hR2, rel_zero⟩
  case round =>
    clear hI2 hK2 hR2 hK
    obtain ⟨n, k, hn, rfl, hK, hIr, hRr, hRel⟩ := hrel
    have HN := Lib.hid hn
    have HRL := Lib.hid hRel
    clear hRel
    by_cases hlt : n < rs.length
    · obtain ⟨g', rfl⟩ : ∃ g', gk = g' + 1 := ⟨gk - 1, by omega⟩
      clear hn
      have hltI : (n : Int) < (rs.length : Int) := by omega
      have htk : (rs.take (n + 1)).map (·.1) = (rs.take n).map (·.1) ++ [rs[n].1] := by rw [take_next hlt, List.map_append]; rfl
      have hfew : Few n (ixs ((rs.take n).map (·.1))) := by
        have := few_run few_zero ((rs.take n).map (·.1))
        rw [List.length_map, List.length_take, Nat.min_eq_left (by omega), Nat.zero_add] at this
        exact this
      have hiv := ixs_inv ((rs.take n).map (·.1))
      obtain ⟨g, o, c, hv', f0, f1, f2, f3, f4, f5, f6, f7, f8, f9, fa, fb, fc, fd⟩ := rec_at hr n hlt
      simp only [Value.slice.injEq] at hv'
      obtain ⟨rfl, -, rfl⟩ := hv'
      obtain ⟨q, hq⟩ : ∃ q, q = rs[n] := ⟨_, rfl⟩
      have hlq := hr.2 _ (List.getElem_mem hlt)
      rw [← hq] at f0 f1 f2 f3 f4 f5 f6 f7 f8 f9 fa fb fc fd hlq
      obtain ⟨⟨x0, x1, ⟨x2, x3, x4, lx⟩, ⟨x6, x7, x8, x9, xa⟩, xb, xc, xd⟩, lv⟩ := q
      simp only at f0 f1 f2 f3 f4 f5 f6 f7 f8 f9 fa fb fc fd hlq
      obtain ⟨la, lc, rfl⟩ := slice_ex hlq
      have r0 := Kp.cellAt (X := []) f0 (by simp)
      have r1 := Kp.cellAt (X := []) f1 (by simp)
      have r2 := Kp.cellAt (X := []) f2 (by simp)
      have r3 := Kp.cellAt (X := []) f3 (by simp)
      have r4 := Kp.cellAt (X := []) f4 (by simp)
      have r5 := Kp.cellAt (X := []) f5 (by simp)
      have r6 := Kp.cellAt (X := []) f6 (by simp)
      have r7 := Kp.cellAt (X := []) f7 (by simp)
      have r8 := Kp.cellAt (X := []) f8 (by simp)
      have r9 := Kp.cellAt (X := []) f9 (by simp)
      have ra := Kp.cellAt (X := []) fa (by simp)
      have rb := Kp.cellAt (X := []) fb (by simp)
      have rc := Kp.cellAt (X := []) fc (by simp)
      have rd := Kp.cellAt (X := []) fd (by simp)
      have HQR := Lib.hid hq
      clear f0 f1 f2 f3 f4 f5 f6 f7 f8 f9 fa fb fc fd hq
      rw [← HQR.out] at htk
      simp only at htk
      have hsm := fun W (k : Kp [] w W) => rsmall ⟨x0, x1, ⟨x2, x3, x4, lx⟩, ⟨x6, x7, x8, x9, xa⟩, xb, xc, xd⟩ (.slice la lx.length lc) w.heap.size W (hlq.keep0 k)
      have how := fun W => own_any ⟨x0, x1, ⟨x2, x3, x4, lx⟩, ⟨x6, x7, x8, x9, xa⟩, xb, xc, xd⟩ la lx.length lc W
      simp only [RecV] at hsm how
      have hix : ixs ((rs.take (n + 1)).map (·.1)) = ((ixs ((rs.take n).map (·.1))).apply ⟨x0, x1, ⟨x2, x3, x4, lx⟩, ⟨x6, x7, x8, x9, xa⟩, xb, xc, xd⟩).1 := by rw [htk, ixs_snoc]
      obtain ⟨X, hXn⟩ : ∃ X, X = ixs ((rs.take n).map (·.1)) := ⟨_, rfl⟩
      rw [← hXn] at hfew hiv hIr hix HRL
      have HIX := Lib.hid hix
      clear hXn htk hix HQR
      cases hS : smallR ⟨x0, x1, ⟨x2, x3, x4, lx⟩, ⟨x6, x7, x8, x9, xa⟩, xb, xc, xd⟩ with
      | false =>
        rw [hS] at hsm
        go_wp2_with fail
        refine (hsm _ hK).mono ?_
        rintro e wa ⟨rfl, k2⟩
        clear hsm how r0 r1 r2 r3 r4 r5 r6 r7 r8 r9 ra rb rc rd
        go_wp2_with fail
        refine (live_true _).mono ?_
        rintro e wl ⟨rfl, kl⟩
        have hkl := (hK.trans k2).trans kl
        clear kl
        go_wp2_with fail
        go_ret
        exact ⟨rfl, hkl⟩
      | true =>
        rw [hS] at hsm
        obtain ⟨z1, z2, z3, z4⟩ := small_spec hS
        simp only at z1 z2 z3 z4
        clear hS
        have him := fun W (hI : IxAt I W X) (k : Kp [] w W) => imay hiv.fit ⟨x0, x1, ⟨x2, x3, x4, lx⟩, ⟨x6, x7, x8, x9, xa⟩, xb, xc, xd⟩ (.slice la lx.length lc) w.heap.size W hI (hlq.keep0 k) (by simp only; omega) (by simp only; omega) (by simp only; omega)
        have hkm := fun W (hR : RIn w.heap.size kb W k) (k : Kp [] w W) => kmay_rel hR HRL.out hiv hfew (by omega) ⟨x0, x1, ⟨x2, x3, x4, lx⟩, ⟨x6, x7, x8, x9, xa⟩, xb, xc, xd⟩ (.slice la lx.length lc) (hlq.keep0 k) (by simp only; omega) (by simp only; omega) (by simp only; omega)
        have hia := fun W (hI : IxAt I W X) (k : Kp [] w W) => iapply hiv (by have := hfew.E; omega) ⟨x0, x1, ⟨x2, x3, x4, lx⟩, ⟨x6, x7, x8, x9, xa⟩, xb, xc, xd⟩ (.slice la lx.length lc) W hI (locs_in hlq k hX) (by simp only; omega) (by simp only; omega) (by simp only; omega)
        have hka := fun W (hR : RIn w.heap.size kb W k) (k : Kp [] w W) => kapply_rel hR HRL.out hiv hfew (by omega) ⟨x0, x1, ⟨x2, x3, x4, lx⟩, ⟨x6, x7, x8, x9, xa⟩, xb, xc, xd⟩ (.slice la lx.length lc) (hlq.keep0 k) (by simp only; omega) (by simp only; omega) (by simp only; omega)
        have hao := apply_olds hiv ⟨x0, x1, ⟨x2, x3, x4, lx⟩, ⟨x6, x7, x8, x9, xa⟩, xb, xc, xd⟩
        have hfew2 := hfew.apply ⟨x0, x1, ⟨x2, x3, x4, lx⟩, ⟨x6, x7, x8, x9, xa⟩, xb, xc, xd⟩
        simp only [RecV] at him hkm hia hka
        rw [← HIX.out] at hfew2
        simp only [← HIX.out] at hia hka
        have hiv2 := ixs_inv ((rs.take (n + 1)).map (·.1))
        obtain ⟨X2, hX2⟩ : ∃ X2, X2 = ixs ((rs.take (n + 1)).map (·.1)) := ⟨_, rfl⟩
        obtain ⟨M, hM⟩ : ∃ M, M = X.may ⟨x0, x1, ⟨x2, x3, x4, lx⟩, ⟨x6, x7, x8, x9, xa⟩, xb, xc, xd⟩ := ⟨_, rfl⟩
        obtain ⟨OL, hOL⟩ : ∃ OL, OL = (X.apply ⟨x0, x1, ⟨x2, x3, x4, lx⟩, ⟨x6, x7, x8, x9, xa⟩, xb, xc, xd⟩).2.1 := ⟨_, rfl⟩
        obtain ⟨ER, hER⟩ : ∃ ER, ER = (X.apply ⟨x0, x1, ⟨x2, x3, x4, lx⟩, ⟨x6, x7, x8, x9, xa⟩, xb, xc, xd⟩).2.2 := ⟨_, rfl⟩
        rw [← hX2] at hfew2 hiv2
        rw [← hOL] at hao
        simp only [← hX2, ← hOL, ← hER] at hia hka
        simp only [← hM] at him hkm
        have HX2 := Lib.hid hX2
        clear hX2 hM hOL hER z1 z2 z3 z4 hlq
        go_wp2_with fail
        refine (hsm _ hK).mono ?_
        rintro e wa ⟨rfl, ka⟩
        have hKa := hK.trans ka
        have hIa := hIr.keep0 ka
        have hRa := hRr.keep0 ka
        clear hsm hIr hRr hK ka
        go_wp2_with fail
        refine (how _).mono ?_
        rintro e wb ⟨rfl, kb'⟩
        have hKb := hKa.trans kb'
        have hIb := hIa.keep0 kb'
        have hRb := hRa.keep0 kb'
        clear hIa hRa hKa kb'
        go_wp2_with fail
        refine (him _ hIb hKb).mono ?_
        rintro e wc ⟨rfl, kc'⟩
        have hKc := hKb.trans kc'
        have hIc := hIb.keep0 kc'
        have hRc := hRb.keep0 kc'
        clear hIb hRb hKb kc' him
        go_wp2_with fail
        refine (hkm _ hRc hKc).mono ?_
        rintro e wd ⟨rfl, kd⟩
        have hKd := hKc.trans kd
        have hId := hIc.keep0 kd
        have hRd := hRc.keep0 kd
        clear hIc hRc hKc kd hkm
        go_wp2_with fail
        refine (how _).mono ?_
        rintro e we ⟨rfl, ke⟩
        have hKe := hKd.trans ke
        have hIe := hId.keep0 ke
        have hRe := hRd.keep0 ke
        clear hId hRd hKd ke how
        go_wp2_with fail
        refine (hia _ hIe hKe).mono ?_
        rintro e wf ⟨ov, rfl, hOl, hIf, kf⟩
        obtain ⟨-, oa, oc, rfl, -⟩ := id hOl
        have hKf : Kp [] w wf := kp_in hKe kf hX
        have hRf := hRe.keepX hIe hX kf
        clear hIe hRe hKe kf hia
        go_wp2_with fail
        refine (hka _ hRf hKf).mono ?_
        rintro e wg ⟨v2, k', rfl, hV2, hRg, hRel', ht⟩
        obtain ⟨-, va2, vc2, rfl, -⟩ := id hV2
        have hKg : Kp [] w wg := ht.kp hKf (Nat.le_refl _)
        have hIg := ht.ix hIf
        have hOg := ht.olds hOl
        have HRL2 := Lib.hid hRel'
        clear hIf hRf hKf hka ht hOl hRel' r0 r1 r2 r3 r4 r5 r6 r7 r8 r9 ra rb rc rd
        go_wp2_with fail
        refine (r13same _ _ _ _ _ _ _ hOg hV2 (by omega) (fun v hv => Nat.le_trans (hao.2 v hv) (by decide))).mono ?_
        rintro e wh ⟨rfl, kh⟩
        rw [decide_eq_true (by rfl)]
        have hKh := hKg.trans kh
        have hIh := hIg.keep0 kh
        have hRh := hRg.keep0 kh
        clear hIg hRg hKg kh hOg hV2 hao
        go_wp2_with fail
        refine (same_true _ hIh hRh HRL2.out hiv2 hfew2 (by omega) ks _ _ (hk.keep0 hKh) hkz (by omega)).mono ?_
        rintro e wi ⟨rfl, ki⟩
        have hKi := hKh.trans ki
        have hIi := hIh.keep0 ki
        have hRi := hRh.keep0 ki
        rw [HX2.out] at hIi HRL2
        clear hIh hRh hKh ki
        go_wp2_with fail
        go_roundg g'
        case rel => exact ⟨n + 1, k', st_next HN.out, by go_num, hKi, hIi, hRi, HRL2.out⟩
        case measure => omega
    · obtain rfl : n = rs.length := by omega
      obtain rfl : gk = 0 := by omega
      clear hn
      go_wp2_with fail
      refine (live_true _).mono ?_
      rintro e wl ⟨rfl, kl⟩
      have hkl := (hK).trans kl
      clear kl
      go_wp2_with fail
      go_ret
      exact ⟨rfl, hkl⟩
set_option maxRecDepth 100000 in
theorem applies_lifted (os : Os) (started : os.Started) (H : Type) (enc : TypeId × Value → H) :
    ReturnsInHanded {} Tryz.checked os 3 .any (Rows.indexAppliesSpec.pre6 enc Tryz.prog Tryz.f3 Rows.indexAppliesRow.domain false) (Rows.indexAppliesSpec.post enc Tryz.prog Tryz.f3 false true false false) := by
  refine law_lifted Rows.indexAppliesSpec Tryz.func3 (by kernel_rfl) Tryz.underlying4 rfl (by decide +kernel) rfl ?_ ?_ os started H enc
    (ChangeSpec.witness6 (enc := enc) (C := Tryz.checked) false ⟨#[], #[.slice none 0 0, .slice none 0 0], []⟩ 8 (by kernel_rfl) (by kernel_rfl) (by kernel_rfl) (by kernel_rfl))
  · intro H ds hl
    match ds, hl with
    | [d, d2], _ => exact ⟨rfl, rfl, rfl⟩
  · (rintro W vs ⟨v, vs1, base, rfl, hok, hrd, v2, vs2, base2, rfl, hok2, hrd2, rfl⟩; obtain ⟨av, l, c, rfl, -⟩ := okWide_slice Tryz.underlying22 hok; obtain ⟨av2, l2, c2, rfl, -⟩ := okWide_slice Tryz.underlying23 hok2; obtain ⟨rs, hr⟩ := recs_arg hrd rfl; obtain ⟨ks, hk, hkz⟩ := keys_arg hrd2 rfl; exact applies_walk _ _ rs ks W hr hk hkz)
set_option maxRecDepth 100000 in
theorem applies_holds : Rows.IndexAppliesSaid :=
  OpenClaim.holds_of_wide 3 Tryz.f3 rfl rfl rfl rfl rfl rfl rfl ⟨rfl, rfl, rfl, rfl, rfl⟩ rfl rfl rfl rfl rfl (by kernel_rfl) Tryz.func3 (by kernel_rfl)
    (of_decide_eq_true (by kernel_rfl)) (by unfold Func.isWrapper; first | (rw [if_pos (by decide +kernel)]; kernel_rfl) | (rw [if_neg (by decide +kernel)]; exact ⟨rfl, rfl⟩))
    (fun os started H enc _ => applies_lifted os started H enc)
#print axioms applies_holds
end Go.Proofs.YtdhhddifmkijhaaGreat
