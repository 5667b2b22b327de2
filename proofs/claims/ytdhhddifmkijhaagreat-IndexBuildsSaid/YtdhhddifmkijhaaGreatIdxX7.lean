/-
  IndexBuilds: an index that is built of records is that of those up to the first error. For every list of records, every list of keys.
  Conditions: none beyond the row's own.
-/
import Derived.Test.YtdhhddifmkijhaaGreatIdxSb
namespace Go.Proofs.YtdhhddifmkijhaaGreat
open Go.ChangeShapes Go.WideShapes Go.ChangeAt Go.RowKit Go.WideElems Go.Sort

theorem Few.up {n m : Nat} {x : Ix} (h : Few n x) (hm : n ≤ m) : Few m x := ⟨Nat.le_trans h.E hm, Nat.le_trans h.V hm, Nat.le_trans h.G hm, Nat.le_trans h.H hm⟩
theorem few_build (l : List RecD) : Few l.length (Ix.zero.build l).1 := by
  rw [(build_run Ix.zero l).1]
  refine (few_run few_zero _).up ?_
  rw [List.length_take]
  omega
set_option maxHeartbeats 8000000 in
set_option maxRecDepth 100000 in
theorem builds_walk (v vk : Value) (rs : List (RecD × Value)) (ks : List ByteArray) (w : World) (hr : RecsAt w.heap.size w v rs) (hk : SliceAt w.heap.size w vk 1 ks.length (ks.map Value.string)) (hkz : ∀ s ∈ ks, s.size ≤ maxLen) : Calls Tryz.prog 4 #[v, vk] w fun e w' => e = .returned (.bool true) ∧ Kp [] w w' := by
  obtain ⟨va, vc, rfl⟩ := slice_ex hr.1
  obtain ⟨ka, kc, rfl⟩ := slice_ex hk
  have hK := Kp.refl [] w
  by_cases hlen : 30 < rs.length
  · have hlenI : (30 : Int) < (rs.length : Int) := by omega
    go_enter Tryz.func4, Tryz.ntmps4
    go_wp2_with fail
    refine (live_true _).mono ?_
    rintro e wl ⟨rfl, kl⟩
    have hkl := (hK).trans kl
    clear kl
    go_wp2_with fail
    go_ret
    exact ⟨rfl, hkl⟩
  have hlenI : (rs.length : Int) ≤ 30 := by omega
  by_cases hlen2 : 12 < ks.length
  · have hlenI2 : (12 : Int) < (ks.length : Int) := by omega
    go_enter Tryz.func4, Tryz.ntmps4
    go_wp2_with fail
    refine (live_true _).mono ?_
    rintro e wl ⟨rfl, kl⟩
    have hkl := (hK).trans kl
    clear kl
    go_wp2_with fail
    go_ret
    exact ⟨rfl, hkl⟩
  have hlenI2 : (ks.length : Int) ≤ 12 := by omega
  go_enter Tryz.func4, Tryz.ntmps4
  go_wp2_with fail
  go_loopg [5] rs.length (fun g i wr => ∃ n : Nat, n + g = rs.length ∧ i = .int .i64 n ∧ Kp [] w wr ∧ ∀ q ∈ rs.take n, smallR q.1 = true)
  case atStart => exact ⟨0, by omega, rfl, hK, by simp⟩
  case round =>
    clear hK
    obtain ⟨n, hn, rfl, hK, hall⟩ := hrel
    have HN := Lib.hid hn
    have HA := Lib.hid hall
    clear hall
    by_cases hlt : n < rs.length
    · obtain ⟨g', rfl⟩ : ∃ g', gk = g' + 1 := ⟨gk - 1, by omega⟩
      clear hn
      have hltI : (n : Int) < (rs.length : Int) := by omega
      have htk := take_next hlt
      obtain ⟨g, o, c, hv', f0, f1, f2, f3, f4, f5, f6, f7, f8, f9, fa, fb, fc, fd⟩ := rec_at hr n hlt
      simp only [Value.slice.injEq] at hv'
      obtain ⟨rfl, -, rfl⟩ := hv'
      obtain ⟨q, hq⟩ : ∃ q, q = rs[n] := ⟨_, rfl⟩
      have hlq := hr.2 _ (List.getElem_mem hlt)
      rw [← hq] at f0 f1 f2 f3 f4 f5 f6 f7 f8 f9 fa fb fc fd hlq
      obtain ⟨⟨x0, x1, ⟨x2, x3, x4, lx⟩, ⟨x6, x7, x8, x9, xa⟩, xb, xc, xd⟩, lv⟩ := q
      simp only at f0 f1 f2 f3 f4 f5 f6 f7 f8 f9 fa fb fc fd hlq
      obtain ⟨la, lc, rfl⟩ := slice_ex hlq
      have r0 := Kp.cellAt (X := []) f0 (by simp) wr hK
      have r1 := Kp.cellAt (X := []) f1 (by simp) wr hK
      have r2 := Kp.cellAt (X := []) f2 (by simp) wr hK
      have r3 := Kp.cellAt (X := []) f3 (by simp) wr hK
      have r4 := Kp.cellAt (X := []) f4 (by simp) wr hK
      have r5 := Kp.cellAt (X := []) f5 (by simp) wr hK
      have r6 := Kp.cellAt (X := []) f6 (by simp) wr hK
      have r7 := Kp.cellAt (X := []) f7 (by simp) wr hK
      have r8 := Kp.cellAt (X := []) f8 (by simp) wr hK
      have r9 := Kp.cellAt (X := []) f9 (by simp) wr hK
      have ra := Kp.cellAt (X := []) fa (by simp) wr hK
      have rb := Kp.cellAt (X := []) fb (by simp) wr hK
      have rc := Kp.cellAt (X := []) fc (by simp) wr hK
      have rd := Kp.cellAt (X := []) fd (by simp) wr hK
      have HQR := Lib.hid hq
      have hgw := lt_of_cell f0
      clear f0 f1 f2 f3 f4 f5 f6 f7 f8 f9 fa fb fc fd hq
      have hs2 := fun W (k : Kp [] w W) => rsmall ⟨x0, x1, ⟨x2, x3, x4, lx⟩, ⟨x6, x7, x8, x9, xa⟩, xb, xc, xd⟩ (.slice la lx.length lc) w.heap.size W (hlq.keep0 k)
      simp only [RecV] at hs2
      rw [← HQR.out] at htk
      have HTK := Lib.hid htk
      clear htk
      cases hS : smallR ⟨x0, x1, ⟨x2, x3, x4, lx⟩, ⟨x6, x7, x8, x9, xa⟩, xb, xc, xd⟩ with
      | false =>
        rw [hS] at hs2
        go_wp2_with fail
        refine (hs2 _ hK).mono ?_
        rintro e w3 ⟨rfl, k3⟩
        clear hs2
        go_wp2_with fail
        refine (live_true _).mono ?_
        rintro e wl ⟨rfl, kl⟩
        have hkl := (hK.trans k3).trans kl
        clear kl
        go_wp2_with fail
        go_ret
        exact ⟨rfl, hkl⟩
      | true =>
        rw [hS] at hs2
        have HS := Lib.hid hS
        clear hS
        go_wp2_with fail
        refine (hs2 _ hK).mono ?_
        rintro e w3 ⟨rfl, k3⟩
        have hK3 := hK.trans k3
        have hal : ∀ q ∈ rs.take (n + 1), smallR q.1 = true := fun q hq => by
          rw [HTK.out, List.mem_append, List.mem_singleton] at hq
          rcases hq with hq | rfl
          · exact HA.out q hq
          · exact HS.out
        have HA2 := Lib.hid hal
        clear hs2 hal
        go_wp2_with fail
        go_roundg g'
        case rel => exact ⟨n + 1, st_next HN.out, by go_num, hK3, HA2.out⟩
        case measure => omega
    · obtain rfl : n = rs.length := by omega
      obtain rfl : gk = 0 := by omega
      have hall := HA.out
      rw [List.take_length] at hall
      clear hn HA
      go_wp2_with fail
      refine (owns_any rs _ _ _ (hr.keep0 hK) (by omega)).mono ?_
      rintro e w3 ⟨oa, oc, rfl, hO, k3⟩
      have hK3 := hK.trans k3
      have hr3 : RecsAt w3.heap.size w3 (.slice oa rs.length oc) rs := ⟨SliceAt.of_owns hO, fun q hq => SliceAt.up ((hr.2 q hq).keep0 hK3) hK3.size⟩
      go_wp2_with fail
      refine (ibuild rs _ w3 hr3 (by omega) hall).mono ?_
      rintro e w4 ⟨I, rfl, hI, k4, hX⟩
      have hK4 := hK3.trans k4
      have hr4 : RecsAt w4.heap.size w4 (.slice va rs.length vc) rs := ⟨SliceAt.up (hr.keep0 hK4).1 hK4.size, fun q hq => SliceAt.up ((hr.2 q hq).keep0 hK4) hK4.size⟩
      have hiv : Inv (Ix.zero.build (rs.map (·.1))).1 := build_inv inv_zero _
      have hfew := few_build (rs.map (·.1))
      rw [List.length_map] at hfew
      have hkb := kbuild rs _ w4 _ rfl hr4 (by omega) hall
      obtain ⟨nb, hnb⟩ : ∃ nb, nb = (Ix.zero.build (rs.map (·.1))).2 := ⟨_, rfl⟩
      rw [← hnb] at hkb ⊢
      obtain ⟨X, hXe⟩ : ∃ X, X = (Ix.zero.build (rs.map (·.1))).1 := ⟨_, rfl⟩
      rw [← hXe] at hiv hfew hI hkb
      clear hXe hnb hr3 hr4 hO k4 k3 hX hall
      go_wp2_with fail
      refine hkb.mono ?_
      rintro e w5 ⟨kb, k, rfl, hR5, hRel, ht⟩
      have hI5 := ht.ix hI
      have hK5 : Kp [] w w5 := ht.kp hK4 hK4.size
      have HRL := Lib.hid hRel
      clear hI hkb ht hRel
      go_wp2_with fail
      refine (same_true _ hI5 hR5 HRL.out hiv hfew (by omega) ks _ _ (hk.keep0 hK5) hkz (by omega)).mono ?_
      rintro e w6 ⟨rfl, k6⟩
      have hK6 := hK5.trans k6
      clear hI5 hR5
      go_wp2_with fail
      refine (live_true _).mono ?_
      rintro e wl ⟨rfl, kl⟩
      have hkl := (hK6).trans kl
      clear kl
      go_wp2_with fail
      go_ret
      exact ⟨rfl, hkl⟩
set_option maxRecDepth 100000 in
theorem builds_lifted (os : Os) (started : os.Started) (H : Type) (enc : TypeId × Value → H) :
    ReturnsInHanded {} Tryz.checked os 4 .any (Rows.indexBuildsSpec.pre6 enc Tryz.prog Tryz.f4 Rows.indexBuildsRow.domain false) (Rows.indexBuildsSpec.post enc Tryz.prog Tryz.f4 false true false false) := by
  refine law_lifted Rows.indexBuildsSpec Tryz.func4 (by kernel_rfl) Tryz.underlying4 rfl (by decide +kernel) rfl ?_ ?_ os started H enc
    (ChangeSpec.witness6 (enc := enc) (C := Tryz.checked) false ⟨#[], #[.slice none 0 0, .slice none 0 0], []⟩ 8 (by kernel_rfl) (by kernel_rfl) (by kernel_rfl) (by kernel_rfl))
  · intro H ds hl
    match ds, hl with
    | [d, d2], _ => exact ⟨rfl, rfl, rfl⟩
  · (rintro W vs ⟨v, vs1, base, rfl, hok, hrd, v2, vs2, base2, rfl, hok2, hrd2, rfl⟩; obtain ⟨av, l, c, rfl, -⟩ := okWide_slice Tryz.underlying22 hok; obtain ⟨av2, l2, c2, rfl, -⟩ := okWide_slice Tryz.underlying23 hok2; obtain ⟨rs, hr⟩ := recs_arg hrd rfl; obtain ⟨ks, hk, hkz⟩ := keys_arg hrd2 rfl; exact builds_walk _ _ rs ks W hr hk hkz)
set_option maxRecDepth 100000 in
theorem builds_holds : Rows.IndexBuildsSaid :=
  OpenClaim.holds_of_wide 4 Tryz.f4 rfl rfl rfl rfl rfl rfl rfl ⟨rfl, rfl, rfl, rfl, rfl⟩ rfl rfl rfl rfl rfl (by kernel_rfl) Tryz.func4 (by kernel_rfl)
    (of_decide_eq_true (by kernel_rfl)) (by unfold Func.isWrapper; first | (rw [if_pos (by decide +kernel)]; kernel_rfl) | (rw [if_neg (by decide +kernel)]; exact ⟨rfl, rfl⟩))
    (fun os started H enc _ => builds_lifted os started H enc)
#print axioms builds_holds
end Go.Proofs.YtdhhddifmkijhaaGreat
