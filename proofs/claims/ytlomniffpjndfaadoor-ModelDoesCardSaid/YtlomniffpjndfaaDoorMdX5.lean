/-
  ModelDoes: whatever is asked, it is answered, and known then, as the document says. For every list of requests.
  Conditions: none beyond the row's own.
-/
import Derived.Test.YtlomniffpjndfaaDoorP9
namespace Go.Proofs.YtlomniffpjndfaaDoor
open Go.ChangeShapes Go.WideShapes Go.ChangeAt Go.RowKit Go.WideElems Go.Sort

theorem rm_new (w : World) : RmAt w.heap.size (w.alloc (.cells #[.slice none 0 0] 29)) [] := ⟨none, 0, block_new _ _, rfl, .inl ⟨rfl, rfl⟩⟩
theorem RL_run0 : RL (Mdl.run []) = [] := by simp [RL, Mdl.keys, Mdl.run]
set_option maxHeartbeats 8000000 in
set_option maxRecDepth 100000 in
theorem does_walk (v : Value) (rs : List RqD) (w : World) (hr : ReqsAt w.heap.size w v rs) (htab : Lib.TabIs Tryd.prog w "internal/strconv.uint64pow10" .u64 Lib.pow10Tab) :
    Calls Tryd.prog 3 #[v] w fun e w' => e = .returned (.bool true) ∧ Kp [] w w' := by
  obtain ⟨va, vc, rfl⟩ := slice_ex hr
  have hK := Kp.refl [] w
  by_cases hlen : 30 < rs.length
  · have hlenI : (30 : Int) < (rs.length : Int) := by omega
    go_enter Tryd.func3, Tryd.ntmps3
    go_wp2_with fail
    refine (live_true _ (htab.keep (hK))).mono ?_
    rintro e wl ⟨rfl, kl⟩
    have hkl := (hK).trans kl
    clear kl
    go_wp2_with fail
    go_ret
    exact ⟨rfl, hkl⟩
  have hlenI : (rs.length : Int) ≤ 30 := by omega
  go_enter Tryd.func3, Tryd.ntmps3
  go_wp2_with fail
  refine (mnew _).mono ?_
  rintro e w3 ⟨mb, eb, rfl, hM, k3, hmb, heb⟩
  obtain ⟨hml, hel⟩ := hM.lts
  obtain ⟨w4, hw4⟩ : ∃ w4, w4 = w3.alloc (.cells #[.slice none 0 0] 29) := ⟨_, rfl⟩
  obtain ⟨rb, hrb⟩ : ∃ rb, rb = w3.heap.size := ⟨_, rfl⟩
  have k4 : Kp [] w3 w4 := hw4 ▸ (Kp.refl _ _).alloc _
  have hRm : RmAt rb w4 (RL (Mdl.run [])) := by rw [RL_run0, hw4, hrb]; exact rm_new _
  replace hM := hM.keep0 k4
  replace hK := k3.trans k4
  have hs3 := k3.size
  have HW4 := Lib.hid hw4
  have HRB := Lib.hid hrb
  have hmr : mb < rb := by omega
  have her : eb < rb := by omega
  have hwr : w.heap.size ≤ rb := by omega
  clear k3 k4 hw4 hrb hs3 hml hel
  go_wp2_with fail
  rw [← HW4.out, ← HRB.out]
  go_loopg [5] rs.length (fun g i wr => ∃ n : Nat, n + g = rs.length ∧ i = .int .i64 n ∧ Kp [] w wr ∧ MdAt mb eb wr (Mdl.run (rs.take n)) ∧ RmAt rb wr (RL (Mdl.run (rs.take n))))
  case atStart => exact ⟨0, by omega, rfl, hK, hM, hRm⟩
  case round =>
    clear hK hM hRm
    obtain ⟨n, hn, rfl, hK, hM, hRm⟩ := hrel
    have HN := Lib.hid hn
    by_cases hlt : n < rs.length
    · obtain ⟨g', rfl⟩ : ∃ g', gk = g' + 1 := ⟨gk - 1, by omega⟩
      clear hn
      have hltI : (n : Int) < (rs.length : Int) := by omega
      obtain ⟨g, o, c, hv', f0, f1, f2⟩ := req_at hr n hlt
      simp only [Value.slice.injEq] at hv'
      obtain ⟨rfl, -, rfl⟩ := hv'
      obtain ⟨q, hq⟩ : ∃ q, q = rs[n] := ⟨_, rfl⟩
      have hnx := run_next hlt
      rw [← hq] at f0 f1 f2 hnx
      obtain ⟨qd, qk, qv⟩ := q
      simp only at f0 f1 f2
      have r0 := Kp.cellAt (X := []) f0 (by simp)
      have r1 := Kp.cellAt (X := []) f1 (by simp)
      have r2 := Kp.cellAt (X := []) f2 (by simp)
      have HQR := Lib.hid hq
      have HNX := Lib.hid hnx
      clear f0 f1 f2 hq hnx
      obtain ⟨SM, hSM⟩ : ∃ SM, SM = smallQ qk qv := ⟨_, rfl⟩
      have hs3 := fun W => rsmall16 qd qk qv W
      rw [← hSM] at hs3
      have HSM := Lib.hid hSM
      clear hSM
      go_wp2_with fail
      refine (hs3 _).mono ?_
      rintro e w5 ⟨rfl, k5⟩
      replace hM := hM.keep0 k5
      replace hRm := hRm.keep0 k5
      replace hK := hK.trans k5
      clear hs3 k5
      cases SM with
      | false =>
        go_wp2_with fail
        refine (live_true _ (htab.keep (hK))).mono ?_
        rintro e wl ⟨rfl, kl⟩
        have hkl := (hK).trans kl
        clear kl
        go_wp2_with fail
        go_ret
        exact ⟨rfl, hkl⟩
      | true =>
        obtain ⟨hqk, hqv⟩ := small_q HSM.out.symm
        have hMs := run_short (rs.take n)
        have hMn := run_nod (rs.take n)
        have hMl : (Mdl.run (rs.take n)).length ≤ 1000 := by have := run_take rs n; omega
        obtain ⟨M, hMd⟩ : ∃ M, M = Mdl.run (rs.take n) := ⟨_, rfl⟩
        rw [← hMd] at hM hRm hMs hMn hMl HNX
        have hup : ∀ W, Kp [eb, rb] w5 W → Kp [] w W := fun W kk => kp_up hK kk (by intro i hi; simp only [List.mem_cons, List.not_mem_nil, or_false] at hi; omega)
        have s0 := fun W (kk : Kp [eb, rb] w5 W) => r0 W (hup W kk)
        have s1 := fun W (kk : Kp [eb, rb] w5 W) => r1 W (hup W kk)
        have s2 := fun W (kk : Kp [eb, rb] w5 W) => r2 W (hup W kk)
        have HTAB := Lib.hid htab
        have HMLEN := Lib.hid (show M.length ≤ 999 by have := run_take rs n; rw [hMd]; omega)
        have hrs : rb < w5.heap.size := by obtain ⟨_, _, ht, _⟩ := hRm; exact lt_of_block ht
        clear hMd r0 r1 r2
        go_wp2_with fail
        refine wpB_begin 999 (Kp [eb, rb] w5) (by kernel_rfl) (by exact (Kp.refl _ _).drew) (fun hHeld => ?_)
        refine wpB_take 0 _ ?_ rfl (by kernel_rfl) (fun _ _ _ h => h) rfl hHeld ?_ ?_
        rotate_left
        · (intro W hW; go_simp; try with_reducible rfl)
        try simp only [Act.put, List.setIfInBounds_toArray, List.set_cons_zero, List.set_cons_succ]
        refine wpB_take 1 _ ?_ rfl (by kernel_rfl) (fun _ _ _ h => h) rfl hHeld ?_ ?_
        rotate_left
        · (intro W hW; go_simp; try with_reducible rfl)
        try simp only [Act.put, List.setIfInBounds_toArray, List.set_cons_zero, List.set_cons_succ]
        refine wpB_take 2 _ ?_ rfl (by kernel_rfl) (fun _ _ _ h => h) rfl hHeld ?_ ?_
        rotate_left
        · (intro W hW; go_simp; try with_reducible rfl)
        try simp only [Act.put, List.setIfInBounds_toArray, List.set_cons_zero, List.set_cons_succ]
        refine wpB_take 3 _ ?_ rfl (by kernel_rfl) (fun _ _ _ h => h) rfl hHeld ?_ ?_
        rotate_left
        · (intro W hW; go_simp; try with_reducible rfl)
        try simp only [Act.put, List.setIfInBounds_toArray, List.set_cons_zero, List.set_cons_succ]
        refine wpB_take 4 _ ?_ rfl (by kernel_rfl) (fun _ _ _ h => h) rfl hHeld ?_ ?_
        rotate_left
        · (intro W hW; go_simp; try with_reducible rfl)
        try simp only [Act.put, List.setIfInBounds_toArray, List.set_cons_zero, List.set_cons_succ]
        refine wpB_take 6 _ ?_ rfl (by kernel_rfl) (fun _ _ _ h => h) rfl hHeld ?_ ?_
        rotate_left
        · (intro W hW; go_simp; try with_reducible rfl)
        try simp only [Act.put, List.setIfInBounds_toArray, List.set_cons_zero, List.set_cons_succ]
        refine wpB_take 7 _ ?_ rfl (by kernel_rfl) (fun _ _ _ h => h) rfl hHeld ?_ ?_
        rotate_left
        · (intro W hW; go_simp; try with_reducible rfl)
        try simp only [Act.put, List.setIfInBounds_toArray, List.set_cons_zero, List.set_cons_succ]
        refine wpB_take 8 _ ?_ rfl (by kernel_rfl) (fun _ _ _ h => h) rfl hHeld ?_ ?_
        rotate_left
        · (intro W hW; go_simp; try with_reducible rfl)
        try simp only [Act.put, List.setIfInBounds_toArray, List.set_cons_zero, List.set_cons_succ]
        refine wpB_take 9 _ ?_ rfl (by kernel_rfl) (fun _ _ _ h => h) rfl hHeld ?_ ?_
        rotate_left
        · (intro W hW; go_simp; try with_reducible rfl)
        try simp only [Act.put, List.setIfInBounds_toArray, List.set_cons_zero, List.set_cons_succ]
        refine wpB_take 10 _ ?_ rfl (by kernel_rfl) (fun _ _ _ h => h) rfl hHeld ?_ ?_
        rotate_left
        · (intro W hW; go_simp; try with_reducible rfl)
        try simp only [Act.put, List.setIfInBounds_toArray, List.set_cons_zero, List.set_cons_succ]
        refine wpB_step 5 _ rfl (by kernel_rfl) rfl rfl (fun K hK_ => ?_)
        go_simp
        have kd : Kp [] w5 w5.drew := (Kp.refl _ _).drew
        refine (mdoq sum_ok hMs hMl qd qk qv hqk hqv _ (hM.keep0 kd) (HTAB.out.keep (hK.trans kd))).mono ?_
        rintro e w6 ⟨av, cv, rfl, G6, hM6, k6⟩
        have hRm6 := (hRm.keep0 kd).keep k6 (by intro i hi; simp only [List.mem_singleton] at hi; omega)
        refine hK_.out _ _ (by exact hHeld.trans (k6.weaken (fun i _ hm => by rw [List.mem_singleton] at hm; simp [hm]))) (fun hHeld => ?_)
        clear hK_ K
        try simp only [Act.put, List.setIfInBounds_toArray, List.set_cons_zero, List.set_cons_succ]
        refine wpB_step 11 _ rfl (by kernel_rfl) rfl rfl (fun K hK_ => ?_)
        go_simp
        refine (rdo hMs hMn hMl qd qk qv hqk hqv _ hRm6).mono ?_
        rintro e w7 ⟨x7, rfl, G7, hRm7, k7⟩
        refine hK_.out _ _ (by exact hHeld.trans (k7.weaken (fun i _ hm => by rw [List.mem_singleton] at hm; simp [hm]))) (fun hHeld => ?_)
        clear hK_ K
        try simp only [Act.put, List.setIfInBounds_toArray, List.set_cons_zero, List.set_cons_succ]
        refine wpB_step 12 _ rfl (by kernel_rfl) rfl rfl (fun K hK_ => ?_)
        go_simp
        refine (rsame16 _ (G6.keepX k7 (by intro i hi; simp only [List.mem_singleton] at hi; have := kd.size; omega)) G7 (answer_keys _ _ _ _ _)).mono ?_
        rintro e w8 ⟨rfl, k8⟩
        refine hK_.out _ _ (by exact hHeld.trans (k8.weaken (fun _ _ hm => by cases hm))) (fun hHeld => ?_)
        clear hK_ K
        try simp only [Act.put, List.setIfInBounds_toArray, List.set_cons_zero, List.set_cons_succ]
        refine wpB_take 13 _ ?_ rfl (by kernel_rfl) (fun _ _ _ h => h) rfl hHeld ?_ ?_
        rotate_left
        · (intro W hW; go_simp; try with_reducible rfl)
        try simp only [Act.put, List.setIfInBounds_toArray, List.set_cons_zero, List.set_cons_succ]
        refine wpB_take 14 _ ?_ rfl (by kernel_rfl) (fun _ _ _ h => h) rfl hHeld ?_ ?_
        rotate_left
        · (intro W hW; go_simp; try with_reducible rfl)
        try simp only [Act.put, List.setIfInBounds_toArray, List.set_cons_zero, List.set_cons_succ]
        refine wpB_take 15 _ ?_ rfl (by kernel_rfl) (fun _ _ _ h => h) rfl hHeld ?_ ?_
        rotate_left
        · (intro W hW; go_simp; try with_reducible rfl)
        try simp only [Act.put, List.setIfInBounds_toArray, List.set_cons_zero, List.set_cons_succ]
        refine wpB_take 17 _ ?_ rfl (by kernel_rfl) (fun _ _ _ h => h) rfl hHeld ?_ ?_
        rotate_left
        · (intro W hW; go_simp; try with_reducible rfl)
        try simp only [Act.put, List.setIfInBounds_toArray, List.set_cons_zero, List.set_cons_succ]
        refine wpB_step 16 _ rfl (by kernel_rfl) rfl rfl (fun K hK_ => ?_)
        go_simp
        refine (mstate (after_short hMs _ _ _) (by have := after_len M qd qk qv; have := HMLEN.out; omega) _ ((hM6.keep k7 (by simp only [List.mem_singleton]; omega) (by simp only [List.mem_singleton]; omega)).keep0 k8)).mono ?_
        rintro e w9 ⟨rfl, k9⟩
        refine hK_.out _ _ (by exact hHeld.trans (k9.weaken (fun _ _ hm => by cases hm))) (fun hHeld => ?_)
        clear hK_ K
        try simp only [Act.put, List.setIfInBounds_toArray, List.set_cons_zero, List.set_cons_succ]
        refine wpB_step 18 _ rfl (by kernel_rfl) rfl rfl (fun K hK_ => ?_)
        go_simp
        refine (rstateM (after_short hMs _ _ _) (by have := after_len M qd qk qv; have := HMLEN.out; omega) _ ((hRm7.keep0 k8).keep0 k9)).mono ?_
        rintro e wa ⟨rfl, ka⟩
        refine hK_.out _ _ (by exact hHeld.trans (ka.weaken (fun _ _ hm => by cases hm))) (fun hHeld => ?_)
        clear hK_ K
        try simp only [Act.put, List.setIfInBounds_toArray, List.set_cons_zero, List.set_cons_succ]
        refine wpB_take 19 _ ?_ rfl (by kernel_rfl) (fun _ _ _ h => h) rfl hHeld ?_ ?_
        rotate_left
        · (intro W hW; go_simp; try with_reducible rfl)
        try simp only [Act.put, List.setIfInBounds_toArray, List.set_cons_zero, List.set_cons_succ]
        refine wpB_take 20 _ ?_ rfl (by kernel_rfl) (fun _ _ _ h => h) rfl hHeld ?_ ?_
        rotate_left
        · (intro W hW; go_simp; try with_reducible rfl)
        try simp only [Act.put, List.setIfInBounds_toArray, List.set_cons_zero, List.set_cons_succ]
        refine wpB_done (by kernel_rfl) ?_ _
        have hKa := hup _ hHeld
        go_wp2_with fail
        go_roundg g'
        case rel => exact ⟨n + 1, st_next HN.out, by go_num, hKa, by rw [HNX.out]; exact ((hM6.keep k7 (by simp only [List.mem_singleton]; omega) (by simp only [List.mem_singleton]; omega)).keep0 k8).keep0 (k9.trans ka), by rw [HNX.out]; exact ((hRm7.keep0 k8).keep0 k9).keep0 ka⟩
        case measure => omega
    · obtain rfl : n = rs.length := by omega
      obtain rfl : gk = 0 := by omega
      clear hn
      go_wp2_with fail
      refine (live_true _ (htab.keep (hK))).mono ?_
      rintro e wl ⟨rfl, kl⟩
      have hkl := (hK).trans kl
      clear kl
      go_wp2_with fail
      go_ret
      exact ⟨rfl, hkl⟩
set_option maxRecDepth 100000 in
theorem does_lifted (os : Os) (started : os.Started) (H : Type) (enc : TypeId × Value → H) :
    ReturnsInHanded {} Tryd.checked os 3 .any (fun w args => (Rows.modelDoesSpec.pre enc Tryd.prog Tryd.f3 [] false w args ∧ laidMetH Tryd.prog laidAll w) ∧ sizedMet enc Tryd.prog Tryd.f3 (OpenSpec.ofChange Rows.modelDoesSpec) false w args) (Rows.modelDoesSpec.post enc Tryd.prog Tryd.f3 false true false false) := by
  refine law_laid Rows.modelDoesSpec laidAll Tryd.func3 (by kernel_rfl) Tryd.underlying4 rfl (by decide +kernel) rfl ?_ ?_ os started H enc
    (ChangeSpec.witness_shaped (enc := enc) (C := Tryd.checked) (os := os) (X := fun w _ => laidMetH Tryd.prog laidAll w) false (World.laidAll Tryd.prog os laidAll) #[.slice Option.none 0 0] 8 (World.laidAll_os _ _ _)
      (World.shaped_of_ZipB (by kernel_rfl) (by kernel_rfl)) (by kernel_rfl) (by kernel_rfl) (by kernel_rfl)
      (by rw [MakeChecks.laidMetH_plain _ _ _ (by kernel_rfl)]; exact laidMet_laidAll _ (by kernel_rfl) (by kernel_rfl)))
  · intro H ds hl
    match ds, hl with | [d], _ => exact ⟨rfl, rfl, rfl⟩
  · intro W vs hvs hsh hL
    have htab := tab_of_laid hL
    obtain ⟨a, vs', base, rfl, hok, hrd, rfl⟩ := hvs; obtain ⟨rs, hr⟩ := reqs_arg hok hrd; exact does_walk _ rs W hr htab
theorem does_holds : Rows.modelDoesRow.holds Tryd.pinned (OpenSpec.ofChange Rows.modelDoesSpec) :=
  OpenClaim.holds_of_wide 3 Tryd.f3 rfl rfl rfl rfl rfl rfl rfl ⟨rfl, rfl, rfl, rfl, rfl⟩ rfl rfl rfl rfl rfl (by kernel_rfl) Tryd.func3 (by kernel_rfl)
    (of_decide_eq_true (by kernel_rfl)) (by unfold Func.isWrapper; first | (rw [if_pos (by decide +kernel)]; kernel_rfl) | (rw [if_neg (by decide +kernel)]; exact ⟨rfl, rfl⟩))
    (fun os started H enc _ => does_lifted os started H enc)
theorem does_card_holds : Rows.ModelDoesCardSaid :=
  Claim7.holds_tied_plain_at .later [] [.data, .data, .data] true (true, "2cefe6d09119607abfe5cfff860bee4d30d7b53d56c22658d1f12a51c6d1870c") true does_holds (fun _ h => by cases h) (by kernel_rfl) (fun _ h => by cases h) modelDoes_row_tie rfl ⟨rfl, rfl⟩ (by kernel_rfl) rfl
    (fun f fn hf hfn => by
      obtain rfl : f = 3 := Option.some.inj ((show Tryd.prog.funcNamed "sluicegate/sluicegatelaw16.ModelDoes" = some 3 by kernel_rfl).symm.trans hf) |>.symm
      obtain rfl : fn = Tryd.f3 := (Option.some.inj (Tryd.func3.symm.trans hfn)).symm
      exact ⟨by kernel_rfl, fun j t ht => by
        have hall : (Tryd.f3.params.toList.all fun u => !Tryd.prog.wantsStandIn u) = true := by kernel_rfl
        exact (show Tryd.prog.wantsStandIn t = false by simpa using List.all_eq_true.1 hall t (by simpa using Array.mem_of_getElem? ht))⟩)
    (by kernel_rfl)
#print axioms does_card_holds
end Go.Proofs.YtlomniffpjndfaaDoor
