/-
  ModelSilent: which errors are silent; the model tells none of them. For every error, every list of requests.
  Conditions: none beyond the row's own.
-/
import Derived.Test.YtlomniffpjndfaaDoorMdQ
import Derived.Test.YtlomniffpjndfaaDoorP6
import Derived.Test.YtlomniffpjndfaaDoorTie
import Derived.Test.YtlomniffpjndfaaDoorCards
namespace Go.Proofs.YtlomniffpjndfaaDoor
open Go.ChangeShapes Go.WideShapes Go.ChangeAt Go.RowKit Go.WideElems Go.Sort

theorem told_kinds (f : ByteArray → ByteArray) (M : Mdl) (kind : Int) (k v : ByteArray) : silentB (M.answer f kind k v).code = false := by
  unfold Mdl.answer
  by_cases h : checkE kind k v ≠ 0
  · rw [if_pos h]
    show silentB (checkE kind k v) = false
    unfold checkE needleE
    repeat' split
    all_goals rfl
  · rw [if_neg h]
    repeat' split
    all_goals rfl
set_option maxHeartbeats 4000000 in
set_option maxRecDepth 100000 in
theorem silent_walk (en : Int) (v : Value) (rs : List RqD) (w : World) (hr : ReqsAt w.heap.size w v rs) (htab : Lib.TabIs Tryd.prog w "internal/strconv.uint64pow10" .u64 Lib.pow10Tab) :
    Calls Tryd.prog 6 #[.int .i64 en, v] w fun e w' => e = .returned (.bool true) ∧ Kp [] w w' := by
  obtain ⟨va, vc, rfl⟩ := slice_ex hr
  have hK := Kp.refl [] w
  by_cases hlen : 30 < rs.length
  · have hlenI : (30 : Int) < (rs.length : Int) := by omega
    go_enter Tryd.func6, Tryd.ntmps6
    go_wp2_with fail
    refine (live_true _ (htab.keep (hK))).mono ?_
    rintro e wl ⟨rfl, kl⟩
    have hkl := (hK).trans kl
    clear kl
    go_wp2_with fail
    go_ret
    exact ⟨rfl, hkl⟩
  have hlenI : (rs.length : Int) ≤ 30 := by omega
  obtain ⟨S, hS⟩ : ∃ S, S = silentB en := ⟨_, rfl⟩
  have hs1 := fun W => msilent en W
  have hs2 := fun W => rsilent en W
  rw [← hS] at hs1 hs2
  clear hS
  go_enter Tryd.func6, Tryd.ntmps6
  go_wp2_with fail
  refine (hs1 _).mono ?_
  rintro e w1 ⟨rfl, k1⟩
  replace hK := hK.trans k1
  clear hs1 k1
  go_wp2_with fail
  refine (hs2 _).mono ?_
  rintro e w2 ⟨rfl, k2⟩
  replace hK := hK.trans k2
  clear hs2 k2
  go_wp2_with fail
  refine (mnew _).mono ?_
  rintro e w3 ⟨mb, eb, rfl, hM, k3, hmb, heb⟩
  have hbs := hK.size
  replace hK := hK.trans k3
  clear k3
  have hmw : w.heap.size ≤ mb := by omega
  have hew : w.heap.size ≤ eb := by omega
  clear hmb heb hbs
  go_wp2_with fail
  go_loopg [6] rs.length (fun g i wr => ∃ n : Nat, n + g = rs.length ∧ i = .int .i64 n ∧ Kp [] w wr ∧ MdAt mb eb wr (Mdl.run (rs.take n)))
  case atStart => exact ⟨0, by omega, rfl, hK, hM⟩
  case round =>
    clear hK hM
    obtain ⟨n, hn, rfl, hK, hM⟩ := hrel
    have HN := Lib.hid hn
    by_cases hlt : n < rs.length
    · obtain ⟨g', rfl⟩ : ∃ g', gk = g' + 1 := ⟨gk - 1, by omega⟩
      clear hn
      have hltI : (n : Int) < (rs.length : Int) := by omega
      obtain ⟨g, o, c, hv', f0, f1, f2⟩ := req_at hr n hlt
      simp only [Value.slice.injEq] at hv'
      obtain ⟨rfl, -, rfl⟩ := hv'
      obtain ⟨q, hq⟩ : ∃ q, q = rs[n] := ⟨_, rfl⟩
      have hnx := run_next hlt
      rw [← hq] at f0 f1 f2 hnx
      obtain ⟨qd, qk, qv⟩ := q
      simp only at f0 f1 f2
      have r0 := Kp.cellAt (X := []) f0 (by simp)
      have r1 := Kp.cellAt (X := []) f1 (by simp)
      have r2 := Kp.cellAt (X := []) f2 (by simp)
      have HQR := Lib.hid hq
      have HNX := Lib.hid hnx
      clear f0 f1 f2 hq hnx
      obtain ⟨SM, hSM⟩ : ∃ SM, SM = smallQ qk qv := ⟨_, rfl⟩
      have hs3 := fun W => rsmall16 qd qk qv W
      rw [← hSM] at hs3
      have HSM := Lib.hid hSM
      clear hSM
      go_wp2_with fail
      refine (hs3 _).mono ?_
      rintro e w4 ⟨rfl, k4⟩
      replace hM := hM.keep0 k4
      replace hK := hK.trans k4
      clear hs3 k4
      cases SM with
      | false =>
        go_wp2_with fail
        refine (live_true _ (htab.keep (hK))).mono ?_
        rintro e wl ⟨rfl, kl⟩
        have hkl := (hK).trans kl
        clear kl
        go_wp2_with fail
        go_ret
        exact ⟨rfl, hkl⟩
      | true =>
        obtain ⟨hqk, hqv⟩ := small_q HSM.out.symm
        go_wp2_with fail
        refine (mdoq sum_ok (run_short _) (by have := run_take rs n; omega) qd qk qv hqk hqv _ hM (htab.keep hK)).mono ?_
        rintro e w5 ⟨av, cv, rfl, -, hM2, k5⟩
        have htl := told_kinds sumF (Mdl.run (rs.take n)) qd qk qv
        obtain ⟨CD, hCD⟩ : ∃ CD, CD = (Mdl.answer sumF (Mdl.run (rs.take n)) qd qk qv) := ⟨_, rfl⟩
        rw [← hCD] at htl ⊢
        have hs4 := fun W => msilent CD.code W
        rw [htl] at hs4
        have hfd : ∀ W, (Instr.field 37 (.agg #[.int .i64 CD.code, .string CD.val, .slice av CD.keys.length cv]) 0).run Tryd.prog W = .ok (.int .i64 CD.code) W := fun _ => rfl
        clear hCD htl hM
        replace hK := kp_up hK k5 (by simp only [List.mem_singleton]; omega)
        clear k5
        go_wp2_with fail
        refine (hs4 _).mono ?_
        rintro e w6 ⟨rfl, k6⟩
        replace hM := hM2.keep0 k6
        replace hK := hK.trans k6
        have HMM := Lib.hid hM
        clear k6 hM hM2 hs4
        go_wp2_with fail
        go_roundg g'
        case rel => exact ⟨n + 1, st_next HN.out, by go_num, hK, by rw [HNX.out]; exact HMM.out⟩
        case measure => omega
    · obtain rfl : n = rs.length := by omega
      obtain rfl : gk = 0 := by omega
      clear hn
      go_wp2_with fail
      refine (mdoq_nil 4 E0 E0 _).mono ?_
      rintro e w4 ⟨rfl, k4⟩
      replace hK := hK.trans k4
      clear k4
      have hfd : ∀ W, (Instr.field 37 (.agg #[.int .i64 1, .string E0, .slice none 0 0]) 0).run Tryd.prog W = .ok (.int .i64 1) W := fun _ => rfl
      go_wp2_with fail
      refine (mstate_nil _).mono ?_
      rintro e w5 ⟨rfl, rfl⟩
      go_wp2_with fail
      refine (mcopy_nil _).mono ?_
      rintro e w6 ⟨rfl, rfl⟩
      go_wp2_with fail
      refine (live_true _ (htab.keep (hK))).mono ?_
      rintro e wl ⟨rfl, kl⟩
      have hkl := (hK).trans kl
      clear kl
      go_wp2_with fail
      go_ret
      exact ⟨rfl, hkl⟩

set_option maxRecDepth 100000 in
theorem silent_lifted (os : Os) (started : os.Started) (H : Type) (enc : TypeId × Value → H) :
    ReturnsInHanded {} Tryd.checked os 6 .any (fun w args => (Rows.modelSilentSpec.pre enc Tryd.prog Tryd.f6 [] false w args ∧ laidMetH Tryd.prog laidAll w) ∧ sizedMet enc Tryd.prog Tryd.f6 (OpenSpec.ofChange Rows.modelSilentSpec) false w args) (Rows.modelSilentSpec.post enc Tryd.prog Tryd.f6 false true false false) := by
  refine law_laid Rows.modelSilentSpec laidAll Tryd.func6 (by kernel_rfl) Tryd.underlying4 rfl (by decide +kernel) rfl ?_ ?_ os started H enc
    (ChangeSpec.witness_shaped (enc := enc) (C := Tryd.checked) (os := os) (X := fun w _ => laidMetH Tryd.prog laidAll w) false (World.laidAll Tryd.prog os laidAll) #[.int .i64 0, .slice Option.none 0 0] 8 (World.laidAll_os _ _ _)
      (World.shaped_of_ZipB (by kernel_rfl) (by kernel_rfl)) (by kernel_rfl) (by kernel_rfl) (by kernel_rfl)
      (by rw [MakeChecks.laidMetH_plain _ _ _ (by kernel_rfl)]; exact laidMet_laidAll _ (by kernel_rfl) (by kernel_rfl)))
  · intro H ds hl
    match ds, hl with | [d, e], _ => exact ⟨rfl, rfl, rfl⟩
  · intro W vs hvs hsh hL
    have htab := tab_of_laid hL
    obtain ⟨a, vs', base, rfl, hok, hrd, hvs⟩ := hvs; obtain ⟨b, vs', base', rfl, hok', hrd', rfl⟩ := hvs; obtain ⟨en, rfl⟩ := errno_arg hok; obtain ⟨rs, hr⟩ := reqs_arg hok' hrd'; exact silent_walk en _ rs W hr htab
theorem silent_holds : Rows.modelSilentRow.holds Tryd.pinned (OpenSpec.ofChange Rows.modelSilentSpec) :=
  OpenClaim.holds_of_wide 6 Tryd.f6 rfl rfl rfl rfl rfl rfl rfl ⟨rfl, rfl, rfl, rfl, rfl⟩ rfl rfl rfl rfl rfl (by kernel_rfl) Tryd.func6 (by kernel_rfl)
    (of_decide_eq_true (by kernel_rfl)) (by unfold Func.isWrapper; first | (rw [if_pos (by decide +kernel)]; kernel_rfl) | (rw [if_neg (by decide +kernel)]; exact ⟨rfl, rfl⟩))
    (fun os started H enc _ => silent_lifted os started H enc)
theorem silent_card_holds : Rows.ModelSilentCardSaid :=
  Claim7.holds_tied_plain_at .later [] [.data, .data, .data] true (true, "2cefe6d09119607abfe5cfff860bee4d30d7b53d56c22658d1f12a51c6d1870c") true silent_holds (fun _ h => by cases h) (by kernel_rfl) (fun _ h => by cases h) modelSilent_row_tie rfl ⟨rfl, rfl⟩ (by kernel_rfl) rfl
    (fun f fn hf hfn => by
      obtain rfl : f = 6 := Option.some.inj ((show Tryd.prog.funcNamed "sluicegate/sluicegatelaw16.ModelSilent" = some 6 by kernel_rfl).symm.trans hf) |>.symm
      obtain rfl : fn = Tryd.f6 := (Option.some.inj (Tryd.func6.symm.trans hfn)).symm
      exact ⟨by kernel_rfl, fun j t ht => by
        have hall : (Tryd.f6.params.toList.all fun u => !Tryd.prog.wantsStandIn u) = true := by kernel_rfl
        exact (show Tryd.prog.wantsStandIn t = false by simpa using List.all_eq_true.1 hall t (by simpa using Array.mem_of_getElem? ht))⟩)
    (by kernel_rfl)
#print axioms silent_card_holds
end Go.Proofs.YtlomniffpjndfaaDoor
