/-
  ModelOnce: each key is put with success once at most, and deleted once at most; what is got is what was put. For every list of requests, every key.
  Conditions: none beyond the row's own.
-/
import Derived.Test.YtlomniffpjndfaaDoorMdY
namespace Go.Proofs.YtlomniffpjndfaaDoor
open Go.ChangeShapes Go.WideShapes Go.ChangeAt Go.RowKit Go.WideElems Go.Sort

/-- what was counted of a key -/
def Cnt (key : ByteArray) (M : Mdl) (P G : Int) (V : ByteArray) : Prop :=
  (aGet key M = none ∧ P = 0 ∧ G = 0) ∨ (aGet key M = some (V, false) ∧ P = 1 ∧ G = 0) ∨ ((∃ v, aGet key M = some (v, true)) ∧ P = 1 ∧ G = 1)
theorem cnt_same {key : ByteArray} {M M' : Mdl} {P G : Int} {V : ByteArray} (h : Cnt key M P G V) (e : aGet key M' = aGet key M) : Cnt key M' P G V := by
  unfold Cnt at *; rw [e]; exact h
theorem cnt_none {key : ByteArray} {M : Mdl} {P G : Int} {V : ByteArray} (h : Cnt key M P G V) (e : aGet key M = none) : P = 0 ∧ G = 0 := by
  rcases h with ⟨-, h⟩ | ⟨h1, -⟩ | ⟨⟨v, h1⟩, -⟩
  · exact h
  · rw [e] at h1; cases h1
  · rw [e] at h1; cases h1
theorem cnt_has {key : ByteArray} {M : Mdl} {P G : Int} {V : ByteArray} (h : Cnt key M P G V) (e : M.has key = true) : aGet key M = some (V, false) ∧ (M.at key).1 = V ∧ P = 1 ∧ G = 0 := by
  obtain ⟨v, hv, hat⟩ := has_get e
  rcases h with ⟨h1, -⟩ | ⟨h1, h2⟩ | ⟨⟨u, h1⟩, -⟩
  · rw [hv] at h1; cases h1
  · rw [hv] at h1; cases h1; exact ⟨hv, hat, h2⟩
  · rw [hv] at h1; cases h1
set_option maxHeartbeats 8000000 in
set_option maxRecDepth 100000 in
theorem once_walk (v : Value) (rs : List RqD) (key : ByteArray) (w : World) (hr : ReqsAt w.heap.size w v rs) (htab : Lib.TabIs Tryd.prog w "internal/strconv.uint64pow10" .u64 Lib.pow10Tab) :
    Calls Tryd.prog 4 #[v, .string key] w fun e w' => e = .returned (.bool true) ∧ Kp [] w w' := by
  obtain ⟨va, vc, rfl⟩ := slice_ex hr
  have hK := Kp.refl [] w
  by_cases hlen : 30 < rs.length
  · have hlenI : (30 : Int) < (rs.length : Int) := by omega
    go_enter Tryd.func4, Tryd.ntmps4
    go_wp2_with fail
    refine (live_true _ (htab.keep (hK))).mono ?_
    rintro e wl ⟨rfl, kl⟩
    have hkl := (hK).trans kl
    clear kl
    go_wp2_with fail
    go_ret
    exact ⟨rfl, hkl⟩
  have hlenI : (rs.length : Int) ≤ 30 := by omega
  go_enter Tryd.func4, Tryd.ntmps4
  go_wp2_with fail
  refine (mnew _).mono ?_
  rintro e w3 ⟨mb, eb, rfl, hM, k3, hmb, heb⟩
  replace hK := k3
  clear k3
  go_wp2_with fail
  go_loopg [6, 7, 8, 9] rs.length (fun g p go vv i wr => ∃ (n : Nat) (P G : Int) (V : ByteArray), n + g = rs.length ∧ p = .int .i64 P ∧ go = .int .i64 G ∧ vv = .string V ∧ i = .int .i64 n ∧ Kp [] w wr ∧ MdAt mb eb wr (Mdl.run (rs.take n)) ∧ Cnt key (Mdl.run (rs.take n)) P G V)
  case atStart => exact ⟨0, 0, 0, E0, by omega, rfl, rfl, rfl, rfl, hK, hM, .inl ⟨rfl, rfl, rfl⟩⟩
  case round =>
    clear hK hM
    obtain ⟨n, P, G, V, hn, rfl, rfl, rfl, rfl, hK, hM, hC⟩ := hrel
    have HN := Lib.hid hn
    have HC := Lib.hid hC
    clear hC
    by_cases hlt : n < rs.length
    · obtain ⟨g', rfl⟩ : ∃ g', gk = g' + 1 := ⟨gk - 1, by omega⟩
      clear hn
      have hltI : (n : Int) < (rs.length : Int) := by omega
      obtain ⟨g, o, c, hv', f0, f1, f2⟩ := req_at hr n hlt
      simp only [Value.slice.injEq] at hv'
      obtain ⟨rfl, -, rfl⟩ := hv'
      obtain ⟨q, hq⟩ : ∃ q, q = rs[n] := ⟨_, rfl⟩
      have hnx := run_next hlt
      rw [← hq] at f0 f1 f2 hnx
      obtain ⟨qd, qk, qv⟩ := q
      simp only at f0 f1 f2
      have r0 := Kp.cellAt (X := []) f0 (by simp)
      have r1 := Kp.cellAt (X := []) f1 (by simp)
      have r2 := Kp.cellAt (X := []) f2 (by simp)
      have HQR := Lib.hid hq
      have HNX := Lib.hid hnx
      clear f0 f1 f2 hq hnx
      obtain ⟨SM, hSM⟩ : ∃ SM, SM = smallQ qk qv := ⟨_, rfl⟩
      have hs3 := fun W => rsmall16 qd qk qv W
      rw [← hSM] at hs3
      have HSM := Lib.hid hSM
      clear hSM
      go_wp2_with fail
      refine (hs3 _).mono ?_
      rintro e w4 ⟨rfl, k4⟩
      replace hM := hM.keep0 k4
      replace hK := hK.trans k4
      clear hs3 k4
      cases SM with
      | false =>
        go_wp2_with fail
        refine (live_true _ (htab.keep (hK))).mono ?_
        rintro e wl ⟨rfl, kl⟩
        have hkl := (hK).trans kl
        clear kl
        go_wp2_with fail
        go_ret
        exact ⟨rfl, hkl⟩
      | true =>
        obtain ⟨hqk, hqv⟩ := small_q HSM.out.symm
        go_wp2_with fail
        refine (mdoq sum_ok (run_short _) (by have := run_take rs n; omega) qd qk qv hqk hqv _ hM (htab.keep hK)).mono ?_
        rintro e w5 ⟨av, cv, rfl, -, hM2, k5⟩
        clear hM
        replace hK := kp_up hK k5 (by simp only [List.mem_singleton]; omega)
        clear k5
        have HMM := Lib.hid hM2
        clear hM2
        obtain ⟨M, hMd⟩ : ∃ M, M = Mdl.run (rs.take n) := ⟨_, rfl⟩
        rw [← hMd] at HMM HC HNX ⊢
        clear hMd
        have HO := Lib.hid (fun (h : qk ≠ key) => cnt_same HC.out (M' := M.after qd qk qv) (after_other h))
        have HE := Lib.hid (fun (h : ¬ ((M.answer sumF qd qk qv).code = 0 ∧ (qd = 0 ∨ qd = 2))) => cnt_same HC.out (M' := M.after qd qk qv) (by rw [after_err h]))
        have HP := Lib.hid (fun (e : qk = key) (h0 : qd = 0) (h : (M.answer sumF qd qk qv).code = 0) => (by
          subst e h0
          obtain ⟨h1, h2⟩ := ok_put h
          rw [h2]
          obtain ⟨rfl, rfl⟩ := cnt_none HC.out h1
          exact ⟨rfl, rfl, .inr (.inl ⟨get_put_same _, rfl, rfl⟩)⟩ : P = 0 ∧ G = 0 ∧ Cnt key (M.after qd qk qv) 1 0 qv))
        have HD := Lib.hid (fun (e : qk = key) (h0 : qd = 2) (h : (M.answer sumF qd qk qv).code = 0) => (by
          subst e h0
          obtain ⟨h1, h2⟩ := ok_del h
          rw [h2]
          obtain ⟨-, -, rfl, rfl⟩ := cnt_has HC.out h1
          exact ⟨rfl, rfl, .inr (.inr ⟨⟨_, get_put_same _⟩, rfl, rfl⟩)⟩ : P = 1 ∧ G = 0 ∧ Cnt key (M.after qd qk qv) 1 1 V))
        have HG := Lib.hid (fun (e : qk = key) (h0 : qd = 1) (h : (M.answer sumF qd qk qv).code = 0) => (by
          subst e h0
          obtain ⟨h1, h2⟩ := ok_get h
          obtain ⟨-, h3, rfl, rfl⟩ := cnt_has HC.out h1
          exact ⟨rfl, rfl, h2.trans h3⟩ : P = 1 ∧ G = 0 ∧ (M.answer sumF qd qk qv).val = V))
        obtain ⟨A, hA⟩ : ∃ A, A = M.answer sumF qd qk qv := ⟨_, rfl⟩
        rw [← hA] at HE HP HD HG ⊢
        clear hA
        have hk7 : Kp [] w (w5.alloc (.cells #[.int .i64 A.code, .string A.val, .slice av A.keys.length cv] 37)) := hK.alloc _
        by_cases hke : qk = key
        · have hkb : (qk.toList == key.toList) = true := by rw [hke]; exact beq_self_eq_true _
          by_cases hc : A.code = 0
          · have hcb : (A.code == 0) = true := by rw [hc]; rfl
            by_cases h0 : qd = 0
            · obtain ⟨rfl, rfl, ht⟩ := HP.out hke h0 hc
              have HT := Lib.hid ht
              subst h0
              clear hke hc ht
              go_wp2_with fail
              go_roundg g'
              case rel => exact ⟨n + 1, 1, 0, qv, st_next HN.out, by go_num, by go_num, rfl, by go_num, hk7, by rw [HNX.out]; exact HMM.out.keep0 ((Kp.refl _ _).alloc _), by rw [HNX.out]; exact HT.out⟩
              case measure => omega
            have h0b : (qd == 0) = false := by simpa using h0
            by_cases h2 : qd = 2
            · obtain ⟨rfl, rfl, ht⟩ := HD.out hke h2 hc
              have HT := Lib.hid ht
              subst h2
              clear hke hc ht h0 h0b
              go_wp2_with fail
              go_roundg g'
              case rel => exact ⟨n + 1, 1, 1, V, st_next HN.out, by go_num, by go_num, rfl, by go_num, hk7, by rw [HNX.out]; exact HMM.out.keep0 ((Kp.refl _ _).alloc _), by rw [HNX.out]; exact HT.out⟩
              case measure => omega
            have h2b : (qd == 2) = false := by simpa using h2
            have HT := Lib.hid (HE.out (fun h => h.2.elim h0 h2))
            by_cases h1 : qd = 1
            · obtain ⟨rfl, rfl, ht⟩ := HG.out hke h1 hc
              subst h1
              clear hke hc h0 h0b h2 h2b
              have htb : (A.val.toList == V.toList) = true := by rw [ht]; exact beq_self_eq_true _
              clear ht
              go_wp2_with fail
              go_roundg g'
              case rel => exact ⟨n + 1, 1, 0, V, st_next HN.out, by go_num, by go_num, rfl, by go_num, hk7, by rw [HNX.out]; exact HMM.out.keep0 ((Kp.refl _ _).alloc _), by rw [HNX.out]; exact HT.out⟩
              case measure => omega
            have h1b : (qd == 1) = false := by simpa using h1
            clear hke hc h0 h1 h2
            go_wp2_with fail
            go_roundg g'
            case rel => exact ⟨n + 1, P, G, V, st_next HN.out, by go_num, by go_num, rfl, by go_num, hk7, by rw [HNX.out]; exact HMM.out.keep0 ((Kp.refl _ _).alloc _), by rw [HNX.out]; exact HT.out⟩
            case measure => omega
          · have hcb : (A.code == 0) = false := by simpa using hc
            have HT := Lib.hid (HE.out (fun h => hc h.1))
            clear hke hc
            go_wp2_with fail
            go_roundg g'
            case rel => exact ⟨n + 1, P, G, V, st_next HN.out, by go_num, by go_num, rfl, by go_num, hk7, by rw [HNX.out]; exact HMM.out.keep0 ((Kp.refl _ _).alloc _), by rw [HNX.out]; exact HT.out⟩
            case measure => omega
        · have hkb := bytes_ne hke
          have HT := Lib.hid (HO.out hke)
          clear hke
          go_wp2_with fail
          go_roundg g'
          case rel => exact ⟨n + 1, P, G, V, st_next HN.out, by go_num, by go_num, rfl, by go_num, hk7, by rw [HNX.out]; exact HMM.out.keep0 ((Kp.refl _ _).alloc _), by rw [HNX.out]; exact HT.out⟩
          case measure => omega
    · obtain rfl : n = rs.length := by omega
      obtain rfl : gk = 0 := by omega
      clear hn
      rcases HC.out with ⟨-, rfl, rfl⟩ | ⟨-, rfl, rfl⟩ | ⟨-, rfl, rfl⟩
      · go_wp2_with fail
        refine (live_true _ (htab.keep (hK))).mono ?_
        rintro e wl ⟨rfl, kl⟩
        have hkl := (hK).trans kl
        clear kl
        go_wp2_with fail
        go_ret
        exact ⟨rfl, hkl⟩
      · go_wp2_with fail
        refine (live_true _ (htab.keep (hK))).mono ?_
        rintro e wl ⟨rfl, kl⟩
        have hkl := (hK).trans kl
        clear kl
        go_wp2_with fail
        go_ret
        exact ⟨rfl, hkl⟩
      · go_wp2_with fail
        refine (live_true _ (htab.keep (hK))).mono ?_
        rintro e wl ⟨rfl, kl⟩
        have hkl := (hK).trans kl
        clear kl
        go_wp2_with fail
        go_ret
        exact ⟨rfl, hkl⟩

set_option maxRecDepth 100000 in
theorem once_lifted (os : Os) (started : os.Started) (H : Type) (enc : TypeId × Value → H) :
    ReturnsInHanded {} Tryd.checked os 4 .any (fun w args => (Rows.modelOnceSpec.pre enc Tryd.prog Tryd.f4 [] false w args ∧ laidMetH Tryd.prog laidAll w) ∧ sizedMet enc Tryd.prog Tryd.f4 (OpenSpec.ofChange Rows.modelOnceSpec) false w args) (Rows.modelOnceSpec.post enc Tryd.prog Tryd.f4 false true false false) := by
  refine law_laid Rows.modelOnceSpec laidAll Tryd.func4 (by kernel_rfl) Tryd.underlying4 rfl (by decide +kernel) rfl ?_ ?_ os started H enc
    (ChangeSpec.witness_shaped (enc := enc) (C := Tryd.checked) (os := os) (X := fun w _ => laidMetH Tryd.prog laidAll w) false (World.laidAll Tryd.prog os laidAll) #[.slice Option.none 0 0, .string ⟨#[]⟩] 8 (World.laidAll_os _ _ _)
      (World.shaped_of_ZipB (by kernel_rfl) (by kernel_rfl)) (by kernel_rfl) (by kernel_rfl) (by kernel_rfl)
      (by rw [MakeChecks.laidMetH_plain _ _ _ (by kernel_rfl)]; exact laidMet_laidAll _ (by kernel_rfl) (by kernel_rfl)))
  · intro H ds hl
    match ds, hl with | [d, e], _ => exact ⟨rfl, rfl, rfl⟩
  · intro W vs hvs hsh hL
    have htab := tab_of_laid hL
    obtain ⟨a, vs', base, rfl, hok, hrd, hvs⟩ := hvs; obtain ⟨b, vs', base', rfl, hok', hrd', rfl⟩ := hvs; obtain ⟨rs, hr⟩ := reqs_arg hok hrd; obtain ⟨key, rfl⟩ := str_arg hok'; exact once_walk _ rs key W hr htab
theorem once_holds : Rows.modelOnceRow.holds Tryd.pinned (OpenSpec.ofChange Rows.modelOnceSpec) :=
  OpenClaim.holds_of_wide 4 Tryd.f4 rfl rfl rfl rfl rfl rfl rfl ⟨rfl, rfl, rfl, rfl, rfl⟩ rfl rfl rfl rfl rfl (by kernel_rfl) Tryd.func4 (by kernel_rfl)
    (of_decide_eq_true (by kernel_rfl)) (by unfold Func.isWrapper; first | (rw [if_pos (by decide +kernel)]; kernel_rfl) | (rw [if_neg (by decide +kernel)]; exact ⟨rfl, rfl⟩))
    (fun os started H enc _ => once_lifted os started H enc)
theorem once_card_holds : Rows.ModelOnceCardSaid :=
  Claim7.holds_tied_plain_at .later [] [.data, .data, .data] true (true, "2cefe6d09119607abfe5cfff860bee4d30d7b53d56c22658d1f12a51c6d1870c") true once_holds (fun _ h => by cases h) (by kernel_rfl) (fun _ h => by cases h) modelOnce_row_tie rfl ⟨rfl, rfl⟩ (by kernel_rfl) rfl
    (fun f fn hf hfn => by
      obtain rfl : f = 4 := Option.some.inj ((show Tryd.prog.funcNamed "sluicegate/sluicegatelaw16.ModelOnce" = some 4 by kernel_rfl).symm.trans hf) |>.symm
      obtain rfl : fn = Tryd.f4 := (Option.some.inj (Tryd.func4.symm.trans hfn)).symm
      exact ⟨by kernel_rfl, fun j t ht => by
        have hall : (Tryd.f4.params.toList.all fun u => !Tryd.prog.wantsStandIn u) = true := by kernel_rfl
        exact (show Tryd.prog.wantsStandIn t = false by simpa using List.all_eq_true.1 hall t (by simpa using Array.mem_of_getElem? ht))⟩)
    (by kernel_rfl)
#print axioms once_card_holds
end Go.Proofs.YtlomniffpjndfaaDoor
