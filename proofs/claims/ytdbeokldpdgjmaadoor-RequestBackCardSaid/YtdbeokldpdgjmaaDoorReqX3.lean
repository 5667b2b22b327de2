/-
  RequestBack: the line of every request, of a key of at most 100 bytes and a value of at most 1000, is parsed as the request, where there is one; of every line of at most 2000 bytes the request that is parsed is printed as the line, and where there is an error the request is the empty one: the law returns true.
  Conditions: none beyond the row's own (the tables that it lists, tied to the program's text).
-/
import Derived.Test.YtdbeokldpdgjmaaDoorReqW
namespace Go.Proofs.YtdbeokldpdgjmaaDoor
open Go.ChangeShapes Go.WideShapes Go.ChangeAt Go.RowKit Go.WideElems

theorem check_size (kd : Int) (k v : ByteArray) (h : checkE kd k v = 0) : k.size < 16384 ∧ v.size < 16384 := by
  have key : ∀ {k : ByteArray}, keyOk k = true → k.size ≤ 32 := by
    intro k h
    unfold keyOk at h
    simp only [Bool.and_eq_true, decide_eq_true_eq] at h
    exact h.2.2
  rcases check_ok h with ⟨rfl, hk⟩ | ⟨-, rfl, hk⟩ | ⟨-, rfl, rfl⟩
  · refine ⟨by have := key hk; omega, ?_⟩
    unfold checkE at h
    rw [if_neg (by omega), if_neg (by omega), if_neg (by simp), if_neg (by simp)] at h
    unfold needleE at h
    rw [hk] at h
    simp only [if_true] at h
    split at h
    · cases h
    · omega
  · exact ⟨by have := key hk; omega, by decide⟩
  · exact ⟨by decide, by decide⟩
set_option maxHeartbeats 4000000 in
set_option maxRecDepth 100000 in
theorem back_walk (kd : Int) (k v s : ByteArray) (w : World) (hsh : w.ShapedOpen Tryd.prog) (htab : Lib.TabIs Tryd.prog w "internal/strconv.uint64pow10" .u64 Lib.pow10Tab) :
    Calls Tryd.prog 5 #[.agg #[.int .i64 kd, .string k, .string v], .string s] w fun e w' => e = .returned (.bool true) ∧ Kp [] w w' := by
  go_enter Tryd.func5, Tryd.ntmps5
  obtain ⟨w0, hw0⟩ : ∃ w0, w0 = (w.alloc (Obj.cells #[Value.int IntKind.i64 kd, Value.string k, Value.string v] 23)) := ⟨_, rfl⟩
  have kw0 : Kp [] w w0 := hw0 ▸ (Kp.refl _ _).alloc _
  have c1 := Kp.cellAt (X := []) (w0 := w0) (p := ⟨w.heap.size, 0, none⟩) (v := .int .i64 kd) (by rw [hw0]; exact cell_of_cells (block_new _ _) rfl) (by simp)
  have c2 := Kp.cellAt (X := []) (w0 := w0) (p := ⟨w.heap.size, 1, none⟩) (v := .string k) (by rw [hw0]; exact cell_of_cells (block_new _ _) rfl) (by simp)
  have c3 := Kp.cellAt (X := []) (w0 := w0) (p := ⟨w.heap.size, 2, none⟩) (v := .string v) (by rw [hw0]; exact cell_of_cells (block_new _ _) rfl) (by simp)
  have Hw0 := Lib.hid hw0
  clear hw0
  have hK := Kp.refl [] w0
  by_cases hs : (k.size : Int) > 100
  · go_wp2_with fail
    rw [← Hw0.out]
    go_wp2_with fail
    refine (live_true _ (shaped_keep hsh (kw0)) (htab.keep (kw0))).mono ?_
    rintro e wl ⟨rfl, kl⟩
    go_wp2_with fail
    go_ret
    exact ⟨rfl, (kw0).trans kl⟩
  by_cases hs2 : (v.size : Int) > 1000
  · go_wp2_with fail
    rw [← Hw0.out]
    go_wp2_with fail
    refine (live_true _ (shaped_keep hsh (kw0)) (htab.keep (kw0))).mono ?_
    rintro e wl ⟨rfl, kl⟩
    go_wp2_with fail
    go_ret
    exact ⟨rfl, (kw0).trans kl⟩
  by_cases hs3 : (s.size : Int) > 2000
  · go_wp2_with fail
    rw [← Hw0.out]
    go_wp2_with fail
    refine (live_true _ (shaped_keep hsh (kw0)) (htab.keep (kw0))).mono ?_
    rintro e wl ⟨rfl, kl⟩
    go_wp2_with fail
    go_ret
    exact ⟨rfl, (kw0).trans kl⟩
  have hk : k.size < 16384 := by omega
  have hv : v.size < 16384 := by omega
  have hz : s.size < 16384 := by omega
  obtain ⟨⟨S, ce⟩, hp⟩ : ∃ p, p = printR kd k v := ⟨_, rfl⟩
  have HP := Lib.hid hp
  have hbk := back_print (kind := kd) (k := k) (v := v)
  have hS := print_size kd k v
  rw [← HP.out] at hbk hS
  clear hp
  replace hS : S.size < 16384 := by simp only at hS; omega
  go_wp2_with fail
  rw [← Hw0.out]
  go_wp2_with fail
  refine (qprint kd k v hk hv _).mono ?_
  rintro e w1 ⟨rfl, k1⟩
  rw [← HP.out]
  have hK := hK.trans k1
  by_cases hce : ce = 0
  · subst hce
    have hb := hbk rfl
    have HB := Lib.hid hb
    clear hbk hb
    go_wp2_with fail
    refine (qparse S hS _ (shaped_keep hsh (kw0.trans hK))).mono ?_
    rintro e w2 ⟨rfl, k2⟩
    rw [HB.out]
    simp only [reqV]
    have hK := hK.trans k2
    have hKa := hK.alloc (.cells #[.int .i64 kd, .string k, .string v] 23)
    go_wp2_with fail
    refine (qparse s hz _ (shaped_keep hsh (kw0.trans hKa))).mono ?_
    rintro e wa ⟨rfl, ka⟩
    obtain ⟨⟨⟨rk, rs, rv⟩, re⟩, hp⟩ : ∃ p, p = parseR s := ⟨_, rfl⟩
    have hback := back_parse s
    have hperr := parse_err s
    rw [← hp] at hback hperr ⊢
    simp only [reqV]
    have hka := (kw0.trans hKa).trans ka
    clear hp
    by_cases hre : re = 0
    · subst hre
      have hb := hback rfl
      have hsz := check_size rk rs rv (by
        have h2 := congrArg Prod.snd hb
        simp only at h2
        unfold printR at h2
        split at h2
        · assumption
        · exact h2)
      have HB := Lib.hid hb
      clear hback hperr hb
      go_wp2_with fail
      obtain ⟨wb, h2⟩ : ∃ wb, wb = (wa).alloc (.cells #[.int .i64 rk, .string rs, .string rv] 23) := ⟨_, rfl⟩
      have b2 : (wb).heap[(wa).heap.size]? = some (.cells #[.int .i64 rk, .string rs, .string rv] 23 (0, 0)) := by rw [h2]; exact block_new _ _
      have kb : Kp [] wa wb := by rw [h2]; exact (Kp.refl _ _).alloc _
      obtain ⟨b1, b2, b3, -, -, -⟩ := box3At b2
      rw [← h2]
      clear h2 b2
      have kbb := Kp.refl [] wb
      go_wp2_with fail
      refine (qprint rk rs rv hsz.1 hsz.2 _).mono ?_
      rintro e wc ⟨rfl, kc⟩
      rw [HB.out]
      have hkc := (hka.trans kb).trans kc
      go_wp2_with fail
      refine (live_true _ (shaped_keep hsh (hkc)) (htab.keep (hkc))).mono ?_
      rintro e wl ⟨rfl, kl⟩
      go_wp2_with fail
      go_ret
      exact ⟨rfl, (hkc).trans kl⟩
    · obtain ⟨rfl, rfl, rfl⟩ : rk = 0 ∧ rs = ⟨#[]⟩ ∧ rv = ⟨#[]⟩ := by
        have := hperr hre
        simp only [zeroReq, Prod.mk.injEq] at this
        exact this
      have hne : (re != 0) = true := by simpa using hre
      clear hback hperr
      go_wp2_with fail
      have hkb := hka.alloc (.cells #[.int .i64 0, .string ⟨#[]⟩, .string ⟨#[]⟩] 23)
      refine (live_true _ (shaped_keep hsh (hkb)) (htab.keep (hkb))).mono ?_
      rintro e wl ⟨rfl, kl⟩
      go_wp2_with fail
      go_ret
      exact ⟨rfl, (hkb).trans kl⟩
  · have hne : (ce != 0) = true := by simpa using hce
    clear hbk
    go_wp2_with fail
    refine (qparse s hz _ (shaped_keep hsh (kw0.trans hK))).mono ?_
    rintro e wa ⟨rfl, ka⟩
    obtain ⟨⟨⟨rk, rs, rv⟩, re⟩, hp⟩ : ∃ p, p = parseR s := ⟨_, rfl⟩
    have hback := back_parse s
    have hperr := parse_err s
    rw [← hp] at hback hperr ⊢
    simp only [reqV]
    have hka := (kw0.trans hK).trans ka
    clear hp
    by_cases hre : re = 0
    · subst hre
      have hb := hback rfl
      have hsz := check_size rk rs rv (by
        have h2 := congrArg Prod.snd hb
        simp only at h2
        unfold printR at h2
        split at h2
        · assumption
        · exact h2)
      have HB := Lib.hid hb
      clear hback hperr hb
      go_wp2_with fail
      obtain ⟨wb, h2⟩ : ∃ wb, wb = (wa).alloc (.cells #[.int .i64 rk, .string rs, .string rv] 23) := ⟨_, rfl⟩
      have b2 : (wb).heap[(wa).heap.size]? = some (.cells #[.int .i64 rk, .string rs, .string rv] 23 (0, 0)) := by rw [h2]; exact block_new _ _
      have kb : Kp [] wa wb := by rw [h2]; exact (Kp.refl _ _).alloc _
      obtain ⟨b1, b2, b3, -, -, -⟩ := box3At b2
      rw [← h2]
      clear h2 b2
      have kbb := Kp.refl [] wb
      go_wp2_with fail
      refine (qprint rk rs rv hsz.1 hsz.2 _).mono ?_
      rintro e wc ⟨rfl, kc⟩
      rw [HB.out]
      have hkc := (hka.trans kb).trans kc
      go_wp2_with fail
      refine (live_true _ (shaped_keep hsh (hkc)) (htab.keep (hkc))).mono ?_
      rintro e wl ⟨rfl, kl⟩
      go_wp2_with fail
      go_ret
      exact ⟨rfl, (hkc).trans kl⟩
    · obtain ⟨rfl, rfl, rfl⟩ : rk = 0 ∧ rs = ⟨#[]⟩ ∧ rv = ⟨#[]⟩ := by
        have := hperr hre
        simp only [zeroReq, Prod.mk.injEq] at this
        exact this
      have hne : (re != 0) = true := by simpa using hre
      clear hback hperr
      go_wp2_with fail
      have hkb := hka.alloc (.cells #[.int .i64 0, .string ⟨#[]⟩, .string ⟨#[]⟩] 23)
      refine (live_true _ (shaped_keep hsh (hkb)) (htab.keep (hkb))).mono ?_
      rintro e wl ⟨rfl, kl⟩
      go_wp2_with fail
      go_ret
      exact ⟨rfl, (hkb).trans kl⟩

set_option maxRecDepth 100000 in
theorem back_lifted (os : Os) (started : os.Started) (H : Type) (enc : TypeId × Value → H) :
    ReturnsInHanded {} Tryd.checked os 5 .any (fun w args => (Rows.requestBackSpec.pre enc Tryd.prog Tryd.f5 [] false w args ∧ laidMetH Tryd.prog laidAll w) ∧ sizedMet enc Tryd.prog Tryd.f5 (OpenSpec.ofChange Rows.requestBackSpec) false w args) (Rows.requestBackSpec.post enc Tryd.prog Tryd.f5 false true false false) := by
  refine law_laid Rows.requestBackSpec laidAll Tryd.func5 (by kernel_rfl) Tryd.underlying4 rfl (by decide +kernel) rfl ?_ ?_ os started H enc
    (ChangeSpec.witness_shaped (enc := enc) (C := Tryd.checked) (os := os) (X := fun w _ => laidMetH Tryd.prog laidAll w) false (World.laidAll Tryd.prog os laidAll) #[.agg #[.int .i64 0, .string ⟨#[]⟩, .string ⟨#[]⟩], .string ⟨#[]⟩] 8 (World.laidAll_os _ _ _)
      (World.shaped_of_ZipB (by kernel_rfl) (by kernel_rfl)) (by kernel_rfl) (by kernel_rfl) (by kernel_rfl)
      (by rw [MakeChecks.laidMetH_plain _ _ _ (by kernel_rfl)]; exact laidMet_laidAll _ (by kernel_rfl) (by kernel_rfl)))
  · intro H ds hl
    match ds, hl with | [d, e], _ => exact ⟨rfl, rfl, rfl⟩
  · intro W vs hvs hsh hL
    have htab := tab_of_laid hL
    obtain ⟨a, vs', base, rfl, hok, hrd, hvs⟩ := hvs; obtain ⟨b, vs', base', rfl, hok', hrd', rfl⟩ := hvs; obtain ⟨kd, k, u, rfl⟩ := req_arg hok hrd; obtain ⟨s, rfl⟩ := str_arg hok'; exact back_walk kd k u s W hsh htab
theorem back_holds : Rows.requestBackRow.holds Tryd.pinned (OpenSpec.ofChange Rows.requestBackSpec) :=
  OpenClaim.holds_of_wide 5 Tryd.f5 rfl rfl rfl rfl rfl rfl rfl ⟨rfl, rfl, rfl, rfl, rfl⟩ rfl rfl rfl rfl rfl (by kernel_rfl) Tryd.func5 (by kernel_rfl)
    (of_decide_eq_true (by kernel_rfl)) (by unfold Func.isWrapper; first | (rw [if_pos (by decide +kernel)]; kernel_rfl) | (rw [if_neg (by decide +kernel)]; exact ⟨rfl, rfl⟩))
    (fun os started H enc _ => back_lifted os started H enc)
theorem back_card_holds : Rows.RequestBackCardSaid :=
  Claim7.holds_tied_plain_at .later [] [.data, .data, .data, .data, .pinned] true (true, "f78197b0aa6d8daaa9aca1b6d63aa349be02386f5b2a8c8cbf78d32fe0aca9a5") false back_holds (fun _ h => by cases h) (by kernel_rfl) (fun _ h => by cases h) requestBack_row_tie rfl ⟨rfl, rfl⟩ (by kernel_rfl) rfl
    (fun f fn hf hfn => by
      obtain rfl : f = 5 := Option.some.inj ((show Tryd.prog.funcNamed "sluicegate/sluicegatelaw15.RequestBack" = some 5 by kernel_rfl).symm.trans hf) |>.symm
      obtain rfl : fn = Tryd.f5 := (Option.some.inj (Tryd.func5.symm.trans hfn)).symm
      exact ⟨by kernel_rfl, fun j t ht => by
        have hall : (Tryd.f5.params.toList.all fun u => !Tryd.prog.wantsStandIn u) = true := by kernel_rfl
        exact (show Tryd.prog.wantsStandIn t = false by simpa using List.all_eq_true.1 hall t (by simpa using Array.mem_of_getElem? ht))⟩)
    (by kernel_rfl)
#print axioms back_card_holds
end Go.Proofs.YtdbeokldpdgjmaaDoor
