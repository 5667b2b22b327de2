/-
  ScriptSame: for every two commands, of keys of at most 100 bytes, values of at most 500, texts of at most 300 and lists of at most 100, the program's Same is the document's; and of two that may be, the lines are the same just if they are: the law returns true.
  Conditions: none beyond the row's own (the variables that it lists, tied to the program's text).
-/
import Derived.Test.YtmihnakapnoefaaDoorScrU
namespace Go.Proofs.YtmihnakapnoefaaDoor
open Go.ChangeShapes Go.WideShapes Go.ChangeAt Go.RowKit Go.WideElems

set_option maxHeartbeats 4000000 in
set_option maxRecDepth 100000 in
theorem same_walk (x y : Cmd) (kx tx ky ty : Option Addr) (ckx ctx cky cty : Nat) (w : World) (hE : Env w)
    (h1 : BoolsAt w.heap.size w (.slice kx x.keep.length ckx) x.keep) (h2 : BoolsAt w.heap.size w (.slice tx x.torn.length ctx) x.torn) (h3 : BoolsAt w.heap.size w (.slice ky y.keep.length cky) y.keep) (h4 : BoolsAt w.heap.size w (.slice ty y.torn.length cty) y.torn)
    (z1 : x.keep.length ≤ maxLen) (z2 : x.torn.length ≤ maxLen) (z3 : y.keep.length ≤ maxLen) (z4 : y.torn.length ≤ maxLen) :
    Calls Tryd.prog 4 #[.agg (CmdV x (.slice kx x.keep.length ckx) (.slice tx x.torn.length ctx)), .agg (CmdV y (.slice ky y.keep.length cky) (.slice ty y.torn.length cty))] w fun e w' => e = .returned (.bool true) ∧ Kp [] w w' := by
  obtain ⟨w0, hw0⟩ : ∃ w0, w0 = (w.alloc (.cells (CmdV x (.slice kx x.keep.length ckx) (.slice tx x.torn.length ctx)) 26)).alloc (.cells (CmdV y (.slice ky y.keep.length cky) (.slice ty y.torn.length cty)) 26) := ⟨_, rfl⟩
  have kw0 : Kp [] w w0 := hw0 ▸ ((Kp.refl _ _).alloc _).alloc _
  have hbx : w0.heap[w.heap.size]? = some (.cells (CmdV x (.slice kx x.keep.length ckx) (.slice tx x.torn.length ctx)) 26 (0, 0)) := by rw [hw0]; exact block_alloc (block_new _ _) _
  have hby : w0.heap[w.heap.size + 1]? = some (.cells (CmdV y (.slice ky y.keep.length cky) (.slice ty y.torn.length cty)) 26 (0, 0)) := by rw [hw0]; exact two_new _ _ _
  obtain ⟨a0, a1, a2, a3, a4, a5, a6, a7, a8, a9⟩ := cells10 hbx
  obtain ⟨b0, b1, b2, b3, b4, b5, b6, b7, b8, b9⟩ := cells10 hby
  simp only [CmdV] at hw0 ⊢
  have Hw0 := Lib.hid hw0
  have hK := Kp.refl [] w0
  replace h1 := h1.keep0 kw0
  replace h2 := h2.keep0 kw0
  replace h3 := h3.keep0 kw0
  replace h4 := h4.keep0 kw0
  have hk0 := kw0
  clear hw0 hbx hby
  obtain ⟨sx, hsx⟩ : ∃ sx, sx = smallC x := ⟨_, rfl⟩
  obtain ⟨sy, hsy⟩ : ∃ sy, sy = smallC y := ⟨_, rfl⟩
  have HSX := Lib.hid hsx
  have HSY := Lib.hid hsy
  clear hsx hsy
  go_enter Tryd.func4, Tryd.ntmps4
  go_wp2_with fail
  rw [← Hw0.out]
  go_wp2_with fail
  refine (small_any x _ _ _ _ _ z1 z2).mono ?_
  rintro e w1 ⟨rfl, kk⟩
  rw [← HSX.out]
  replace hK := hK.trans kk
  clear kk
  cases sx with
  | false =>
    go_wp2_with fail
    refine (live_true _ (hE.keep (hk0.trans hK))).mono ?_
    rintro e wl ⟨rfl, kl⟩
    go_wp2_with fail
    go_ret
    exact ⟨rfl, (hk0.trans hK).trans kl⟩
  | true =>
  go_wp2_with fail
  refine (small_any y _ _ _ _ _ z3 z4).mono ?_
  rintro e w2 ⟨rfl, kk⟩
  rw [← HSY.out]
  replace hK := hK.trans kk
  clear kk
  cases sy with
  | false =>
    go_wp2_with fail
    refine (live_true _ (hE.keep (hk0.trans hK))).mono ?_
    rintro e wl ⟨rfl, kl⟩
    go_wp2_with fail
    go_ret
    exact ⟨rfl, (hk0.trans hK).trans kl⟩
  | true =>
  obtain ⟨s1, s2, s3, s4, s5⟩ := (smallC_iff x).1 HSX.out.symm
  obtain ⟨t1, t2, t3, t4, t5⟩ := (smallC_iff y).1 HSY.out.symm
  clear z1 z2 z3 z4
  have p1 : x.rs.size < 16384 := by omega
  have p2 : x.rv.size < 16384 := by omega
  have p3 : y.rs.size < 16384 := by omega
  have p4 : y.rv.size < 16384 := by omega
  obtain ⟨⟨S1, r1⟩, hp1⟩ : ∃ p, p = printC x := ⟨_, rfl⟩
  obtain ⟨⟨S2, r2⟩, hp2⟩ : ∃ p, p = printC y := ⟨_, rfl⟩
  obtain ⟨sm, hsm⟩ : ∃ sm, sm = sameC x y := ⟨_, rfl⟩
  have HP1 := Lib.hid hp1
  have HP2 := Lib.hid hp2
  have HSM := Lib.hid hsm
  clear hp1 hp2 hsm
  go_wp2_with fail
  refine wpB_begin 999 (Kp [] w0) (by kernel_rfl) (by exact hK.drew) (fun hHeld => ?_)
  refine wpB_take 0 _ ?_ rfl (by kernel_rfl) (fun _ _ _ h => h) rfl hHeld ?_ ?_
  rotate_left
  · (intro W hW; go_simp; try with_reducible rfl)
  try simp only [Act.put, List.setIfInBounds_toArray, List.set_cons_zero, List.set_cons_succ]
  refine wpB_take 2 _ ?_ rfl (by kernel_rfl) (fun _ _ _ h => h) rfl hHeld ?_ ?_
  rotate_left
  · (intro W hW; go_simp; try with_reducible rfl)
  try simp only [Act.put, List.setIfInBounds_toArray, List.set_cons_zero, List.set_cons_succ]
  refine wpB_step 1 _ rfl (by kernel_rfl) rfl rfl (fun K hK_ => ?_)
  go_simp
  refine (own_any x _ _ _ _ _ _ _).mono ?_
  rintro e w3 ⟨rfl, kk⟩
  refine hK_.out _ _ (by exact hHeld.trans kk) (fun hHeld => ?_)
  clear hK_ K
  try simp only [Act.put, List.setIfInBounds_toArray, List.set_cons_zero, List.set_cons_succ]
  refine wpB_step 3 _ rfl (by kernel_rfl) rfl rfl (fun K hK_ => ?_)
  go_simp
  refine (own_any y _ _ _ _ _ _ _).mono ?_
  rintro e w3 ⟨rfl, kk⟩
  refine hK_.out _ _ (by exact hHeld.trans kk) (fun hHeld => ?_)
  clear hK_ K
  try simp only [Act.put, List.setIfInBounds_toArray, List.set_cons_zero, List.set_cons_succ]
  refine wpB_step 4 _ rfl (by kernel_rfl) rfl rfl (fun K hK_ => ?_)
  go_simp
  refine (ssame x y _ _ _ _ _ _ (h1.keep0 hHeld) (h2.keep0 hHeld) (h3.keep0 hHeld) (h4.keep0 hHeld) (by omega) (by omega)).mono ?_
  rintro e w3 ⟨rfl, kk⟩
  rw [← HSM.out]
  refine hK_.out _ _ (by exact hHeld.trans kk) (fun hHeld => ?_)
  clear hK_ K
  try simp only [Act.put, List.setIfInBounds_toArray, List.set_cons_zero, List.set_cons_succ]
  refine wpB_take 5 _ ?_ rfl (by kernel_rfl) (fun _ _ _ h => h) rfl hHeld ?_ ?_
  rotate_left
  · (intro W hW; go_simp; try with_reducible rfl)
  try simp only [Act.put, List.setIfInBounds_toArray, List.set_cons_zero, List.set_cons_succ]
  refine wpB_done (by kernel_rfl) ?_ _
  replace hK := hHeld
  clear hHeld
  go_wp2_with fail
  refine (own_any x _ _ _ _ _ _ _).mono ?_
  rintro e w4 ⟨rfl, kk⟩
  replace hK := hK.trans kk
  clear kk
  go_wp2_with fail
  refine (sprint x _ _ _ _ (h1.keep0 hK) (h2.keep0 hK) (by omega) (by omega) p1 p2 (by omega) (hE.keep (hk0.trans hK)).tab).mono ?_
  rintro e w5 ⟨rfl, kk⟩
  rw [← HP1.out]
  replace hK := hK.trans kk
  clear kk
  go_wp2_with fail
  refine (own_any y _ _ _ _ _ _ _).mono ?_
  rintro e w6 ⟨rfl, kk⟩
  replace hK := hK.trans kk
  clear kk
  go_wp2_with fail
  refine (sprint y _ _ _ _ (h3.keep0 hK) (h4.keep0 hK) (by omega) (by omega) p3 p4 (by omega) (hE.keep (hk0.trans hK)).tab).mono ?_
  rintro e w7 ⟨rfl, kk⟩
  rw [← HP2.out]
  replace hK := hK.trans kk
  clear kk
  go_wp2_with fail
  refine (r23same x y _ _ _ _ _ _ (h1.keep0 hK) (h2.keep0 hK) (h3.keep0 hK) (h4.keep0 hK) (by omega) (by omega)).mono ?_
  rintro e w8 ⟨rfl, kk⟩
  rw [← HSM.out]
  replace hK := hK.trans kk
  have hk8 := hk0.trans hK
  clear kk hK h1 h2 h3 h4 a0 a1 a2 a3 a4 a5 a6 a7 a8 a9 b0 b1 b2 b3 b4 b5 b6 b7 b8 b9 p1 p2 p3 p4 s1 s2 s3 s4 s5 t1 t2 t3 t4 t5
  by_cases he1 : r1 = 0
  · subst he1
    by_cases he2 : r2 = 0
    · subst he2
      obtain ⟨c1, q1⟩ := printC_ok (c := x) (by rw [← HP1.out])
      obtain ⟨c2, q2⟩ := printC_ok (c := y) (by rw [← HP2.out])
      have hST : S1 = S2 ↔ x = y := by
        have l := line_inj c1 c2
        have e1 : S1 = SB (lineC x) := by have := HP1.out; rw [q1] at this; exact congrArg Prod.fst this
        have e2 : S2 = SB (lineC y) := by have := HP2.out; rw [q2] at this; exact congrArg Prod.fst this
        rw [e1, e2]; exact l
      cases sm with
      | true =>
        obtain rfl := hST.2 ((sameC_iff x y).1 HSM.out.symm)
        clear hST c1 q1 c2 q2
        go_wp2_with fail
        refine (live_true _ (hE.keep (hk8))).mono ?_
        rintro e wl ⟨rfl, kl⟩
        go_wp2_with fail
        go_ret
        exact ⟨rfl, (hk8).trans kl⟩
      | false =>
        have hne : ¬ S1 = S2 := fun e => by
          have := (sameC_iff x y).2 (hST.1 e)
          rw [← HSM.out] at this
          cases this
        clear hST c1 q1 c2 q2
        have := str_ne hne
        clear hne
        go_wp2_with fail
        refine (live_true _ (hE.keep (hk8))).mono ?_
        rintro e wl ⟨rfl, kl⟩
        go_wp2_with fail
        go_ret
        exact ⟨rfl, (hk8).trans kl⟩
    · have hne : (r2 != 0) = true := by simpa using he2
      cases sm with
      | true =>
        go_wp2_with fail
        refine (live_true _ (hE.keep (hk8))).mono ?_
        rintro e wl ⟨rfl, kl⟩
        go_wp2_with fail
        go_ret
        exact ⟨rfl, (hk8).trans kl⟩
      | false =>
        go_wp2_with fail
        refine (live_true _ (hE.keep (hk8))).mono ?_
        rintro e wl ⟨rfl, kl⟩
        go_wp2_with fail
        go_ret
        exact ⟨rfl, (hk8).trans kl⟩
  · have hne : (r1 != 0) = true := by simpa using he1
    cases sm with
    | true =>
      go_wp2_with fail
      refine (live_true _ (hE.keep (hk8))).mono ?_
      rintro e wl ⟨rfl, kl⟩
      go_wp2_with fail
      go_ret
      exact ⟨rfl, (hk8).trans kl⟩
    | false =>
      go_wp2_with fail
      refine (live_true _ (hE.keep (hk8))).mono ?_
      rintro e wl ⟨rfl, kl⟩
      go_wp2_with fail
      go_ret
      exact ⟨rfl, (hk8).trans kl⟩

set_option maxRecDepth 100000 in
theorem same_lifted (os : Os) (started : os.Started) (H : Type) (enc : TypeId × Value → H) :
    ReturnsInHanded {} Tryd.checked os 4 .any (fun w args => (Rows.scriptSameSpec.pre enc Tryd.prog Tryd.f4 [] false w args ∧ laidMetH Tryd.prog laidAll w) ∧ sizedMet enc Tryd.prog Tryd.f4 (OpenSpec.ofChange Rows.scriptSameSpec) false w args) (Rows.scriptSameSpec.post enc Tryd.prog Tryd.f4 false true false false) := by
  refine law_laid Rows.scriptSameSpec laidAll Tryd.func4 (by kernel_rfl) Tryd.underlying4 rfl (by decide +kernel) rfl ?_ ?_ os started H enc
    (ChangeSpec.witness_shaped (enc := enc) (C := Tryd.checked) (os := os) (X := fun w _ => laidMetH Tryd.prog laidAll w) false (World.laidAll Tryd.prog os laidAll) #[.agg #[.int .i64 0, .int .i64 0, .string ⟨#[]⟩, .string ⟨#[]⟩, .int .i64 0, .int .i64 0, .int .i64 0, .string ⟨#[]⟩, .slice none 0 0, .slice none 0 0], .agg #[.int .i64 0, .int .i64 0, .string ⟨#[]⟩, .string ⟨#[]⟩, .int .i64 0, .int .i64 0, .int .i64 0, .string ⟨#[]⟩, .slice none 0 0, .slice none 0 0]] 8 (World.laidAll_os _ _ _)
      (World.shaped_of_ZipB (by kernel_rfl) (by kernel_rfl)) (by kernel_rfl) (by kernel_rfl) (by kernel_rfl)
      (by rw [MakeChecks.laidMetH_plain _ _ _ (by kernel_rfl)]; exact laidMet_laidAll _ (by kernel_rfl) (by kernel_rfl)))
  · intro H ds hl
    match ds, hl with | [d, e], _ => exact ⟨rfl, rfl, rfl⟩
  · intro W vs hvs hsh hL
    have hE := env_of_laid hsh hL
    obtain ⟨a, vs', base, rfl, hok, hrd, hvs⟩ := hvs; obtain ⟨b, vs', base', rfl, hok', hrd', rfl⟩ := hvs; obtain ⟨x, kx, tx, ckx, ctx, rfl, h1, h2, z1, z2⟩ := cmd_arg hok hrd; obtain ⟨y, ky, ty, cky, cty, rfl, h3, h4, z3, z4⟩ := cmd_arg hok' hrd'; exact same_walk x y kx tx ky ty ckx ctx cky cty W hE h1 h2 h3 h4 z1 z2 z3 z4
theorem same_holds : Rows.scriptSameRow.holds Tryd.pinned (OpenSpec.ofChange Rows.scriptSameSpec) :=
  OpenClaim.holds_of_wide 4 Tryd.f4 rfl rfl rfl rfl rfl rfl rfl ⟨rfl, rfl, rfl, rfl, rfl⟩ rfl rfl rfl rfl rfl (by kernel_rfl) Tryd.func4 (by kernel_rfl)
    (of_decide_eq_true (by kernel_rfl)) (by unfold Func.isWrapper; first | (rw [if_pos (by decide +kernel)]; kernel_rfl) | (rw [if_neg (by decide +kernel)]; exact ⟨rfl, rfl⟩))
    (fun os started H enc _ => same_lifted os started H enc)
theorem same_card_holds : Rows.ScriptSameCardSaid :=
  Claim7.holds_tied_plain_at .later [] [.data, .data, .data, .data, .sentinel, .sentinel, .pinned] true (true, "f66421a4cfb09f22677f3f0b17d87e72b5d10309439aab92887cdb9551ff632a") true same_holds (fun _ h => by cases h) (by kernel_rfl) (fun _ h => by cases h) scriptSame_row_tie rfl ⟨rfl, rfl⟩ (by kernel_rfl) rfl
    (fun f fn hf hfn => by
      obtain rfl : f = 4 := Option.some.inj ((show Tryd.prog.funcNamed "sluicegate/sluicegatelaw23.ScriptSame" = some 4 by kernel_rfl).symm.trans hf) |>.symm
      obtain rfl : fn = Tryd.f4 := (Option.some.inj (Tryd.func4.symm.trans hfn)).symm
      exact ⟨by kernel_rfl, fun j t ht => by
        have hall : (Tryd.f4.params.toList.all fun u => !Tryd.prog.wantsStandIn u) = true := by kernel_rfl
        exact (show Tryd.prog.wantsStandIn t = false by simpa using List.all_eq_true.1 hall t (by simpa using Array.mem_of_getElem? ht))⟩)
    (by kernel_rfl)
#print axioms same_card_holds
end Go.Proofs.YtmihnakapnoefaaDoor
