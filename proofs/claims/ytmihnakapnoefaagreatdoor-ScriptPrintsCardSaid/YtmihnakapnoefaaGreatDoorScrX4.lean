/-
  ScriptPrints: for every command, of a key of at most 100 bytes, a value of at most 500, a text of at most 300 and lists of at most 100, the program's line and error are the document's, and so is whether it may be: the law returns true.
  Conditions: none beyond the row's own (the variables that it lists, tied to the program's text).
-/
import Derived.Test.YtmihnakapnoefaaGreatDoorScrU
import Derived.Test.YtmihnakapnoefaaGreatDoorScrW
namespace Go.Proofs.YtmihnakapnoefaaGreatDoor
open Go.ChangeShapes Go.WideShapes Go.ChangeAt Go.RowKit Go.WideElems

set_option maxHeartbeats 4000000 in
set_option maxRecDepth 100000 in
theorem prints_walk (x : Cmd) (kx tx : Option Addr) (ckx ctx : Nat) (w : World) (hE : Env w)
    (h1 : BoolsAt w.heap.size w (.slice kx x.keep.length ckx) x.keep) (h2 : BoolsAt w.heap.size w (.slice tx x.torn.length ctx) x.torn) (z1 : x.keep.length ≤ maxLen) (z2 : x.torn.length ≤ maxLen) :
    Calls Tryz.prog 3 #[.agg (CmdV x (.slice kx x.keep.length ckx) (.slice tx x.torn.length ctx))] w fun e w' => e = .returned (.bool true) ∧ Kp [] w w' := by
  obtain ⟨w0, hw0⟩ : ∃ w0, w0 = w.alloc (.cells (CmdV x (.slice kx x.keep.length ckx) (.slice tx x.torn.length ctx)) 26) := ⟨_, rfl⟩
  have kw0 : Kp [] w w0 := hw0 ▸ (Kp.refl _ _).alloc _
  have hbx : w0.heap[w.heap.size]? = some (.cells (CmdV x (.slice kx x.keep.length ckx) (.slice tx x.torn.length ctx)) 26 (0, 0)) := by rw [hw0]; exact block_new _ _
  obtain ⟨a0, a1, a2, a3, a4, a5, a6, a7, a8, a9⟩ := cells10 hbx
  simp only [CmdV] at hw0 ⊢
  have Hw0 := Lib.hid hw0
  have hK := Kp.refl [] w0
  replace h1 := h1.keep0 kw0
  replace h2 := h2.keep0 kw0
  have hk0 := kw0
  clear hw0 hbx
  obtain ⟨sx, hsx⟩ : ∃ sx, sx = smallC x := ⟨_, rfl⟩
  have HSX := Lib.hid hsx
  clear hsx
  go_enter Tryz.func3, Tryz.ntmps3
  go_wp2_with fail
  rw [← Hw0.out]
  go_wp2_with fail
  refine (small_any x _ _ _ _ _ z1 z2).mono ?_
  rintro e w1 ⟨rfl, kk⟩
  rw [← HSX.out]
  replace hK := hK.trans kk
  clear kk
  cases sx with
  | false =>
    go_wp2_with fail
    refine (live_true _ (hE.keep (hk0.trans hK))).mono ?_
    rintro e wl ⟨rfl, kl⟩
    go_wp2_with fail
    go_ret
    exact ⟨rfl, (hk0.trans hK).trans kl⟩
  | true =>
  obtain ⟨s1, s2, s3, s4, s5⟩ := (smallC_iff x).1 HSX.out.symm
  clear z1 z2
  have p1 : x.rs.size < 16384 := by omega
  have p2 : x.rv.size < 16384 := by omega
  obtain ⟨⟨S, r⟩, hp⟩ : ∃ p, p = printC x := ⟨_, rfl⟩
  obtain ⟨ce, hce⟩ : ∃ ce, ce = checkC x := ⟨_, rfl⟩
  have HP := Lib.hid hp
  have HCE := Lib.hid hce
  clear hp hce
  go_wp2_with fail
  refine (own_any x _ _ _ _ _ _ _).mono ?_
  rintro e w4 ⟨rfl, kk⟩
  replace hK := hK.trans kk
  clear kk
  go_wp2_with fail
  refine (sprint x _ _ _ _ (h1.keep0 hK) (h2.keep0 hK) (by omega) (by omega) p1 p2 (by omega) (hE.keep (hk0.trans hK)).tab).mono ?_
  rintro e w5 ⟨rfl, kk⟩
  rw [← HP.out]
  replace hK := hK.trans kk
  clear kk
  go_wp2_with fail
  refine (r23print x _ _ _ _ (h1.keep0 hK) (h2.keep0 hK) (by omega) (by omega) p1 p2 (by omega)).mono ?_
  rintro e w6 ⟨rfl, kk⟩
  rw [← HP.out]
  replace hK := hK.trans kk
  clear kk
  go_wp2_with fail
  refine wpB_begin 999 (Kp [] w0) (by kernel_rfl) (by exact hK.drew) (fun hHeld => ?_)
  refine wpB_take 0 _ ?_ rfl (by kernel_rfl) (fun _ _ _ h => h) rfl hHeld ?_ ?_
  rotate_left
  · (intro W hW; go_simp; try with_reducible rfl)
  try simp only [Act.put, List.setIfInBounds_toArray, List.set_cons_zero, List.set_cons_succ]
  refine wpB_take 1 _ ?_ rfl (by kernel_rfl) (fun _ _ _ h => h) rfl hHeld ?_ ?_
  rotate_left
  · (intro W hW; go_simp; try with_reducible rfl)
  try simp only [Act.put, List.setIfInBounds_toArray, List.set_cons_zero, List.set_cons_succ]
  refine wpB_take 2 _ ?_ rfl (by kernel_rfl) (fun _ _ _ h => h) rfl hHeld ?_ ?_
  rotate_left
  · (intro W hW; go_simp; try with_reducible rfl)
  try simp only [Act.put, List.setIfInBounds_toArray, List.set_cons_zero, List.set_cons_succ]
  refine wpB_take 3 _ ?_ rfl (by kernel_rfl) (fun _ _ _ h => h) rfl hHeld ?_ ?_
  rotate_left
  · (intro W hW; go_simp; try with_reducible rfl)
  try simp only [Act.put, List.setIfInBounds_toArray, List.set_cons_zero, List.set_cons_succ]
  refine wpB_take 4 _ ?_ rfl (by kernel_rfl) (fun _ _ _ h => h) rfl hHeld ?_ ?_
  rotate_left
  · (intro W hW; go_simp; try with_reducible rfl)
  try simp only [Act.put, List.setIfInBounds_toArray, List.set_cons_zero, List.set_cons_succ]
  refine wpB_take 5 _ ?_ rfl (by kernel_rfl) (fun _ _ _ h => h) rfl hHeld ?_ ?_
  rotate_left
  · (intro W hW; go_simp; try with_reducible rfl)
  try simp only [Act.put, List.setIfInBounds_toArray, List.set_cons_zero, List.set_cons_succ]
  refine wpB_take 6 _ ?_ rfl (by kernel_rfl) (fun _ _ _ h => h) rfl hHeld ?_ ?_
  rotate_left
  · (intro W hW; go_simp; try with_reducible rfl)
  try simp only [Act.put, List.setIfInBounds_toArray, List.set_cons_zero, List.set_cons_succ]
  refine wpB_take 7 _ ?_ rfl (by kernel_rfl) (fun _ _ _ h => h) rfl hHeld ?_ ?_
  rotate_left
  · (intro W hW; go_simp; try with_reducible rfl)
  try simp only [Act.put, List.setIfInBounds_toArray, List.set_cons_zero, List.set_cons_succ]
  refine wpB_take 8 _ ?_ rfl (by kernel_rfl) (fun _ _ _ h => h) rfl hHeld ?_ ?_
  rotate_left
  · (intro W hW; go_simp; try with_reducible rfl)
  try simp only [Act.put, List.setIfInBounds_toArray, List.set_cons_zero, List.set_cons_succ]
  refine wpB_take 9 _ ?_ rfl (by kernel_rfl) (fun _ _ _ h => h) rfl hHeld ?_ ?_
  rotate_left
  · (intro W hW; go_simp; try with_reducible rfl)
  try simp only [Act.put, List.setIfInBounds_toArray, List.set_cons_zero, List.set_cons_succ]
  refine wpB_take 12 _ ?_ rfl (by kernel_rfl) (fun _ _ _ h => h) rfl hHeld ?_ ?_
  rotate_left
  · (intro W hW; go_simp; try with_reducible rfl)
  try simp only [Act.put, List.setIfInBounds_toArray, List.set_cons_zero, List.set_cons_succ]
  refine wpB_step 10 _ rfl (by kernel_rfl) rfl rfl (fun K hK_ => ?_)
  go_simp
  refine (own_any x _ _ _ _ _ _ _).mono ?_
  rintro e w7 ⟨rfl, kk⟩
  refine hK_.out _ _ (by exact hHeld.trans kk) (fun hHeld => ?_)
  clear hK_ K
  try simp only [Act.put, List.setIfInBounds_toArray, List.set_cons_zero, List.set_cons_succ]
  refine wpB_step 11 _ rfl (by kernel_rfl) rfl rfl (fun K hK_ => ?_)
  go_simp
  refine (scheck x _ _ _ _ (h1.keep0 hHeld) (h2.keep0 hHeld) (by omega) (by omega) p1 p2).mono ?_
  rintro e w8 ⟨rfl, kk⟩
  rw [← HCE.out]
  refine hK_.out _ _ (by exact hHeld.trans kk) (fun hHeld => ?_)
  clear hK_ K
  try simp only [Act.put, List.setIfInBounds_toArray, List.set_cons_zero, List.set_cons_succ]
  refine wpB_step 13 _ rfl (by kernel_rfl) rfl rfl (fun K hK_ => ?_)
  go_simp
  refine (r23check x _ _ _ _ (h1.keep0 hHeld) (h2.keep0 hHeld) (by omega) (by omega) p1 p2).mono ?_
  rintro e w9 ⟨rfl, kk⟩
  rw [← HCE.out]
  refine hK_.out _ _ (by exact hHeld.trans kk) (fun hHeld => ?_)
  clear hK_ K
  try simp only [Act.put, List.setIfInBounds_toArray, List.set_cons_zero, List.set_cons_succ]
  refine wpB_take 14 _ ?_ rfl (by kernel_rfl) (fun _ _ _ h => h) rfl hHeld ?_ ?_
  rotate_left
  · (intro W hW; go_simp; try with_reducible rfl)
  try simp only [Act.put, List.setIfInBounds_toArray, List.set_cons_zero, List.set_cons_succ]
  refine wpB_take 15 _ ?_ rfl (by kernel_rfl) (fun _ _ _ h => h) rfl hHeld ?_ ?_
  rotate_left
  · (intro W hW; go_simp; try with_reducible rfl)
  try simp only [Act.put, List.setIfInBounds_toArray, List.set_cons_zero, List.set_cons_succ]
  refine wpB_take 16 _ ?_ rfl (by kernel_rfl) (fun _ _ _ h => h) rfl hHeld ?_ ?_
  rotate_left
  · (intro W hW; go_simp; try with_reducible rfl)
  try simp only [Act.put, List.setIfInBounds_toArray, List.set_cons_zero, List.set_cons_succ]
  refine wpB_step 17 _ rfl (by kernel_rfl) rfl rfl (fun K hK_ => ?_)
  go_simp
  refine (live_true _ (hE.keep (hk0.trans hHeld))).mono ?_
  rintro e wl ⟨rfl, kl⟩
  refine hK_.out _ _ (by exact hHeld.trans kl) (fun hHeld => ?_)
  clear hK_ K
  try simp only [Act.put, List.setIfInBounds_toArray, List.set_cons_zero, List.set_cons_succ]
  refine wpB_take 18 _ ?_ rfl (by kernel_rfl) (fun _ _ _ h => h) rfl hHeld ?_ ?_
  rotate_left
  · (intro W hW; go_simp; try with_reducible rfl)
  try simp only [Act.put, List.setIfInBounds_toArray, List.set_cons_zero, List.set_cons_succ]
  refine wpB_take 19 _ ?_ rfl (by kernel_rfl) (fun _ _ _ h => h) rfl hHeld ?_ ?_
  rotate_left
  · (intro W hW; go_simp; try with_reducible rfl)
  try simp only [Act.put, List.setIfInBounds_toArray, List.set_cons_zero, List.set_cons_succ]
  refine wpB_done (by kernel_rfl) ?_ _
  go_wp2_with fail
  go_ret
  exact ⟨rfl, hk0.trans hHeld⟩

set_option maxRecDepth 100000 in
theorem prints_lifted (os : Os) (started : os.Started) (H : Type) (enc : TypeId × Value → H) :
    ReturnsInHanded {} Tryz.checked os 3 .any (fun w args => (Rows.scriptPrintsSpec.pre enc Tryz.prog Tryz.f3 [] false w args ∧ laidMetH Tryz.prog laidAll w) ∧ sizedMet enc Tryz.prog Tryz.f3 (OpenSpec.ofChange Rows.scriptPrintsSpec) false w args) (Rows.scriptPrintsSpec.post enc Tryz.prog Tryz.f3 false true false false) := by
  refine law_laid Rows.scriptPrintsSpec laidAll Tryz.func3 (by kernel_rfl) Tryz.underlying4 rfl (by decide +kernel) rfl ?_ ?_ os started H enc
    (ChangeSpec.witness_shaped (enc := enc) (C := Tryz.checked) (os := os) (X := fun w _ => laidMetH Tryz.prog laidAll w) false (World.laidAll Tryz.prog os laidAll) #[.agg #[.int .i64 0, .int .i64 0, .string ⟨#[]⟩, .string ⟨#[]⟩, .int .i64 0, .int .i64 0, .int .i64 0, .string ⟨#[]⟩, .slice none 0 0, .slice none 0 0]] 8 (World.laidAll_os _ _ _)
      (World.shaped_of_ZipB (by kernel_rfl) (by kernel_rfl)) (by kernel_rfl) (by kernel_rfl) (by kernel_rfl)
      (by rw [MakeChecks.laidMetH_plain _ _ _ (by kernel_rfl)]; exact laidMet_laidAll _ (by kernel_rfl) (by kernel_rfl)))
  · intro H ds hl
    match ds, hl with | [d], _ => exact ⟨rfl, rfl, rfl⟩
  · intro W vs hvs hsh hL
    have hE := env_of_laid hsh hL
    obtain ⟨a, vs', base, rfl, hok, hrd, rfl⟩ := hvs; obtain ⟨x, kx, tx, ckx, ctx, rfl, h1, h2, z1, z2⟩ := cmd_arg hok hrd; exact prints_walk x kx tx ckx ctx W hE h1 h2 z1 z2
theorem prints_holds : Rows.scriptPrintsRow.holds Tryz.pinned (OpenSpec.ofChange Rows.scriptPrintsSpec) :=
  OpenClaim.holds_of_wide 3 Tryz.f3 rfl rfl rfl rfl rfl rfl rfl ⟨rfl, rfl, rfl, rfl, rfl⟩ rfl rfl rfl rfl rfl (by kernel_rfl) Tryz.func3 (by kernel_rfl)
    (of_decide_eq_true (by kernel_rfl)) (by unfold Func.isWrapper; first | (rw [if_pos (by decide +kernel)]; kernel_rfl) | (rw [if_neg (by decide +kernel)]; exact ⟨rfl, rfl⟩))
    (fun os started H enc _ => prints_lifted os started H enc)
theorem prints_card_holds : Rows.ScriptPrintsCardSaid :=
  Claim7.holds_tied_plain_at .later [] [.data, .data, .data, .data, .sentinel, .sentinel, .pinned] true (true, "a069603eca0a6c12d2dc75e0b02b05c1afded32aef5650405fb204b1b5205fba") true prints_holds (fun _ h => by cases h) (by kernel_rfl) (fun _ h => by cases h) scriptPrints_row_tie rfl ⟨rfl, rfl⟩ (by kernel_rfl) rfl
    (fun f fn hf hfn => by
      obtain rfl : f = 3 := Option.some.inj ((show Tryz.prog.funcNamed "sluicegate/sluicegatelaw23.ScriptPrints" = some 3 by kernel_rfl).symm.trans hf) |>.symm
      obtain rfl : fn = Tryz.f3 := (Option.some.inj (Tryz.func3.symm.trans hfn)).symm
      exact ⟨by kernel_rfl, fun j t ht => by
        have hall : (Tryz.f3.params.toList.all fun u => !Tryz.prog.wantsStandIn u) = true := by kernel_rfl
        exact (show Tryz.prog.wantsStandIn t = false by simpa using List.all_eq_true.1 hall t (by simpa using Array.mem_of_getElem? ht))⟩)
    (by kernel_rfl)
#print axioms prints_card_holds
end Go.Proofs.YtmihnakapnoefaaGreatDoor
