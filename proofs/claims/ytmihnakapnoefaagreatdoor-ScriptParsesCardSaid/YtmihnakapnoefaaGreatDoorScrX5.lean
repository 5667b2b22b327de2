/-
  ScriptParses: of every line of at most 2000 bytes, the program's command and error are the document's: the law returns true.
  Conditions: none beyond the row's own (the variables that it lists, tied to the program's text).
-/
import Derived.Test.YtmihnakapnoefaaGreatDoorScrU
import Derived.Test.YtmihnakapnoefaaGreatDoorScrZc
namespace Go.Proofs.YtmihnakapnoefaaGreatDoor
open Go.ChangeShapes Go.WideShapes Go.ChangeAt Go.RowKit Go.WideElems

theorem marks_lo (l : List Bool) : l.length ≤ (marksW l).length := by
  rw [marks_mark]; split
  · rename_i e; rw [e]; simp
  · rw [List.length_map]; exact Nat.le_refl _
theorem lists_line {c : Cmd} (h : checkC c = 0) : c.keep.length ≤ (lineC c).length ∧ c.torn.length ≤ (lineC c).length := by
  rcases checkC_ok h with ⟨-, -, hc⟩ | ⟨hc, -⟩ | ⟨hc, -⟩ | ⟨hc, -⟩ | ⟨hc, -⟩ | ⟨hc, -⟩ | ⟨hc, -⟩ | hc
  · rw [hc]; exact ⟨Nat.zero_le _, Nat.zero_le _⟩
  · rw [hc]; exact ⟨Nat.zero_le _, Nat.zero_le _⟩
  · rw [hc]; exact ⟨Nat.zero_le _, Nat.zero_le _⟩
  · rw [hc]; exact ⟨Nat.zero_le _, Nat.zero_le _⟩
  · rw [hc]; exact ⟨Nat.zero_le _, Nat.zero_le _⟩
  · rw [hc]; exact ⟨Nat.zero_le _, Nat.zero_le _⟩
  · rw [hc]; exact ⟨Nat.zero_le _, Nat.zero_le _⟩
  · have hk := marks_lo c.keep
    have ht := marks_lo c.torn
    have e : lineC c = Lib.join [wordA 7, marksW c.keep, marksW c.torn] [32] := by rw [hc]; rfl
    have hl : (marksW c.keep).length + (marksW c.torn).length ≤ (lineC c).length := by
      rw [e, Lib.join_length]
      simp only [Lib.lens, List.map_cons, List.map_nil, List.sum_cons, List.sum_nil]
      omega
    omega
theorem parseC_len (s : ByteArray) : (parseC s).1.keep.length ≤ s.size ∧ (parseC s).1.torn.length ≤ s.size := by
  by_cases h : (parseC s).2 = 0
  · obtain ⟨hc, hl⟩ := back_parseC s h
    have hs : (lineC (parseC s).1).length = s.size := by
      have := congrArg ByteArray.size hl
      rw [← this]; exact (SB_size _).symm
    have := lists_line hc
    omega
  · rw [parseC_err s h]; exact ⟨Nat.zero_le _, Nat.zero_le _⟩
set_option maxHeartbeats 4000000 in
set_option maxRecDepth 100000 in
theorem parses_walk (s : ByteArray) (w : World) (hE : Env w) :
    Calls Tryz.prog 4 #[.string s] w fun e w' => e = .returned (.bool true) ∧ Kp [] w w' := by
  by_cases hs : (s.size : Int) > 2000
  · go_enter Tryz.func4, Tryz.ntmps4
    go_wp2_with fail
    refine (live_true _ (hE.keep (Kp.refl [] w))).mono ?_
    rintro e wl ⟨rfl, kl⟩
    go_wp2_with fail
    go_ret
    exact ⟨rfl, (Kp.refl [] w).trans kl⟩
  have hz : s.size < 16384 := by omega
  obtain ⟨⟨pc, pe⟩, hp⟩ : ∃ p, p = parseC s := ⟨_, rfl⟩
  have hpl := parseC_len s
  rw [← hp] at hpl
  have hkl : pc.keep.length ≤ 9223372036854775807 := by have := hpl.1; simp only at this; omega
  have htl : pc.torn.length ≤ 9223372036854775807 := by have := hpl.2; simp only at this; omega
  clear hpl
  have HP := Lib.hid hp
  clear hp
  go_enter Tryz.func4, Tryz.ntmps4
  go_wp2_with fail
  refine (sparse s hz _ hE).mono ?_
  rintro e w1 ⟨kv, tv, rfl, q1, q2, k1⟩
  rw [← HP.out] at q1 q2 ⊢
  simp only at q1 q2
  obtain ⟨ka, kc, rfl⟩ := slice_ex q1
  obtain ⟨ta, tc, rfl⟩ := slice_ex q2
  simp only [CmdV]
  go_wp2_with fail
  obtain ⟨u1, hu1⟩ : ∃ u1, u1 = w1.alloc (.cells (CmdV pc (.slice ka pc.keep.length kc) (.slice ta pc.torn.length tc)) 32) := ⟨_, rfl⟩
  have b1 : u1.heap[w1.heap.size]? = some (.cells (CmdV pc (.slice ka pc.keep.length kc) (.slice ta pc.torn.length tc)) 32 (0, 0)) := by rw [hu1]; exact block_new _ _
  have kk : Kp [] w1 u1 := hu1 ▸ (Kp.refl _ _).alloc _
  simp only [CmdV] at hu1
  rw [← hu1]
  have hk1 := k1.trans kk
  replace q1 := q1.keep0 kk
  replace q2 := q2.keep0 kk
  have HB1 := Lib.hid b1
  have hsz1 : w1.heap.size ≤ u1.heap.size := kk.size
  clear hu1 b1 kk k1
  refine (r23parse s hz _ (hE.keep hk1)).mono ?_
  rintro e w2 ⟨kv, tv, rfl, q3, q4, k2⟩
  rw [← HP.out] at q3 q4 ⊢
  simp only at q3 q4
  obtain ⟨kb, kd, rfl⟩ := slice_ex q3
  obtain ⟨tb, td, rfl⟩ := slice_ex q4
  simp only [CmdV]
  have hb1 := Kp.blockAt (X := []) HB1.out (by simp) _ (k2.alloc (.cells #[.int .i64 pc.act, .int .i64 pc.rk, .string pc.rs, .string pc.rv, .int .i64 pc.n, .int .i64 pc.a, .int .i64 pc.b, .string pc.text, .slice kb pc.keep.length kd, .slice tb pc.torn.length td] 26))
  have HB := Lib.hid hb1
  clear hb1
  go_wp2_with fail
  obtain ⟨u2, hu2⟩ : ∃ u2, u2 = w2.alloc (.cells #[.int .i64 pc.act, .int .i64 pc.rk, .string pc.rs, .string pc.rv, .int .i64 pc.n, .int .i64 pc.a, .int .i64 pc.b, .string pc.text, .slice kb pc.keep.length kd, .slice tb pc.torn.length td] 26) := ⟨_, rfl⟩
  have b2 : u2.heap[w2.heap.size]? = some (.cells #[.int .i64 pc.act, .int .i64 pc.rk, .string pc.rs, .string pc.rv, .int .i64 pc.n, .int .i64 pc.a, .int .i64 pc.b, .string pc.text, .slice kb pc.keep.length kd, .slice tb pc.torn.length td] 26 (0, 0)) := by rw [hu2]; exact block_new _ _
  have kk : Kp [] w2 u2 := hu2 ▸ (Kp.refl _ _).alloc _
  have hb1 := HB.out
  rw [← hu2] at hb1 ⊢
  obtain ⟨a0, a1, a2, a3, a4, a5, a6, a7, a8, a9⟩ := cells10 hb1
  obtain ⟨b0, b1, b2, b3, b4, b5, b6, b7, b8, b9⟩ := cells10 b2
  have hk2 := (hk1.trans k2).trans kk
  have hsz : u1.heap.size ≤ w2.heap.size := k2.size
  have r1 : BoolsAt w2.heap.size u2 (.slice ka pc.keep.length kc) pc.keep := ((q1.keep0 k2).keep0 kk).up (Nat.le_trans hsz1 hsz)
  have r2 : BoolsAt w2.heap.size u2 (.slice ta pc.torn.length tc) pc.torn := ((q2.keep0 k2).keep0 kk).up (Nat.le_trans hsz1 hsz)
  have r3 := q3.keep0 kk
  have r4 := q4.keep0 kk
  have hsame : sameC pc pc = true := (sameC_iff pc pc).2 rfl
  have HSM := Lib.hid hsame
  have hU := Kp.refl [] u2
  clear hu2 kk hb1 q1 q2 q3 q4 hsame HB HB1 hsz hsz1 k2
  go_wp2_with fail
  refine wpB_begin 999 (Kp [] u2) (by kernel_rfl) (by exact hU.drew) (fun hHeld => ?_)
  refine wpB_take 0 _ ?_ rfl (by kernel_rfl) (fun _ _ _ h => h) rfl hHeld ?_ ?_
  rotate_left
  · (intro W hW; go_simp; try with_reducible rfl)
  try simp only [Act.put, List.setIfInBounds_toArray, List.set_cons_zero, List.set_cons_succ]
  refine wpB_take 2 _ ?_ rfl (by kernel_rfl) (fun _ _ _ h => h) rfl hHeld ?_ ?_
  rotate_left
  · (intro W hW; go_simp; try with_reducible rfl)
  try simp only [Act.put, List.setIfInBounds_toArray, List.set_cons_zero, List.set_cons_succ]
  refine wpB_step 1 _ rfl (by kernel_rfl) rfl rfl (fun K hK_ => ?_)
  go_simp
  refine (told_any pc _ _ _ _ _ _ _).mono ?_
  rintro e w3 ⟨rfl, kk⟩
  refine hK_.out _ _ (by exact hHeld.trans kk) (fun hHeld => ?_)
  clear hK_ K
  try simp only [Act.put, List.setIfInBounds_toArray, List.set_cons_zero, List.set_cons_succ]
  refine wpB_step 3 _ rfl (by kernel_rfl) rfl rfl (fun K hK_ => ?_)
  go_simp
  refine (r23same pc pc _ _ _ _ _ _ (r1.keep0 hHeld) (r2.keep0 hHeld) (r3.keep0 hHeld) (r4.keep0 hHeld) hkl htl).mono ?_
  rintro e w4 ⟨rfl, kk⟩
  rw [HSM.out]
  refine hK_.out _ _ (by exact hHeld.trans kk) (fun hHeld => ?_)
  clear hK_ K
  try simp only [Act.put, List.setIfInBounds_toArray, List.set_cons_zero, List.set_cons_succ]
  refine wpB_take 4 _ ?_ rfl (by kernel_rfl) (fun _ _ _ h => h) rfl hHeld ?_ ?_
  rotate_left
  · (intro W hW; go_simp; try with_reducible rfl)
  try simp only [Act.put, List.setIfInBounds_toArray, List.set_cons_zero, List.set_cons_succ]
  refine wpB_take 5 _ ?_ rfl (by kernel_rfl) (fun _ _ _ h => h) rfl hHeld ?_ ?_
  rotate_left
  · (intro W hW; go_simp; try with_reducible rfl)
  try simp only [Act.put, List.setIfInBounds_toArray, List.set_cons_zero, List.set_cons_succ]
  refine wpB_take 6 _ ?_ rfl (by kernel_rfl) (fun _ _ _ h => h) rfl hHeld ?_ ?_
  rotate_left
  · (intro W hW; go_simp; try with_reducible rfl)
  try simp only [Act.put, List.setIfInBounds_toArray, List.set_cons_zero, List.set_cons_succ]
  refine wpB_take 7 _ ?_ rfl (by kernel_rfl) (fun _ _ _ h => h) rfl hHeld ?_ ?_
  rotate_left
  · (intro W hW; go_simp; try with_reducible rfl)
  try simp only [Act.put, List.setIfInBounds_toArray, List.set_cons_zero, List.set_cons_succ]
  refine wpB_take 8 _ ?_ rfl (by kernel_rfl) (fun _ _ _ h => h) rfl hHeld ?_ ?_
  rotate_left
  · (intro W hW; go_simp; try with_reducible rfl)
  try simp only [Act.put, List.setIfInBounds_toArray, List.set_cons_zero, List.set_cons_succ]
  refine wpB_take 9 _ ?_ rfl (by kernel_rfl) (fun _ _ _ h => h) rfl hHeld ?_ ?_
  rotate_left
  · (intro W hW; go_simp; try with_reducible rfl)
  try simp only [Act.put, List.setIfInBounds_toArray, List.set_cons_zero, List.set_cons_succ]
  refine wpB_step 10 _ rfl (by kernel_rfl) rfl rfl (fun K hK_ => ?_)
  go_simp
  refine (live_true _ (hE.keep (hk2.trans hHeld))).mono ?_
  rintro e wl ⟨rfl, kl⟩
  refine hK_.out _ _ (by exact hHeld.trans kl) (fun hHeld => ?_)
  clear hK_ K
  try simp only [Act.put, List.setIfInBounds_toArray, List.set_cons_zero, List.set_cons_succ]
  refine wpB_take 11 _ ?_ rfl (by kernel_rfl) (fun _ _ _ h => h) rfl hHeld ?_ ?_
  rotate_left
  · (intro W hW; go_simp; try with_reducible rfl)
  try simp only [Act.put, List.setIfInBounds_toArray, List.set_cons_zero, List.set_cons_succ]
  refine wpB_take 12 _ ?_ rfl (by kernel_rfl) (fun _ _ _ h => h) rfl hHeld ?_ ?_
  rotate_left
  · (intro W hW; go_simp; try with_reducible rfl)
  try simp only [Act.put, List.setIfInBounds_toArray, List.set_cons_zero, List.set_cons_succ]
  refine wpB_done (by kernel_rfl) ?_ _
  go_wp2_with fail
  go_ret
  exact ⟨rfl, hk2.trans hHeld⟩

set_option maxRecDepth 100000 in
theorem parses_lifted (os : Os) (started : os.Started) (H : Type) (enc : TypeId × Value → H) :
    ReturnsInHanded {} Tryz.checked os 4 .any (fun w args => (Rows.scriptParsesSpec.pre enc Tryz.prog Tryz.f4 [] false w args ∧ laidMetH Tryz.prog laidAll w) ∧ sizedMet enc Tryz.prog Tryz.f4 (OpenSpec.ofChange Rows.scriptParsesSpec) false w args) (Rows.scriptParsesSpec.post enc Tryz.prog Tryz.f4 false true false false) := by
  refine law_laid Rows.scriptParsesSpec laidAll Tryz.func4 (by kernel_rfl) Tryz.underlying4 rfl (by decide +kernel) rfl ?_ ?_ os started H enc
    (ChangeSpec.witness_shaped (enc := enc) (C := Tryz.checked) (os := os) (X := fun w _ => laidMetH Tryz.prog laidAll w) false (World.laidAll Tryz.prog os laidAll) #[.string ⟨#[]⟩] 8 (World.laidAll_os _ _ _)
      (World.shaped_of_ZipB (by kernel_rfl) (by kernel_rfl)) (by kernel_rfl) (by kernel_rfl) (by kernel_rfl)
      (by rw [MakeChecks.laidMetH_plain _ _ _ (by kernel_rfl)]; exact laidMet_laidAll _ (by kernel_rfl) (by kernel_rfl)))
  · intro H ds hl
    match ds, hl with | [d], _ => exact ⟨rfl, rfl, rfl⟩
  · intro W vs hvs hsh hL
    have hE := env_of_laid hsh hL
    obtain ⟨a, vs', base, rfl, hok, hrd, rfl⟩ := hvs; obtain ⟨s, rfl⟩ := str_arg hok; exact parses_walk s W hE
theorem parses_holds : Rows.scriptParsesRow.holds Tryz.pinned (OpenSpec.ofChange Rows.scriptParsesSpec) :=
  OpenClaim.holds_of_wide 4 Tryz.f4 rfl rfl rfl rfl rfl rfl rfl ⟨rfl, rfl, rfl, rfl, rfl⟩ rfl rfl rfl rfl rfl (by kernel_rfl) Tryz.func4 (by kernel_rfl)
    (of_decide_eq_true (by kernel_rfl)) (by unfold Func.isWrapper; first | (rw [if_pos (by decide +kernel)]; kernel_rfl) | (rw [if_neg (by decide +kernel)]; exact ⟨rfl, rfl⟩))
    (fun os started H enc _ => parses_lifted os started H enc)
theorem parses_card_holds : Rows.ScriptParsesCardSaid :=
  Claim7.holds_tied_plain_at .later [] [.data, .data, .data, .data, .sentinel, .sentinel, .pinned] true (true, "a069603eca0a6c12d2dc75e0b02b05c1afded32aef5650405fb204b1b5205fba") true parses_holds (fun _ h => by cases h) (by kernel_rfl) (fun _ h => by cases h) scriptParses_row_tie rfl ⟨rfl, rfl⟩ (by kernel_rfl) rfl
    (fun f fn hf hfn => by
      obtain rfl : f = 4 := Option.some.inj ((show Tryz.prog.funcNamed "sluicegate/sluicegatelaw23.ScriptParses" = some 4 by kernel_rfl).symm.trans hf) |>.symm
      obtain rfl : fn = Tryz.f4 := (Option.some.inj (Tryz.func4.symm.trans hfn)).symm
      exact ⟨by kernel_rfl, fun j t ht => by
        have hall : (Tryz.f4.params.toList.all fun u => !Tryz.prog.wantsStandIn u) = true := by kernel_rfl
        exact (show Tryz.prog.wantsStandIn t = false by simpa using List.all_eq_true.1 hall t (by simpa using Array.mem_of_getElem? ht))⟩)
    (by kernel_rfl)
#print axioms parses_card_holds
end Go.Proofs.YtmihnakapnoefaaGreatDoor
