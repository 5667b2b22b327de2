/-
  RequestAnswers: for every kind and every answer whose code is not below 0, of a value of at most 1000 bytes and at most 30 keys of 100 bytes, the program's line is the document's: the law returns true.
  Conditions: none beyond the row's own (the tables that it lists, tied to the program's text).
-/
import Derived.Test.YtdbeokldpdgjmaaDoorReqW
namespace Go.Proofs.YtdbeokldpdgjmaaDoor
open Go.ChangeShapes Go.WideShapes Go.ChangeAt Go.RowKit Go.WideElems

set_option maxHeartbeats 2000000 in
set_option maxRecDepth 100000 in
theorem answers_walk (kd code : Int) (v : ByteArray) (kv : Value) (ks : List ByteArray) (w : World) (hsh : w.ShapedOpen Tryd.prog) (htab : Lib.TabIs Tryd.prog w "internal/strconv.uint64pow10" .u64 Lib.pow10Tab)
    (hc : code ≤ 9223372036854775807) (hk : SliceAt w.heap.size w kv 1 ks.length (ks.map Value.string)) (hkm : ks.length ≤ 9223372036854775807) :
    Calls Tryd.prog 6 #[.int .i64 kd, .agg #[.int .i64 code, .string v, kv]] w fun e w' => e = .returned (.bool true) ∧ Kp [] w w' := by
  obtain ⟨av, cv, rfl⟩ := slice_ex hk
  go_enter Tryd.func6, Tryd.ntmps6
  obtain ⟨w0, hw0⟩ : ∃ w0, w0 = (w.alloc (Obj.cells #[Value.int IntKind.i64 code, Value.string v, Value.slice av ks.length cv] 36)) := ⟨_, rfl⟩
  have kw0 : Kp [] w w0 := hw0 ▸ (Kp.refl _ _).alloc _
  have c1 := Kp.cellAt (X := []) (w0 := w0) (p := ⟨w.heap.size, 0, none⟩) (v := .int .i64 code) (by rw [hw0]; exact cell_of_cells (block_new _ _) rfl) (by simp)
  have c2 := Kp.cellAt (X := []) (w0 := w0) (p := ⟨w.heap.size, 1, none⟩) (v := .string v) (by rw [hw0]; exact cell_of_cells (block_new _ _) rfl) (by simp)
  have c3 := Kp.cellAt (X := []) (w0 := w0) (p := ⟨w.heap.size, 2, none⟩) (v := .slice av ks.length cv) (by rw [hw0]; exact cell_of_cells (block_new _ _) rfl) (by simp)
  have Hw0 := Lib.hid hw0
  clear hw0
  have hK := Kp.refl [] w0
  have hk0 := hk.keep0 kw0
  by_cases hs : code < 0
  · go_wp2_with fail
    rw [← Hw0.out]
    go_wp2_with fail
    refine (live_true _ (shaped_keep hsh (kw0)) (htab.keep (kw0))).mono ?_
    rintro e wl ⟨rfl, kl⟩
    go_wp2_with fail
    go_ret
    exact ⟨rfl, (kw0).trans kl⟩
  by_cases hs2 : (v.size : Int) > 1000
  · go_wp2_with fail
    rw [← Hw0.out]
    go_wp2_with fail
    refine (live_true _ (shaped_keep hsh (kw0)) (htab.keep (kw0))).mono ?_
    rintro e wl ⟨rfl, kl⟩
    go_wp2_with fail
    go_ret
    exact ⟨rfl, (kw0).trans kl⟩
  have h0 : 0 ≤ code := by omega
  have hv : v.size < 16384 := by omega
  go_wp2_with fail
  rw [← Hw0.out]
  go_wp2_with fail
  refine (small_any _ ks 30 100 _ _ hk0 hkm).mono ?_
  rintro e w1 ⟨rfl, e1⟩
  rw [e1]
  clear e1 w1
  cases hsm : smallB ks 30 100 with
  | false =>
    go_wp2_with fail
    refine (live_true _ (shaped_keep hsh (kw0)) (htab.keep (kw0))).mono ?_
    rintro e wl ⟨rfl, kl⟩
    go_wp2_with fail
    go_ret
    exact ⟨rfl, (kw0).trans kl⟩
  | true =>
    have hsm' := hsm
    unfold smallB at hsm'
    simp only [Bool.and_eq_true, List.all_eq_true, decide_eq_true_eq] at hsm'
    have hkl : ks.length ≤ 30 := by omega
    have hks : ∀ k ∈ ks, k.size ≤ 100 := fun k hk => by have := hsm'.1 k hk; omega
    clear hsm hsm'
    go_wp2_with fail
    refine wpB_begin 999 (Kp [] w0) (by kernel_rfl) (by first | exact hK.drew | exact Kp.drew (Kp.refl _ _)) (fun hHeld => ?_)
    refine wpB_take 0 _ ?_ rfl (by kernel_rfl) (fun _ _ _ h => h) rfl hHeld ?_ ?_
    rotate_left
    · (intro W hW; go_simp; try with_reducible rfl)
    try simp only [Act.put, List.setIfInBounds_toArray, List.set_cons_zero, List.set_cons_succ]
    refine wpB_take 1 _ ?_ rfl (by kernel_rfl) (fun _ _ _ h => h) rfl hHeld ?_ ?_
    rotate_left
    · (intro W hW; go_simp; try with_reducible rfl)
    try simp only [Act.put, List.setIfInBounds_toArray, List.set_cons_zero, List.set_cons_succ]
    refine wpB_take 3 _ ?_ rfl (by kernel_rfl) (fun _ _ _ h => h) rfl hHeld ?_ ?_
    rotate_left
    · (intro W hW; go_simp; try with_reducible rfl)
    try simp only [Act.put, List.setIfInBounds_toArray, List.set_cons_zero, List.set_cons_succ]
    refine wpB_take 4 _ ?_ rfl (by kernel_rfl) (fun _ _ _ h => h) rfl hHeld ?_ ?_
    rotate_left
    · (intro W hW; go_simp; try with_reducible rfl)
    try simp only [Act.put, List.setIfInBounds_toArray, List.set_cons_zero, List.set_cons_succ]
    refine wpB_step 2 _ rfl (by kernel_rfl) rfl rfl (fun K hK_ => ?_)
    go_simp
    refine (qanswer kd code v _ ks _ h0 hc hv ((hk0.keep0 hHeld).up (Nat.le_trans kw0.size hHeld.size)) hkl hks (htab.keep (kw0.trans hHeld))).mono ?_
    rintro e w3 ⟨rfl, k3⟩
    refine hK_.out _ _ (by first | exact hHeld | exact hHeld.call ‹_› | exact hHeld.alloc _) (fun hHeld => ?_)
    clear hK_ K
    try simp only [Act.put, List.setIfInBounds_toArray, List.set_cons_zero, List.set_cons_succ]
    refine wpB_step 5 _ rfl (by kernel_rfl) rfl rfl (fun K hK_ => ?_)
    go_simp
    refine (ranswer kd code v _ ks _ h0 hc hv ((hk0.keep0 hHeld).up (Nat.le_trans kw0.size hHeld.size)) hkl hks).mono ?_
    rintro e w4 ⟨rfl, k4⟩
    refine hK_.out _ _ (by first | exact hHeld | exact hHeld.call ‹_› | exact hHeld.alloc _) (fun hHeld => ?_)
    clear hK_ K
    try simp only [Act.put, List.setIfInBounds_toArray, List.set_cons_zero, List.set_cons_succ]
    refine wpB_take 6 _ ?_ rfl (by kernel_rfl) (fun _ _ _ h => h) rfl hHeld ?_ ?_
    rotate_left
    · (intro W hW; go_simp; try with_reducible rfl)
    try simp only [Act.put, List.setIfInBounds_toArray, List.set_cons_zero, List.set_cons_succ]
    refine wpB_take 7 _ ?_ rfl (by kernel_rfl) (fun _ _ _ h => h) rfl hHeld ?_ ?_
    rotate_left
    · (intro W hW; go_simp; try with_reducible rfl)
    try simp only [Act.put, List.setIfInBounds_toArray, List.set_cons_zero, List.set_cons_succ]
    refine wpB_step 8 _ rfl (by kernel_rfl) rfl rfl (fun K hK_ => ?_)
    go_simp
    refine (live_true _ (shaped_keep hsh (kw0.trans hHeld)) (htab.keep (kw0.trans hHeld))).mono ?_
    rintro e wl ⟨rfl, kl⟩
    refine hK_.out _ _ (by first | exact hHeld | exact hHeld.call ‹_› | exact hHeld.alloc _) (fun hHeld => ?_)
    clear hK_ K
    try simp only [Act.put, List.setIfInBounds_toArray, List.set_cons_zero, List.set_cons_succ]
    refine wpB_take 9 _ ?_ rfl (by kernel_rfl) (fun _ _ _ h => h) rfl hHeld ?_ ?_
    rotate_left
    · (intro W hW; go_simp; try with_reducible rfl)
    try simp only [Act.put, List.setIfInBounds_toArray, List.set_cons_zero, List.set_cons_succ]
    refine wpB_take 10 _ ?_ rfl (by kernel_rfl) (fun _ _ _ h => h) rfl hHeld ?_ ?_
    rotate_left
    · (intro W hW; go_simp; try with_reducible rfl)
    try simp only [Act.put, List.setIfInBounds_toArray, List.set_cons_zero, List.set_cons_succ]
    refine wpB_done (by kernel_rfl) ?_ _
    go_wp2_with fail
    go_ret
    exact ⟨rfl, kw0.trans hHeld⟩

set_option maxRecDepth 100000 in
theorem answers_lifted (os : Os) (started : os.Started) (H : Type) (enc : TypeId × Value → H) :
    ReturnsInHanded {} Tryd.checked os 6 .any (fun w args => (Rows.requestAnswersSpec.pre enc Tryd.prog Tryd.f6 [] false w args ∧ laidMetH Tryd.prog laidAll w) ∧ sizedMet enc Tryd.prog Tryd.f6 (OpenSpec.ofChange Rows.requestAnswersSpec) false w args) (Rows.requestAnswersSpec.post enc Tryd.prog Tryd.f6 false true false false) := by
  refine law_laid Rows.requestAnswersSpec laidAll Tryd.func6 (by kernel_rfl) Tryd.underlying4 rfl (by decide +kernel) rfl ?_ ?_ os started H enc
    (ChangeSpec.witness_shaped (enc := enc) (C := Tryd.checked) (os := os) (X := fun w _ => laidMetH Tryd.prog laidAll w) false (World.laidAll Tryd.prog os laidAll) #[.int .i64 0, .agg #[.int .i64 0, .string ⟨#[]⟩, .slice Option.none 0 0]] 8 (World.laidAll_os _ _ _)
      (World.shaped_of_ZipB (by kernel_rfl) (by kernel_rfl)) (by kernel_rfl) (by kernel_rfl) (by kernel_rfl)
      (by rw [MakeChecks.laidMetH_plain _ _ _ (by kernel_rfl)]; exact laidMet_laidAll _ (by kernel_rfl) (by kernel_rfl)))
  · intro H ds hl
    match ds, hl with | [d, e], _ => exact ⟨rfl, rfl, rfl⟩
  · intro W vs hvs hsh hL
    have htab := tab_of_laid hL
    obtain ⟨a, vs', base, rfl, hok, hrd, hvs⟩ := hvs; obtain ⟨b, vs', base', rfl, hok', hrd', rfl⟩ := hvs; obtain ⟨kd, rfl⟩ := int_arg hok; obtain ⟨code, s, ks, kv, rfl, hc, hs, hlen⟩ := resp_arg hok' hrd'; exact answers_walk kd code s kv ks W hsh htab hc hs (by unfold maxLen at hlen; omega)
theorem answers_holds : Rows.requestAnswersRow.holds Tryd.pinned (OpenSpec.ofChange Rows.requestAnswersSpec) :=
  OpenClaim.holds_of_wide 6 Tryd.f6 rfl rfl rfl rfl rfl rfl rfl ⟨rfl, rfl, rfl, rfl, rfl⟩ rfl rfl rfl rfl rfl (by kernel_rfl) Tryd.func6 (by kernel_rfl)
    (of_decide_eq_true (by kernel_rfl)) (by unfold Func.isWrapper; first | (rw [if_pos (by decide +kernel)]; kernel_rfl) | (rw [if_neg (by decide +kernel)]; exact ⟨rfl, rfl⟩))
    (fun os started H enc _ => answers_lifted os started H enc)
theorem answers_card_holds : Rows.RequestAnswersCardSaid :=
  Claim7.holds_tied_plain_at .later [] [.data, .data, .data, .data, .pinned] true (true, "f78197b0aa6d8daaa9aca1b6d63aa349be02386f5b2a8c8cbf78d32fe0aca9a5") false answers_holds (fun _ h => by cases h) (by kernel_rfl) (fun _ h => by cases h) requestAnswers_row_tie rfl ⟨rfl, rfl⟩ (by kernel_rfl) rfl
    (fun f fn hf hfn => by
      obtain rfl : f = 6 := Option.some.inj ((show Tryd.prog.funcNamed "sluicegate/sluicegatelaw15.RequestAnswers" = some 6 by kernel_rfl).symm.trans hf) |>.symm
      obtain rfl : fn = Tryd.f6 := (Option.some.inj (Tryd.func6.symm.trans hfn)).symm
      exact ⟨by kernel_rfl, fun j t ht => by
        have hall : (Tryd.f6.params.toList.all fun u => !Tryd.prog.wantsStandIn u) = true := by kernel_rfl
        exact (show Tryd.prog.wantsStandIn t = false by simpa using List.all_eq_true.1 hall t (by simpa using Array.mem_of_getElem? ht))⟩)
    (by kernel_rfl)
#print axioms answers_card_holds
end Go.Proofs.YtdbeokldpdgjmaaDoor
