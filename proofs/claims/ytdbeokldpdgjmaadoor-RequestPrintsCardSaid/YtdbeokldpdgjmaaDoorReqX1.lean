/-
  RequestPrints: for every request, of a key of at most 100 bytes and a value of at most 1000, the program's line and error are the document's: the law returns true.
  Conditions: none beyond the row's own (the tables that it lists, tied to the program's text).
-/
import Derived.Test.YtdbeokldpdgjmaaDoorReqW
namespace Go.Proofs.YtdbeokldpdgjmaaDoor
open Go.ChangeShapes Go.WideShapes Go.ChangeAt Go.RowKit Go.WideElems

set_option maxHeartbeats 2000000 in
set_option maxRecDepth 100000 in
theorem prints_walk (kd : Int) (k v : ByteArray) (w : World) (hsh : w.ShapedOpen Tryd.prog) (htab : Lib.TabIs Tryd.prog w "internal/strconv.uint64pow10" .u64 Lib.pow10Tab) :
    Calls Tryd.prog 3 #[.agg #[.int .i64 kd, .string k, .string v]] w fun e w' => e = .returned (.bool true) ∧ Kp [] w w' := by
  go_enter Tryd.func3, Tryd.ntmps3
  obtain ⟨w0, hw0⟩ : ∃ w0, w0 = (w.alloc (Obj.cells #[Value.int IntKind.i64 kd, Value.string k, Value.string v] 23)) := ⟨_, rfl⟩
  have kw0 : Kp [] w w0 := hw0 ▸ (Kp.refl _ _).alloc _
  have c1 := Kp.cellAt (X := []) (w0 := w0) (p := ⟨w.heap.size, 0, none⟩) (v := .int .i64 kd) (by rw [hw0]; exact cell_of_cells (block_new _ _) rfl) (by simp)
  have c2 := Kp.cellAt (X := []) (w0 := w0) (p := ⟨w.heap.size, 1, none⟩) (v := .string k) (by rw [hw0]; exact cell_of_cells (block_new _ _) rfl) (by simp)
  have c3 := Kp.cellAt (X := []) (w0 := w0) (p := ⟨w.heap.size, 2, none⟩) (v := .string v) (by rw [hw0]; exact cell_of_cells (block_new _ _) rfl) (by simp)
  have Hw0 := Lib.hid hw0
  clear hw0
  have hK := Kp.refl [] w0
  by_cases hs : (k.size : Int) > 100
  · go_wp2_with fail
    rw [← Hw0.out]
    go_wp2_with fail
    refine (live_true _ (shaped_keep hsh (kw0)) (htab.keep (kw0))).mono ?_
    rintro e wl ⟨rfl, kl⟩
    go_wp2_with fail
    go_ret
    exact ⟨rfl, (kw0).trans kl⟩
  by_cases hs2 : (v.size : Int) > 1000
  · go_wp2_with fail
    rw [← Hw0.out]
    go_wp2_with fail
    refine (live_true _ (shaped_keep hsh (kw0)) (htab.keep (kw0))).mono ?_
    rintro e wl ⟨rfl, kl⟩
    go_wp2_with fail
    go_ret
    exact ⟨rfl, (kw0).trans kl⟩
  have hk : k.size < 16384 := by omega
  have hv : v.size < 16384 := by omega
  go_wp2_with fail
  rw [← Hw0.out]
  go_wp2_with fail
  refine (qprint kd k v hk hv _).mono ?_
  rintro e w1 ⟨rfl, k1⟩
  have hK := hK.trans k1
  go_wp2_with fail
  refine (rprint kd k v hk hv _).mono ?_
  rintro e w2 ⟨rfl, k2⟩
  have hK := hK.trans k2
  go_wp2_with fail
  refine wpB_begin 999 (Kp [] w0) (by kernel_rfl) (by first | exact hK.drew | exact Kp.drew (Kp.refl _ _)) (fun hHeld => ?_)
  refine wpB_take 0 _ ?_ rfl (by kernel_rfl) (fun _ _ _ h => h) rfl hHeld ?_ ?_
  rotate_left
  · (intro W hW; go_simp; try with_reducible rfl)
  try simp only [Act.put, List.setIfInBounds_toArray, List.set_cons_zero, List.set_cons_succ]
  refine wpB_take 1 _ ?_ rfl (by kernel_rfl) (fun _ _ _ h => h) rfl hHeld ?_ ?_
  rotate_left
  · (intro W hW; go_simp; try with_reducible rfl)
  try simp only [Act.put, List.setIfInBounds_toArray, List.set_cons_zero, List.set_cons_succ]
  refine wpB_take 2 _ ?_ rfl (by kernel_rfl) (fun _ _ _ h => h) rfl hHeld ?_ ?_
  rotate_left
  · (intro W hW; go_simp; try with_reducible rfl)
  try simp only [Act.put, List.setIfInBounds_toArray, List.set_cons_zero, List.set_cons_succ]
  refine wpB_take 3 _ ?_ rfl (by kernel_rfl) (fun _ _ _ h => h) rfl hHeld ?_ ?_
  rotate_left
  · (intro W hW; go_simp; try with_reducible rfl)
  try simp only [Act.put, List.setIfInBounds_toArray, List.set_cons_zero, List.set_cons_succ]
  refine wpB_take 4 _ ?_ rfl (by kernel_rfl) (fun _ _ _ h => h) rfl hHeld ?_ ?_
  rotate_left
  · (intro W hW; go_simp; try with_reducible rfl)
  try simp only [Act.put, List.setIfInBounds_toArray, List.set_cons_zero, List.set_cons_succ]
  refine wpB_take 5 _ ?_ rfl (by kernel_rfl) (fun _ _ _ h => h) rfl hHeld ?_ ?_
  rotate_left
  · (intro W hW; go_simp; try with_reducible rfl)
  try simp only [Act.put, List.setIfInBounds_toArray, List.set_cons_zero, List.set_cons_succ]
  refine wpB_take 6 _ ?_ rfl (by kernel_rfl) (fun _ _ _ h => h) rfl hHeld ?_ ?_
  rotate_left
  · (intro W hW; go_simp; try with_reducible rfl)
  try simp only [Act.put, List.setIfInBounds_toArray, List.set_cons_zero, List.set_cons_succ]
  refine wpB_take 7 _ ?_ rfl (by kernel_rfl) (fun _ _ _ h => h) rfl hHeld ?_ ?_
  rotate_left
  · (intro W hW; go_simp; try with_reducible rfl)
  try simp only [Act.put, List.setIfInBounds_toArray, List.set_cons_zero, List.set_cons_succ]
  refine wpB_take 8 _ ?_ rfl (by kernel_rfl) (fun _ _ _ h => h) rfl hHeld ?_ ?_
  rotate_left
  · (intro W hW; go_simp; try with_reducible rfl)
  try simp only [Act.put, List.setIfInBounds_toArray, List.set_cons_zero, List.set_cons_succ]
  refine wpB_take 9 _ ?_ rfl (by kernel_rfl) (fun _ _ _ h => h) rfl hHeld ?_ ?_
  rotate_left
  · (intro W hW; go_simp; try with_reducible rfl)
  try simp only [Act.put, List.setIfInBounds_toArray, List.set_cons_zero, List.set_cons_succ]
  refine wpB_take 11 _ ?_ rfl (by kernel_rfl) (fun _ _ _ h => h) rfl hHeld ?_ ?_
  rotate_left
  · (intro W hW; go_simp; try with_reducible rfl)
  try simp only [Act.put, List.setIfInBounds_toArray, List.set_cons_zero, List.set_cons_succ]
  refine wpB_step 10 _ rfl (by kernel_rfl) rfl rfl (fun K hK_ => ?_)
  go_simp
  refine (qcheck kd k v hk hv _).mono ?_
  rintro e w3 ⟨rfl, k3⟩
  refine hK_.out _ _ (by first | exact hHeld | exact hHeld.call ‹_› | exact hHeld.alloc _) (fun hHeld => ?_)
  clear hK_ K
  try simp only [Act.put, List.setIfInBounds_toArray, List.set_cons_zero, List.set_cons_succ]
  refine wpB_step 12 _ rfl (by kernel_rfl) rfl rfl (fun K hK_ => ?_)
  go_simp
  refine (rcheck kd k v hk hv _).mono ?_
  rintro e w4 ⟨rfl, k4⟩
  refine hK_.out _ _ (by first | exact hHeld | exact hHeld.call ‹_› | exact hHeld.alloc _) (fun hHeld => ?_)
  clear hK_ K
  try simp only [Act.put, List.setIfInBounds_toArray, List.set_cons_zero, List.set_cons_succ]
  refine wpB_take 13 _ ?_ rfl (by kernel_rfl) (fun _ _ _ h => h) rfl hHeld ?_ ?_
  rotate_left
  · (intro W hW; go_simp; try with_reducible rfl)
  try simp only [Act.put, List.setIfInBounds_toArray, List.set_cons_zero, List.set_cons_succ]
  refine wpB_take 14 _ ?_ rfl (by kernel_rfl) (fun _ _ _ h => h) rfl hHeld ?_ ?_
  rotate_left
  · (intro W hW; go_simp; try with_reducible rfl)
  try simp only [Act.put, List.setIfInBounds_toArray, List.set_cons_zero, List.set_cons_succ]
  refine wpB_take 15 _ ?_ rfl (by kernel_rfl) (fun _ _ _ h => h) rfl hHeld ?_ ?_
  rotate_left
  · (intro W hW; go_simp; try with_reducible rfl)
  try simp only [Act.put, List.setIfInBounds_toArray, List.set_cons_zero, List.set_cons_succ]
  refine wpB_step 16 _ rfl (by kernel_rfl) rfl rfl (fun K hK_ => ?_)
  go_simp
  refine (live_true _ (shaped_keep hsh (kw0.trans hHeld)) (htab.keep (kw0.trans hHeld))).mono ?_
  rintro e wl ⟨rfl, kl⟩
  refine hK_.out _ _ (by first | exact hHeld | exact hHeld.call ‹_› | exact hHeld.alloc _) (fun hHeld => ?_)
  clear hK_ K
  try simp only [Act.put, List.setIfInBounds_toArray, List.set_cons_zero, List.set_cons_succ]
  refine wpB_take 17 _ ?_ rfl (by kernel_rfl) (fun _ _ _ h => h) rfl hHeld ?_ ?_
  rotate_left
  · (intro W hW; go_simp; try with_reducible rfl)
  try simp only [Act.put, List.setIfInBounds_toArray, List.set_cons_zero, List.set_cons_succ]
  refine wpB_take 18 _ ?_ rfl (by kernel_rfl) (fun _ _ _ h => h) rfl hHeld ?_ ?_
  rotate_left
  · (intro W hW; go_simp; try with_reducible rfl)
  try simp only [Act.put, List.setIfInBounds_toArray, List.set_cons_zero, List.set_cons_succ]
  refine wpB_done (by kernel_rfl) ?_ _
  go_wp2_with fail
  go_ret
  exact ⟨rfl, kw0.trans hHeld⟩

set_option maxRecDepth 100000 in
theorem prints_lifted (os : Os) (started : os.Started) (H : Type) (enc : TypeId × Value → H) :
    ReturnsInHanded {} Tryd.checked os 3 .any (fun w args => (Rows.requestPrintsSpec.pre enc Tryd.prog Tryd.f3 [] false w args ∧ laidMetH Tryd.prog laidAll w) ∧ sizedMet enc Tryd.prog Tryd.f3 (OpenSpec.ofChange Rows.requestPrintsSpec) false w args) (Rows.requestPrintsSpec.post enc Tryd.prog Tryd.f3 false true false false) := by
  refine law_laid Rows.requestPrintsSpec laidAll Tryd.func3 (by kernel_rfl) Tryd.underlying4 rfl (by decide +kernel) rfl ?_ ?_ os started H enc
    (ChangeSpec.witness_shaped (enc := enc) (C := Tryd.checked) (os := os) (X := fun w _ => laidMetH Tryd.prog laidAll w) false (World.laidAll Tryd.prog os laidAll) #[.agg #[.int .i64 0, .string ⟨#[]⟩, .string ⟨#[]⟩]] 8 (World.laidAll_os _ _ _)
      (World.shaped_of_ZipB (by kernel_rfl) (by kernel_rfl)) (by kernel_rfl) (by kernel_rfl) (by kernel_rfl)
      (by rw [MakeChecks.laidMetH_plain _ _ _ (by kernel_rfl)]; exact laidMet_laidAll _ (by kernel_rfl) (by kernel_rfl)))
  · intro H ds hl
    match ds, hl with | [d], _ => exact ⟨rfl, rfl, rfl⟩
  · intro W vs hvs hsh hL
    have htab := tab_of_laid hL
    obtain ⟨a, vs', base, rfl, hok, hrd, rfl⟩ := hvs; obtain ⟨kd, k, u, rfl⟩ := req_arg hok hrd; exact prints_walk kd k u W hsh htab
theorem prints_holds : Rows.requestPrintsRow.holds Tryd.pinned (OpenSpec.ofChange Rows.requestPrintsSpec) :=
  OpenClaim.holds_of_wide 3 Tryd.f3 rfl rfl rfl rfl rfl rfl rfl ⟨rfl, rfl, rfl, rfl, rfl⟩ rfl rfl rfl rfl rfl (by kernel_rfl) Tryd.func3 (by kernel_rfl)
    (of_decide_eq_true (by kernel_rfl)) (by unfold Func.isWrapper; first | (rw [if_pos (by decide +kernel)]; kernel_rfl) | (rw [if_neg (by decide +kernel)]; exact ⟨rfl, rfl⟩))
    (fun os started H enc _ => prints_lifted os started H enc)
theorem prints_card_holds : Rows.RequestPrintsCardSaid :=
  Claim7.holds_tied_plain_at .later [] [.data, .data, .data, .data, .pinned] true (true, "f78197b0aa6d8daaa9aca1b6d63aa349be02386f5b2a8c8cbf78d32fe0aca9a5") false prints_holds (fun _ h => by cases h) (by kernel_rfl) (fun _ h => by cases h) requestPrints_row_tie rfl ⟨rfl, rfl⟩ (by kernel_rfl) rfl
    (fun f fn hf hfn => by
      obtain rfl : f = 3 := Option.some.inj ((show Tryd.prog.funcNamed "sluicegate/sluicegatelaw15.RequestPrints" = some 3 by kernel_rfl).symm.trans hf) |>.symm
      obtain rfl : fn = Tryd.f3 := (Option.some.inj (Tryd.func3.symm.trans hfn)).symm
      exact ⟨by kernel_rfl, fun j t ht => by
        have hall : (Tryd.f3.params.toList.all fun u => !Tryd.prog.wantsStandIn u) = true := by kernel_rfl
        exact (show Tryd.prog.wantsStandIn t = false by simpa using List.all_eq_true.1 hall t (by simpa using Array.mem_of_getElem? ht))⟩)
    (by kernel_rfl)
#print axioms prints_card_holds
end Go.Proofs.YtdbeokldpdgjmaaDoor
