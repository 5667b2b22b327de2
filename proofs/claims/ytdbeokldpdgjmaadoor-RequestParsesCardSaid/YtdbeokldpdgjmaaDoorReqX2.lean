/-
  RequestParses: of every line of at most 2000 bytes the request and the error that the program parses are the document's: the law returns true.
  Conditions: none beyond the row's own (the tables that it lists, tied to the program's text).
-/
import Derived.Test.YtdbeokldpdgjmaaDoorReqW
namespace Go.Proofs.YtdbeokldpdgjmaaDoor
open Go.ChangeShapes Go.WideShapes Go.ChangeAt Go.RowKit Go.WideElems

set_option maxHeartbeats 2000000 in
set_option maxRecDepth 100000 in
theorem parses_walk (s : ByteArray) (w : World) (hsh : w.ShapedOpen Tryd.prog) (htab : Lib.TabIs Tryd.prog w "internal/strconv.uint64pow10" .u64 Lib.pow10Tab) :
    Calls Tryd.prog 4 #[.string s] w fun e w' => e = .returned (.bool true) ∧ Kp [] w w' := by
  go_enter Tryd.func4, Tryd.ntmps4
  by_cases hs : (s.size : Int) > 2000
  · go_wp2_with fail
    refine (live_true _ (shaped_keep hsh (Kp.refl [] w)) (htab.keep (Kp.refl [] w))).mono ?_
    rintro e wl ⟨rfl, kl⟩
    go_wp2_with fail
    go_ret
    exact ⟨rfl, (Kp.refl [] w).trans kl⟩
  have hz : s.size < 16384 := by omega
  obtain ⟨⟨⟨rk, rs, rv⟩, re⟩, hp⟩ : ∃ p, p = parseR s := ⟨_, rfl⟩
  have HP := Lib.hid hp
  clear hp
  go_wp2_with fail
  refine (qparse s hz _ hsh).mono ?_
  rintro e w1 ⟨rfl, k1⟩
  rw [← HP.out]
  simp only [reqV]
  go_wp2_with fail
  obtain ⟨w2, h2⟩ : ∃ w2, w2 = (w1).alloc (.cells #[.int .i64 rk, .string rs, .string rv] 23) := ⟨_, rfl⟩
  have b2 : (w2).heap[(w1).heap.size]? = some (.cells #[.int .i64 rk, .string rs, .string rv] 23 (0, 0)) := by rw [h2]; exact block_new _ _
  have k2 : Kp [] w1 w2 := by rw [h2]; exact (Kp.refl _ _).alloc _
  obtain ⟨c1, c2, c3, -, -, -⟩ := box3At b2
  rw [← h2]
  clear h2 b2
  refine (rparse s hz _).mono ?_
  rintro e w3 ⟨rfl, k3⟩
  rw [← HP.out]
  simp only [reqV]
  have k4 : Kp [] w2 (w3.alloc (.cells #[.int .i64 rk, .string rs, .string rv] 23)) := k3.alloc _
  go_wp2_with fail
  refine (live_true _ (shaped_keep hsh ((k1.trans k2).trans k4)) (htab.keep ((k1.trans k2).trans k4))).mono ?_
  rintro e wl ⟨rfl, kl⟩
  go_wp2_with fail
  go_ret
  exact ⟨rfl, ((k1.trans k2).trans k4).trans kl⟩

set_option maxRecDepth 100000 in
theorem parses_lifted (os : Os) (started : os.Started) (H : Type) (enc : TypeId × Value → H) :
    ReturnsInHanded {} Tryd.checked os 4 .any (fun w args => (Rows.requestParsesSpec.pre enc Tryd.prog Tryd.f4 [] false w args ∧ laidMetH Tryd.prog laidAll w) ∧ sizedMet enc Tryd.prog Tryd.f4 (OpenSpec.ofChange Rows.requestParsesSpec) false w args) (Rows.requestParsesSpec.post enc Tryd.prog Tryd.f4 false true false false) := by
  refine law_laid Rows.requestParsesSpec laidAll Tryd.func4 (by kernel_rfl) Tryd.underlying4 rfl (by decide +kernel) rfl ?_ ?_ os started H enc
    (ChangeSpec.witness_shaped (enc := enc) (C := Tryd.checked) (os := os) (X := fun w _ => laidMetH Tryd.prog laidAll w) false (World.laidAll Tryd.prog os laidAll) #[.string ⟨#[]⟩] 8 (World.laidAll_os _ _ _)
      (World.shaped_of_ZipB (by kernel_rfl) (by kernel_rfl)) (by kernel_rfl) (by kernel_rfl) (by kernel_rfl)
      (by rw [MakeChecks.laidMetH_plain _ _ _ (by kernel_rfl)]; exact laidMet_laidAll _ (by kernel_rfl) (by kernel_rfl)))
  · intro H ds hl
    match ds, hl with | [d], _ => exact ⟨rfl, rfl, rfl⟩
  · intro W vs hvs hsh hL
    have htab := tab_of_laid hL
    obtain ⟨a, vs', base, rfl, hok, hrd, rfl⟩ := hvs; obtain ⟨s, rfl⟩ := str_arg hok; exact parses_walk s W hsh htab
theorem parses_holds : Rows.requestParsesRow.holds Tryd.pinned (OpenSpec.ofChange Rows.requestParsesSpec) :=
  OpenClaim.holds_of_wide 4 Tryd.f4 rfl rfl rfl rfl rfl rfl rfl ⟨rfl, rfl, rfl, rfl, rfl⟩ rfl rfl rfl rfl rfl (by kernel_rfl) Tryd.func4 (by kernel_rfl)
    (of_decide_eq_true (by kernel_rfl)) (by unfold Func.isWrapper; first | (rw [if_pos (by decide +kernel)]; kernel_rfl) | (rw [if_neg (by decide +kernel)]; exact ⟨rfl, rfl⟩))
    (fun os started H enc _ => parses_lifted os started H enc)
theorem parses_card_holds : Rows.RequestParsesCardSaid :=
  Claim7.holds_tied_plain_at .later [] [.data, .data, .data, .data, .pinned] true (true, "f78197b0aa6d8daaa9aca1b6d63aa349be02386f5b2a8c8cbf78d32fe0aca9a5") false parses_holds (fun _ h => by cases h) (by kernel_rfl) (fun _ h => by cases h) requestParses_row_tie rfl ⟨rfl, rfl⟩ (by kernel_rfl) rfl
    (fun f fn hf hfn => by
      obtain rfl : f = 4 := Option.some.inj ((show Tryd.prog.funcNamed "sluicegate/sluicegatelaw15.RequestParses" = some 4 by kernel_rfl).symm.trans hf) |>.symm
      obtain rfl : fn = Tryd.f4 := (Option.some.inj (Tryd.func4.symm.trans hfn)).symm
      exact ⟨by kernel_rfl, fun j t ht => by
        have hall : (Tryd.f4.params.toList.all fun u => !Tryd.prog.wantsStandIn u) = true := by kernel_rfl
        exact (show Tryd.prog.wantsStandIn t = false by simpa using List.all_eq_true.1 hall t (by simpa using Array.mem_of_getElem? ht))⟩)
    (by kernel_rfl)
#print axioms parses_card_holds
end Go.Proofs.YtdbeokldpdgjmaaDoor
