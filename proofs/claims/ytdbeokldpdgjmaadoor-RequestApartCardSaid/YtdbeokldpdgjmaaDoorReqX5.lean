/-
  RequestApart: for every two requests that may be, of keys of at most 100 bytes and values of at most 1000, their lines are the same just if they are the same: the law returns true.
  Conditions: none beyond the row's own (the tables that it lists, tied to the program's text).
-/
import Derived.Test.YtdbeokldpdgjmaaDoorReqW
namespace Go.Proofs.YtdbeokldpdgjmaaDoor
open Go.ChangeShapes Go.WideShapes Go.ChangeAt Go.RowKit Go.WideElems

theorem list_ne {a b : ByteArray} (h : ¬ a = b) : (a.toList == b.toList) = false := by
  rw [ByteArray.toList_eq, ByteArray.toList_eq]
  simp only [beq_eq_false_iff_ne, ne_eq]
  exact fun e => h (bytes_inj e)
set_option maxHeartbeats 2000000 in
set_option maxRecDepth 100000 in
theorem apart_walk (k1 k2 : Int) (a1 b1 a2 b2 : ByteArray) (w : World) (hsh : w.ShapedOpen Tryd.prog) (htab : Lib.TabIs Tryd.prog w "internal/strconv.uint64pow10" .u64 Lib.pow10Tab) :
    Calls Tryd.prog 7 #[.agg #[.int .i64 k1, .string a1, .string b1], .agg #[.int .i64 k2, .string a2, .string b2]] w fun e w' => e = .returned (.bool true) ∧ Kp [] w w' := by
  go_enter Tryd.func7, Tryd.ntmps7
  obtain ⟨wz, hwz⟩ : ∃ wz, wz = (w.alloc (Obj.cells #[Value.int IntKind.i64 k1, Value.string a1, Value.string b1] 23)) := ⟨_, rfl⟩
  have kwz : Kp [] w wz := hwz ▸ (Kp.refl _ _).alloc _
  have c1 := Kp.cellAt (X := []) (w0 := wz) (p := ⟨w.heap.size, 0, none⟩) (v := .int .i64 k1) (by rw [hwz]; exact cell_of_cells (block_new _ _) rfl) (by simp)
  have c2 := Kp.cellAt (X := []) (w0 := wz) (p := ⟨w.heap.size, 1, none⟩) (v := .string a1) (by rw [hwz]; exact cell_of_cells (block_new _ _) rfl) (by simp)
  have c3 := Kp.cellAt (X := []) (w0 := wz) (p := ⟨w.heap.size, 2, none⟩) (v := .string b1) (by rw [hwz]; exact cell_of_cells (block_new _ _) rfl) (by simp)
  have Hwz := Lib.hid hwz
  clear hwz
  obtain ⟨w0, hw0⟩ : ∃ w0, w0 = (wz.alloc (Obj.cells #[Value.int IntKind.i64 k2, Value.string a2, Value.string b2] 23)) := ⟨_, rfl⟩
  have kw0 : Kp [] wz w0 := hw0 ▸ (Kp.refl _ _).alloc _
  have d1 := Kp.cellAt (X := []) (w0 := w0) (p := ⟨wz.heap.size, 0, none⟩) (v := .int .i64 k2) (by rw [hw0]; exact cell_of_cells (block_new _ _) rfl) (by simp)
  have d2 := Kp.cellAt (X := []) (w0 := w0) (p := ⟨wz.heap.size, 1, none⟩) (v := .string a2) (by rw [hw0]; exact cell_of_cells (block_new _ _) rfl) (by simp)
  have d3 := Kp.cellAt (X := []) (w0 := w0) (p := ⟨wz.heap.size, 2, none⟩) (v := .string b2) (by rw [hw0]; exact cell_of_cells (block_new _ _) rfl) (by simp)
  have Hw0 := Lib.hid hw0
  clear hw0
  have kz := kwz.trans kw0
  have hsz : wz.heap.size = w.heap.size + 1 := by rw [Hwz.out]; simp
  rw [hsz] at d1 d2 d3
  clear hsz
  replace c1 : ∀ W, Kp [] w0 W → W.cell? ⟨w.heap.size, 0, none⟩ = some (.int .i64 k1) := fun W h => c1 W (kw0.trans h)
  replace c2 : ∀ W, Kp [] w0 W → W.cell? ⟨w.heap.size, 1, none⟩ = some (.string a1) := fun W h => c2 W (kw0.trans h)
  replace c3 : ∀ W, Kp [] w0 W → W.cell? ⟨w.heap.size, 2, none⟩ = some (.string b1) := fun W h => c3 W (kw0.trans h)
  have hK := Kp.refl [] w0
  by_cases h1 : (a1.size : Int) > 100
  · go_wp2_with fail
    rw [← Hwz.out, ← Hw0.out]
    go_wp2_with fail
    refine (live_true _ (shaped_keep hsh (kz)) (htab.keep (kz))).mono ?_
    rintro e wl ⟨rfl, kl⟩
    go_wp2_with fail
    go_ret
    exact ⟨rfl, (kz).trans kl⟩
  by_cases h2 : (b1.size : Int) > 1000
  · go_wp2_with fail
    rw [← Hwz.out, ← Hw0.out]
    go_wp2_with fail
    refine (live_true _ (shaped_keep hsh (kz)) (htab.keep (kz))).mono ?_
    rintro e wl ⟨rfl, kl⟩
    go_wp2_with fail
    go_ret
    exact ⟨rfl, (kz).trans kl⟩
  by_cases h3 : (a2.size : Int) > 100
  · go_wp2_with fail
    rw [← Hwz.out, ← Hw0.out]
    go_wp2_with fail
    refine (live_true _ (shaped_keep hsh (kz)) (htab.keep (kz))).mono ?_
    rintro e wl ⟨rfl, kl⟩
    go_wp2_with fail
    go_ret
    exact ⟨rfl, (kz).trans kl⟩
  by_cases h4 : (b2.size : Int) > 1000
  · go_wp2_with fail
    rw [← Hwz.out, ← Hw0.out]
    go_wp2_with fail
    refine (live_true _ (shaped_keep hsh (kz)) (htab.keep (kz))).mono ?_
    rintro e wl ⟨rfl, kl⟩
    go_wp2_with fail
    go_ret
    exact ⟨rfl, (kz).trans kl⟩
  have z1 : a1.size < 16384 := by omega
  have z2 : b1.size < 16384 := by omega
  have z3 : a2.size < 16384 := by omega
  have z4 : b2.size < 16384 := by omega
  obtain ⟨⟨S, e1⟩, hp1⟩ : ∃ p, p = printR k1 a1 b1 := ⟨_, rfl⟩
  obtain ⟨⟨T, e2⟩, hp2⟩ : ∃ p, p = printR k2 a2 b2 := ⟨_, rfl⟩
  have HP1 := Lib.hid hp1
  have HP2 := Lib.hid hp2
  clear hp1 hp2
  go_wp2_with fail
  rw [← Hwz.out, ← Hw0.out]
  go_wp2_with fail
  refine (qprint k1 a1 b1 z1 z2 _).mono ?_
  rintro e w1 ⟨rfl, k1'⟩
  rw [← HP1.out]
  replace hK := hK.trans k1'
  clear k1'
  go_wp2_with fail
  refine (qprint k2 a2 b2 z3 z4 _).mono ?_
  rintro e w2 ⟨rfl, k2'⟩
  rw [← HP2.out]
  replace hK := hK.trans k2'
  clear k2'
  by_cases he1 : e1 = 0
  · subst he1
    by_cases he2 : e2 = 0
    · subst he2
      have hap := apart_print (k1 := k1) (k2 := k2) (a1 := a1) (b1 := b1) (a2 := a2) (b2 := b2) (by rw [← HP1.out]) (by rw [← HP2.out])
      rw [← HP1.out, ← HP2.out] at hap
      by_cases hk : k1 = k2
      · subst hk
        by_cases ha : a1 = a2
        · subst ha
          by_cases hb : b1 = b2
          · subst hb
            obtain rfl : S = T := hap.2 ⟨rfl, rfl, rfl⟩
            clear hap
            go_wp2_with fail
            refine (live_true _ (shaped_keep hsh (kz.trans hK)) (htab.keep (kz.trans hK))).mono ?_
            rintro e wl ⟨rfl, kl⟩
            go_wp2_with fail
            go_ret
            exact ⟨rfl, (kz.trans hK).trans kl⟩
          · have hST : ¬ S = T := fun e => hb (hap.1 e).2.2
            clear hap
            
            have := list_ne hST
            
            have := list_ne hb
            go_wp2_with fail
            refine (live_true _ (shaped_keep hsh (kz.trans hK)) (htab.keep (kz.trans hK))).mono ?_
            rintro e wl ⟨rfl, kl⟩
            go_wp2_with fail
            go_ret
            exact ⟨rfl, (kz.trans hK).trans kl⟩
        · have hST : ¬ S = T := fun e => ha (hap.1 e).2.1
          clear hap
          
          have := list_ne hST
          
          have := list_ne ha
          go_wp2_with fail
          refine (live_true _ (shaped_keep hsh (kz.trans hK)) (htab.keep (kz.trans hK))).mono ?_
          rintro e wl ⟨rfl, kl⟩
          go_wp2_with fail
          go_ret
          exact ⟨rfl, (kz.trans hK).trans kl⟩
      · have hST : ¬ S = T := fun e => hk (hap.1 e).1
        clear hap
        
        have := list_ne hST
        have hk' : (k1 == k2) = false := by simpa using hk
        go_wp2_with fail
        refine (live_true _ (shaped_keep hsh (kz.trans hK)) (htab.keep (kz.trans hK))).mono ?_
        rintro e wl ⟨rfl, kl⟩
        go_wp2_with fail
        go_ret
        exact ⟨rfl, (kz.trans hK).trans kl⟩
    · have hne : (e2 != 0) = true := by simpa using he2
      go_wp2_with fail
      refine (live_true _ (shaped_keep hsh (kz.trans hK)) (htab.keep (kz.trans hK))).mono ?_
      rintro e wl ⟨rfl, kl⟩
      go_wp2_with fail
      go_ret
      exact ⟨rfl, (kz.trans hK).trans kl⟩
  · have hne : (e1 != 0) = true := by simpa using he1
    go_wp2_with fail
    refine (live_true _ (shaped_keep hsh (kz.trans hK)) (htab.keep (kz.trans hK))).mono ?_
    rintro e wl ⟨rfl, kl⟩
    go_wp2_with fail
    go_ret
    exact ⟨rfl, (kz.trans hK).trans kl⟩

set_option maxRecDepth 100000 in
theorem apart_lifted (os : Os) (started : os.Started) (H : Type) (enc : TypeId × Value → H) :
    ReturnsInHanded {} Tryd.checked os 7 .any (fun w args => (Rows.requestApartSpec.pre enc Tryd.prog Tryd.f7 [] false w args ∧ laidMetH Tryd.prog laidAll w) ∧ sizedMet enc Tryd.prog Tryd.f7 (OpenSpec.ofChange Rows.requestApartSpec) false w args) (Rows.requestApartSpec.post enc Tryd.prog Tryd.f7 false true false false) := by
  refine law_laid Rows.requestApartSpec laidAll Tryd.func7 (by kernel_rfl) Tryd.underlying4 rfl (by decide +kernel) rfl ?_ ?_ os started H enc
    (ChangeSpec.witness_shaped (enc := enc) (C := Tryd.checked) (os := os) (X := fun w _ => laidMetH Tryd.prog laidAll w) false (World.laidAll Tryd.prog os laidAll) #[.agg #[.int .i64 0, .string ⟨#[]⟩, .string ⟨#[]⟩], .agg #[.int .i64 0, .string ⟨#[]⟩, .string ⟨#[]⟩]] 8 (World.laidAll_os _ _ _)
      (World.shaped_of_ZipB (by kernel_rfl) (by kernel_rfl)) (by kernel_rfl) (by kernel_rfl) (by kernel_rfl)
      (by rw [MakeChecks.laidMetH_plain _ _ _ (by kernel_rfl)]; exact laidMet_laidAll _ (by kernel_rfl) (by kernel_rfl)))
  · intro H ds hl
    match ds, hl with | [d, e], _ => exact ⟨rfl, rfl, rfl⟩
  · intro W vs hvs hsh hL
    have htab := tab_of_laid hL
    obtain ⟨a, vs', base, rfl, hok, hrd, hvs⟩ := hvs; obtain ⟨b, vs', base', rfl, hok', hrd', rfl⟩ := hvs; obtain ⟨k1, a1, b1, rfl⟩ := req_arg hok hrd; obtain ⟨k2, a2, b2, rfl⟩ := req_arg hok' hrd'; exact apart_walk k1 k2 a1 b1 a2 b2 W hsh htab
theorem apart_holds : Rows.requestApartRow.holds Tryd.pinned (OpenSpec.ofChange Rows.requestApartSpec) :=
  OpenClaim.holds_of_wide 7 Tryd.f7 rfl rfl rfl rfl rfl rfl rfl ⟨rfl, rfl, rfl, rfl, rfl⟩ rfl rfl rfl rfl rfl (by kernel_rfl) Tryd.func7 (by kernel_rfl)
    (of_decide_eq_true (by kernel_rfl)) (by unfold Func.isWrapper; first | (rw [if_pos (by decide +kernel)]; kernel_rfl) | (rw [if_neg (by decide +kernel)]; exact ⟨rfl, rfl⟩))
    (fun os started H enc _ => apart_lifted os started H enc)
theorem apart_card_holds : Rows.RequestApartCardSaid :=
  Claim7.holds_tied_plain_at .later [] [.data, .data, .data, .data, .pinned] true (true, "f78197b0aa6d8daaa9aca1b6d63aa349be02386f5b2a8c8cbf78d32fe0aca9a5") false apart_holds (fun _ h => by cases h) (by kernel_rfl) (fun _ h => by cases h) requestApart_row_tie rfl ⟨rfl, rfl⟩ (by kernel_rfl) rfl
    (fun f fn hf hfn => by
      obtain rfl : f = 7 := Option.some.inj ((show Tryd.prog.funcNamed "sluicegate/sluicegatelaw15.RequestApart" = some 7 by kernel_rfl).symm.trans hf) |>.symm
      obtain rfl : fn = Tryd.f7 := (Option.some.inj (Tryd.func7.symm.trans hfn)).symm
      exact ⟨by kernel_rfl, fun j t ht => by
        have hall : (Tryd.f7.params.toList.all fun u => !Tryd.prog.wantsStandIn u) = true := by kernel_rfl
        exact (show Tryd.prog.wantsStandIn t = false by simpa using List.all_eq_true.1 hall t (by simpa using Array.mem_of_getElem? ht))⟩)
    (by kernel_rfl)
#print axioms apart_card_holds
end Go.Proofs.YtdbeokldpdgjmaaDoor
