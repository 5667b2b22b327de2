/-
  RequestWords: the line of every request that may be, of a key of at most 100 bytes and a value of at most 1000, has no empty word, and two words, or three where it is a Put, or one where it is a List without a key; where it may not be the line is empty: the law returns true.
  Conditions: none beyond the row's own (the tables that it lists, tied to the program's text).
-/
import Derived.Test.YtdbeokldpdgjmaaDoorReqW
namespace Go.Proofs.YtdbeokldpdgjmaaDoor
open Go.ChangeShapes Go.WideShapes Go.ChangeAt Go.RowKit Go.WideElems

set_option maxHeartbeats 2000000 in
set_option maxRecDepth 100000 in
theorem words_walk (kd : Int) (k v : ByteArray) (w : World) (hsh : w.ShapedOpen Tryd.prog) (htab : Lib.TabIs Tryd.prog w "internal/strconv.uint64pow10" .u64 Lib.pow10Tab) :
    Calls Tryd.prog 8 #[.agg #[.int .i64 kd, .string k, .string v]] w fun e w' => e = .returned (.bool true) ∧ Kp [] w w' := by
  go_enter Tryd.func8, Tryd.ntmps8
  obtain ⟨w0, hw0⟩ : ∃ w0, w0 = (w.alloc (Obj.cells #[Value.int IntKind.i64 kd, Value.string k, Value.string v] 23)) := ⟨_, rfl⟩
  have kw0 : Kp [] w w0 := hw0 ▸ (Kp.refl _ _).alloc _
  have c1 := Kp.cellAt (X := []) (w0 := w0) (p := ⟨w.heap.size, 0, none⟩) (v := .int .i64 kd) (by rw [hw0]; exact cell_of_cells (block_new _ _) rfl) (by simp)
  have c2 := Kp.cellAt (X := []) (w0 := w0) (p := ⟨w.heap.size, 1, none⟩) (v := .string k) (by rw [hw0]; exact cell_of_cells (block_new _ _) rfl) (by simp)
  have c3 := Kp.cellAt (X := []) (w0 := w0) (p := ⟨w.heap.size, 2, none⟩) (v := .string v) (by rw [hw0]; exact cell_of_cells (block_new _ _) rfl) (by simp)
  have Hw0 := Lib.hid hw0
  clear hw0
  have hK := Kp.refl [] w0
  by_cases hs : (k.size : Int) > 100
  · go_wp2_with fail
    rw [← Hw0.out]
    go_wp2_with fail
    refine (live_true _ (shaped_keep hsh (kw0)) (htab.keep (kw0))).mono ?_
    rintro e wl ⟨rfl, kl⟩
    go_wp2_with fail
    go_ret
    exact ⟨rfl, (kw0).trans kl⟩
  by_cases hs2 : (v.size : Int) > 1000
  · go_wp2_with fail
    rw [← Hw0.out]
    go_wp2_with fail
    refine (live_true _ (shaped_keep hsh (kw0)) (htab.keep (kw0))).mono ?_
    rintro e wl ⟨rfl, kl⟩
    go_wp2_with fail
    go_ret
    exact ⟨rfl, (kw0).trans kl⟩
  have hk : k.size < 16384 := by omega
  have hv : v.size < 16384 := by omega
  obtain ⟨⟨S, ce⟩, hp⟩ : ∃ p, p = printR kd k v := ⟨_, rfl⟩
  have HP := Lib.hid hp
  have hwp := words_print (kind := kd) (k := k) (v := v)
  have her := print_err (kind := kd) (k := k) (v := v)
  rw [← HP.out] at hwp her
  clear hp
  have hS : S.size < 16384 := by
    have h1 := congrArg Prod.fst HP.out
    simp only at h1
    rw [h1]
    have := print_size kd k v
    omega
  go_wp2_with fail
  rw [← Hw0.out]
  go_wp2_with fail
  refine (qprint kd k v hk hv _).mono ?_
  rintro e w1 ⟨rfl, k1⟩
  rw [← HP.out]
  have hK := hK.trans k1
  by_cases hce : ce = 0
  · subst hce
    obtain ⟨hall, hcount⟩ := hwp rfl
    have HA := Lib.hid hall
    have HC := Lib.hid hcount
    clear hall hcount hwp her
    go_wp2_with fail
    refine (rwords S hS _).mono ?_
    rintro e w2 ⟨u, rfl, ⟨xs, hxs, hown⟩, k2⟩
    have hK := hK.trans k2
    have HX := Lib.hid hxs
    obtain ⟨av, cv, rfl⟩ := ownsRow_ex hown
    have hsl := SliceAt.of_owns hown
    clear hxs hown
    have hx3 : xs.length ≤ 3 := by
      have h1 := HC.out
      have h2 : xs.length = (wordsOf S.data.toList).length := by rw [← HX.out, List.length_map]
      omega
    go_wp2_with fail
    go_loopg [6] xs.length (fun g i wr => ∃ n : Nat, n + g = xs.length ∧ i = .int .i64 n ∧ wr = w2)
    case atStart => exact ⟨0, by omega, rfl, rfl⟩
    case round =>
      obtain ⟨n, hn, rfl, rfl⟩ := hrel
      have HN := Lib.hid hn
      by_cases hlt : n < xs.length
      · obtain ⟨g', rfl⟩ : ∃ g', gk = g' + 1 := ⟨gk - 1, by omega⟩
        clear hn
        have hltI : (n : Int) < (xs.length : Int) := by omega
        obtain ⟨g, o, c, hv', e1⟩ := strs_at hsl n hlt
        simp only [Value.slice.injEq] at hv'
        obtain ⟨rfl, -, rfl⟩ := hv'
        have hne : xs[n].data.toList ≠ [] := HA.out _ (by rw [← HX.out]; exact List.mem_map_of_mem (List.getElem_mem hlt))
        obtain ⟨x, hx⟩ : ∃ x, x = xs[n] := ⟨_, rfl⟩
        rw [← hx] at e1 hne
        have he : x.toList.isEmpty = false := by
          rw [ByteArray.toList_eq]
          cases hl : x.data.toList with
          | nil => exact absurd hl hne
          | cons => rfl
        clear hx hne
        go_wp2_with fail
        go_roundg g'
        case rel =>
          have hn := HN.out
          exact ⟨n + 1, by omega, by go_num, rfl⟩
        case measure => omega
      · obtain rfl : n = xs.length := by omega
        obtain rfl : gk = 0 := by omega
        clear hn
        have hlen : xs.length = (wordsOf S.data.toList).length := by rw [← HX.out, List.length_map]
        have hcount := HC.out
        rw [← hlen] at hcount
        clear hlen
        rcases hcount with ⟨h3, rfl⟩ | h2 | ⟨h1, rfl, rfl⟩
        · rw [h3] at hsl hlt ⊢
          clear hx3
          clear HN h3
          go_wp2_with fail
          refine (live_true _ (shaped_keep hsh (kw0.trans hK)) (htab.keep (kw0.trans hK))).mono ?_
          rintro e wl ⟨rfl, kl⟩
          go_wp2_with fail
          go_ret
          exact ⟨rfl, (kw0.trans hK).trans kl⟩
        · rw [h2] at hsl hlt ⊢
          clear hx3
          clear HN h2
          go_wp2_with fail
          refine (live_true _ (shaped_keep hsh (kw0.trans hK)) (htab.keep (kw0.trans hK))).mono ?_
          rintro e wl ⟨rfl, kl⟩
          go_wp2_with fail
          go_ret
          exact ⟨rfl, (kw0.trans hK).trans kl⟩
        · rw [h1] at hsl hlt ⊢
          clear hx3
          clear HN h1
          go_wp2_with fail
          refine (live_true _ (shaped_keep hsh (kw0.trans hK)) (htab.keep (kw0.trans hK))).mono ?_
          rintro e wl ⟨rfl, kl⟩
          go_wp2_with fail
          go_ret
          exact ⟨rfl, (kw0.trans hK).trans kl⟩
  · have hne : (ce != 0) = true := by simpa using hce
    obtain rfl := her hce
    clear hwp her
    go_wp2_with fail
    refine (live_true _ (shaped_keep hsh (kw0.trans hK)) (htab.keep (kw0.trans hK))).mono ?_
    rintro e wl ⟨rfl, kl⟩
    go_wp2_with fail
    go_ret
    exact ⟨rfl, (kw0.trans hK).trans kl⟩

set_option maxRecDepth 100000 in
theorem words_lifted (os : Os) (started : os.Started) (H : Type) (enc : TypeId × Value → H) :
    ReturnsInHanded {} Tryd.checked os 8 .any (fun w args => (Rows.requestWordsSpec.pre enc Tryd.prog Tryd.f8 [] false w args ∧ laidMetH Tryd.prog laidAll w) ∧ sizedMet enc Tryd.prog Tryd.f8 (OpenSpec.ofChange Rows.requestWordsSpec) false w args) (Rows.requestWordsSpec.post enc Tryd.prog Tryd.f8 false true false false) := by
  refine law_laid Rows.requestWordsSpec laidAll Tryd.func8 (by kernel_rfl) Tryd.underlying4 rfl (by decide +kernel) rfl ?_ ?_ os started H enc
    (ChangeSpec.witness_shaped (enc := enc) (C := Tryd.checked) (os := os) (X := fun w _ => laidMetH Tryd.prog laidAll w) false (World.laidAll Tryd.prog os laidAll) #[.agg #[.int .i64 0, .string ⟨#[]⟩, .string ⟨#[]⟩]] 8 (World.laidAll_os _ _ _)
      (World.shaped_of_ZipB (by kernel_rfl) (by kernel_rfl)) (by kernel_rfl) (by kernel_rfl) (by kernel_rfl)
      (by rw [MakeChecks.laidMetH_plain _ _ _ (by kernel_rfl)]; exact laidMet_laidAll _ (by kernel_rfl) (by kernel_rfl)))
  · intro H ds hl
    match ds, hl with | [d], _ => exact ⟨rfl, rfl, rfl⟩
  · intro W vs hvs hsh hL
    have htab := tab_of_laid hL
    obtain ⟨a, vs', base, rfl, hok, hrd, rfl⟩ := hvs; obtain ⟨kd, k, u, rfl⟩ := req_arg hok hrd; exact words_walk kd k u W hsh htab
theorem words_holds : Rows.requestWordsRow.holds Tryd.pinned (OpenSpec.ofChange Rows.requestWordsSpec) :=
  OpenClaim.holds_of_wide 8 Tryd.f8 rfl rfl rfl rfl rfl rfl rfl ⟨rfl, rfl, rfl, rfl, rfl⟩ rfl rfl rfl rfl rfl (by kernel_rfl) Tryd.func8 (by kernel_rfl)
    (of_decide_eq_true (by kernel_rfl)) (by unfold Func.isWrapper; first | (rw [if_pos (by decide +kernel)]; kernel_rfl) | (rw [if_neg (by decide +kernel)]; exact ⟨rfl, rfl⟩))
    (fun os started H enc _ => words_lifted os started H enc)
theorem words_card_holds : Rows.RequestWordsCardSaid :=
  Claim7.holds_tied_plain_at .later [] [.data, .data, .data, .data, .pinned] true (true, "f78197b0aa6d8daaa9aca1b6d63aa349be02386f5b2a8c8cbf78d32fe0aca9a5") false words_holds (fun _ h => by cases h) (by kernel_rfl) (fun _ h => by cases h) requestWords_row_tie rfl ⟨rfl, rfl⟩ (by kernel_rfl) rfl
    (fun f fn hf hfn => by
      obtain rfl : f = 8 := Option.some.inj ((show Tryd.prog.funcNamed "sluicegate/sluicegatelaw15.RequestWords" = some 8 by kernel_rfl).symm.trans hf) |>.symm
      obtain rfl : fn = Tryd.f8 := (Option.some.inj (Tryd.func8.symm.trans hfn)).symm
      exact ⟨by kernel_rfl, fun j t ht => by
        have hall : (Tryd.f8.params.toList.all fun u => !Tryd.prog.wantsStandIn u) = true := by kernel_rfl
        exact (show Tryd.prog.wantsStandIn t = false by simpa using List.all_eq_true.1 hall t (by simpa using Array.mem_of_getElem? ht))⟩)
    (by kernel_rfl)
#print axioms words_card_holds
end Go.Proofs.YtdbeokldpdgjmaaDoor
