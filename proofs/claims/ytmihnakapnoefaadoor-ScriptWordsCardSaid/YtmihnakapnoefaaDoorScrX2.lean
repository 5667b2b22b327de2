/-
  ScriptWords: the line of every command that may be, of a key of at most 100 bytes, a value of at most 500, a text of at most 300 and lists of at most 100, has no blank at an end, no two that follow one another, and two to four words; where the command may not be the line is empty: the law returns true.
  Conditions: none beyond the row's own (the variables that it lists, tied to the program's text).
-/
import Derived.Test.YtmihnakapnoefaaDoorScrU
import Derived.Test.YtmihnakapnoefaaDoorScrJ
namespace Go.Proofs.YtmihnakapnoefaaDoor
open Go.ChangeShapes Go.WideShapes Go.ChangeAt Go.RowKit Go.WideElems

theorem blanks_take (l : List UInt8) (n : Nat) (b : UInt8) (h : l[n]? = some b) : blanks (l.take (n + 1)) = blanks (l.take n) + (if b = 32 then 1 else 0) := by
  unfold blanks
  rw [List.take_add_one, h]
  simp only [Option.toList_some, List.filter_append, List.length_append]
  by_cases hb : b = 32
  · subst hb; rfl
  · rw [if_neg hb]
    have : ([b].filter (· == 32)) = [] := by simp [hb]
    rw [this]; rfl
theorem blanks_le (l : List UInt8) (n : Nat) : blanks (l.take n) ≤ blanks l := by
  unfold blanks
  exact ((List.take_sublist n l).filter _).length_le
set_option maxHeartbeats 4000000 in
set_option maxRecDepth 100000 in
theorem words_walk (x : Cmd) (kx tx : Option Addr) (ckx ctx : Nat) (w : World) (hE : Env w)
    (h1 : BoolsAt w.heap.size w (.slice kx x.keep.length ckx) x.keep) (h2 : BoolsAt w.heap.size w (.slice tx x.torn.length ctx) x.torn) (z1 : x.keep.length ≤ maxLen) (z2 : x.torn.length ≤ maxLen) :
    Calls Tryd.prog 5 #[.agg (CmdV x (.slice kx x.keep.length ckx) (.slice tx x.torn.length ctx))] w fun e w' => e = .returned (.bool true) ∧ Kp [] w w' := by
  obtain ⟨w0, hw0⟩ : ∃ w0, w0 = w.alloc (.cells (CmdV x (.slice kx x.keep.length ckx) (.slice tx x.torn.length ctx)) 26) := ⟨_, rfl⟩
  have kw0 : Kp [] w w0 := hw0 ▸ (Kp.refl _ _).alloc _
  have hbx : w0.heap[w.heap.size]? = some (.cells (CmdV x (.slice kx x.keep.length ckx) (.slice tx x.torn.length ctx)) 26 (0, 0)) := by rw [hw0]; exact block_new _ _
  obtain ⟨a0, a1, a2, a3, a4, a5, a6, a7, a8, a9⟩ := cells10 hbx
  simp only [CmdV] at hw0 ⊢
  have Hw0 := Lib.hid hw0
  have hK := Kp.refl [] w0
  replace h1 := h1.keep0 kw0
  replace h2 := h2.keep0 kw0
  have hk0 := kw0
  clear hw0 hbx
  obtain ⟨sx, hsx⟩ : ∃ sx, sx = smallC x := ⟨_, rfl⟩
  have HSX := Lib.hid hsx
  clear hsx
  go_enter Tryd.func5, Tryd.ntmps5
  go_wp2_with fail
  rw [← Hw0.out]
  go_wp2_with fail
  refine (small_any x _ _ _ _ _ z1 z2).mono ?_
  rintro e w1 ⟨rfl, kk⟩
  rw [← HSX.out]
  replace hK := hK.trans kk
  clear kk
  cases sx with
  | false =>
    go_wp2_with fail
    refine (live_true _ (hE.keep (hk0.trans hK))).mono ?_
    rintro e wl ⟨rfl, kl⟩
    go_wp2_with fail
    go_ret
    exact ⟨rfl, (hk0.trans hK).trans kl⟩
  | true =>
  obtain ⟨s1, s2, s3, s4, s5⟩ := (smallC_iff x).1 HSX.out.symm
  clear z1 z2
  have p1 : x.rs.size < 16384 := by omega
  have p2 : x.rv.size < 16384 := by omega
  obtain ⟨⟨S, r⟩, hp⟩ : ∃ p, p = printC x := ⟨_, rfl⟩
  have HP := Lib.hid hp
  clear hp
  go_wp2_with fail
  refine (own_any x _ _ _ _ _ _ _).mono ?_
  rintro e w4 ⟨rfl, kk⟩
  replace hK := hK.trans kk
  clear kk
  go_wp2_with fail
  refine (sprint x _ _ _ _ (h1.keep0 hK) (h2.keep0 hK) (by omega) (by omega) p1 p2 (by omega) (hE.keep (hk0.trans hK)).tab).mono ?_
  rintro e w5 ⟨rfl, kk⟩
  rw [← HP.out]
  replace hK := hK.trans kk
  have hk8 := hk0.trans hK
  by_cases hr : r = 0
  · subst hr
    obtain ⟨hc, hq⟩ := printC_ok (c := x) (by rw [← HP.out])
    obtain ⟨⟨tp, t0, tm⟩, b1, b3⟩ := line_tidy hc
    have hS : S = SB (lineC x) := by have := HP.out; rw [hq] at this; exact congrArg Prod.fst this
    have hsz : (lineC x).length ≤ 100000 := by
      by_cases hx0 : x.act = 0
      · have he : checkE x.rk x.rs x.rv = 0 := by
          rcases checkC_ok hc with ⟨-, he, -⟩ | ⟨h, -⟩ | ⟨h, -⟩ | ⟨h, -⟩ | ⟨h, -⟩ | ⟨h, -⟩ | ⟨h, -⟩ | h
          · exact he
          all_goals (rw [h] at hx0; simp at hx0)
        have h1 := printL_size he
        rw [SB_size] at h1
        have h2 := line_call x hx0
        rw [h2]
        simp only [List.length_append, List.length_cons, List.length_nil]
        omega
      · have hn := (checkC_nums hc).1
        exact line_len hc (by omega) (by omega) (by omega) (by omega)
    have hL : lineC x = S.data.toList := by rw [hS]
    rw [hL] at tp t0 tm b1 b3 hsz
    have hz : S.size = S.data.toList.length := by simp
    rw [← hz] at tp hsz tm
    clear hc hq HP hL hS
    clear kk hK h1 h2 a0 a1 a2 a3 a4 a5 a6 a7 a8 a9 p1 p2 s1 s2 s3 s4 s5
    have T0 := Lib.hid t0
    have TM := Lib.hid tm
    have B1 := Lib.hid b1
    have HZ := Lib.hid hz
    clear t0 tm hz b1
    go_wp2_with fail
    go_loopg [5, 6] S.size (fun g c i wr => ∃ n k : Nat, n + g = S.size ∧ i = .int .i64 n ∧ c = .int .i64 k ∧ k ≤ 4 ∧ Hid (k = 1 + blanks (S.data.toList.take n)) ∧ wr = w5)
    case atStart => exact ⟨0, 1, by omega, rfl, rfl, by omega, Lib.hid rfl, rfl⟩
    case round =>
      obtain ⟨n, k, hn, rfl, rfl, hk4, HKN, rfl⟩ := hrel
      have HN := Lib.hid hn
      by_cases hlt : n < S.size
      · obtain ⟨g', rfl⟩ : ∃ g', gk = g' + 1 := ⟨gk - 1, by omega⟩
        clear hn
        have hltI : (n : Int) < (S.size : Int) := by omega
        have hget : S.data.toList[n]? = some S[n] := by
          rw [List.getElem?_eq_getElem (by simpa using hlt)]; rfl
        have hstep := blanks_take _ n _ hget
        have hle := blanks_le S.data.toList (n + 1)
        by_cases hb : S[n] = 32
        · have hbI : (((S[n]).toNat : Int) == 32) = true := by rw [hb]; rfl
          obtain ⟨e1, e2, e3⟩ := TM.out n (by rw [hget, hb])
          obtain ⟨m, rfl⟩ : ∃ m, n = m + 1 := ⟨n - 1, by omega⟩
          have hget2 : S.data.toList[m]? = some (S[m]'(by omega)) := by
            rw [List.getElem?_eq_getElem (by rw [← HZ.out]; omega)]; rfl
          have hb2 : (((S[m]'(by omega)).toNat : Int) == 32) = false := by
            rw [Nat.add_sub_cancel, hget2] at e3
            simp only [beq_eq_false_iff_ne, ne_eq]
            intro e
            refine e3 (congrArg some (UInt8.toNat_inj.1 ?_))
            show _ = 32
            omega
          have i0 : (((m + 1 : Nat) : Int) == 0) = false := by simp; omega
          have i1 : (((m + 1 : Nat) : Int) == (S.size : Int) - 1) = false := by simp; omega
          have i2 : ((m : Int) + 1 == 0) = false := by simp; omega
          have i3 : ((m : Int) + 1 == (S.size : Int) - 1) = false := by simp; omega
          have i4 : ((m : Int) + 1 + 1 == (S.size : Int)) = false := by simp; omega
          rw [if_pos hb] at hstep
          have hk2 : k + 1 ≤ 4 := by have := HKN.out; omega
          have hk3 : k + 1 = 1 + blanks (S.data.toList.take (m + 1 + 1)) := by have := HKN.out; omega
          have HK3 := Lib.hid hk3
          clear hstep hle e3 hget hget2 hb hk3
          go_wp2_with fail
          go_roundg g'
          case rel =>
            have hn := HN.out
            exact ⟨m + 1 + 1, k + 1, by omega, by go_num, by go_num, hk2, HK3, rfl⟩
          case measure => omega
        · have hbI : (((S[n]).toNat : Int) == 32) = false := by
            simp only [beq_eq_false_iff_ne, ne_eq]
            intro e
            refine hb (UInt8.toNat_inj.1 ?_)
            show _ = 32
            omega
          rw [if_neg hb] at hstep
          have hk3 : k = 1 + blanks (S.data.toList.take (n + 1)) := by have := HKN.out; omega
          have HK3 := Lib.hid hk3
          clear hstep hle hget hb hk3
          go_wp2_with fail
          go_roundg g'
          case rel =>
            have hn := HN.out
            exact ⟨n + 1, k, by omega, by go_num, rfl, hk4, HK3, rfl⟩
          case measure => omega
      · obtain rfl : n = S.size := by omega
        obtain rfl : gk = 0 := by omega
        clear hn HN
        have hk2 : 2 ≤ k := by
          have h := HKN.out
          rw [List.take_of_length_le (by simp)] at h
          have := B1.out
          omega
        have hk2I : (2 : Int) ≤ (k : Int) := by omega
        have hk4I : (k : Int) ≤ 4 := by omega
        go_wp2_with fail
        refine (live_true _ (hE.keep (hk8))).mono ?_
        rintro e wl ⟨rfl, kl⟩
        go_wp2_with fail
        go_ret
        exact ⟨rfl, (hk8).trans kl⟩
  · have hne : (r != 0) = true := by simpa using hr
    have hS : S = E0 := by
      have := printC_err (c := x) (by rw [← HP.out]; exact hr)
      rw [← HP.out] at this
      exact this
    subst hS
    go_wp2_with fail
    refine (live_true _ (hE.keep (hk8))).mono ?_
    rintro e wl ⟨rfl, kl⟩
    go_wp2_with fail
    go_ret
    exact ⟨rfl, (hk8).trans kl⟩

set_option maxRecDepth 100000 in
theorem words_lifted (os : Os) (started : os.Started) (H : Type) (enc : TypeId × Value → H) :
    ReturnsInHanded {} Tryd.checked os 5 .any (fun w args => (Rows.scriptWordsSpec.pre enc Tryd.prog Tryd.f5 [] false w args ∧ laidMetH Tryd.prog laidAll w) ∧ sizedMet enc Tryd.prog Tryd.f5 (OpenSpec.ofChange Rows.scriptWordsSpec) false w args) (Rows.scriptWordsSpec.post enc Tryd.prog Tryd.f5 false true false false) := by
  refine law_laid Rows.scriptWordsSpec laidAll Tryd.func5 (by kernel_rfl) Tryd.underlying4 rfl (by decide +kernel) rfl ?_ ?_ os started H enc
    (ChangeSpec.witness_shaped (enc := enc) (C := Tryd.checked) (os := os) (X := fun w _ => laidMetH Tryd.prog laidAll w) false (World.laidAll Tryd.prog os laidAll) #[.agg #[.int .i64 0, .int .i64 0, .string ⟨#[]⟩, .string ⟨#[]⟩, .int .i64 0, .int .i64 0, .int .i64 0, .string ⟨#[]⟩, .slice none 0 0, .slice none 0 0]] 8 (World.laidAll_os _ _ _)
      (World.shaped_of_ZipB (by kernel_rfl) (by kernel_rfl)) (by kernel_rfl) (by kernel_rfl) (by kernel_rfl)
      (by rw [MakeChecks.laidMetH_plain _ _ _ (by kernel_rfl)]; exact laidMet_laidAll _ (by kernel_rfl) (by kernel_rfl)))
  · intro H ds hl
    match ds, hl with | [d], _ => exact ⟨rfl, rfl, rfl⟩
  · intro W vs hvs hsh hL
    have hE := env_of_laid hsh hL
    obtain ⟨a, vs', base, rfl, hok, hrd, rfl⟩ := hvs; obtain ⟨x, kx, tx, ckx, ctx, rfl, h1, h2, z1, z2⟩ := cmd_arg hok hrd; exact words_walk x kx tx ckx ctx W hE h1 h2 z1 z2
theorem words_holds : Rows.scriptWordsRow.holds Tryd.pinned (OpenSpec.ofChange Rows.scriptWordsSpec) :=
  OpenClaim.holds_of_wide 5 Tryd.f5 rfl rfl rfl rfl rfl rfl rfl ⟨rfl, rfl, rfl, rfl, rfl⟩ rfl rfl rfl rfl rfl (by kernel_rfl) Tryd.func5 (by kernel_rfl)
    (of_decide_eq_true (by kernel_rfl)) (by unfold Func.isWrapper; first | (rw [if_pos (by decide +kernel)]; kernel_rfl) | (rw [if_neg (by decide +kernel)]; exact ⟨rfl, rfl⟩))
    (fun os started H enc _ => words_lifted os started H enc)
theorem words_card_holds : Rows.ScriptWordsCardSaid :=
  Claim7.holds_tied_plain_at .later [] [.data, .data, .data, .data, .sentinel, .sentinel, .pinned] true (true, "f66421a4cfb09f22677f3f0b17d87e72b5d10309439aab92887cdb9551ff632a") true words_holds (fun _ h => by cases h) (by kernel_rfl) (fun _ h => by cases h) scriptWords_row_tie rfl ⟨rfl, rfl⟩ (by kernel_rfl) rfl
    (fun f fn hf hfn => by
      obtain rfl : f = 5 := Option.some.inj ((show Tryd.prog.funcNamed "sluicegate/sluicegatelaw23.ScriptWords" = some 5 by kernel_rfl).symm.trans hf) |>.symm
      obtain rfl : fn = Tryd.f5 := (Option.some.inj (Tryd.func5.symm.trans hfn)).symm
      exact ⟨by kernel_rfl, fun j t ht => by
        have hall : (Tryd.f5.params.toList.all fun u => !Tryd.prog.wantsStandIn u) = true := by kernel_rfl
        exact (show Tryd.prog.wantsStandIn t = false by simpa using List.all_eq_true.1 hall t (by simpa using Array.mem_of_getElem? ht))⟩)
    (by kernel_rfl)
#print axioms words_card_holds
end Go.Proofs.YtmihnakapnoefaaDoor
