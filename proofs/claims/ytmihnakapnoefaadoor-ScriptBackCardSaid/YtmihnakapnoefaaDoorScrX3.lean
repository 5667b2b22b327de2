/-
  ScriptBack: the line of every command, of a key of at most 100 bytes, a value of at most 500, a text of at most 300 and lists of at most 100, is parsed as the command, where there is one; of every line of at most 2000 bytes the command that is parsed is printed as the line, and where there is an error the command is the empty one: the law returns true.
  Conditions: none beyond the row's own (the variables that it lists, tied to the program's text).
-/
import Derived.Test.YtmihnakapnoefaaDoorScrU
namespace Go.Proofs.YtmihnakapnoefaaDoor
open Go.ChangeShapes Go.WideShapes Go.ChangeAt Go.RowKit Go.WideElems

theorem pwL_small {c : Cmd} (h : checkC c = 0) (hk : c.keep.length ≤ 100) (ht : c.torn.length ≤ 100) (hx : c.text.size ≤ 300) (p : Nat × Nat) : (pwL c p).length ≤ 700 := by
  obtain ⟨-, ⟨-, h1⟩, ⟨-, h2⟩, ⟨-, h3⟩⟩ := checkC_nums h
  have := numL_len h1
  have := numL_len h2
  have := numL_len h3
  have hd := digits_len c.text.data.toList
  rw [len_data] at hd
  have := marksW_len c.keep
  have := marksW_len c.torn
  unfold pwL
  repeat' split
  all_goals omega
theorem small_line {c : Cmd} (h : checkC c = 0) (hk : c.keep.length ≤ 100) (ht : c.torn.length ≤ 100) (hx : c.text.size ≤ 300) (hs : c.rs.size ≤ 100) (hv : c.rv.size ≤ 500) : (lineC c).length ≤ 10000 := by
  by_cases hx0 : c.act = 0
  · have he : checkE c.rk c.rs c.rv = 0 := by
      rcases checkC_ok h with ⟨-, he, -⟩ | ⟨h, -⟩ | ⟨h, -⟩ | ⟨h, -⟩ | ⟨h, -⟩ | ⟨h, -⟩ | ⟨h, -⟩ | h
      · exact he
      all_goals (rw [h] at hx0; simp at hx0)
    have h1 := printL_size he
    rw [SB_size] at h1
    rw [line_call c hx0]
    simp only [List.length_append, List.length_cons, List.length_nil]
    omega
  · have hn := (checkC_nums h).1
    have h7 := hn.2
    unfold lineC
    rw [parts_words c (by omega) h7, Lib.join_length]
    have hl : Lib.lens ((partsK c.act).map (pwL c)) ≤ ((partsK c.act).map (pwL c)).length * 700 := lens_le 700 _ (fun x hx' => by
      obtain ⟨p, -, rfl⟩ := List.mem_map.1 hx'
      exact pwL_small h hk ht hx p)
    have h3 := parts_le c.act
    have hn := name_len c.act
    have e : Lib.lens (nameA c.act :: (partsK c.act).map (pwL c)) = (nameA c.act).length + Lib.lens ((partsK c.act).map (pwL c)) := by simp [Lib.lens]
    rw [List.length_map] at hl
    rw [e, List.length_map]
    simp only [List.length_cons, List.length_nil]
    omega
theorem req_sizes {kd : Int} {k v : ByteArray} (h : checkE kd k v = 0) : k.size < 16384 ∧ v.size < 16384 := by
  have key : ∀ {k : ByteArray}, keyOk k = true → k.size ≤ 32 := by
    intro k h
    unfold keyOk at h
    simp only [Bool.and_eq_true, decide_eq_true_eq] at h
    exact h.2.2
  rcases check_ok h with ⟨rfl, hk⟩ | ⟨-, rfl, hk⟩ | ⟨-, rfl, rfl⟩
  · refine ⟨by have := key hk; omega, ?_⟩
    unfold checkE at h
    rw [if_neg (by omega), if_neg (by omega), if_neg (by simp), if_neg (by simp)] at h
    unfold needleE at h
    rw [hk] at h
    simp only [if_true] at h
    split at h
    · cases h
    · omega
  · exact ⟨by have := key hk; omega, by decide⟩
  · exact ⟨by decide, by decide⟩
theorem e0lt : E0.size < 16384 := by decide
theorem e0le : E0.size ≤ 10000 := by decide
theorem digits_low (l : List UInt8) : l.length ≤ (digitsL l).length := by
  unfold digitsL
  split
  · rename_i e; rw [e]; simp
  · rw [hexL_len]; omega
theorem marks_low (l : List Bool) : l.length ≤ (marksW l).length := by
  rw [marks_mark]; split
  · rename_i e; rw [e]; simp
  · rw [List.length_map]; exact Nat.le_refl _
theorem cmd_sizes {c : Cmd} (h : checkC c = 0) (hl : (lineC c).length ≤ 2000) : c.rs.size < 16384 ∧ c.rv.size < 16384 ∧ c.text.size ≤ 10000 ∧ c.keep.length ≤ 10000 ∧ c.torn.length ≤ 10000 := by
  rcases checkC_ok h with ⟨-, he, hc⟩ | ⟨hc, -⟩ | ⟨hc, -⟩ | ⟨hc, -⟩ | ⟨hc, -⟩ | ⟨hc, -⟩ | ⟨hc, -⟩ | hc
  · obtain ⟨a, b⟩ := req_sizes he
    rw [hc]
    exact ⟨a, b, e0le, by simp, by simp⟩
  · rw [hc]; exact ⟨e0lt, e0lt, e0le, by simp, by simp⟩
  · rw [hc]; exact ⟨e0lt, e0lt, e0le, by simp, by simp⟩
  · rw [hc]; exact ⟨e0lt, e0lt, e0le, by simp, by simp⟩
  · have hd := digits_low c.text.data.toList
    rw [len_data] at hd
    have hb : (digitsL c.text.data.toList).length ≤ 2000 := by
      have e : lineC c = Lib.join [wordA 4, numL c.a, numL c.n, digitsL c.text.data.toList] [32] := by rw [hc]; rfl
      rw [e, Lib.join_length] at hl
      simp only [Lib.lens, List.map_cons, List.map_nil, List.sum_cons, List.sum_nil] at hl
      omega
    rw [hc]; exact ⟨e0lt, e0lt, by show c.text.size ≤ 10000; omega, by simp, by simp⟩
  · rw [hc]; exact ⟨e0lt, e0lt, e0le, by simp, by simp⟩
  · rw [hc]; exact ⟨e0lt, e0lt, e0le, by simp, by simp⟩
  · have hk := marks_low c.keep
    have ht := marks_low c.torn
    have e : lineC c = Lib.join [wordA 7, marksW c.keep, marksW c.torn] [32] := by rw [hc]; rfl
    rw [e, Lib.join_length] at hl
    simp only [Lib.lens, List.map_cons, List.map_nil, List.sum_cons, List.sum_nil] at hl
    rw [hc]; exact ⟨e0lt, e0lt, e0le, by show c.keep.length ≤ 10000; omega, by show c.torn.length ≤ 10000; omega⟩
set_option maxHeartbeats 8000000 in
set_option maxRecDepth 100000 in
theorem back_walk (x : Cmd) (kx tx : Option Addr) (ckx ctx : Nat) (s : ByteArray) (w : World) (hE : Env w)
    (h1 : BoolsAt w.heap.size w (.slice kx x.keep.length ckx) x.keep) (h2 : BoolsAt w.heap.size w (.slice tx x.torn.length ctx) x.torn) (z1 : x.keep.length ≤ maxLen) (z2 : x.torn.length ≤ maxLen) :
    Calls Tryd.prog 3 #[.agg (CmdV x (.slice kx x.keep.length ckx) (.slice tx x.torn.length ctx)), .string s] w fun e w' => e = .returned (.bool true) ∧ Kp [] w w' := by
  obtain ⟨w0, hw0⟩ : ∃ w0, w0 = w.alloc (.cells (CmdV x (.slice kx x.keep.length ckx) (.slice tx x.torn.length ctx)) 26) := ⟨_, rfl⟩
  have kw0 : Kp [] w w0 := hw0 ▸ (Kp.refl _ _).alloc _
  have hbx : w0.heap[w.heap.size]? = some (.cells (CmdV x (.slice kx x.keep.length ckx) (.slice tx x.torn.length ctx)) 26 (0, 0)) := by rw [hw0]; exact block_new _ _
  obtain ⟨a0, a1, a2, a3, a4, a5, a6, a7, a8, a9⟩ := cells10 hbx
  have HBX := Lib.hid hbx
  simp only [CmdV] at hw0 ⊢
  have Hw0 := Lib.hid hw0
  have hK := Kp.refl [] w0
  replace h1 := h1.keep0 kw0
  replace h2 := h2.keep0 kw0
  have hk0 := kw0
  clear hw0 hbx
  obtain ⟨sx, hsx⟩ : ∃ sx, sx = smallC x := ⟨_, rfl⟩
  have HSX := Lib.hid hsx
  clear hsx
  go_enter Tryd.func3, Tryd.ntmps3
  go_wp2_with fail
  rw [← Hw0.out]
  go_wp2_with fail
  refine (small_any x _ _ _ _ _ z1 z2).mono ?_
  rintro e w1 ⟨rfl, kk⟩
  rw [← HSX.out]
  replace hK := hK.trans kk
  clear kk
  cases sx with
  | false =>
    go_wp2_with fail
    refine (live_true _ (hE.keep (hk0.trans hK))).mono ?_
    rintro e wl ⟨rfl, kl⟩
    go_wp2_with fail
    go_ret
    exact ⟨rfl, (hk0.trans hK).trans kl⟩
  | true =>
  obtain ⟨s1, s2, s3, s4, s5⟩ := (smallC_iff x).1 HSX.out.symm
  clear z1 z2
  by_cases hs : (s.size : Int) > 2000
  · go_wp2_with fail
    refine (live_true _ (hE.keep (hk0.trans hK))).mono ?_
    rintro e wl ⟨rfl, kl⟩
    go_wp2_with fail
    go_ret
    exact ⟨rfl, (hk0.trans hK).trans kl⟩
  have hz : s.size < 16384 := by omega
  have p1 : x.rs.size < 16384 := by omega
  have p2 : x.rv.size < 16384 := by omega
  obtain ⟨⟨S, r⟩, hp⟩ : ∃ p, p = printC x := ⟨_, rfl⟩
  have HP := Lib.hid hp
  clear hp
  go_wp2_with fail
  refine (own_any x _ _ _ _ _ _ _).mono ?_
  rintro e w4 ⟨rfl, kk⟩
  replace hK := hK.trans kk
  clear kk
  go_wp2_with fail
  refine (sprint x _ _ _ _ (h1.keep0 hK) (h2.keep0 hK) (by omega) (by omega) p1 p2 (by omega) (hE.keep (hk0.trans hK)).tab).mono ?_
  rintro e w5 ⟨rfl, kk⟩
  rw [← HP.out]
  replace hK := hK.trans kk
  clear kk
  have hk8 := hk0.trans hK
  by_cases hr : r = 0
  · subst hr
    obtain ⟨hc, hq⟩ := printC_ok (c := x) (by rw [← HP.out])
    have hS : S = SB (lineC x) := by have := HP.out; rw [hq] at this; exact congrArg Prod.fst this
    have hSz : S.size < 16384 := by rw [hS, SB_size]; have := small_line hc (by omega) (by omega) (by omega) (by omega) (by omega); omega
    have hbk : parseC S = (x, 0) := by rw [hS]; exact back_printC hc
    have HBK := Lib.hid hbk
    clear hc hq hS hbk
    go_wp2_with fail
    refine (sparse S hSz _ (hE.keep hk8)).mono ?_
    rintro e w6 ⟨kv, tv, rfl, q1, q2, kk⟩
    rw [HBK.out] at q1 q2 ⊢
    simp only at q1 q2
    obtain ⟨ka, kc, rfl⟩ := slice_ex q1
    obtain ⟨ta, tc, rfl⟩ := slice_ex q2
    simp only [CmdV]
    replace hK := hK.trans kk
    have hsz6 : w.heap.size ≤ w6.heap.size := (hk0.trans hK).size
    clear kk
    go_wp2_with fail
    obtain ⟨u1, hu1⟩ : ∃ u1, u1 = w6.alloc (.cells (CmdV x (.slice ka x.keep.length kc) (.slice ta x.torn.length tc)) 32) := ⟨_, rfl⟩
    have b2 : u1.heap[w6.heap.size]? = some (.cells (CmdV x (.slice ka x.keep.length kc) (.slice ta x.torn.length tc)) 32 (0, 0)) := by rw [hu1]; exact block_new _ _
    have kk : Kp [] w6 u1 := hu1 ▸ (Kp.refl _ _).alloc _
    obtain ⟨c0, c1, c2, c3, c4, c5, c6, c7, c8, c9⟩ := cells10 b2
    simp only [CmdV] at hu1
    rw [← hu1]
    replace hK := hK.trans kk
    have hbx := Kp.blockAt (X := []) HBX.out (by simp) _ hK
    obtain ⟨a0, a1, a2, a3, a4, a5, a6, a7, a8, a9⟩ := cells10 hbx
    replace q1 := q1.keep0 kk
    replace q2 := q2.keep0 kk
    replace h1 := (h1.keep0 hK).up (B' := w6.heap.size) hsz6
    replace h2 := (h2.keep0 hK).up (B' := w6.heap.size) hsz6
    have hkk := hk0.trans hK
    have hsame : sameC x x = true := (sameC_iff x x).2 rfl
    have HSM := Lib.hid hsame
    clear hu1 b2 kk hbx hsame hk8
    have hU := Kp.refl [] u1
    go_wp2_with fail
    refine wpB_begin 999 (Kp [] u1) (by kernel_rfl) (by exact hU.drew) (fun hHeld => ?_)
    refine wpB_take 0 _ ?_ rfl (by kernel_rfl) (fun _ _ _ h => h) rfl hHeld ?_ ?_
    rotate_left
    · (intro W hW; go_simp; try with_reducible rfl)
    try simp only [Act.put, List.setIfInBounds_toArray, List.set_cons_zero, List.set_cons_succ]
    refine wpB_take 1 _ ?_ rfl (by kernel_rfl) (fun _ _ _ h => h) rfl hHeld ?_ ?_
    rotate_left
    · (intro W hW; go_simp; try with_reducible rfl)
    try simp only [Act.put, List.setIfInBounds_toArray, List.set_cons_zero, List.set_cons_succ]
    refine wpB_step 2 _ rfl (by kernel_rfl) rfl rfl (fun K hK_ => ?_)
    go_simp
    refine (own_any x _ _ _ _ _ _ _).mono ?_
    rintro e w3 ⟨rfl, kk⟩
    refine hK_.out _ _ (by exact hHeld.trans kk) (fun hHeld => ?_)
    clear hK_ K
    try simp only [Act.put, List.setIfInBounds_toArray, List.set_cons_zero, List.set_cons_succ]
    refine wpB_step 3 _ rfl (by kernel_rfl) rfl rfl (fun K hK_ => ?_)
    go_simp
    refine (ssame x x _ _ _ _ _ _ (q1.keep0 hHeld) (q2.keep0 hHeld) (h1.keep0 hHeld) (h2.keep0 hHeld) (by omega) (by omega)).mono ?_
    rintro e w3 ⟨rfl, kk⟩
    rw [HSM.out]
    refine hK_.out _ _ (by exact hHeld.trans kk) (fun hHeld => ?_)
    clear hK_ K
    try simp only [Act.put, List.setIfInBounds_toArray, List.set_cons_zero, List.set_cons_succ]
    refine wpB_take 4 _ ?_ rfl (by kernel_rfl) (fun _ _ _ h => h) rfl hHeld ?_ ?_
    rotate_left
    · (intro W hW; go_simp; try with_reducible rfl)
    try simp only [Act.put, List.setIfInBounds_toArray, List.set_cons_zero, List.set_cons_succ]
    refine wpB_take 5 _ ?_ rfl (by kernel_rfl) (fun _ _ _ h => h) rfl hHeld ?_ ?_
    rotate_left
    · (intro W hW; go_simp; try with_reducible rfl)
    try simp only [Act.put, List.setIfInBounds_toArray, List.set_cons_zero, List.set_cons_succ]
    refine wpB_take 6 _ ?_ rfl (by kernel_rfl) (fun _ _ _ h => h) rfl hHeld ?_ ?_
    rotate_left
    · (intro W hW; go_simp; try with_reducible rfl)
    try simp only [Act.put, List.setIfInBounds_toArray, List.set_cons_zero, List.set_cons_succ]
    refine wpB_take 7 _ ?_ rfl (by kernel_rfl) (fun _ _ _ h => h) rfl hHeld ?_ ?_
    rotate_left
    · (intro W hW; go_simp; try with_reducible rfl)
    try simp only [Act.put, List.setIfInBounds_toArray, List.set_cons_zero, List.set_cons_succ]
    refine wpB_take 8 _ ?_ rfl (by kernel_rfl) (fun _ _ _ h => h) rfl hHeld ?_ ?_
    rotate_left
    · (intro W hW; go_simp; try with_reducible rfl)
    try simp only [Act.put, List.setIfInBounds_toArray, List.set_cons_zero, List.set_cons_succ]
    refine wpB_done (by kernel_rfl) ?_ _
    replace hkk := hkk.trans hHeld
    clear q1 q2 h1 h2 c0 c1 c2 c3 c4 c5 c6 c7 c8 c9 a0 a1 a2 a3 a4 a5 a6 a7 a8 a9 hU hHeld
    go_wp2_with fail
    -- the line that came in
    refine (sparse s hz _ (hE.keep (hkk))).mono ?_
    rintro e wa ⟨kv, tv, rfl, q1, q2, kk⟩
    obtain ⟨⟨y, g⟩, hp⟩ : ∃ p, p = parseC s := ⟨_, rfl⟩
    have hback := back_parseC s
    have hperr := parseC_err s
    rw [← hp] at hback hperr q1 q2 ⊢
    simp only at hback hperr q1 q2
    obtain ⟨ka, kc, rfl⟩ := slice_ex q1
    obtain ⟨ta, tc, rfl⟩ := slice_ex q2
    have hka := (hkk).trans kk
    clear kk hp
    by_cases hg : g = 0
    · subst hg
      obtain ⟨hc, hl⟩ := hback rfl
      have hsz := cmd_sizes hc (by have := congrArg ByteArray.size hl; rw [SB_size] at this; omega)
      have hpr : printC y = (s, 0) := by unfold printC; rw [if_pos hc, hl]
      have HPR := Lib.hid hpr
      clear hback hperr hc hl hpr
      simp only [CmdV]
      go_wp2_with fail
      obtain ⟨u1, h2⟩ : ∃ u1, u1 = wa.alloc (.cells (CmdV y (.slice ka y.keep.length kc) (.slice ta y.torn.length tc)) 32) := ⟨_, rfl⟩
      have b2 : u1.heap[wa.heap.size]? = some (.cells (CmdV y (.slice ka y.keep.length kc) (.slice ta y.torn.length tc)) 32 (0, 0)) := by rw [h2]; exact block_new _ _
      have kk : Kp [] wa u1 := h2 ▸ (Kp.refl _ _).alloc _
      obtain ⟨c0, c1, c2, c3, c4, c5, c6, c7, c8, c9⟩ := cells10 b2
      simp only [CmdV] at h2
      rw [← h2]
      have hU := Kp.refl [] u1
      replace q1 := q1.keep0 kk
      replace q2 := q2.keep0 kk
      have hku := hka.trans kk
      clear h2 b2 kk
      go_wp2_with fail
      refine (sprint y _ _ _ _ q1 q2 hsz.2.2.2.1 hsz.2.2.2.2 hsz.1 hsz.2.1 hsz.2.2.1 (hE.keep hku).tab).mono ?_
      rintro e wc ⟨rfl, kc⟩
      rw [HPR.out]
      have hkc := hku.trans kc
      clear q1 q2 c0 c1 c2 c3 c4 c5 c6 c7 c8 c9
      go_wp2_with fail
      refine (live_true _ (hE.keep (hkc))).mono ?_
      rintro e wl ⟨rfl, kl⟩
      go_wp2_with fail
      go_ret
      exact ⟨rfl, (hkc).trans kl⟩
    · obtain rfl := hperr hg
      have hne : (g != 0) = true := by simpa using hg
      clear hback hperr
      simp only [CmdV, zeroCmd]
      go_wp2_with fail
      obtain ⟨u1, h2⟩ : ∃ u1, u1 = wa.alloc (.cells #[.int .i64 0, .int .i64 0, .string E0, .string E0, .int .i64 0, .int .i64 0, .int .i64 0, .string E0, .slice ka 0 kc, .slice ta 0 tc] 32) := ⟨_, rfl⟩
      have b2 : u1.heap[wa.heap.size]? = some (.cells #[.int .i64 0, .int .i64 0, .string E0, .string E0, .int .i64 0, .int .i64 0, .int .i64 0, .string E0, .slice ka 0 kc, .slice ta 0 tc] 32 (0, 0)) := by rw [h2]; exact block_new _ _
      have kk : Kp [] wa u1 := h2 ▸ (Kp.refl _ _).alloc _
      obtain ⟨c0, c1, c2, c3, c4, c5, c6, c7, c8, c9⟩ := cells10 b2
      simp only [List.length_nil] at h2 ⊢
      rw [← h2]
      have hU := Kp.refl [] u1
      have q1' := q1.keep0 kk
      have q2' := q2.keep0 kk
      have hku := hka.trans kk
      have hn := (nilBools wa).keep0 kk
      have hsame : sameC zeroCmd zeroCmd = true := by decide +kernel
      have HSM := Lib.hid hsame
      clear h2 b2 kk q1 q2 hsame
      go_wp2_with fail
      refine (ssame zeroCmd zeroCmd _ _ _ _ _ _ q1' q2' hn hn (by decide) (by decide)).mono ?_
      rintro e wc ⟨rfl, kc⟩
      rw [HSM.out]
      have hkc := hku.trans kc
      clear q1' q2' hn c0 c1 c2 c3 c4 c5 c6 c7 c8 c9
      go_wp2_with fail
      refine (live_true _ (hE.keep (hkc))).mono ?_
      rintro e wl ⟨rfl, kl⟩
      go_wp2_with fail
      go_ret
      exact ⟨rfl, (hkc).trans kl⟩
  · have hne : (r != 0) = true := by simpa using hr
    have hne2 : (r == 0) = false := by simpa using hr
    clear h1 h2 a0 a1 a2 a3 a4 a5 a6 a7 a8 a9
    go_wp2_with fail
    -- the line that came in
    refine (sparse s hz _ (hE.keep (hk8))).mono ?_
    rintro e wa ⟨kv, tv, rfl, q1, q2, kk⟩
    obtain ⟨⟨y, g⟩, hp⟩ : ∃ p, p = parseC s := ⟨_, rfl⟩
    have hback := back_parseC s
    have hperr := parseC_err s
    rw [← hp] at hback hperr q1 q2 ⊢
    simp only at hback hperr q1 q2
    obtain ⟨ka, kc, rfl⟩ := slice_ex q1
    obtain ⟨ta, tc, rfl⟩ := slice_ex q2
    have hka := (hk8).trans kk
    clear kk hp
    by_cases hg : g = 0
    · subst hg
      obtain ⟨hc, hl⟩ := hback rfl
      have hsz := cmd_sizes hc (by have := congrArg ByteArray.size hl; rw [SB_size] at this; omega)
      have hpr : printC y = (s, 0) := by unfold printC; rw [if_pos hc, hl]
      have HPR := Lib.hid hpr
      clear hback hperr hc hl hpr
      simp only [CmdV]
      go_wp2_with fail
      obtain ⟨u1, h2⟩ : ∃ u1, u1 = wa.alloc (.cells (CmdV y (.slice ka y.keep.length kc) (.slice ta y.torn.length tc)) 32) := ⟨_, rfl⟩
      have b2 : u1.heap[wa.heap.size]? = some (.cells (CmdV y (.slice ka y.keep.length kc) (.slice ta y.torn.length tc)) 32 (0, 0)) := by rw [h2]; exact block_new _ _
      have kk : Kp [] wa u1 := h2 ▸ (Kp.refl _ _).alloc _
      obtain ⟨c0, c1, c2, c3, c4, c5, c6, c7, c8, c9⟩ := cells10 b2
      simp only [CmdV] at h2
      rw [← h2]
      have hU := Kp.refl [] u1
      replace q1 := q1.keep0 kk
      replace q2 := q2.keep0 kk
      have hku := hka.trans kk
      clear h2 b2 kk
      go_wp2_with fail
      refine (sprint y _ _ _ _ q1 q2 hsz.2.2.2.1 hsz.2.2.2.2 hsz.1 hsz.2.1 hsz.2.2.1 (hE.keep hku).tab).mono ?_
      rintro e wc ⟨rfl, kc⟩
      rw [HPR.out]
      have hkc := hku.trans kc
      clear q1 q2 c0 c1 c2 c3 c4 c5 c6 c7 c8 c9
      go_wp2_with fail
      refine (live_true _ (hE.keep (hkc))).mono ?_
      rintro e wl ⟨rfl, kl⟩
      go_wp2_with fail
      go_ret
      exact ⟨rfl, (hkc).trans kl⟩
    · obtain rfl := hperr hg
      have hne : (g != 0) = true := by simpa using hg
      clear hback hperr
      simp only [CmdV, zeroCmd]
      go_wp2_with fail
      obtain ⟨u1, h2⟩ : ∃ u1, u1 = wa.alloc (.cells #[.int .i64 0, .int .i64 0, .string E0, .string E0, .int .i64 0, .int .i64 0, .int .i64 0, .string E0, .slice ka 0 kc, .slice ta 0 tc] 32) := ⟨_, rfl⟩
      have b2 : u1.heap[wa.heap.size]? = some (.cells #[.int .i64 0, .int .i64 0, .string E0, .string E0, .int .i64 0, .int .i64 0, .int .i64 0, .string E0, .slice ka 0 kc, .slice ta 0 tc] 32 (0, 0)) := by rw [h2]; exact block_new _ _
      have kk : Kp [] wa u1 := h2 ▸ (Kp.refl _ _).alloc _
      obtain ⟨c0, c1, c2, c3, c4, c5, c6, c7, c8, c9⟩ := cells10 b2
      simp only [List.length_nil] at h2 ⊢
      rw [← h2]
      have hU := Kp.refl [] u1
      have q1' := q1.keep0 kk
      have q2' := q2.keep0 kk
      have hku := hka.trans kk
      have hn := (nilBools wa).keep0 kk
      have hsame : sameC zeroCmd zeroCmd = true := by decide +kernel
      have HSM := Lib.hid hsame
      clear h2 b2 kk q1 q2 hsame
      go_wp2_with fail
      refine (ssame zeroCmd zeroCmd _ _ _ _ _ _ q1' q2' hn hn (by decide) (by decide)).mono ?_
      rintro e wc ⟨rfl, kc⟩
      rw [HSM.out]
      have hkc := hku.trans kc
      clear q1' q2' hn c0 c1 c2 c3 c4 c5 c6 c7 c8 c9
      go_wp2_with fail
      refine (live_true _ (hE.keep (hkc))).mono ?_
      rintro e wl ⟨rfl, kl⟩
      go_wp2_with fail
      go_ret
      exact ⟨rfl, (hkc).trans kl⟩

set_option maxRecDepth 100000 in
theorem back_lifted (os : Os) (started : os.Started) (H : Type) (enc : TypeId × Value → H) :
    ReturnsInHanded {} Tryd.checked os 3 .any (fun w args => (Rows.scriptBackSpec.pre enc Tryd.prog Tryd.f3 [] false w args ∧ laidMetH Tryd.prog laidAll w) ∧ sizedMet enc Tryd.prog Tryd.f3 (OpenSpec.ofChange Rows.scriptBackSpec) false w args) (Rows.scriptBackSpec.post enc Tryd.prog Tryd.f3 false true false false) := by
  refine law_laid Rows.scriptBackSpec laidAll Tryd.func3 (by kernel_rfl) Tryd.underlying4 rfl (by decide +kernel) rfl ?_ ?_ os started H enc
    (ChangeSpec.witness_shaped (enc := enc) (C := Tryd.checked) (os := os) (X := fun w _ => laidMetH Tryd.prog laidAll w) false (World.laidAll Tryd.prog os laidAll) #[.agg #[.int .i64 0, .int .i64 0, .string ⟨#[]⟩, .string ⟨#[]⟩, .int .i64 0, .int .i64 0, .int .i64 0, .string ⟨#[]⟩, .slice none 0 0, .slice none 0 0], .string ⟨#[]⟩] 8 (World.laidAll_os _ _ _)
      (World.shaped_of_ZipB (by kernel_rfl) (by kernel_rfl)) (by kernel_rfl) (by kernel_rfl) (by kernel_rfl)
      (by rw [MakeChecks.laidMetH_plain _ _ _ (by kernel_rfl)]; exact laidMet_laidAll _ (by kernel_rfl) (by kernel_rfl)))
  · intro H ds hl
    match ds, hl with | [d, e], _ => exact ⟨rfl, rfl, rfl⟩
  · intro W vs hvs hsh hL
    have hE := env_of_laid hsh hL
    obtain ⟨a, vs', base, rfl, hok, hrd, hvs⟩ := hvs; obtain ⟨b, vs', base', rfl, hok', hrd', rfl⟩ := hvs; obtain ⟨x, kx, tx, ckx, ctx, rfl, h1, h2, z1, z2⟩ := cmd_arg hok hrd; obtain ⟨s, rfl⟩ := str_arg hok'; exact back_walk x kx tx ckx ctx s W hE h1 h2 z1 z2
theorem back_holds : Rows.scriptBackRow.holds Tryd.pinned (OpenSpec.ofChange Rows.scriptBackSpec) :=
  OpenClaim.holds_of_wide 3 Tryd.f3 rfl rfl rfl rfl rfl rfl rfl ⟨rfl, rfl, rfl, rfl, rfl⟩ rfl rfl rfl rfl rfl (by kernel_rfl) Tryd.func3 (by kernel_rfl)
    (of_decide_eq_true (by kernel_rfl)) (by unfold Func.isWrapper; first | (rw [if_pos (by decide +kernel)]; kernel_rfl) | (rw [if_neg (by decide +kernel)]; exact ⟨rfl, rfl⟩))
    (fun os started H enc _ => back_lifted os started H enc)
theorem back_card_holds : Rows.ScriptBackCardSaid :=
  Claim7.holds_tied_plain_at .later [] [.data, .data, .data, .data, .sentinel, .sentinel, .pinned] true (true, "f66421a4cfb09f22677f3f0b17d87e72b5d10309439aab92887cdb9551ff632a") true back_holds (fun _ h => by cases h) (by kernel_rfl) (fun _ h => by cases h) scriptBack_row_tie rfl ⟨rfl, rfl⟩ (by kernel_rfl) rfl
    (fun f fn hf hfn => by
      obtain rfl : f = 3 := Option.some.inj ((show Tryd.prog.funcNamed "sluicegate/sluicegatelaw23.ScriptBack" = some 3 by kernel_rfl).symm.trans hf) |>.symm
      obtain rfl : fn = Tryd.f3 := (Option.some.inj (Tryd.func3.symm.trans hfn)).symm
      exact ⟨by kernel_rfl, fun j t ht => by
        have hall : (Tryd.f3.params.toList.all fun u => !Tryd.prog.wantsStandIn u) = true := by kernel_rfl
        exact (show Tryd.prog.wantsStandIn t = false by simpa using List.all_eq_true.1 hall t (by simpa using Array.mem_of_getElem? ht))⟩)
    (by kernel_rfl)
#print axioms back_card_holds
end Go.Proofs.YtmihnakapnoefaaDoor
