/-
  The document's line of a command: text, list, Print.
-/
import Derived.Test.YtmihnakapnoefaaGreatDoorScrV
namespace Go.Proofs.YtmihnakapnoefaaGreatDoor
open Go.RowKit Go.WideShapes

set_option maxRecDepth 20000 in
theorem rtext (s : ByteArray) (hs : s.size < 16384) (w : World) : Calls Tryz.prog 23 #[.string s] w fun e w' => e = .returned (.string (SB (digitsL s.data.toList))) ∧ Kp [] w w' := by
  cases he : s.toList.isEmpty with
  | true =>
    have hR : digitsL s.data.toList = [45] := by unfold digitsL; rw [if_pos (nil_of_empty he)]
    rw [hR]
    clear hR
    go_enter Tryz.func23, Tryz.ntmps23
    go_wp2_with fail
    go_ret
    exact ⟨rfl, Kp.refl _ _⟩
  | false =>
    have hR : digitsL s.data.toList = hexL s.data.toList := by unfold digitsL; rw [if_neg (ne_of_empty he)]
    rw [hR]
    clear hR
    go_enter Tryz.func23, Tryz.ntmps23
    go_wp2_with fail
    refine (rhex s hs _).mono ?_
    rintro e w1 ⟨rfl, k1⟩
    go_wp2_with fail
    go_ret
    exact ⟨rfl, k1⟩
theorem mark_snoc (l : List Bool) (n : Nat) (b : Bool) (h : l[n]? = some b) : (l.take (n + 1)).map markB = (l.take n).map markB ++ [markB b] := by
  rw [List.take_add_one, h]; simp
theorem mark_len (l : List Bool) (n : Nat) : (SB ((l.take n).map markB)).size ≤ l.length := by
  rw [SB_size, List.length_map]; exact List.length_take_le' n l
theorem mark_next {l : List Bool} {n : Nat} {b : Bool} {S : ByteArray} (h : l[n]? = some b) (hS : S = SB ((l.take n).map markB)) : S ++ ⟨#[markB b]⟩ = SB ((l.take (n + 1)).map markB) := by
  rw [hS, mark_snoc l n b h]
  exact bytes_inj (by simp [ByteArray.data_append])
set_option maxHeartbeats 1000000 in
set_option maxRecDepth 20000 in
theorem rlist (l : List Bool) (vl : Value) (B : Nat) (w : World) (hl : BoolsAt B w vl l) (hz : l.length ≤ 100000) : Calls Tryz.prog 24 #[vl] w fun e w' => e = .returned (.string (SB (marksW l))) ∧ Kp [] w w' := by
  obtain ⟨av, cv, rfl⟩ := slice_ex hl
  rw [marks_mark]
  by_cases h0 : l = []
  · subst h0
    rw [if_pos rfl]
    simp only [List.length_nil]
    go_enter Tryz.func24, Tryz.ntmps24
    go_wp2_with fail
    go_ret
    exact ⟨rfl, Kp.refl _ _⟩
  · rw [if_neg h0]
    have hp : 0 < l.length := List.length_pos_iff.2 h0
    have h0b : ((l.length : Int) == 0) = false := by simp; omega
    clear h0
    go_enter Tryz.func24, Tryz.ntmps24
    go_wp2_with fail
    go_loopg [3, 4] l.length (fun g o i wr => ∃ n : Nat, n + g = l.length ∧ i = .int .i64 n ∧ o = .string (SB ((l.take n).map markB)) ∧ Kp [] w wr)
    case atStart => exact ⟨0, by omega, rfl, rfl, Kp.refl _ _⟩
    case round =>
      obtain ⟨n, hn, rfl, rfl, hK⟩ := hrel
      have HN := Lib.hid hn
      by_cases hlt : n < l.length
      · obtain ⟨g', rfl⟩ : ∃ g', gk = g' + 1 := ⟨gk - 1, by omega⟩
        clear hn
        have hltI : (n : Int) < (l.length : Int) := by omega
        obtain ⟨g, o, c, hv', e1⟩ := bool_at hl n hlt
        simp only [Value.slice.injEq] at hv'
        obtain ⟨rfl, -, rfl⟩ := hv'
        obtain ⟨x, hx⟩ : ∃ x, x = l[n] := ⟨_, rfl⟩
        rw [← hx] at e1
        have d1 := (hK.cell (lt_of_cell e1) (by simp)).trans e1
        have hget : l[n]? = some x := by rw [List.getElem?_eq_getElem hlt, hx]
        obtain ⟨S0, hS0⟩ : ∃ S0, S0 = SB ((l.take n).map markB) := ⟨_, rfl⟩
        have hsz : S0.size ≤ 100000 := by rw [hS0]; have := mark_len l n; omega
        have hm : S0.size + 1 ≤ 9223372036854775807 := by omega
        have hnew := mark_next hget hS0
        have HNEW := Lib.hid hnew
        rw [← hS0]
        clear hnew hS0 hget hx e1
        cases x with
        | true =>
          go_wp2_with fail
          go_roundg g'
          case rel =>
            have hn := HN.out
            exact ⟨n + 1, by omega, by go_num, congrArg Value.string HNEW.out, hK⟩
          case measure => omega
        | false =>
          go_wp2_with fail
          go_roundg g'
          case rel =>
            have hn := HN.out
            exact ⟨n + 1, by omega, by go_num, congrArg Value.string HNEW.out, hK⟩
          case measure => omega
      · obtain rfl : n = l.length := by omega
        obtain rfl : gk = 0 := by omega
        clear hn HN
        rw [List.take_of_length_le (Nat.le_refl _)]
        go_wp2_with fail
        go_ret
        exact ⟨rfl, hK⟩
theorem join_one' (x : List UInt8) : Lib.join [x] [32] = x := Lib.join_one _ _
set_option maxHeartbeats 8000000 in
set_option maxRecDepth 20000 in
theorem r23print (c : Cmd) (kv tv : Value) (B : Nat) (w : World) (h1 : BoolsAt B w kv c.keep) (h2 : BoolsAt B w tv c.torn) (z1 : c.keep.length ≤ 10000) (z2 : c.torn.length ≤ 10000)
    (hs : c.rs.size < 16384) (hv : c.rv.size < 16384) (hx : c.text.size ≤ 10000) :
    Calls Tryz.prog 9 #[.agg (CmdV c kv tv)] w fun e w' => e = .returned (.tuple #[.string (printC c).1, .int .i64 (printC c).2]) ∧ Kp [] w w' := by
  obtain ⟨ka, kc, rfl⟩ := slice_ex h1
  obtain ⟨ta, tc, rfl⟩ := slice_ex h2
  obtain ⟨w0, hw0⟩ : ∃ w0, w0 = w.alloc (.cells (CmdV c (.slice ka c.keep.length kc) (.slice ta c.torn.length tc)) 26) := ⟨_, rfl⟩
  have kw0 : Kp [] w w0 := hw0 ▸ (Kp.refl _ _).alloc _
  have hbx : w0.heap[w.heap.size]? = some (.cells (CmdV c (.slice ka c.keep.length kc) (.slice ta c.torn.length tc)) 26 (0, 0)) := by rw [hw0]; exact block_new _ _
  obtain ⟨a0, a1, a2, a3, a4, a5, a6, a7, a8, a9⟩ := cells10 hbx
  simp only [CmdV] at hw0 ⊢
  have hk1 := h1.keep0 kw0
  have hk2 := h2.keep0 kw0
  have Hw0 := Lib.hid hw0
  have hK := Kp.refl [] w0
  obtain ⟨⟨S, R⟩, hR⟩ : ∃ p, p = printC c := ⟨_, rfl⟩
  rw [← hR]
  have HR := Lib.hid hR
  obtain ⟨ce, hce⟩ : ∃ ce, ce = checkC c := ⟨_, rfl⟩
  have HCE := Lib.hid hce
  clear hw0 hbx h1 h2 hR hce
  go_enter Tryz.func9, Tryz.ntmps9
  go_wp2_with fail
  rw [← Hw0.out]
  refine (r23check c _ _ _ _ hk1 hk2 (by omega) (by omega) hs hv).mono ?_
  rintro e w1 ⟨rfl, k1⟩
  rw [← HCE.out]
  replace hK := hK.trans k1
  clear k1
  by_cases h0 : ce = 0
  · subst h0
    have hc0 := HCE.out.symm
    obtain ⟨⟨n0, n7⟩, ⟨n1, n1'⟩, ⟨n2, n2'⟩, ⟨n3, n3'⟩⟩ := checkC_nums hc0
    have hRR : S = SB (lineC c) ∧ R = 0 := by
      have := HR.out
      unfold printC at this
      rw [if_pos hc0] at this
      simp only [Prod.mk.injEq] at this
      exact this
    obtain ⟨hS, rfl⟩ := hRR
    have HS := Lib.hid hS
    obtain ⟨N, hN⟩ : ∃ N, N = SB (numL c.n) := ⟨_, rfl⟩
    obtain ⟨A, hA⟩ : ∃ A, A = SB (numL c.a) := ⟨_, rfl⟩
    obtain ⟨B', hB⟩ : ∃ B', B' = SB (numL c.b) := ⟨_, rfl⟩
    obtain ⟨T, hT⟩ : ∃ T, T = SB (digitsL c.text.data.toList) := ⟨_, rfl⟩
    have sN : N.size ≤ 30 := by rw [hN, SB_size]; exact numL_len n1'
    have sA : A.size ≤ 30 := by rw [hA, SB_size]; exact numL_len n2'
    have sB : B'.size ≤ 30 := by rw [hB, SB_size]; exact numL_len n3'
    have sT : T.size ≤ 20001 := by
      rw [hT, SB_size]
      have hd := digits_len c.text.data.toList
      rw [len_data] at hd
      omega
    obtain ⟨n', en⟩ : ∃ n' : Nat, c.n = n' := ⟨c.n.toNat, by omega⟩
    obtain ⟨a', ea⟩ : ∃ a' : Nat, c.a = a' := ⟨c.a.toNat, by omega⟩
    obtain ⟨b', eb⟩ : ∃ b' : Nat, c.b = b' := ⟨c.b.toNat, by omega⟩
    have dN : SB (Lib.decDigits n') = N := by rw [hN, en]; rfl
    have dA : SB (Lib.decDigits a') = A := by rw [hA, ea]; rfl
    have dB : SB (Lib.decDigits b') = B' := by rw [hB, eb]; rfl
    rw [en] at n1'
    rw [ea] at n2'
    rw [eb] at n3'
    have DN := Lib.hid dN
    have DA := Lib.hid dA
    have DB := Lib.hid dB
    have HN := Lib.hid hN
    have HA := Lib.hid hA
    have HB := Lib.hid hB
    have HT := Lib.hid hT
    have HC0 := Lib.hid hc0
    clear hc0 hS hN hA hB hT dN dA dB n1 n2 n3
    rw [en] at a4
    rw [ea] at a5
    rw [eb] at a6
    have EN := Lib.hid en
    have EA := Lib.hid ea
    have EB := Lib.hid eb
    clear en ea eb
    go_wp2_with fail
    refine (rnumber n' (by omega) _).mono ?_
    rintro e w2 ⟨rfl, k2⟩
    rw [DN.out]
    replace hK := hK.trans k2
    clear k2
    go_wp2_with fail
    refine (rnumber a' (by omega) _).mono ?_
    rintro e w3 ⟨rfl, k3⟩
    rw [DA.out]
    replace hK := hK.trans k3
    clear k3
    by_cases e0 : c.act = 0
    · have f0 : (c.act == 0) = true := by simpa using e0
      have he : checkE c.rk c.rs c.rv = 0 := by
        rcases checkC_ok HC0.out with ⟨-, he, -⟩ | ⟨h, -⟩ | ⟨h, -⟩ | ⟨h, -⟩ | ⟨h, -⟩ | ⟨h, -⟩ | ⟨h, -⟩ | h
        · exact he
        all_goals (rw [h] at e0; simp at e0)
      obtain ⟨Q, hQ⟩ : ∃ Q, Q = SB (printL c.rk c.rs.data.toList c.rv.data.toList) := ⟨_, rfl⟩
      have hpr : printR c.rk c.rs c.rv = (Q, 0) := by rw [hQ]; exact checkC_call e0 he
      have hqs : Q.size ≤ 60000 := by rw [hQ]; have := printL_size he; omega
      have hm : 5 + Q.size ≤ 9223372036854775807 := by omega
      have hP : S = ⟨#[99, 97, 108, 108, 32]⟩ ++ Q := by
        rw [HS.out, line_call c e0, hQ]
        exact bytes_inj (by simp [ByteArray.data_append])
      have HP := Lib.hid hP
      have HPR := Lib.hid hpr
      clear e0 he hQ hpr hP
      go_wp2_with fail
      refine (rprint c.rk c.rs c.rv hs hv _).mono ?_
      rintro e w4 ⟨rfl, k4⟩
      rw [HPR.out]
      replace hK := hK.trans k4
      clear k4
      go_wp2_with fail
      go_ret2
      exact ⟨by rw [HP.out]; rfl, kw0.trans hK⟩
    have f0 := int_ne e0
    by_cases e1 : c.act = 1
    · have f1 : (c.act == 1) = true := by simpa using e1
      have m0 : 5 + N.size ≤ 9223372036854775807 := by omega
      have m1 : 5 + N.size + 1 ≤ 9223372036854775807 := by omega
      have m2 : 5 + N.size + 1 + A.size ≤ 9223372036854775807 := by omega
      have m3 : 5 + N.size + 1 + A.size + 1 ≤ 9223372036854775807 := by omega
      have m4 : 5 + N.size + 1 + A.size + 1 + B'.size ≤ 9223372036854775807 := by omega
      have hP : S = ⟨#[107, 101, 101, 112, 32]⟩ ++ N ++ ⟨#[32]⟩ ++ A ++ ⟨#[32]⟩ ++ B' := by
        rw [HS.out, HN.out, HA.out, HB.out]
        have e : lineC c = Lib.join [wordA 1, numL c.n, numL c.a, numL c.b] [32] := by unfold lineC partsC; rw [if_neg e0, if_pos e1]
        rw [e]
        rw [join_cons_ne _ (by simp)]
        rw [join_cons_ne _ (by simp)]
        rw [join_cons_ne _ (by simp)]
        rw [join_one']
        exact bytes_inj (by simp [ByteArray.data_append, wordA, actWords])
      have HP := Lib.hid hP
      clear hP e0 e1
      go_wp2_with fail
      refine (rnumber b' (by omega) _).mono ?_
      rintro e w4 ⟨rfl, k4⟩
      rw [DB.out]
      replace hK := hK.trans k4
      clear k4
      go_wp2_with fail
      go_ret2
      exact ⟨by rw [HP.out]; rfl, kw0.trans hK⟩
    have f1 := int_ne e1
    by_cases e2 : c.act = 2
    · have f2 : (c.act == 2) = true := by simpa using e2
      have m0 : 5 + N.size ≤ 9223372036854775807 := by omega
      have hP : S = ⟨#[115, 116, 101, 112, 32]⟩ ++ N := by
        rw [HS.out, HN.out]
        have e : lineC c = Lib.join [wordA 2, numL c.n] [32] := by unfold lineC partsC; rw [if_neg e0, if_neg e1, if_pos e2]
        rw [e]
        rw [join_cons_ne _ (by simp)]
        rw [join_one']
        exact bytes_inj (by simp [ByteArray.data_append, wordA, actWords])
      have HP := Lib.hid hP
      clear hP e0 e1 e2
      go_wp2_with fail
      go_ret2
      exact ⟨by rw [HP.out]; rfl, kw0.trans hK⟩
    have f2 := int_ne e2
    by_cases e3 : c.act = 3
    · have f3 : (c.act == 3) = true := by simpa using e3
      have m0 : 7 + N.size ≤ 9223372036854775807 := by omega
      have hP : S = ⟨#[115, 101, 116, 116, 108, 101, 32]⟩ ++ N := by
        rw [HS.out, HN.out]
        have e : lineC c = Lib.join [wordA 3, numL c.n] [32] := by unfold lineC partsC; rw [if_neg e0, if_neg e1, if_neg e2, if_pos e3]
        rw [e]
        rw [join_cons_ne _ (by simp)]
        rw [join_one']
        exact bytes_inj (by simp [ByteArray.data_append, wordA, actWords])
      have HP := Lib.hid hP
      clear hP e0 e1 e2 e3
      go_wp2_with fail
      go_ret2
      exact ⟨by rw [HP.out]; rfl, kw0.trans hK⟩
    have f3 := int_ne e3
    by_cases e4 : c.act = 4
    · have f4 : (c.act == 4) = true := by simpa using e4
      have m0 : 6 + A.size ≤ 9223372036854775807 := by omega
      have m1 : 6 + A.size + 1 ≤ 9223372036854775807 := by omega
      have m2 : 6 + A.size + 1 + N.size ≤ 9223372036854775807 := by omega
      have m3 : 6 + A.size + 1 + N.size + 1 ≤ 9223372036854775807 := by omega
      have m4 : 6 + A.size + 1 + N.size + 1 + T.size ≤ 9223372036854775807 := by omega
      have hP : S = ⟨#[115, 112, 111, 105, 108, 32]⟩ ++ A ++ ⟨#[32]⟩ ++ N ++ ⟨#[32]⟩ ++ T := by
        rw [HS.out, HA.out, HN.out, HT.out]
        have e : lineC c = Lib.join [wordA 4, numL c.a, numL c.n, digitsL c.text.data.toList] [32] := by unfold lineC partsC; rw [if_neg e0, if_neg e1, if_neg e2, if_neg e3, if_pos e4]
        rw [e]
        rw [join_cons_ne _ (by simp)]
        rw [join_cons_ne _ (by simp)]
        rw [join_cons_ne _ (by simp)]
        rw [join_one']
        exact bytes_inj (by simp [ByteArray.data_append, wordA, actWords])
      have HP := Lib.hid hP
      clear hP e0 e1 e2 e3 e4
      go_wp2_with fail
      refine (rtext c.text (by omega) _).mono ?_
      rintro e w4 ⟨rfl, k4⟩
      rw [← HT.out]
      replace hK := hK.trans k4
      clear k4
      go_wp2_with fail
      go_ret2
      exact ⟨by rw [HP.out]; rfl, kw0.trans hK⟩
    have f4 := int_ne e4
    by_cases e5 : c.act = 5
    · have f5 : (c.act == 5) = true := by simpa using e5
      have m0 : 5 + A.size ≤ 9223372036854775807 := by omega
      have hP : S = ⟨#[108, 111, 115, 101, 32]⟩ ++ A := by
        rw [HS.out, HA.out]
        have e : lineC c = Lib.join [wordA 5, numL c.a] [32] := by unfold lineC partsC; rw [if_neg e0, if_neg e1, if_neg e2, if_neg e3, if_neg e4, if_pos e5]
        rw [e]
        rw [join_cons_ne _ (by simp)]
        rw [join_one']
        exact bytes_inj (by simp [ByteArray.data_append, wordA, actWords])
      have HP := Lib.hid hP
      clear hP e0 e1 e2 e3 e4 e5
      go_wp2_with fail
      go_ret2
      exact ⟨by rw [HP.out]; rfl, kw0.trans hK⟩
    have f5 := int_ne e5
    by_cases e6 : c.act = 6
    · have f6 : (c.act == 6) = true := by simpa using e6
      have m0 : 8 + A.size ≤ 9223372036854775807 := by omega
      have hP : S = ⟨#[114, 101, 112, 108, 97, 99, 101, 32]⟩ ++ A := by
        rw [HS.out, HA.out]
        have e : lineC c = Lib.join [wordA 6, numL c.a] [32] := by unfold lineC partsC; rw [if_neg e0, if_neg e1, if_neg e2, if_neg e3, if_neg e4, if_neg e5, if_pos e6]
        rw [e]
        rw [join_cons_ne _ (by simp)]
        rw [join_one']
        exact bytes_inj (by simp [ByteArray.data_append, wordA, actWords])
      have HP := Lib.hid hP
      clear hP e0 e1 e2 e3 e4 e5 e6
      go_wp2_with fail
      go_ret2
      exact ⟨by rw [HP.out]; rfl, kw0.trans hK⟩
    have f6 := int_ne e6
    have e7 : c.act = 7 := by omega
    obtain ⟨K, hK1⟩ : ∃ K, K = SB (marksW c.keep) := ⟨_, rfl⟩
    obtain ⟨M, hM1⟩ : ∃ M, M = SB (marksW c.torn) := ⟨_, rfl⟩
    have sK : K.size ≤ 10001 := by rw [hK1, SB_size]; have := marksW_len c.keep; omega
    have sM : M.size ≤ 10001 := by rw [hM1, SB_size]; have := marksW_len c.torn; omega
    have m0 : 6 + K.size ≤ 9223372036854775807 := by omega
    have m1 : 6 + K.size + 1 ≤ 9223372036854775807 := by omega
    have m2 : 6 + K.size + 1 + M.size ≤ 9223372036854775807 := by omega
    have hP : S = ⟨#[99, 114, 97, 115, 104, 32]⟩ ++ K ++ ⟨#[32]⟩ ++ M := by
      rw [HS.out, hK1, hM1]
      have e : lineC c = Lib.join [wordA 7, marksW c.keep, marksW c.torn] [32] := by unfold lineC partsC; rw [if_neg e0, if_neg e1, if_neg e2, if_neg e3, if_neg e4, if_neg e5, if_neg e6]
      rw [e, join_cons_ne _ (by simp), join_cons_ne _ (by simp), join_one']
      exact bytes_inj (by simp [ByteArray.data_append, wordA, actWords])
    have HP := Lib.hid hP
    have HK1 := Lib.hid hK1
    have HM1 := Lib.hid hM1
    clear hP hK1 hM1 e0 e1 e2 e3 e4 e5 e6 e7
    go_wp2_with fail
    refine wpB_begin 999 (Kp [] w0) (by kernel_rfl) (by exact hK.drew) (fun hHeld => ?_)
    refine wpB_take 0 _ ?_ rfl (by kernel_rfl) (fun _ _ _ h => h) rfl hHeld ?_ ?_
    rotate_left
    · (intro W hW; go_simp; try with_reducible rfl)
    try simp only [Act.put, List.setIfInBounds_toArray, List.set_cons_zero, List.set_cons_succ]
    refine wpB_take 1 _ ?_ rfl (by kernel_rfl) (fun _ _ _ h => h) rfl hHeld ?_ ?_
    rotate_left
    · (intro W hW; go_simp; try with_reducible rfl)
    try simp only [Act.put, List.setIfInBounds_toArray, List.set_cons_zero, List.set_cons_succ]
    refine wpB_take 5 _ ?_ rfl (by kernel_rfl) (fun _ _ _ h => h) rfl hHeld ?_ ?_
    rotate_left
    · (intro W hW; go_simp; try with_reducible rfl)
    try simp only [Act.put, List.setIfInBounds_toArray, List.set_cons_zero, List.set_cons_succ]
    refine wpB_take 6 _ ?_ rfl (by kernel_rfl) (fun _ _ _ h => h) rfl hHeld ?_ ?_
    rotate_left
    · (intro W hW; go_simp; try with_reducible rfl)
    try simp only [Act.put, List.setIfInBounds_toArray, List.set_cons_zero, List.set_cons_succ]
    refine wpB_step 2 _ rfl (by kernel_rfl) rfl rfl (fun K hK_ => ?_)
    go_simp
    refine (rlist c.keep _ _ _ (hk1.keep0 hHeld) (by omega)).mono ?_
    rintro e w5 ⟨rfl, kk⟩
    rw [← HK1.out]
    refine hK_.out _ _ (by exact hHeld.trans kk) (fun hHeld => ?_)
    clear hK_ K
    try simp only [Act.put, List.setIfInBounds_toArray, List.set_cons_zero, List.set_cons_succ]
    refine wpB_take 3 _ ?_ rfl (by kernel_rfl) (fun _ _ _ h => h) rfl hHeld ?_ ?_
    rotate_left
    · (intro W hW; go_simp; rw [if_neg (by omega)])
    try simp only [Act.put, List.setIfInBounds_toArray, List.set_cons_zero, List.set_cons_succ]
    refine wpB_take 4 _ ?_ rfl (by kernel_rfl) (fun _ _ _ h => h) rfl hHeld ?_ ?_
    rotate_left
    · (intro W hW; go_simp; rw [if_neg (by omega)])
    try simp only [Act.put, List.setIfInBounds_toArray, List.set_cons_zero, List.set_cons_succ]
    refine wpB_step 7 _ rfl (by kernel_rfl) rfl rfl (fun K hK_ => ?_)
    go_simp
    refine (rlist c.torn _ _ _ (hk2.keep0 hHeld) (by omega)).mono ?_
    rintro e w6 ⟨rfl, kk⟩
    rw [← HM1.out]
    refine hK_.out _ _ (by exact hHeld.trans kk) (fun hHeld => ?_)
    clear hK_ K
    try simp only [Act.put, List.setIfInBounds_toArray, List.set_cons_zero, List.set_cons_succ]
    refine wpB_take 8 _ ?_ rfl (by kernel_rfl) (fun _ _ _ h => h) rfl hHeld ?_ ?_
    rotate_left
    · (intro W hW; go_simp; rw [if_neg (by omega)])
    try simp only [Act.put, List.setIfInBounds_toArray, List.set_cons_zero, List.set_cons_succ]
    refine wpB_take 9 _ ?_ rfl (by kernel_rfl) (fun _ _ _ h => h) rfl hHeld ?_ ?_
    rotate_left
    · (intro W hW; go_simp; try with_reducible rfl)
    try simp only [Act.put, List.setIfInBounds_toArray, List.set_cons_zero, List.set_cons_succ]
    refine wpB_take 10 _ ?_ rfl (by kernel_rfl) (fun _ _ _ h => h) rfl hHeld ?_ ?_
    rotate_left
    · (intro W hW; go_simp; try with_reducible rfl)
    try simp only [Act.put, List.setIfInBounds_toArray, List.set_cons_zero, List.set_cons_succ]
    refine wpB_done (by kernel_rfl) ?_ _
    go_wp2_with fail
    go_ret2
    exact ⟨by rw [HP.out]; rfl, kw0.trans hHeld⟩
  · have hne : (ce != 0) = true := by simpa using h0
    have hRR : S = E0 ∧ R = ce := by
      have := HR.out
      unfold printC at this
      rw [if_neg (by rw [← HCE.out]; exact h0), ← HCE.out] at this
      simp only [Prod.mk.injEq] at this
      exact this
    obtain ⟨rfl, rfl⟩ := hRR
    clear h0
    go_wp2_with fail
    go_ret2
    exact ⟨rfl, kw0.trans hK⟩
end Go.Proofs.YtmihnakapnoefaaGreatDoor
