/-
  Reading a part's word: a number.
-/
import Derived.Test.YtmihnakapnoefaaGreatDoorScrG
import Derived.Test.YtmihnakapnoefaaGreatDoorScrD
import Derived.Test.YtmihnakapnoefaaGreatDoorScrF
namespace Go.Proofs.YtmihnakapnoefaaGreatDoor
open Go.RowKit Go.WideShapes

set_option maxHeartbeats 1000000 in
set_option maxRecDepth 20000 in
/-- two digits of a text, by strconv -/
theorem pu16 (t : ByteArray) (ht : t.size = 2) (w : World) (hE : Env w) :
    Calls Tryz.prog 59 #[.string t, .int .i64 16, .int .i64 8] w fun e w' => ∃ (n : Int) (er : Value), e = .returned (.tuple #[.int .u64 n, er]) ∧ Kp [] w w' ∧ (match puL t.data.toList with | some u => n = (u : Int) ∧ er = .nilIface | none => ∃ tp p, er = .iface tp p) := by
  obtain ⟨te, pe, h1⟩ := hE.e1
  cases hp : puL t.data.toList with
  | some u =>
    go_enter Tryz.func59, Tryz.ntmps59
    go_wp2_with fail
    refine (ipu16 t ht _).mono ?_
    rintro e w1 ⟨rfl, k1⟩
    unfold puRes
    rw [hp]
    obtain ⟨n, hn⟩ : ∃ n : Int, n = (u : Int) := ⟨_, rfl⟩
    simp only []
    rw [← hn]
    have HN := Lib.hid hn
    clear hn hp
    go_wp2_with fail
    go_ret2
    exact ⟨n, .nilIface, rfl, k1, HN.out, rfl⟩
  | none =>
    go_enter Tryz.func59, Tryz.ntmps59
    go_wp2_with fail
    refine (ipu16 t ht _).mono ?_
    rintro e w1 ⟨rfl, k1⟩
    unfold puRes
    rw [hp]
    simp only []
    clear hp
    have hv := (k1.cell (lt_of_cell h1) (by simp)).trans h1
    go_wp2_with fail
    refine (Tryz.strconv_toError_syntax _ t 16 8 _ _ (by omega) hv (.inr ⟨te, pe, rfl⟩)).mono ?_
    rintro e w2 ⟨N, rfl, -, -, hb⟩
    have k2 := k1.trans (Kp.of_below hb [])
    go_wp2_with fail
    go_ret2
    exact ⟨0, _, rfl, k2, _, _, rfl⟩
theorem parse_dec : ∀ (l : List UInt8) (acc : Nat), (∀ b ∈ l, 48 ≤ b.toNat ∧ b.toNat ≤ 57) → l.foldl (fun n b => 10 * n + (b.toNat - 48)) acc ≤ 99999 → Lib.parseUint10 acc l = .ok (l.foldl (fun n b => 10 * n + (b.toNat - 48)) acc)
  | [], acc, _, _ => rfl
  | c :: r, acc, hd, h => by
    have hc := hd c (List.mem_cons_self ..)
    have mono : ∀ (l : List UInt8) (a : Nat), a ≤ l.foldl (fun n b => 10 * n + (b.toNat - 48)) a := by
      intro l
      induction l with
      | nil => intro a; exact Nat.le_refl _
      | cons x l ih =>
        intro a
        rw [List.foldl_cons]
        exact Nat.le_trans (by omega) (ih _)
    rw [List.foldl_cons] at h ⊢
    have h1 := mono r (10 * acc + (c.toNat - 48))
    unfold Lib.parseUint10
    rw [if_pos hc, if_neg (by omega), if_neg (by omega), Nat.mul_comm acc 10]
    exact parse_dec r _ (fun b hb => hd b (List.mem_cons_of_mem _ hb)) h
theorem atoi_dec (n : Nat) (hn : n ≤ 99999) : Lib.atoiAll (Lib.decDigits n) = .ok (n : Int) := by
  have hd := dec_digit n
  have hv := digVal_dec n
  match hl : Lib.decDigits n, dec_ne n with
  | c :: r, _ =>
    rw [hl] at hd hv
    have hc := hd c (List.mem_cons_self ..)
    have hp := parse_dec (c :: r) 0 hd (by show digVal (c :: r) ≤ 99999; omega)
    unfold Lib.atoiAll
    simp only
    rw [if_neg (by omega)]
    unfold Lib.parseMag
    rw [if_neg (by simp), hp]
    simp only
    rw [show (c :: r).foldl (fun n b => 10 * n + (b.toNat - 48)) 0 = n from hv, if_neg (by omega), if_neg (by omega), if_neg (by omega)]
set_option maxHeartbeats 1000000 in
/-- strconv.Atoi at every text -/
theorem atoi_any (s : ByteArray) (hs : s.size ≤ 100000) (w : World) (hE : Env w) :
    Calls Tryz.prog 58 #[.string s] w fun e w' => ∃ (v : Int) (er : Value), e = .returned (.tuple #[.int .i64 v, er]) ∧ Kp [] w w' ∧ ((er = .nilIface ∧ Lib.atoiAll s.data.toList = .ok v) ∨ ((∃ tp p, er = .iface tp p) ∧ ∀ v, Lib.atoiAll s.data.toList ≠ .ok v)) := by
  obtain ⟨te, pe, h1⟩ := hE.e1
  obtain ⟨tf, pf, h2⟩ := hE.e2
  rcases ha : Lib.atoiAll s.data.toList with v | _ | _
  · refine (Tryz.strconv_Atoi_ok s (by omega) v ha w).mono ?_
    rintro e w' ⟨rfl, hw⟩
    refine ⟨v, _, rfl, ?_, .inl ⟨rfl, rfl⟩⟩
    rcases hw with rfl | ⟨t, rfl⟩
    · exact Kp.refl _ _
    · exact ⟨rfl, rfl, rfl, by rw [Lib.bytesWorld_size]; omega, fun k hk _ => Lib.bytesWorld_at_old _ _ _ k hk⟩
  · have hc : Calls Tryz.prog 58 #[.string s] w _ := Any.strconv_Atoi_syntax Tryz.laysC172 s (by omega) ha _ w h1 (.inr ⟨te, pe, rfl⟩)
    refine hc.mono ?_
    rintro e w' ⟨N, rfl, -, -, hb⟩
    exact ⟨_, _, rfl, Kp.of_below hb [], .inr ⟨⟨_, _, rfl⟩, fun v h => by cases h⟩⟩
  · refine (Tryz.strconv_Atoi_range s (by omega) ha _ w h2 (.inr ⟨tf, pf, rfl⟩)).mono ?_
    rintro e w' ⟨N, rfl, -, -, hb⟩
    exact ⟨_, _, rfl, Kp.of_below hb [], .inr ⟨⟨_, _, rfl⟩, fun v h => by cases h⟩⟩
/-- a number of a word, by strconv -/
theorem numR_atoi {l : List UInt8} {v : Int} (h : Lib.atoiAll l = .ok v) : numR l = if 0 ≤ v ∧ v ≤ 99999 ∧ numL v = l then some v.toNat else none := by
  split
  · rename_i e
    rw [← e.2.2]
    exact numR_dec _ (by omega)
  · rename_i e
    cases hn : numR l with
    | none => rfl
    | some n =>
      obtain ⟨h1, h2⟩ := numR_some hn
      rw [← h2, atoi_dec n h1] at h
      have hv : (n : Int) = v := by injection h
      exact absurd ⟨by omega, by omega, by rw [← hv]; exact h2⟩ e
theorem numR_atoi_none {l : List UInt8} (h : ∀ v, Lib.atoiAll l ≠ .ok v) : numR l = none := by
  cases hn : numR l with
  | none => rfl
  | some n =>
    obtain ⟨h1, h2⟩ := numR_some hn
    exact absurd (by rw [← h2]; exact atoi_dec n h1) (h n)
set_option maxHeartbeats 2000000 in
set_option maxRecDepth 20000 in
/-- a number's word is read -/
theorem read_num (b o : Nat) (cs : Array Value) (t : TypeId) (u : Value) (s : ByteArray) (hs : s.size ≤ 100000) (wz w : World) (hE : Env wz) (kz : Kp [] wz w) (hbz : wz.heap.size ≤ b) (hb : w.heap[b]? = some (.cells cs t (0, 0))) (hu : cs[o]? = some u) :
    Calls Tryz.prog 33 #[.agg (tri b (0, o)).toArray, .string s] w fun e w' => e = .returned (.bool (numR s.data.toList).isSome) ∧ Kp [b] w w' ∧ ∃ v : Int, w'.heap[b]? = some (.cells (cs.setIfInBounds o (.int .i64 v)) t (0, 0)) ∧ ∀ n, numR s.data.toList = some n → v = (n : Int) := by
  show Calls Tryz.prog 33 #[.agg #[.pointer (some ⟨b, o, none⟩), .pointer none, .pointer none], .string s] w _
  obtain ⟨w0, hw0⟩ : ∃ w0, w0 = w.alloc (.cells #[.pointer (some ⟨b, o, none⟩), .pointer none, .pointer none] 54) := ⟨_, rfl⟩
  have kw0 : Kp [] w w0 := hw0 ▸ (Kp.refl _ _).alloc _
  have hbox : w0.heap[w.heap.size]? = some (.cells #[.pointer (some ⟨b, o, none⟩), .pointer none, .pointer none] 54 (0, 0)) := by rw [hw0]; exact block_new _ _
  have hblt := lt_of_block hb
  have hbw : w.heap.size ≠ b := by omega
  have hwb : b ≠ w.heap.size := by omega
  have c0 := boxAt hbox (X := [b]) (by simpa using hbw) 0 _ rfl
  have c1 := boxAt hbox (X := [b]) (by simpa using hbw) 1 _ rfl
  have c2 := boxAt hbox (X := [b]) (by simpa using hbw) 2 _ rfl
  have hb0 := Kp.blockAt (X := []) hb (by simp) _ kw0
  have C0 := Lib.hid c0
  have C1 := Lib.hid c1
  have C2 := Lib.hid c2
  have Hw0 := Lib.hid hw0
  have hK := Kp.refl [b] w0
  have HB0 := Lib.hid hb0
  clear hw0 hbox hb0
  obtain ⟨R, hR⟩ : ∃ R, R = (numR s.data.toList).isSome := ⟨_, rfl⟩
  rw [← hR]
  have HR := Lib.hid hR
  clear hR
  have hsz : o < cs.size := (Array.getElem?_eq_some_iff.1 hu).1
  have kz0 := kz.trans kw0
  go_enter Tryz.func33, Tryz.ntmps33
  go_wp2_with fail
  rw [← Hw0.out]
  refine (atoi_any s hs _ (hE.keep kz0)).mono ?_
  rintro e w1 ⟨v, er, rfl, k1, hcase⟩
  have hb1 := Kp.blockAt (X := []) HB0.out (by simp) _ k1
  have hK1 : Kp [b] w0 w1 := hK.call k1
  have x0 : w1.cell? ⟨b, o, none⟩ = some u := cell_of_cells hb1 hu
  have f0 : w1.frozen? ⟨b, o, none⟩ = false := frozen_of_cells hb1 _
  obtain ⟨w2, hw2⟩ : ∃ w2, w2 = w1.setCell ⟨b, o, none⟩ (.int .i64 v) := ⟨_, rfl⟩
  have hb2 : w2.heap[b]? = some (.cells (cs.setIfInBounds o (.int .i64 v)) t (0, 0)) := by rw [hw2]; exact block_setCell hb1 _ _
  have hK2 : Kp [b] w0 w2 := by rw [hw2]; exact hK1.setCell (.inl (by simp)) _
  have kz2 : Kp [] wz w2 := by rw [hw2]; exact (kz0.trans k1).setCell (.inr hbz) _
  have hx2 : w2.cell? ⟨b, o, none⟩ = some (.int .i64 v) := cell_of_cells hb2 (by simp [hsz])
  have hkw2 : Kp [b] w w2 := (kw0.weaken (fun _ _ h => by cases h)).trans hK2
  have Hw2 := Lib.hid hw2
  have HB2 := Lib.hid hb2
  have HX2 := Lib.hid hx2
  have hK2' : Kp [b] w0 (w1.setCell ⟨b, o, none⟩ (.int .i64 v)) := hK1.setCell (.inl (by simp)) _
  clear hb1 hw2 hb2 hx2
  rcases hcase with ⟨rfl, ha⟩ | ⟨⟨tp, p, rfl⟩, ha⟩
  · have hnum := numR_atoi ha
    have HNUM := Lib.hid hnum
    have HA := Lib.hid ha
    clear hnum ha
    by_cases h0 : 0 ≤ v
    · by_cases h9 : v ≤ 99999
      · go_wp2_with fail
        rw [← Hw2.out]
        refine (word_num b o v _ HX2.out h0 (by omega) (hE.keep kz2).tab).mono ?_
        rintro e w3 ⟨rfl, k3⟩
        have hkw3 : Kp [b] w w3 := hkw2.call k3
        have hb3 := Kp.blockAt (X := []) HB2.out (by simp) _ k3
        obtain ⟨T, hT⟩ : ∃ T, T = SB (numL v) := ⟨_, rfl⟩
        rw [← hT]
        have hTs : (T = s) ↔ numL v = s.data.toList := by
          rw [hT]
          constructor
          · rintro rfl; simp
          · intro e; rw [e, SB_data]
        by_cases he : T = s
        · have hr : R = true := by rw [HR.out, HNUM.out, if_pos ⟨h0, h9, hTs.1 he⟩]; rfl
          have hn : ∀ n, numR s.data.toList = some n → v = (n : Int) := fun n hn => by
            rw [HNUM.out, if_pos ⟨h0, h9, hTs.1 he⟩] at hn
            have : v.toNat = n := by injection hn
            omega
          subst hr
          have HN := Lib.hid hn
          have HB3 := Lib.hid hb3
          clear hT hTs hn hb3
          subst he
          go_wp2_with fail
          go_ret
          exact ⟨rfl, hkw3, v, HB3.out, HN.out⟩
        · have hr : R = false := by rw [HR.out, HNUM.out, if_neg (fun h => he (hTs.2 h.2.2))]; rfl
          have hn : ∀ n, numR s.data.toList = some n → v = (n : Int) := fun n hn => by
            rw [HNUM.out, if_neg (fun h => he (hTs.2 h.2.2))] at hn; cases hn
          subst hr
          have hbe := str_ne he
          have HN := Lib.hid hn
          have HB3 := Lib.hid hb3
          clear hT hTs hn hb3 he
          go_wp2_with fail
          go_ret
          exact ⟨rfl, hkw3, v, HB3.out, HN.out⟩
      · have hr : R = false := by rw [HR.out, HNUM.out, if_neg (fun h => h9 h.2.1)]; rfl
        subst hr
        go_wp2_with fail
        rw [← Hw2.out]
        go_ret
        exact ⟨rfl, hkw2, v, HB2.out, fun n hn => by rw [HNUM.out, if_neg (fun h => by have := h.2.1; omega)] at hn; cases hn⟩
    · have hr : R = false := by rw [HR.out, HNUM.out, if_neg (fun h => h0 h.1)]; rfl
      subst hr
      go_wp2_with fail
      rw [← Hw2.out]
      go_ret
      exact ⟨rfl, hkw2, v, HB2.out, fun n hn => by rw [HNUM.out, if_neg (fun h => by have := h.1; omega)] at hn; cases hn⟩
  · have hr : R = false := by rw [HR.out, numR_atoi_none ha]; rfl
    have HA := Lib.hid ha
    clear ha
    subst hr
    go_wp2_with fail
    rw [← Hw2.out]
    go_ret
    exact ⟨rfl, hkw2, v, HB2.out, fun n hn => by rw [numR_atoi_none HA.out] at hn; cases hn⟩
end Go.Proofs.YtmihnakapnoefaaGreatDoor
