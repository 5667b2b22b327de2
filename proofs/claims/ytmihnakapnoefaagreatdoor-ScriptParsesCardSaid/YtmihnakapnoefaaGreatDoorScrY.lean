/-
  The document's reading of a command's words: digits, marks.
-/
import Derived.Test.YtmihnakapnoefaaGreatDoorScrW
import Derived.Test.YtmihnakapnoefaaGreatDoorScrI
namespace Go.Proofs.YtmihnakapnoefaaGreatDoor
open Go.RowKit Go.WideShapes

def isDig (b : UInt8) : Prop := 48 ≤ b.toNat ∧ b.toNat ≤ 57
def numV (l : List UInt8) : Int := match numR l with
  | some n => (n : Int)
  | none => -1
theorem numV_none {l : List UInt8} (h : numR l = none) : numV l = -1 := by unfold numV; rw [h]
theorem dv_fold : ∀ (l : List UInt8) (acc : Nat), (∀ b ∈ l, isDig b) → l.foldl (fun n b => 10 * n + (b.toNat - 48)) acc < (acc + 1) * 10 ^ l.length
  | [], acc, _ => by simp
  | b :: l, acc, h => by
    have hb := h b (List.mem_cons_self ..)
    have ih := dv_fold l (10 * acc + (b.toNat - 48)) (fun x hx => h x (List.mem_cons_of_mem _ hx))
    rw [List.foldl_cons, List.length_cons, Nat.pow_succ, Nat.mul_comm (10 ^ l.length) 10, ← Nat.mul_assoc]
    have h1 : 10 * acc + (b.toNat - 48) + 1 ≤ (acc + 1) * 10 := by unfold isDig at hb; omega
    have h2 := Nat.mul_le_mul_right (10 ^ l.length) h1
    omega
theorem dv_lt (l : List UInt8) (h : ∀ b ∈ l, isDig b) : digVal l < 10 ^ l.length := by
  have := dv_fold l 0 h
  simpa [digVal] using this
theorem numR_dig {l : List UInt8} {n : Nat} (h : numR l = some n) : ∀ b ∈ l, isDig b := by
  obtain ⟨-, h2⟩ := numR_some h
  intro b hb
  rw [← h2] at hb
  exact dec_digit n b hb
theorem numR_len {l : List UInt8} {n : Nat} (h : numR l = some n) : 0 < l.length ∧ l.length ≤ 5 := by
  obtain ⟨h1, h2⟩ := numR_some h
  refine ⟨List.length_pos_iff.2 (fun e => ?_), ?_⟩
  · rw [e] at h2; exact dec_ne n h2
  · rw [← h2, Lib.decDigits_length]
    exact nDig_pow 4 n (by have : (10 : Nat) ^ 5 = 100000 := rfl; omega)
theorem numR_bad {l : List UInt8} {b : UInt8} (hb : b ∈ l) (h : ¬ isDig b) : numR l = none := by
  cases hn : numR l with
  | none => rfl
  | some n => exact absurd (numR_dig hn b hb) h
theorem numR_long {l : List UInt8} (h : 5 < l.length) : numR l = none := by
  cases hn : numR l with
  | none => rfl
  | some n => have := (numR_len hn).2; omega
theorem numR_nil : numR [] = none := by
  cases hn : numR [] with
  | none => rfl
  | some n => exact absurd (numR_len hn).1 (by decide)
theorem numV_all {l : List UInt8} (h : ∀ b ∈ l, isDig b) (hl : l.length ≤ 5) : numV l = if Lib.decDigits (digVal l) = l then (digVal l : Int) else -1 := by
  have h1 := dv_lt l h
  have h2 : digVal l ≤ 99999 := by
    have h3 : (10 : Nat) ^ l.length ≤ 10 ^ 5 := Nat.pow_le_pow_right (by decide) hl
    have : (10 : Nat) ^ 5 = 100000 := rfl
    omega
  unfold numV numR
  by_cases e : Lib.decDigits (digVal l) = l
  · rw [if_pos ⟨h2, e⟩, if_pos e]
  · rw [if_neg (fun h => e h.2), if_neg e]
theorem dig_step {l : List UInt8} {n : Nat} {b : UInt8} {v : Int} (hget : l[n]? = some b) (hb : 48 ≤ b.toNat) (hv : v = (digVal (l.take n) : Int)) : 10 * v + ((b.toNat : Int) - 48) = (digVal (l.take (n + 1)) : Int) := by
  rw [List.take_add_one, hget]
  simp only [Option.toList_some]
  rw [digVal_snoc, hv]
  omega
theorem dig_bound {l : List UInt8} {n : Nat} {v : Int} (h : ∀ b ∈ l.take n, isDig b) (hn : n ≤ 6) (hv : v = (digVal (l.take n) : Int)) : 0 ≤ v ∧ v < 1000000 := by
  have h1 := dv_lt _ h
  have h2 : (10 : Nat) ^ (l.take n).length ≤ 10 ^ 6 := Nat.pow_le_pow_right (by decide) (Nat.le_trans (List.length_take_le _ _) hn)
  have : (10 : Nat) ^ 6 = 1000000 := rfl
  omega
theorem dig_more {l : List UInt8} {n : Nat} {b : UInt8} (hget : l[n]? = some b) (hb : isDig b) (h : ∀ x ∈ l.take n, isDig x) : ∀ x ∈ l.take (n + 1), isDig x := by
  rw [List.take_add_one, hget]
  intro x hx
  simp only [Option.toList_some, List.mem_append, List.mem_singleton] at hx
  rcases hx with hx | rfl
  · exact h x hx
  · exact hb
set_option maxHeartbeats 2000000 in
set_option maxRecDepth 20000 in
theorem rdig (s : ByteArray) (w : World) (hs : s.size < 16384) : Calls Tryz.prog 36 #[.string s] w fun e w' => e = .returned (.int .i64 (numV s.data.toList)) ∧ Kp [] w w' := by
  obtain ⟨V, hV⟩ : ∃ V, V = numV s.data.toList := ⟨_, rfl⟩
  rw [← hV]
  have HV := Lib.hid hV
  have hlen : s.data.toList.length = s.size := len_data s
  have HLEN := Lib.hid hlen
  clear hV hlen
  go_enter Tryz.func36, Tryz.ntmps36
  go_wp2_with fail
  go_loopg [3, 4] s.size (fun g v i wr => ∃ (n : Nat) (x : Int), n + g = s.size ∧ n ≤ 6 ∧ i = .int .i64 n ∧ v = .int .i64 x ∧ Hid (x = (digVal (s.data.toList.take n) : Int)) ∧ Hid (∀ b ∈ s.data.toList.take n, isDig b) ∧ Kp [] w wr)
  case atStart => exact ⟨0, 0, by omega, by omega, rfl, rfl, Lib.hid rfl, Lib.hid (fun b hb => by simp at hb), Kp.refl _ _⟩
  case round =>
    obtain ⟨n, v, hn, h6, rfl, rfl, HX, HD, hK⟩ := hrel
    have HN := Lib.hid hn
    obtain ⟨v0, v1⟩ := dig_bound HD.out h6 HX.out
    by_cases hlt : n < s.size ∧ n < 6
    · obtain ⟨hl1, hl2⟩ := hlt
      obtain ⟨g', rfl⟩ : ∃ g', gk = g' + 1 := ⟨gk - 1, by omega⟩
      clear hn
      have hltI : (n : Int) < (s.size : Int) := by omega
      have hl6 : (n : Int) < 6 := by omega
      have hd6 : decide ((n : Int) < 6) = true := decide_eq_true hl6
      have hget : s.data.toList[n]? = some s[n] := by
        rw [List.getElem?_eq_getElem (by simpa using hl1)]; rfl
      obtain ⟨x, hx⟩ : ∃ x, x = s[n] := ⟨_, rfl⟩
      by_cases hc1 : (s[n].toNat : Int) < 48
      · have hbad := numR_bad (List.mem_of_getElem? hget) (fun h => by unfold isDig at h; omega)
        have HBAD := Lib.hid (numV_none hbad)
        clear hget hbad hx
        go_wp2_with fail
        go_ret
        exact ⟨by rw [HV.out, HBAD.out]; rfl, hK⟩
      by_cases hc2 : (s[n].toNat : Int) > 57
      · have hbad := numR_bad (List.mem_of_getElem? hget) (fun h => by unfold isDig at h; omega)
        have HBAD := Lib.hid (numV_none hbad)
        clear hget hbad hx
        go_wp2_with fail
        go_ret
        exact ⟨by rw [HV.out, HBAD.out]; rfl, hK⟩
      have hdg : isDig s[n] := ⟨by omega, by omega⟩
      have hst := dig_step hget hdg.1 HX.out
      have hmr := dig_more hget hdg HD.out
      have c48 : 48 ≤ (s[n].toNat : Int) := by omega
      have c57 : (s[n].toNat : Int) ≤ 57 := by omega
      have w8 : IntKind.u8.wrap ((s[n].toNat : Int) - 48) = (s[n].toNat : Int) - 48 := u8id _ (by omega) (by omega)
      have HST := Lib.hid hst
      have HMR := Lib.hid hmr
      clear hget hdg hst hmr hx
      go_wp2_with fail
      go_roundg g'
      case rel =>
        have hn := HN.out
        exact ⟨n + 1, 10 * v + ((s[n].toNat : Int) - 48), by omega, by omega, by go_num, by go_num, HST, HMR, hK⟩
      case measure => omega
    · have hns : n ≤ s.size := by omega
      by_cases hsz : s.size ≤ 5
      · obtain rfl : n = s.size := by omega
        have htk : s.data.toList.take s.size = s.data.toList := List.take_of_length_le (Nat.le_of_eq HLEN.out)
        have hx := HX.out
        have hd := HD.out
        rw [htk] at hx hd
        obtain ⟨k, hk⟩ : ∃ k, k = digVal s.data.toList := ⟨_, rfl⟩
        rw [← hk] at hx
        have hall := numV_all hd (by rw [HLEN.out]; exact hsz)
        rw [← hk, ← HV.out] at hall
        subst hx
        obtain ⟨T, hT⟩ : ∃ T, T = SB (Lib.decDigits k) := ⟨_, rfl⟩
        have HT := Lib.hid hT
        have HALL := Lib.hid hall
        have hd6 : decide ((s.size : Int) < 6) = true := by simp; omega
        have hsI : ¬ (s.size : Int) > 5 := by omega
        have hs5 : decide ((s.size : Int) > 5) = false := decide_eq_false hsI
        clear hd htk hk hall hT hn HX HD HN hlt
        cases he : s.toList.isEmpty with
        | true =>
          have hnil : s.data.toList = [] := nil_of_empty he
          have hv : V = -1 := by rw [HV.out, hnil]; exact numV_none numR_nil
          have HVV := Lib.hid hv
          clear hnil hv
          go_wp2_with fail
          go_ret
          exact ⟨by rw [HVV.out]; rfl, hK⟩
        | false =>
          go_wp2_with fail
          refine (rnumber k (by omega) _).mono ?_
          rintro e w2 ⟨rfl, k2⟩
          rw [← HT.out]
          have hK2 := hK.trans k2
          by_cases hq : T = s
          · have hv : V = k := by
              rw [HALL.out, if_pos]
              have := congrArg (fun b : ByteArray => b.data.toList) (HT.out.symm.trans hq)
              simpa using this
            subst hq
            have HVV := Lib.hid hv
            clear hv
            go_wp2_with fail
            go_ret
            exact ⟨by rw [HVV.out]; rfl, hK2⟩
          · have hv : V = -1 := by
              rw [HALL.out, if_neg]
              intro e
              refine hq (HT.out.trans ?_)
              rw [e, SB_data]
            have hne := str_ne hq
            have HVV := Lib.hid hv
            clear hv
            go_wp2_with fail
            go_ret
            exact ⟨by rw [HVV.out]; rfl, hK2⟩
      · have hbad := numR_long (l := s.data.toList) (by rw [HLEN.out]; omega)
        have HBAD := Lib.hid (numV_none hbad)
        have hsI : (s.size : Int) > 5 := by omega
        have hs5 : decide ((s.size : Int) > 5) = true := decide_eq_true hsI
        have he : s.toList.isEmpty = false := by
          cases h : s.toList.isEmpty with
          | false => rfl
          | true =>
            have h1 := nil_of_empty h
            have h2 := HLEN.out
            rw [h1] at h2
            simp at h2
            omega
        have h6e : n = 6 := by omega
        subst h6e
        clear hbad hn HN HX HD
        by_cases h66 : s.size = 6
        · have hI6 : (s.size : Int) = 6 := by omega
          have hlI : ¬ (6 : Int) < (s.size : Int) := by omega
          clear hI6
          go_wp2_with fail
          go_ret
          exact ⟨by rw [HV.out, HBAD.out]; rfl, hK⟩
        · have hlI : (6 : Int) < (s.size : Int) := by omega
          go_wp2_with fail
          go_ret
          exact ⟨by rw [HV.out, HBAD.out]; rfl, hK⟩
theorem bit_snoc (l : List UInt8) (n : Nat) (b : UInt8) (h : l[n]? = some b) : (bitsL l).take (n + 1) = (bitsL l).take n ++ [b == 49] := by
  unfold bitsL
  rw [List.take_add_one, List.getElem?_map, h]; rfl
theorem marks_bad {l : List UInt8} {b : UInt8} (hb : b ∈ l) (h : isMark b = false) (h45 : l ≠ [45]) : marksR l = none := by
  unfold marksR
  rw [if_neg h45, if_neg (fun e => by rw [e] at hb; cases hb), if_neg (fun e => by
    have := List.all_eq_true.1 e b hb
    rw [h] at this; cases this)]
theorem marks_all {l : List UInt8} (h : ∀ b ∈ l, isMark b = true) (h45 : l ≠ [45]) : marksR l = if l = [] then none else some (bitsL l) := by
  unfold marksR
  rw [if_neg h45]
  by_cases e : l = []
  · rw [if_pos e, if_pos e]
  · rw [if_neg e, if_neg e, if_pos (List.all_eq_true.2 h)]; rfl
theorem mark_more {l : List UInt8} {n : Nat} {b : UInt8} (hget : l[n]? = some b) (hb : isMark b = true) (h : ∀ x ∈ l.take n, isMark x = true) : ∀ x ∈ l.take (n + 1), isMark x = true := by
  rw [List.take_add_one, hget]
  intro x hx
  simp only [Option.toList_some, List.mem_append, List.mem_singleton] at hx
  rcases hx with hx | rfl
  · exact h x hx
  · exact hb
/-- the marks that were read, and whether they could be -/
def MarksAt (b0 : Nat) (W : World) (v : Value) (o : Option (List Bool)) : Prop :=
  ∃ (l : List Bool) (a : Option Addr) (c : Nat), v = .slice a l.length c ∧ (∀ X W', Kp X W W' → (∀ i ∈ X, i < b0) → BoolsAt W'.heap.size W' v l) ∧ l.length ≤ 16384 ∧ ∀ m, o = some m → l = m
theorem marks_nil (b0 : Nat) (W : World) (o : Option (List Bool)) (h : ∀ m, o = some m → [] = m) : MarksAt b0 W (.slice none 0 0) o :=
  ⟨[], none, 0, rfl, fun _ _ _ _ => ⟨rfl, none, 0, rfl, fun h => absurd h (by decide)⟩, by simp, h⟩
theorem marks_own {b0 : Nat} {W : World} {a : Option Addr} {c n : Nat} {l : List Bool} {o : Option (List Bool)} (h : W.ownsRow b0 4 1 (.slice a n c) n (l.map Value.bool)) (hl : l.length = n) (hz : n ≤ 16384) (ho : ∀ m, o = some m → l = m) : MarksAt b0 W (.slice a n c) o := by
  subst hl
  refine ⟨l, a, c, rfl, fun X W' k hx => ?_, hz, ho⟩
  exact SliceAt.of_owns (ownsRow_keep h k (fun b hb hm => by have := hx b hm; omega))
set_option maxHeartbeats 2000000 in
set_option maxRecDepth 20000 in
theorem rmarks (s : ByteArray) (w : World) (hs : s.size < 16384) : Calls Tryz.prog 38 #[.string s] w fun e w' => ∃ v, e = .returned (.tuple #[v, .bool (marksR s.data.toList).isSome]) ∧ MarksAt w.heap.size w' v (marksR s.data.toList) ∧ Kp [] w w' := by
  obtain ⟨V, hV⟩ : ∃ V, V = marksR s.data.toList := ⟨_, rfl⟩
  rw [← hV]
  have HV := Lib.hid hV
  have hlen : s.data.toList.length = s.size := len_data s
  have HLEN := Lib.hid hlen
  clear hV hlen
  obtain ⟨i0, hi, hz0, hz1, hz2⟩ := info_parts Tryz.info4
  cases h1 : (s.toList == [45]) with
  | true =>
    have h45 : s = ⟨#[45]⟩ := by
      rw [ByteArray.toList_eq] at h1
      exact bytes_inj (by simpa using h1)
    have hv : V = some [] := by rw [HV.out, h45]; rfl
    clear h45
    subst hv
    go_enter Tryz.func38, Tryz.ntmps38
    go_wp2_with fail
    go_ret2
    exact ⟨_, rfl, marks_nil _ _ _ (fun m h => by cases h; rfl), Kp.refl _ _⟩
  | false =>
    have h45' : s.data.toList ≠ [45] := fun e => by rw [ByteArray.toList_eq, e] at h1; cases h1
    have H45 := Lib.hid h45'
    clear h45'
    go_enter Tryz.func38, Tryz.ntmps38
    go_wp2_with fail
    go_loopg [4, 5] s.size (fun g o i wr => ∃ n : Nat, n + g = s.size ∧ i = .int .i64 n ∧ wr.ownsRow w.heap.size 4 1 o n (((bitsL s.data.toList).take n).map Value.bool) ∧ Hid (∀ b ∈ s.data.toList.take n, isMark b = true) ∧ Kp [] w wr)
    case atStart => exact ⟨0, by omega, rfl, World.ownsRow_nil _ _ _ _, Lib.hid (fun b hb => by simp at hb), Kp.refl _ _⟩
    case round =>
      obtain ⟨n, hn, rfl, hown, HM, hK⟩ := hrel
      have HN := Lib.hid hn
      obtain ⟨av, cv, rfl⟩ := ownsRow_ex hown
      by_cases hlt : n < s.size
      · obtain ⟨g', rfl⟩ : ∃ g', gk = g' + 1 := ⟨gk - 1, by omega⟩
        clear hn
        have hltI : (n : Int) < (s.size : Int) := by omega
        have hget : s.data.toList[n]? = some s[n] := by
          rw [List.getElem?_eq_getElem (by simpa using hlt)]; rfl
        by_cases c48 : s[n] = 48
        · have b1 : (((s[n]).toNat : Int) != 48) = false := by rw [c48]; rfl
          have b2 : (((s[n]).toNat : Int) == 49) = false := by rw [c48]; rfl
          have hmr := mark_more hget (by rw [c48]; rfl) HM.out
          have hst := bit_snoc _ n _ hget
          have hbv : (s[n] == 49) = false := by rw [c48]; rfl
          rw [hbv] at hst
          have HST := Lib.hid hst
          have HMR := Lib.hid hmr
          have hge := own_block_ge hown
          have HOWN := Lib.hid hown
          clear hst hmr hbv hget
          go_wp2_with (first | (at_builtin; refine wpList_append_mine _ rfl (.tmp 24) (.tmp 29) 24 rfl w.heap.size 4 i0 (.bool false) 1 1 Tryz.underlying24 hi hz0 hz1 hz2 rfl (by decide) (.slice av n cv) n (((bitsL s.data.toList).take n).map Value.bool) rfl (ownsRow_keep (X := []) HOWN.out ((Kp.refl _ wr).alloc _) (fun _ _ => by simp)) ⟨wr.heap.size, 0, none⟩ 1 1 [.bool false] rfl rfl (new_cells wr _ _) (oneCell_bool _) (by unfold maxLen; omega) (by omega) (by have := hK.size; simp; omega) ?_))
          intro v' w3 hown' hkp _ _
          obtain ⟨av', cv', rfl⟩ := ownsRow_ex hown'
          have hK' : Kp [] w w3 := hK.step (((Kp.refl _ wr).alloc _).trans hkp) (fun i hi hm => by
            simp only [Option.mem_toList] at hm
            have := hge _ hm; omega)
          have hc1 : ((bitsL s.data.toList).map Value.bool).take n ++ [Value.bool false] = ((bitsL s.data.toList).take (n + 1)).map Value.bool := by rw [HST.out, List.map_append, List.map_take]; rfl
          rw [hc1] at hown'
          have HO := Lib.hid hown'
          clear hge hkp hown' hc1 hown
          go_wp2_with fail
          go_roundg g'
          case rel =>
            have hn := HN.out
            exact ⟨n + 1, by omega, by go_num, HO.out, HMR, hK'⟩
          case measure => omega
        · by_cases c49 : s[n] = 49
          · have b1 : (((s[n]).toNat : Int) != 48) = true := by rw [c49]; rfl
            have b3 : (((s[n]).toNat : Int) != 49) = false := by rw [c49]; rfl
            have b2 : (((s[n]).toNat : Int) == 49) = true := by rw [c49]; rfl
            have hmr := mark_more hget (by rw [c49]; rfl) HM.out
            have hst := bit_snoc _ n _ hget
            have hbv : (s[n] == 49) = true := by rw [c49]; rfl
            rw [hbv] at hst
            have HST := Lib.hid hst
            have HMR := Lib.hid hmr
            have hge := own_block_ge hown
            have HOWN := Lib.hid hown
            clear hst hmr hbv hget
            go_wp2_with (first | (at_builtin; refine wpList_append_mine _ rfl (.tmp 24) (.tmp 29) 24 rfl w.heap.size 4 i0 (.bool false) 1 1 Tryz.underlying24 hi hz0 hz1 hz2 rfl (by decide) (.slice av n cv) n (((bitsL s.data.toList).take n).map Value.bool) rfl (ownsRow_keep (X := []) HOWN.out ((Kp.refl _ wr).alloc _) (fun _ _ => by simp)) ⟨wr.heap.size, 0, none⟩ 1 1 [.bool true] rfl rfl (new_cells wr _ _) (oneCell_bool _) (by unfold maxLen; omega) (by omega) (by have := hK.size; simp; omega) ?_))
            intro v' w3 hown' hkp _ _
            obtain ⟨av', cv', rfl⟩ := ownsRow_ex hown'
            have hK' : Kp [] w w3 := hK.step (((Kp.refl _ wr).alloc _).trans hkp) (fun i hi hm => by
              simp only [Option.mem_toList] at hm
              have := hge _ hm; omega)
            have hc1 : ((bitsL s.data.toList).map Value.bool).take n ++ [Value.bool true] = ((bitsL s.data.toList).take (n + 1)).map Value.bool := by rw [HST.out, List.map_append, List.map_take]; rfl
            rw [hc1] at hown'
            have HO := Lib.hid hown'
            clear hge hkp hown' hc1 hown
            go_wp2_with fail
            go_roundg g'
            case rel =>
              have hn := HN.out
              exact ⟨n + 1, by omega, by go_num, HO.out, HMR, hK'⟩
            case measure => omega
          · have hbad := marks_bad (List.mem_of_getElem? hget) (by unfold isMark; simp [c48, c49]) H45.out
            have hv : V = none := by rw [HV.out]; exact hbad
            subst hv
            have b1 : (((s[n]).toNat : Int) != 48) = true := by
              simp only [bne_iff_ne, ne_eq]; intro e; exact c48 (UInt8.toNat_inj.1 (by show _ = 48; omega))
            have b3 : (((s[n]).toNat : Int) != 49) = true := by
              simp only [bne_iff_ne, ne_eq]; intro e; exact c49 (UInt8.toNat_inj.1 (by show _ = 49; omega))
            clear hbad hget c48 c49 hown
            go_wp2_with fail
            go_ret2
            exact ⟨_, rfl, marks_nil _ _ _ (fun m h => by cases h), hK⟩
      · obtain rfl : n = s.size := by omega
        obtain rfl : gk = 0 := by omega
        clear hn HN
        have hm := HM.out
        rw [List.take_of_length_le (Nat.le_of_eq HLEN.out)] at hm
        have hbl : (bitsL s.data.toList).length = s.size := by unfold bitsL; rw [List.length_map]; exact HLEN.out
        rw [List.take_of_length_le (Nat.le_of_eq hbl)] at hown
        have hall := marks_all hm H45.out
        rw [← HV.out] at hall
        have HSL := Lib.hid hown
        have HALL := Lib.hid hall
        have HBL := Lib.hid hbl
        clear hm hown hall hbl HM
        cases he : s.toList.isEmpty with
        | true =>
          have hv : V = none := by rw [HALL.out, if_pos (nil_of_empty he)]
          subst hv
          go_wp2_with fail
          go_ret2
          exact ⟨_, rfl, marks_own HSL.out HBL.out (by omega) (fun m h => by cases h), hK⟩
        | false =>
          have hv : V = some (bitsL s.data.toList) := by rw [HALL.out, if_neg (ne_of_empty he)]
          subst hv
          go_wp2_with fail
          go_ret2
          exact ⟨_, rfl, marks_own HSL.out HBL.out (by omega) (fun m h => by cases h; rfl), hK⟩
end Go.Proofs.YtmihnakapnoefaaGreatDoor
