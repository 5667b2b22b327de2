/-
  The text of digits: text, Undigits.
-/
import Derived.Test.YtmihnakapnoefaaGreatDoorReqP
namespace Go.Proofs.YtmihnakapnoefaaGreatDoor
open Go.RowKit Go.WideShapes

/-- one of sixteen digits -/
def digV (b : UInt8) : Int := if 48 ≤ b.toNat ∧ b.toNat ≤ 57 then (b.toNat : Int) - 48 else if 97 ≤ b.toNat ∧ b.toNat ≤ 102 then (b.toNat : Int) - 87 else -1
theorem digV_all : ∀ x : Fin 256, Lib.indexByte [48, 49, 50, 51, 52, 53, 54, 55, 56, 57, 97, 98, 99, 100, 101, 102] (UInt8.ofNat x.val) = digV (UInt8.ofNat x.val) ∧ -1 ≤ digV (UInt8.ofNat x.val) ∧ digV (UInt8.ofNat x.val) ≤ 15 := by decide +kernel
theorem ofNat_toNat8 (b : UInt8) : UInt8.ofNat b.toNat = b := by
  apply UInt8.toNat_inj.1
  rw [UInt8.toNat_ofNat']
  have := b.toNat_lt
  omega
theorem digV_index (b : UInt8) : Lib.indexByte [48, 49, 50, 51, 52, 53, 54, 55, 56, 57, 97, 98, 99, 100, 101, 102] b = digV b := by
  have := (digV_all ⟨b.toNat, b.toNat_lt⟩).1
  simpa [ofNat_toNat8] using this
theorem digV_range (b : UInt8) : -1 ≤ digV b ∧ digV b ≤ 15 := by
  have := (digV_all ⟨b.toNat, b.toNat_lt⟩).2
  simpa [ofNat_toNat8] using this
theorem indexByte16 (b : UInt8) (w : World) : Calls Tryz.prog 71 #[.string ⟨#[48, 49, 50, 51, 52, 53, 54, 55, 56, 57, 97, 98, 99, 100, 101, 102]⟩, BV b] w fun e w' => e = .returned (.int .i64 (digV b)) ∧ w' = w := by
  refine (Tryz.strings_IndexByte _ (b.toNat : Int) w).mono ?_
  rintro e w' ⟨rfl, rfl⟩
  refine ⟨?_, rfl⟩
  rw [show ((b.toNat : Int).toNat.toUInt8) = b from by rw [Int.toNat_natCast]; exact ofNat_toNat8 b]
  exact congrArg (fun x => Ending.returned (.int .i64 x)) (digV_index b)

theorem rdigit (b : UInt8) (w : World) : Calls Tryz.prog 60 #[BV b] w fun e w' => e = .returned (.int .i64 (digV b)) ∧ w' = w := by
  have hlt := b.toNat_lt
  have u1 : (48 : Int) ≤ (b.toNat : Int) → IntKind.u8.wrap ((b.toNat : Int) - 48) = (b.toNat : Int) - 48 := fun h => u8id _ (by omega) (by omega)
  have u2 : (97 : Int) ≤ (b.toNat : Int) → IntKind.u8.wrap ((b.toNat : Int) - 97) = (b.toNat : Int) - 97 := fun h => u8id _ (by omega) (by omega)
  by_cases h1 : (48 : Int) ≤ (b.toNat : Int)
  · by_cases h2 : (b.toNat : Int) ≤ 57
    · have hd : digV b = (b.toNat : Int) - 48 := by unfold digV; rw [if_pos (by omega)]
      rw [hd]; clear hd u1 u2
      go_enter Tryz.func60, Tryz.ntmps60
      go_wp2_with fail
      go_ret
      exact ⟨rfl, rfl⟩
    · by_cases h3 : (97 : Int) ≤ (b.toNat : Int)
      · by_cases h4 : (b.toNat : Int) ≤ 102
        · have hd : digV b = (b.toNat : Int) - 97 + 10 := by unfold digV; rw [if_neg (by omega), if_pos (by omega)]; omega
          rw [hd]; clear hd u1 u2
          go_enter Tryz.func60, Tryz.ntmps60
          go_wp2_with fail
          go_ret
          exact ⟨rfl, rfl⟩
        · have hd : digV b = -1 := by unfold digV; rw [if_neg (by omega), if_neg (by omega)]
          rw [hd]; clear hd u1 u2
          go_enter Tryz.func60, Tryz.ntmps60
          go_wp2_with fail
          go_ret
          exact ⟨rfl, rfl⟩
      · have hd : digV b = -1 := by unfold digV; rw [if_neg (by omega), if_neg (by omega)]
        rw [hd]; clear hd u1 u2
        go_enter Tryz.func60, Tryz.ntmps60
        go_wp2_with fail
        go_ret
        exact ⟨rfl, rfl⟩
  · have h3 : ¬ (97 : Int) ≤ (b.toNat : Int) := by omega
    have hd : digV b = -1 := by unfold digV; rw [if_neg (by omega), if_neg (by omega)]
    rw [hd]; clear hd u1 u2
    go_enter Tryz.func60, Tryz.ntmps60
    go_wp2_with fail
    go_ret
    exact ⟨rfl, rfl⟩

/-- the byte of pair n -/
def pv (l : List UInt8) (n : Nat) : Option UInt8 :=
  if digV (l.getD (2 * n) 0) < 0 then none else if digV (l.getD (2 * n + 1) 0) < 0 then none else some (UInt8.ofNat (16 * digV (l.getD (2 * n) 0) + digV (l.getD (2 * n + 1) 0)).toNat)
def pairsN (l : List UInt8) : Nat → Option (List UInt8)
  | 0 => some []
  | n + 1 => match pairsN l n, pv l n with
    | some u, some b => some (u ++ [b])
    | _, _ => none
/-- the text of digits -/
def undigR (l : List UInt8) : Option (List UInt8) := if l = [45] then some [] else if l = [] then none else if l.length % 2 = 1 then none else pairsN l (l.length / 2)
theorem pairs_none {l : List UInt8} {n : Nat} (h : pairsN l n = none) : ∀ m, n ≤ m → pairsN l m = none := by
  intro m hm
  induction m with
  | zero => obtain rfl : n = 0 := by omega
            exact h
  | succ m ih =>
    by_cases e : n = m + 1
    · subst e; exact h
    · simp only [pairsN]
      rw [ih (by omega)]
theorem pairs_step {l : List UInt8} {n : Nat} {u : List UInt8} {b : UInt8} (h : pairsN l n = some u) (hb : pv l n = some b) : pairsN l (n + 1) = some (u ++ [b]) := by
  simp only [pairsN]; rw [h, hb]
theorem pairs_stop {l : List UInt8} {n : Nat} (hb : pv l n = none) : pairsN l (n + 1) = none := by
  simp only [pairsN]; rw [hb]; split <;> simp_all
theorem pairs_len {l : List UInt8} : ∀ {n : Nat} {u : List UInt8}, pairsN l n = some u → u.length = n
  | 0, u, h => by
    simp only [pairsN, Option.some.injEq] at h
    subst h; rfl
  | n + 1, u, h => by
    simp only [pairsN] at h
    split at h
    · rename_i u' b' h1 h2
      simp only [Option.some.injEq] at h
      subst h
      simp [pairs_len h1]
    · cases h
theorem getD_at (s : ByteArray) (i : Nat) (h : i < s.size) : s.data.toList.getD i 0 = s[i] := by
  rw [List.getD_eq_getElem?_getD, List.getElem?_eq_getElem (by simpa using h), Option.getD_some, get_list s i h]

set_option maxHeartbeats 1000000 in
set_option maxRecDepth 20000 in
theorem rundigits (s : ByteArray) (hs : s.size < 16384) (w : World) :
    Calls Tryz.prog 37 #[.string s] w fun e w' => e = .returned (.tuple #[.string (SB ((undigR s.data.toList).getD [])), .bool (undigR s.data.toList).isSome]) ∧ Kp [] w w' := by
  cases h1 : (s.toList == [45]) with
  | true =>
    have e1 : undigR s.data.toList = some [] := by
      rw [ByteArray.toList_eq] at h1
      unfold undigR; rw [if_pos (by simpa using h1)]
    rw [e1]; clear e1
    go_enter Tryz.func37, Tryz.ntmps37
    go_wp2_with fail
    go_ret2
    exact ⟨rfl, Kp.refl _ _⟩
  | false =>
    have n1 : s.data.toList ≠ [45] := by rw [ByteArray.toList_eq] at h1; simpa using h1
    cases h2 : s.toList.isEmpty with
    | true =>
      have e1 : undigR s.data.toList = none := by unfold undigR; rw [if_neg n1, if_pos (nil_of_empty h2)]
      rw [e1]; clear e1 n1
      go_enter Tryz.func37, Tryz.ntmps37
      go_wp2_with fail
      go_ret2
      exact ⟨rfl, Kp.refl _ _⟩
    | false =>
      by_cases h3 : s.size % 2 = 1
      · have e1 : undigR s.data.toList = none := by unfold undigR; rw [if_neg n1, if_neg (ne_of_empty h2), if_pos (by simpa using h3)]
        rw [e1]; clear e1 n1
        have h3I : ((s.size : Int) % 2 == 1) = true := by simp; omega
        go_enter Tryz.func37, Tryz.ntmps37
        go_wp2_with fail
        go_ret2
        exact ⟨rfl, Kp.refl _ _⟩
      · have e1 : undigR s.data.toList = pairsN s.data.toList (s.size / 2) := by unfold undigR; rw [if_neg n1, if_neg (ne_of_empty h2), if_neg (by simpa using h3)]; simp
        rw [e1]; clear e1 n1
        have h3I : ((s.size : Int) % 2 == 1) = false := by simp; omega
        go_enter Tryz.func37, Tryz.ntmps37
        go_wp2_with fail
        go_loopg [4, 5] (s.size / 2) (fun g o i wr => ∃ (n : Nat) (u : List UInt8), n + g = s.size / 2 ∧ i = .int .i64 (2 * n : Nat) ∧ pairsN s.data.toList n = some u ∧ o = .string (SB u) ∧ Kp [] w wr)
        case atStart => exact ⟨0, [], by omega, rfl, rfl, rfl, Kp.refl _ _⟩
        case round =>
          obtain ⟨n, u, hn, rfl, hu, rfl, hK⟩ := hrel
          have HN := Lib.hid hn
          have HU := Lib.hid hu
          by_cases hlt : n < s.size / 2
          · obtain ⟨g', rfl⟩ : ∃ g', gk = g' + 1 := ⟨gk - 1, by omega⟩
            obtain ⟨i0, hi0⟩ : ∃ i0, i0 = 2 * n := ⟨_, rfl⟩
            rw [← hi0]
            have hi1 : i0 + 1 < s.size := by omega
            have hi00 : i0 < s.size := by omega
            have hltI : (i0 : Int) < (s.size : Int) := by omega
            have hltI1 : (i0 : Int) + 1 < (s.size : Int) := by omega
            obtain ⟨S0, hS0⟩ : ∃ S0, S0 = SB u := ⟨_, rfl⟩
            have hlen : S0.size ≤ 20000 := by rw [hS0, SB_size, pairs_len hu]; omega
            have HI := Lib.hid hi0
            have HS := Lib.hid hS0
            have g1 : s.data.toList.getD (2 * n) 0 = s[i0]'hi00 := by rw [← hi0]; exact getD_at s i0 hi00
            have g2 : s.data.toList.getD (2 * n + 1) 0 = s[i0 + 1]'hi1 := by rw [← hi0]; exact getD_at s _ hi1
            obtain ⟨a, ha⟩ : ∃ a : UInt8, a = s[i0]'hi00 := ⟨_, rfl⟩
            obtain ⟨c, hc⟩ : ∃ c : UInt8, c = s[i0 + 1]'hi1 := ⟨_, rfl⟩
            rw [← ha] at g1
            rw [← hc] at g2
            have hpv : pv s.data.toList n = if digV a < 0 then none else if digV c < 0 then none else some (UInt8.ofNat (16 * digV a + digV c).toNat) := by unfold pv; rw [g1, g2]
            have HPV := Lib.hid hpv
            have ra := digV_range a
            have rc := digV_range c
            have HR := Lib.hid (And.intro ra rc)
            obtain ⟨da, hda⟩ : ∃ da, da = digV a := ⟨_, rfl⟩
            obtain ⟨dc, hdc⟩ : ∃ dc, dc = digV c := ⟨_, rfl⟩
            rw [← hda] at ra
            rw [← hdc] at rc
            have HDA := Lib.hid hda
            have HDC := Lib.hid hdc
            rw [← hS0]
            clear hn hu hS0 g1 g2 hpv hda hdc
            clear hi0
            go_wp2_with fail
            refine (rdigit _ _).mono ?_
            rintro e w1 ⟨rfl, rfl⟩
            rw [← ha, ← HDA.out]
            go_wp2_with fail
            refine (rdigit _ _).mono ?_
            rintro e w2 ⟨rfl, rfl⟩
            rw [← hc, ← HDC.out]
            have HA := Lib.hid ha
            have HC := Lib.hid hc
            clear ha hc
            by_cases b1 : da < 0
            · have hno : pairsN s.data.toList (s.size / 2) = none := pairs_none (pairs_stop (n := n) (by rw [HPV.out, ← HDA.out, if_pos b1])) _ (by omega)
              have HNO := Lib.hid hno
              clear hno
              go_wp2_with fail
              go_ret2
              exact ⟨by rw [HNO.out]; rfl, hK⟩
            · by_cases b2 : dc < 0
              · have hno : pairsN s.data.toList (s.size / 2) = none := pairs_none (pairs_stop (n := n) (by rw [HPV.out, ← HDA.out, ← HDC.out, if_neg b1, if_pos b2])) _ (by omega)
                have HNO := Lib.hid hno
                clear hno
                go_wp2_with fail
                go_ret2
                exact ⟨by rw [HNO.out]; rfl, hK⟩
              · obtain ⟨x, hx⟩ : ∃ x : UInt8, x = UInt8.ofNat (16 * da + dc).toNat := ⟨_, rfl⟩
                have hxI : (x.toNat : Int) = 16 * da + dc := by rw [hx, UInt8.toNat_ofNat']; omega
                have f1 : IntKind.u8.wrap (16 * da + dc) = (x.toNat : Int) := by rw [u8id _ (by omega) (by omega), hxI]
                have hst : pairsN s.data.toList (n + 1) = some (u ++ [x]) := pairs_step HU.out (by rw [HPV.out, ← HDA.out, ← HDC.out, if_neg b1, if_neg b2, hx])
                have hcv : (convert 79 9 (.slice (some ⟨w2.heap.size, 0, none⟩) 1 1)).run Tryz.prog (w2.alloc (.cells #[BV x] 5)) = .ok (.string ⟨#[x]⟩) (w2.alloc (.cells #[BV x] 5)) :=
                  run_convert_bytes_back _ _ _ _ ⟨w2.heap.size, 0, none⟩ 1 [x] Tryz.underlying79 Tryz.underlying5 Tryz.underlying9 (fun j hj => by
                    obtain rfl : j = 0 := by simp at hj; omega
                    exact cell_of_cells (block_new _ _) rfl)
                obtain ⟨D, hD⟩ : ∃ D : ByteArray, D = ⟨#[x]⟩ := ⟨_, rfl⟩
                have hDz : D.size = 1 := by rw [hD]; rfl
                rw [← hD] at hcv
                have hnew : S0 ++ D = SB (u ++ [x]) := by
                  apply bytes_inj
                  rw [HS.out, hD]
                  simp [ByteArray.data_append]
                have m1 : S0.size + D.size ≤ 9223372036854775807 := by omega
                have HST := Lib.hid hst
                have HNEW := Lib.hid hnew
                clear hx hxI hst hD hDz hnew
                go_wp2_with fail
                go_roundg g'
                case rel =>
                  have hn := HN.out
                  have hi := HI.out
                  exact ⟨n + 1, u ++ [x], by omega, by go_num, HST.out, by rw [HNEW.out], hK.alloc _⟩
                case measure => omega
          · obtain rfl : n = s.size / 2 := by omega
            obtain rfl : gk = 0 := by omega
            have hfin : ((2 * (s.size / 2) : Nat) : Int) = (s.size : Int) := by omega
            rw [hfin]
            clear hn hu hfin
            go_wp2_with fail
            go_ret2
            exact ⟨by rw [HU.out]; rfl, hK⟩

theorem len_data (s : ByteArray) : s.data.toList.length = s.size := by simp
theorem or_all : ∀ p q : Fin 16, bits BinOp.or IntKind.i64 ((p.val : Int) * 16) (q.val : Int) % 256 = 16 * (p.val : Int) + (q.val : Int) := by decide +kernel
set_option maxHeartbeats 1000000 in
set_option maxRecDepth 20000 in
theorem qtext (s : ByteArray) (hs : s.size < 16384) (w : World) :
    Calls Tryz.prog 56 #[.string s] w fun e w' => ∃ t : ByteArray, e = .returned (.tuple #[.string t, .bool (undigR s.data.toList).isSome]) ∧ (∀ u, undigR s.data.toList = some u → t = SB u) ∧ Kp [] w w' := by
  cases h1 : (s.toList == [45]) with
  | true =>
    have e1 : undigR s.data.toList = some [] := by
      rw [ByteArray.toList_eq] at h1
      unfold undigR; rw [if_pos (by simpa using h1)]
    rw [e1]; clear e1
    go_enter Tryz.func56, Tryz.ntmps56
    go_wp2_with fail
    go_ret2
    exact ⟨_, rfl, fun u hu => by cases hu; rfl, Kp.refl _ _⟩
  | false =>
    have n1 : s.data.toList ≠ [45] := by rw [ByteArray.toList_eq] at h1; simpa using h1
    obtain ⟨m, hm⟩ : ∃ m : Nat, m = s.size / 2 := ⟨_, rfl⟩
    have hmI : (s.size : Int) / 2 = (m : Int) := by omega
    have hm2 : 2 * m ≤ s.size := by omega
    have hm9 : m ≤ 8192 := by omega
    have HM := Lib.hid hm
    clear hm
    obtain ⟨i0, hi, hz0, hz1, hz2⟩ := info_parts Tryz.info5
    go_enter Tryz.func56, Tryz.ntmps56
    go_wp2_with fail
    obtain ⟨w1, hmk, hown, hgr⟩ := run_makeSlice_full (P := Tryz.prog) w w.heap.size 79 5 i0 (.int .u8 0) 1 Tryz.underlying79 hi hz0 hz1 .i64 .i64 m (by omega) (by rw [hz2]; omega) (by unfold maxLen; omega) (Nat.le_refl _)
    have k1 : Kp [] w w1 := Kp.of_grown hgr
    obtain ⟨cur, hb1, hcs⟩ : ∃ cur : Array Value, w1.heap[w.heap.size]? = some (.cells cur 5 (0, 0)) ∧ cur.size = m := by
      obtain ⟨hl, ⟨hv, hn⟩ | ⟨g, cap, cur, hv, hg, hb', hc, hm, hs, ht⟩⟩ := hown
      · cases hv
      · simp only [Value.slice.injEq, Option.some.injEq, Addr.mk.injEq] at hv
        obtain ⟨⟨rfl, -, -⟩, -, rfl⟩ := hv
        exact ⟨cur, hb', by omega⟩
    rw [hmk]
    obtain ⟨B, hB⟩ : ∃ B, B = w.heap.size := ⟨_, rfl⟩
    rw [← hB] at hb1 ⊢
    have HB := Lib.hid hB
    clear hmk hown hgr hB
    go_wp2_with fail
    go_loopg [16] m (fun g i wr => ∃ (n : Nat) (u : List UInt8) (cur : Array Value), n + g = m ∧ i = .int .i64 n ∧ pairsN s.data.toList n = some u ∧ wr.heap[B]? = some (.cells cur 5 (0, 0)) ∧ cur.size = m ∧ cur.toList.take n = Lib.byteCells u ∧ Kp [] w wr)
    case atStart => exact ⟨0, [], cur, by omega, rfl, rfl, hb1, hcs, rfl, k1⟩
    case round =>
      clear hb1 hcs k1
      obtain ⟨n, u, cur, hn, rfl, hu, hblk, hcs, htk, hK⟩ := hrel
      have HN := Lib.hid hn
      have HU := Lib.hid hu
      have HTK := Lib.hid htk
      by_cases hlt : n < m
      · obtain ⟨g', rfl⟩ : ∃ g', gk = g' + 1 := ⟨gk - 1, by omega⟩
        have hltI : (n : Int) < (m : Int) := by omega
        obtain ⟨j0, hj0⟩ : ∃ j0, j0 = 2 * n := ⟨_, rfl⟩
        obtain ⟨j1, hjj⟩ : ∃ j1, j1 = j0 + 1 := ⟨_, rfl⟩
        have hj1 : j1 < s.size := by omega
        have hj00 : j0 < s.size := by omega
        have hjI : (j0 : Int) < (s.size : Int) := by omega
        have hjI1 : (j1 : Int) < (s.size : Int) := by omega
        have g1 : s.data.toList.getD (2 * n) 0 = s[j0]'hj00 := by rw [← hj0]; exact getD_at s j0 hj00
        have g2 : s.data.toList.getD (2 * n + 1) 0 = s[j1]'hj1 := by rw [← hj0, ← hjj]; exact getD_at s _ hj1
        obtain ⟨a, ha⟩ : ∃ a : UInt8, a = s[j0]'hj00 := ⟨_, rfl⟩
        obtain ⟨c, hc⟩ : ∃ c : UInt8, c = s[j1]'hj1 := ⟨_, rfl⟩
        rw [← ha] at g1
        rw [← hc] at g2
        have hpv : pv s.data.toList n = if digV a < 0 then none else if digV c < 0 then none else some (UInt8.ofNat (16 * digV a + digV c).toNat) := by unfold pv; rw [g1, g2]
        have HPV := Lib.hid hpv
        have ra := digV_range a
        have rc := digV_range c
        obtain ⟨da, hda⟩ : ∃ da, da = digV a := ⟨_, rfl⟩
        obtain ⟨dc, hdc⟩ : ∃ dc, dc = digV c := ⟨_, rfl⟩
        rw [← hda] at ra
        rw [← hdc] at rc
        have HDA := Lib.hid hda
        have HDC := Lib.hid hdc
        have hjm : IntKind.i64.wrap (j0 : Int) = (j0 : Int) := wrap_id _ (by omega) (by omega)
        have hje : (j0 : Int) + 1 = (j1 : Int) := by omega
        have hjw : IntKind.i64.wrap (j1 : Int) = (j1 : Int) := wrap_id _ (by omega) (by omega)
        clear hjj
        have hjm2 : 2 * (n : Int) = (j0 : Int) := by omega
        have HJ := Lib.hid hj0
        clear hn hu htk g1 g2 hpv hda hdc hj0
        go_wp2_with fail
        refine wpB_begin 999 (Kp [] wr) (by kernel_rfl) (by first | exact hK.drew | exact Kp.drew (Kp.refl _ _)) (fun hHeld => ?_)
        refine wpB_take 0 _ ?_ rfl (by kernel_rfl) (fun _ _ _ h => h) rfl hHeld ?_ ?_
        rotate_left
        · (intro W hW; go_simp; try with_reducible rfl)
        try simp only [Act.put, List.setIfInBounds_toArray, List.set_cons_zero, List.set_cons_succ]
        refine wpB_take 1 _ ?_ rfl (by kernel_rfl) (fun _ _ _ h => h) rfl hHeld ?_ ?_
        rotate_left
        · (intro W hW; go_simp; try with_reducible rfl)
        try simp only [Act.put, List.setIfInBounds_toArray, List.set_cons_zero, List.set_cons_succ]
        refine wpB_take 2 _ ?_ rfl (by kernel_rfl) (fun _ _ _ h => h) rfl hHeld ?_ ?_
        rotate_left
        · (intro W hW; go_simp; try with_reducible rfl)
        try simp only [Act.put, List.setIfInBounds_toArray, List.set_cons_zero, List.set_cons_succ]
        refine wpB_take 3 _ ?_ rfl (by kernel_rfl) (fun _ _ _ h => h) rfl hHeld ?_ ?_
        rotate_left
        · (intro W hW; go_simp; try with_reducible rfl)
        try simp only [Act.put, List.setIfInBounds_toArray, List.set_cons_zero, List.set_cons_succ]
        refine wpB_take 5 _ ?_ rfl (by kernel_rfl) (fun _ _ _ h => h) rfl hHeld ?_ ?_
        rotate_left
        · (intro W hW; go_simp; try with_reducible rfl)
        try simp only [Act.put, List.setIfInBounds_toArray, List.set_cons_zero, List.set_cons_succ]
        refine wpB_take 6 _ ?_ rfl (by kernel_rfl) (fun _ _ _ h => h) rfl hHeld ?_ ?_
        rotate_left
        · (intro W hW; go_simp; try with_reducible rfl)
        try simp only [Act.put, List.setIfInBounds_toArray, List.set_cons_zero, List.set_cons_succ]
        refine wpB_take 7 _ ?_ rfl (by kernel_rfl) (fun _ _ _ h => h) rfl hHeld ?_ ?_
        rotate_left
        · (intro W hW; go_simp; try with_reducible rfl)
        try simp only [Act.put, List.setIfInBounds_toArray, List.set_cons_zero, List.set_cons_succ]
        refine wpB_take 8 _ ?_ rfl (by kernel_rfl) (fun _ _ _ h => h) rfl hHeld ?_ ?_
        rotate_left
        · (intro W hW; go_simp; try with_reducible rfl)
        try simp only [Act.put, List.setIfInBounds_toArray, List.set_cons_zero, List.set_cons_succ]
        refine wpB_take 9 _ ?_ rfl (by kernel_rfl) (fun _ _ _ h => h) rfl hHeld ?_ ?_
        rotate_left
        · (intro W hW; go_simp; try with_reducible rfl)
        try simp only [Act.put, List.setIfInBounds_toArray, List.set_cons_zero, List.set_cons_succ]
        refine wpB_step 4 _ rfl (by kernel_rfl) rfl rfl (fun K hK_ => ?_)
        go_simp
        refine (indexByte16 _ _).mono ?_
        rintro e w4 ⟨rfl, rfl⟩
        rw [← ha, ← HDA.out]
        refine hK_.out _ _ (by first | exact hHeld | exact hHeld.call ‹_› | exact hHeld.alloc _) (fun hHeld => ?_)
        clear hK_ K
        try simp only [Act.put, List.setIfInBounds_toArray, List.set_cons_zero, List.set_cons_succ]
        refine wpB_step 10 _ rfl (by kernel_rfl) rfl rfl (fun K hK_ => ?_)
        go_simp
        refine (indexByte16 _ _).mono ?_
        rintro e w5 ⟨rfl, rfl⟩
        rw [← hc, ← HDC.out]
        refine hK_.out _ _ (by first | exact hHeld | exact hHeld.call ‹_› | exact hHeld.alloc _) (fun hHeld => ?_)
        clear hK_ K
        try simp only [Act.put, List.setIfInBounds_toArray, List.set_cons_zero, List.set_cons_succ]
        refine wpB_take 11 _ ?_ rfl (by kernel_rfl) (fun _ _ _ h => h) rfl hHeld ?_ ?_
        rotate_left
        · (intro W hW; go_simp; try with_reducible rfl)
        try simp only [Act.put, List.setIfInBounds_toArray, List.set_cons_zero, List.set_cons_succ]
        refine wpB_take 12 _ ?_ rfl (by kernel_rfl) (fun _ _ _ h => h) rfl hHeld ?_ ?_
        rotate_left
        · (intro W hW; go_simp; try with_reducible rfl)
        try simp only [Act.put, List.setIfInBounds_toArray, List.set_cons_zero, List.set_cons_succ]
        refine wpB_done (by kernel_rfl) ?_ _
        have HA := Lib.hid ha
        have HC := Lib.hid hc
        have hblk2 := Kp.blockAt (X := []) hblk (by simp) _ hHeld
        have hK2 := hK.trans hHeld
        clear ha hc hblk hK hHeld hjI hjI1 hjm hjw hje hjm2
        obtain ⟨wd, hwd⟩ : ∃ wd, wd = wr.drew := ⟨_, rfl⟩
        rw [← hwd] at hblk2 hK2 ⊢
        clear hwd
        by_cases b1 : da < 0
        · have hno : undigR s.data.toList = none := by
            unfold undigR
            rw [if_neg n1]
            split
            · rfl
            · split
              · rfl
              · exact pairs_none (pairs_stop (n := n) (by rw [HPV.out, ← HDA.out, if_pos b1])) _ (by have := HM.out; simp; omega)
          have HNO := Lib.hid hno
          clear hno
          go_wp2_with fail
          go_ret2
          exact ⟨_, by rw [HNO.out]; rfl, (fun u hu => by rw [HNO.out] at hu; cases hu), hK2⟩
        · by_cases b2 : dc < 0
          · have hno : undigR s.data.toList = none := by
              unfold undigR
              rw [if_neg n1]
              split
              · rfl
              · split
                · rfl
                · exact pairs_none (pairs_stop (n := n) (by rw [HPV.out, ← HDA.out, ← HDC.out, if_neg b1, if_pos b2])) _ (by have := HM.out; simp; omega)
            have HNO := Lib.hid hno
            clear hno
            go_wp2_with fail
            go_ret2
            exact ⟨_, by rw [HNO.out]; rfl, (fun u hu => by rw [HNO.out] at hu; cases hu), hK2⟩
          · obtain ⟨x, hx⟩ : ∃ x : UInt8, x = UInt8.ofNat (16 * da + dc).toNat := ⟨_, rfl⟩
            have hst : pairsN s.data.toList (n + 1) = some (u ++ [x]) := pairs_step HU.out (by rw [HPV.out, ← HDA.out, ← HDC.out, if_neg b1, if_neg b2, hx])
            have HST := Lib.hid hst
            have HX := Lib.hid hx
            have c1 : wd.cell? ⟨B, n, none⟩ = some (cur[n]'(by omega)) := cell_of_cells hblk2 (by simp [hcs, hlt])
            have f1 : wd.frozen? ⟨B, n, none⟩ = false := frozen_of_cells hblk2 _
            have hbits : bits BinOp.or IntKind.i64 (da * 16) dc % 256 = (x.toNat : Int) := by
              obtain ⟨p, hp⟩ : ∃ p : Nat, da = p := ⟨da.toNat, by omega⟩
              obtain ⟨q, hq⟩ : ∃ q : Nat, dc = q := ⟨dc.toNat, by omega⟩
              subst hp hq
              have h := or_all ⟨p, by omega⟩ ⟨q, by omega⟩
              simp only at h
              rw [h, hx, UInt8.toNat_ofNat']
              omega
            have HBT := Lib.hid hbits
            clear hst hx hbits
            go_wp2_with fail
            rw [HBT.out]
            go_roundg g'
            case rel =>
              have hn := HN.out
              refine ⟨n + 1, u ++ [x], cur.setIfInBounds n (BV x), by omega, by go_num, HST.out, ?_, by simp [hcs], ?_, hK2.setCell (.inr (by have := HB.out; simp; omega)) _⟩
              · rw [block_setCell hblk2]
              · have h1 := HTK.out
                have h2 : Lib.byteCells (u ++ [x]) = Lib.byteCells u ++ [BV x] := by simp [Lib.byteCells]
                rw [h2, ← h1, Array.toList_setIfInBounds, List.take_add_one, List.take_set_of_le (Nat.le_refl _), List.getElem?_set_self (by simp [hcs, hlt])]
                rfl
            case measure => omega
      · obtain rfl : n = m := by omega
        obtain rfl : gk = 0 := by omega
        have hul : u.length = n := pairs_len hu
        have htk2 : cur.toList.take u.length = Lib.byteCells u := by rw [hul]; exact htk
        have hcv : (convert 79 9 (.slice (some ⟨B, 0, none⟩) n n)).run Tryz.prog wr = .ok (.string (SB u)) wr := by
          have := run_convert_bytes_back (P := Tryz.prog) wr 79 9 5 ⟨B, 0, none⟩ n u Tryz.underlying79 Tryz.underlying5 Tryz.underlying9 (Lib.bytes_of_row hblk htk2)
          rw [hul] at this
          exact this
        clear hn hu htk hul htk2
        by_cases h0 : (0 : Int) < (s.size : Int)
        · cases h2 : ((s.size : Int) % 2 == 0) with
          | true =>
            have hR : undigR s.data.toList = some u := by
              unfold undigR
              rw [if_neg n1, if_neg (by intro e; have h9 := congrArg List.length e; rw [len_data] at h9; simp only [List.length_nil] at h9; omega), if_neg (by rw [len_data]; have h2' : (s.size : Int) % 2 = 0 := (beq_iff_eq ..).1 h2; omega)]
              have := HU.out
              rw [HM.out] at this
              simpa using this
            have HRR := Lib.hid hR
            clear hR
            go_wp2_with fail
            go_ret2
            exact ⟨_, by rw [HRR.out]; rfl, (fun v hv => by rw [HRR.out] at hv; cases hv; rfl), hK⟩
          | false =>
            have hR : undigR s.data.toList = none := by
              unfold undigR
              rw [if_neg n1, if_neg (by intro e; have h9 := congrArg List.length e; rw [len_data] at h9; simp only [List.length_nil] at h9; omega), if_pos (by rw [len_data]; have h2' : ¬ (s.size : Int) % 2 = 0 := (beq_eq_false_iff_ne ..).1 h2; omega)]
            have HRR := Lib.hid hR
            clear hR
            go_wp2_with fail
            go_ret2
            exact ⟨_, by rw [HRR.out]; rfl, (fun v hv => by rw [HRR.out] at hv; cases hv), hK⟩
        · have hR : undigR s.data.toList = none := by
            unfold undigR
            rw [if_neg n1, if_pos (List.eq_nil_of_length_eq_zero (by rw [len_data]; omega))]
          have HRR := Lib.hid hR
          clear hR
          go_wp2_with fail
          go_ret2
          exact ⟨_, by rw [HRR.out]; rfl, (fun v hv => by rw [HRR.out] at hv; cases hv), hK⟩
end Go.Proofs.YtmihnakapnoefaaGreatDoor
