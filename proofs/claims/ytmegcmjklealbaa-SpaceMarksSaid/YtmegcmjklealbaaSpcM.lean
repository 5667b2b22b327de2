/-
  SpaceMarks: what is marked is not taken. For every list of places.
  Conditions: none beyond the row's own.
-/
import Derived.Test.YtmegcmjklealbaaSpcG
namespace Go.Proofs.Ytmegcmjklealbaa
open Go.ChangeShapes Go.WideShapes Go.ChangeAt Go.RowKit Go.WideElems

/-- what is free on the first m disks -/
def totTo (f : Int → Int → Bool) : Nat → Nat
  | 0 => 0
  | m + 1 => totTo f m + freeN f m
theorem freeN_le (f : Int → Int → Bool) (d : Int) : freeN f d ≤ 48 := by
  unfold freeN
  split
  · exact freeFrom_le f d 48 0
  · omega
theorem totTo_le (f : Int → Int → Bool) : ∀ m : Nat, totTo f m ≤ 48 * m
  | 0 => Nat.le_refl _
  | m + 1 => by
    have := totTo_le f m
    have := freeN_le f m
    simp only [totTo]
    omega
theorem freeFrom_off {f : Int → Int → Bool} {d d' s : Int} {v : Bool} (h : d' ≠ d) : ∀ n k : Nat, freeFrom (upd f d s v) d' n k = freeFrom f d' n k
  | 0, _ => rfl
  | n + 1, k => by
    simp only [freeFrom]
    rw [freeFrom_off h n (k + 1)]
    have : upd f d s v d' k = f d' k := by
      simp only [upd]
      rw [if_neg (fun c => h c.1)]
    rw [this]
theorem freeN_off {f : Int → Int → Bool} {d d' s : Int} {v : Bool} (h : d' ≠ d) : freeN (upd f d s v) d' = freeN f d' := by
  unfold freeN
  rw [freeFrom_off h]
theorem tot_take {f : Int → Int → Bool} {d k : Nat} (hd : d < 12) (hk : k < 48) (hf : f d k = false) : ∀ m : Nat, totTo (upd f d k true) m + (if d < m then 1 else 0) = totTo f m
  | 0 => rfl
  | m + 1 => by
    have ih := tot_take hd hk hf m
    simp only [totTo]
    by_cases e : m = d
    · subst e
      have c1 : ¬ m < m := by omega
      have c2 : m < m + 1 := by omega
      rw [if_neg c1] at ih
      rw [if_pos c2]
      have := freeN_take (d := (m : Int)) (by simp [DiskB]; omega) hk hf
      omega
    · rw [freeN_off (by omega)]
      by_cases c : d < m
      · have c2 : d < m + 1 := by omega
        rw [if_pos c] at ih
        rw [if_pos c2]
        omega
      · have c2 : ¬ d < m + 1 := by omega
        rw [if_neg c] at ih
        rw [if_neg c2]
        omega
theorem tot_none : totTo noneTaken 12 = 576 := by decide +kernel

/-- what Mark answers, case by case -/
theorem mark_cases (f : Int → Int → Bool) (d s : Int) :
    (IsB d s = false ∧ markE f d s = 1 ∧ markF f d s = f) ∨ (IsB d s = true ∧ markE f d s = 13 ∧ markF f d s = f ∧ f d s = true) ∨
    (IsB d s = true ∧ markE f d s = 0 ∧ markF f d s = upd f d s true ∧ totTo (upd f d s true) 12 + 1 = totTo f 12) := by
  unfold markE markF
  cases hI : IsB d s with
  | false => exact .inl ⟨rfl, rfl, rfl⟩
  | true =>
    cases hf : f d s with
    | true => exact .inr (.inl ⟨rfl, rfl, rfl, rfl⟩)
    | false =>
      refine .inr (.inr ⟨rfl, rfl, rfl, ?_⟩)
      simp only [IsB, decide_eq_true_eq] at hI
      obtain ⟨d, rfl⟩ : ∃ n : Nat, d = n := ⟨d.toNat, by omega⟩
      obtain ⟨s, rfl⟩ : ∃ n : Nat, s = n := ⟨s.toNat, by omega⟩
      have := tot_take (f := f) (d := d) (k := s) (by omega) (by omega) hf 12
      rw [if_pos (by omega)] at this
      exact this
theorem take_cases (f : Int → Int → Bool) (d : Nat) (hd : d < 12) :
    (∃ r, takeR f d = (0, r) ∧ (r == 0) = false ∧ takeF f d = f) ∨ (∃ k : Nat, k < 48 ∧ takeR f d = ((k : Int), 0) ∧ takeF f d = upd f d k true ∧ f d k = false) := by
  have hD : DiskB d = true := by simp [DiskB]; omega
  unfold takeR takeF
  rw [hD, if_pos rfl, if_pos rfl]
  cases hl : leastFrom f d 48 0 with
  | none => exact .inl ⟨7, rfl, rfl, rfl⟩
  | some k =>
    obtain ⟨-, h2, h3⟩ := leastFrom_spec _ _ _ hl
    exact .inr ⟨k, by omega, rfl, rfl, h3⟩

set_option maxHeartbeats 2000000 in
theorem marks_walk (v : Value) (xs : List (Int × Int)) (w : World) (hv : SliceAt w.heap.size w v 2 xs.length (Pairs xs)) :
    Calls Try.prog 8 #[v] w fun e w' => e = .returned (.bool true) ∧ Kp [] w w' := by
  obtain ⟨av, cv, rfl⟩ := slice_ex hv
  by_cases hlen : 60 < xs.length
  · have hlenI : (60 : Int) < (xs.length : Int) := by omega
    go_enter Try.func8, Try.ntmps8
    go_wp2_with fail
    refine (live_true _).mono ?_
    rintro e w1 ⟨rfl, h1⟩
    go_wp2_with fail
    go_ret
    exact ⟨rfl, h1⟩
  have hlenI : (xs.length : Int) ≤ 60 := by omega
  go_enter Try.func8, Try.ntmps8
  go_wp2_with fail
  refine (new_any _).mono ?_
  rintro e w1 ⟨rfl, k1, s1, z1⟩
  obtain ⟨b, hb⟩ : ∃ b, b = w.heap.size := ⟨_, rfl⟩
  rw [← hb] at s1 ⊢
  have HB := Lib.hid hb
  clear hb z1
  go_wp2_with fail
  go_loopg [4, 5] xs.length (fun g c i wr => ∃ (n m : Nat) (f : Int → Int → Bool), n + g = xs.length ∧ i = .int .i64 n ∧ c = .int .i64 m ∧ m ≤ n ∧ m + totTo f 12 = 576 ∧ SpaceAt wr b f ∧ Kp [] w wr ∧
    (∀ (j : Nat) (hj : j < xs.length), j < n → IsB xs[j].1 xs[j].2 = true → f xs[j].1 xs[j].2 = true))
  case atStart => exact ⟨0, 0, _, by omega, rfl, rfl, Nat.le_refl _, by rw [tot_none], s1, k1, fun j _ h => by omega⟩
  case round =>
    clear s1 k1
    obtain ⟨n, m, f, hn, rfl, rfl, hmn, htot, hs, hK, hall⟩ := hrel
    have HN := Lib.hid hn
    have HT := Lib.hid htot
    have HA := Lib.hid hall
    clear htot hall
    by_cases hlt : n < xs.length
    · obtain ⟨g', rfl⟩ : ∃ g', gk = g' + 1 := ⟨gk - 1, by omega⟩
      clear hn
      have hltI : (n : Int) < (xs.length : Int) := by omega
      obtain ⟨gv, ov, c, hv', e0, e1⟩ := locs_at hv n hlt
      simp only [Value.slice.injEq] at hv'
      obtain ⟨rfl, -, rfl⟩ := hv'
      have hgw := lt_of_cell e0
      have hgb : gv ≠ b := by have := HB.out; simp at hgw; omega
      have d0 := Kp.cellAt (X := [b]) ((hK.cell (lt_of_cell e0) (by simp)).trans e0) (by simpa using hgb)
      have d1 := Kp.cellAt (X := [b]) ((hK.cell (lt_of_cell e1) (by simp)).trans e1) (by simpa using hgb)
      obtain ⟨⟨d, s⟩, hq⟩ : ∃ q, q = xs[n] := ⟨_, rfl⟩
      have HQ := Lib.hid hq
      rw [← hq] at d0 d1
      simp only at d0 d1
      have hKr := Kp.refl [b] wr
      clear e0 e1 hq hgw
      go_wp2_with fail
      refine (mark_any b f d s _ hs).mono ?_
      rintro e w2 ⟨rfl, k2, s2⟩
      have hK2 : Kp [] w w2 := hK.step k2 (fun i hi hm => by
        have := HB.out
        simp only [List.mem_singleton] at hm
        omega)
      clear hs hK hKr
      have hold : ∀ (F : Int → Int → Bool), (∀ a b, f a b = true → F a b = true) → (IsB d s = true → F d s = true) → ∀ (j : Nat) (hj : j < xs.length), j < n + 1 → IsB xs[j].1 xs[j].2 = true → F xs[j].1 xs[j].2 = true := by
        intro F h1 h2 j hj hjn hI
        by_cases e : j = n
        · subst e
          rw [← HQ.out] at hI ⊢
          exact h2 hI
        · exact h1 _ _ (HA.out j hj (by omega) hI)
      have HO := Lib.hid hold
      clear hold
      rcases mark_cases f d s with ⟨q1, q2, q3⟩ | ⟨q1, q2, q3, q4⟩ | ⟨q1, q2, q3, q4⟩
      · rw [q2]
        rw [q3] at s2
        have Q1 := Lib.hid q1
        clear q1 q2 q3
        go_wp2_with fail
        refine (ris_any d s _).mono ?_
        rintro e w3 ⟨rfl, k3⟩
        rw [Q1.out]
        have k2 := k2.call k3
        go_wp2_with fail
        refine (taken_any b f d s _ (s2.keep k3 (by simp))).mono ?_
        rintro e w4 ⟨rfl, k4⟩
        rw [Q1.out, Bool.false_and]
        go_wp2_with fail
        go_roundg g'
        case rel =>
          have hn := HN.out
          exact ⟨n + 1, m, f, by omega, by go_num, rfl, by omega, HT.out, (s2.keep k3 (by simp)).keep k4 (by simp), (hK2.trans k3).trans k4, HO.out f (fun _ _ h => h) (fun h => by rw [Q1.out] at h; cases h)⟩
        case measure => omega
      · rw [q2]
        rw [q3] at s2
        have Q1 := Lib.hid q1
        have Q4 := Lib.hid q4
        clear q1 q2 q3 q4
        go_wp2_with fail
        refine (ris_any d s _).mono ?_
        rintro e w3 ⟨rfl, k3⟩
        rw [Q1.out]
        have k2 := k2.call k3
        go_wp2_with fail
        refine (taken_any b f d s _ (s2.keep k3 (by simp))).mono ?_
        rintro e w4 ⟨rfl, k4⟩
        rw [Q1.out, Q4.out, Bool.true_and]
        go_wp2_with fail
        go_roundg g'
        case rel =>
          have hn := HN.out
          exact ⟨n + 1, m, f, by omega, by go_num, rfl, by omega, HT.out, (s2.keep k3 (by simp)).keep k4 (by simp), (hK2.trans k3).trans k4, HO.out f (fun _ _ h => h) (fun _ => Q4.out)⟩
        case measure => omega
      · rw [q2]
        rw [q3] at s2
        have Q1 := Lib.hid q1
        have Q4 := Lib.hid q4
        clear q1 q2 q3 q4
        go_wp2_with fail
        refine (ris_any d s _).mono ?_
        rintro e w3 ⟨rfl, k3⟩
        rw [Q1.out]
        have k2 := k2.call k3
        go_wp2_with fail
        refine (taken_any b _ d s _ (s2.keep k3 (by simp))).mono ?_
        rintro e w4 ⟨rfl, k4⟩
        have hu : upd f d s true d s = true := by simp [upd]
        rw [Q1.out, hu, Bool.true_and]
        clear hu
        go_wp2_with fail
        go_roundg g'
        case rel =>
          have hn := HN.out
          have ht := HT.out
          have q4 := Q4.out
          exact ⟨n + 1, m + 1, _, by omega, by go_num, by go_num, by omega, by omega, (s2.keep k3 (by simp)).keep k4 (by simp), (hK2.trans k3).trans k4, HO.out _ (fun x y h => by
            simp only [upd]
            split
            · rfl
            · exact h) (fun _ => by simp [upd])⟩
        case measure => omega
    · obtain rfl : n = xs.length := by omega
      obtain rfl : gk = 0 := by omega
      clear hn
      have ha2 : (∀ (F : Int → Int → Bool), (∀ a b, f a b = true → F a b = true) → ∀ (j : Nat) (hj : j < xs.length), IsB xs[j].1 xs[j].2 = true → F xs[j].1 xs[j].2 = true) :=
        fun F h j hj hI => h _ _ (HA.out j hj hj hI)
      have HA2 := Lib.hid ha2
      have hm60 : m ≤ 60 := by omega
      have hs0 := hs
      have hK0 := hK
      clear HA hs hK hmn ha2
      go_wp2_with fail
      go_loopg [4, 7, 8] 12 (fun g c fr i wx => ∃ (t u D : Nat) (F : Int → Int → Bool), D + g = 12 ∧ i = .int .i64 D ∧ c = .int .i64 t ∧ t ≤ 60 + D ∧ t + totTo F 12 = 576 ∧ fr = .int .i64 u ∧ u = totTo F D ∧ SpaceAt wx b F ∧ Kp [] w wx ∧ (∀ a b, f a b = true → F a b = true))
      case atStart => exact ⟨m, 0, 0, f, by omega, rfl, rfl, by omega, HT.out, rfl, rfl, hs0, hK0, fun _ _ h => h⟩
      case round =>
        clear hs0 hK0 HT hm60
        obtain ⟨t, u, D, F, hD, rfl, rfl, ht, htot, rfl, hu, hs, hK, hmono⟩ := hrel
        have HD := Lib.hid hD
        have HT := Lib.hid htot
        have HU := Lib.hid hu
        have HM := Lib.hid hmono
        have hu576 : u ≤ 576 := by have := totTo_le F D; omega
        have hD12 : D ≤ 12 := by omega
        clear htot hu hmono
        by_cases hlt : D < 12
        · obtain ⟨g', rfl⟩ : ∃ g', gk = g' + 1 := ⟨gk - 1, by omega⟩
          clear hD
          have hltI : (D : Int) < 12 := by omega
          go_wp2_with fail
          refine (take_any b F D _ hs).mono ?_
          rintro e w2 ⟨rfl, k2, s2⟩
          have hK2 : Kp [] w w2 := hK.step k2 (fun i hi hm => by
            have := HB.out
            simp only [List.mem_singleton] at hm
            omega)
          clear hs hK k2
          rcases take_cases F D hlt with ⟨r, q1, q2, q3⟩ | ⟨k, qk, q1, q2, q3⟩
          · rw [q1]
            rw [q3] at s2
            clear q1 q3
            go_wp2_with fail
            refine (free_any b F D _ s2).mono ?_
            rintro e w3 ⟨rfl, k3⟩
            have hf48 := freeN_le F D
            go_wp2_with fail
            go_roundg g'
            case rel =>
              have hD := HD.out
              exact ⟨t, u + freeN F D, D + 1, F, by omega, by go_num, rfl, by omega, HT.out, by go_num, by rw [HU.out]; rfl, s2.keep k3 (by simp), hK2.trans k3, HM.out⟩
            case measure => omega
          · rw [q1]
            rw [q2] at s2
            have Q3 := Lib.hid q3
            have hno : ∀ (j : Nat) (hj : j < xs.length), ¬ (xs[j].1 = (D : Int) ∧ xs[j].2 = (k : Int)) := by
              intro j hj ⟨h1, h2⟩
              have hI : IsB xs[j].1 xs[j].2 = true := by rw [h1, h2]; simp only [IsB, decide_eq_true_eq]; omega
              have := HA2.out F HM.out j hj hI
              rw [h1, h2, Q3.out] at this
              cases this
            have HNO := Lib.hid hno
            clear q1 q2 q3 hno
            go_wp2_with fail
            go_loopg [11] xs.length (fun g i wy => ∃ j : Nat, j + g = xs.length ∧ i = .int .i64 j ∧ wy = w2)
            case atStart => exact ⟨0, by omega, rfl, rfl⟩
            case round =>
              obtain ⟨j, hj, rfl, rfl⟩ := hrel
              have HJ := Lib.hid hj
              by_cases hjx : j < xs.length
              · obtain ⟨g2, rfl⟩ : ∃ g2, gk = g2 + 1 := ⟨gk - 1, by omega⟩
                clear hj
                have hjI : (j : Int) < (xs.length : Int) := by omega
                obtain ⟨gv, ov, c, hv', e0, e1⟩ := locs_at hv j hjx
                simp only [Value.slice.injEq] at hv'
                obtain ⟨rfl, -, rfl⟩ := hv'
                have d0 := (hK2.cell (lt_of_cell e0) (by simp)).trans e0
                have d1 := (hK2.cell (lt_of_cell e1) (by simp)).trans e1
                have hne := HNO.out j hjx
                generalize xs[j].1 = a at *
                generalize xs[j].2 = c at *
                clear e0 e1
                by_cases h1 : a = (D : Int)
                · have h2 : c ≠ (k : Int) := fun h => hne ⟨h1, h⟩
                  have b1 : (a == (D : Int)) = true := by simpa using h1
                  have b2 : (c == (k : Int)) = false := by simpa using h2
                  clear hne h1 h2
                  go_wp2_with fail
                  go_roundg g2
                  case rel =>
                    have hj := HJ.out
                    exact ⟨j + 1, by omega, by go_num, rfl⟩
                  case measure => omega
                · have b1 : (a == (D : Int)) = false := by simpa using h1
                  clear hne h1
                  go_wp2_with fail
                  go_roundg g2
                  case rel =>
                    have hj := HJ.out
                    exact ⟨j + 1, by omega, by go_num, rfl⟩
                  case measure => omega
              · obtain rfl : j = xs.length := by omega
                obtain rfl : gk = 0 := by omega
                clear hj
                go_wp2_with fail
                refine (free_any b _ D _ s2).mono ?_
                rintro e w3 ⟨rfl, k3⟩
                have hf48 := freeN_le (upd F D k true) D
                go_wp2_with fail
                go_roundg g'
                case rel =>
                  have hD := HD.out
                  have ht := HT.out
                  have h1 := tot_take hlt qk Q3.out 12
                  have h2 := tot_take hlt qk Q3.out D
                  rw [if_pos hlt] at h1
                  rw [if_neg (Nat.lt_irrefl _)] at h2
                  refine ⟨t + 1, u + freeN (upd F D k true) D, D + 1, upd F D k true, by omega, by go_num, by go_num, by omega, by omega, by go_num, by rw [HU.out, ← h2]; rfl, s2.keep k3 (by simp), hK2.trans k3, fun x y h => ?_⟩
                  have := HM.out x y h
                  simp only [upd]
                  split
                  · rfl
                  · exact this
                case measure => omega
        · obtain rfl : D = 12 := by omega
          obtain rfl : gk = 0 := by omega
          clear hD
          have hu : (u : Int) = 576 - (t : Int) := by have := HT.out; have := HU.out; omega
          rw [hu]
          clear hu
          go_wp2_with fail
          refine (live_true _).mono ?_
          rintro e w4 ⟨rfl, h4⟩
          go_wp2_with fail
          go_ret
          exact ⟨rfl, hK.trans h4⟩

theorem marks_lifted (os : Os) (started : os.Started) (H : Type) (enc : TypeId × Value → H) :
    ReturnsInHanded {} Try.checked os 8 .any (Rows.spaceMarksSpec.pre6 enc Try.prog Try.f8 Rows.spaceMarksRow.domain false) (Rows.spaceMarksSpec.post enc Try.prog Try.f8 false true false false) := by
  refine law_lifted Rows.spaceMarksSpec Try.func8 (by kernel_rfl) Try.underlying4 rfl (by decide +kernel) rfl ?_ ?_ os started H enc
    (ChangeSpec.witness6 (enc := enc) (C := Try.checked) false ⟨#[], #[.slice none 0 0], []⟩ 8 (by kernel_rfl) (by kernel_rfl) (by kernel_rfl) (by kernel_rfl))
  · intro H ds hl
    match ds, hl with
    | [d], _ => exact ⟨rfl, rfl, rfl⟩
  · rintro W vs ⟨v, vs', base, rfl, hok, hrd, rfl⟩
    obtain ⟨av, l, c, rfl, -⟩ := okWide_slice Try.underlying27 hok
    have h2 : Try.prog.cellsOf 31 = 2 := by kernel_rfl
    obtain ⟨xs, v, e, hs, -⟩ := rd_list (α := Int × Int) Try.underlying27 hrd (fun p => [.int .i64 p.1, .int .i64 p.2]) 2 h2 (by decide) (fun _ => rfl) (fun _ => True) (fun es he => by
      obtain ⟨d, s, e⟩ := loc_of he
      exact ⟨(d, s), e, trivial⟩)
    have e1 : Value.slice av l c = v := by
      have : [Value.slice av l c] = [v] := e
      simpa using this
    subst e1
    exact marks_walk _ xs W hs

theorem space_marks_holds : Rows.SpaceMarksSaid :=
  OpenClaim.holds_of_wide 8 Try.f8 rfl rfl rfl rfl rfl rfl rfl ⟨rfl, rfl, rfl, rfl, rfl⟩ rfl rfl rfl rfl rfl (by kernel_rfl) Try.func8 (by kernel_rfl)
    (of_decide_eq_true (by kernel_rfl)) (by unfold Func.isWrapper; first | (rw [if_pos (by decide +kernel)]; kernel_rfl) | (rw [if_neg (by decide +kernel)]; exact ⟨rfl, rfl⟩))
    (fun os started H enc _ => marks_lifted os started H enc)
end Go.Proofs.Ytmegcmjklealbaa
