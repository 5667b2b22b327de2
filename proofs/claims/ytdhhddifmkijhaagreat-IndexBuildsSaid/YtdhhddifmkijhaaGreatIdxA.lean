/-
  Records: whether two are the same; the document's form and the program's.
-/
import Derived.Test.YtdhhddifmkijhaaGreatIdxK
namespace Go.Proofs.YtdhhddifmkijhaaGreat
open Go.RowKit

theorem bytes_inj {a b : ByteArray} (h : a.data.toList = b.data.toList) : a = b := by
  cases a; cases b
  simp only at h
  congr 1
  exact Array.toList_inj.1 h
theorem bytes_ne {a b : ByteArray} (h : ¬ a = b) : (a.toList == b.toList) = false := by
  rw [ByteArray.toList_eq, ByteArray.toList_eq]
  simp only [beq_eq_false_iff_ne, ne_eq]
  exact fun e => h (bytes_inj e)
theorem int_ne {a b : Int} (h : ¬ a = b) : (a == b) = false := by simpa using h
theorem st_next {j g n : Nat} (h : j + (g + 1) = n) : j + 1 + g = n := by omega
set_option maxHeartbeats 1000000 in
set_option maxRecDepth 20000 in
theorem leq_any (xs ys : List (Int × Int)) (vx vy : Value) (B : Nat) (w : World) (hx : LocsAt B w vx xs) (hy : LocsAt B w vy ys) (hz : xs.length ≤ 9223372036854775807) :
    Calls Tryz.prog 74 #[vx, vy] w fun e w' => e = .returned (.bool (decide (xs = ys))) ∧ Kp [] w w' := by
  obtain ⟨ax, cx, rfl⟩ := slice_ex hx
  obtain ⟨ay, cy, rfl⟩ := slice_ex hy
  have hK := Kp.refl [] w
  by_cases hl : xs.length = ys.length
  · have HL := Lib.hid hl
    have hlb : ((xs.length : Int) != (ys.length : Int)) = false := by simp; omega
    clear hl
    go_enter Tryz.func74, Tryz.ntmps74
    go_wp2_with fail
    go_loopg [13] xs.length (fun g i wr => ∃ n : Nat, n + g = xs.length ∧ i = .int .i64 n ∧ Kp [] w wr ∧ xs.take n = ys.take n)
    case atStart => exact ⟨0, by omega, rfl, hK, rfl⟩
    case round =>
      clear hK
      obtain ⟨n, hn, rfl, hK, htk⟩ := hrel
      have HN := Lib.hid hn
      have HT := Lib.hid htk
      clear htk
      by_cases hlt : n < xs.length
      · obtain ⟨g', rfl⟩ : ∃ g', gk = g' + 1 := ⟨gk - 1, by omega⟩
        clear hn
        have hltI : (n : Int) < (xs.length : Int) := by omega
        have hlty : n < ys.length := by have := HL.out; omega
        have hltyI : (n : Int) < (ys.length : Int) := by omega
        obtain ⟨g, o, c, hv', e1, e1'⟩ := loc_at hx n hlt
        simp only [Value.slice.injEq] at hv'
        obtain ⟨rfl, -, rfl⟩ := hv'
        obtain ⟨g2, o2, c2, hv', e2, e2'⟩ := loc_at hy n hlty
        simp only [Value.slice.injEq] at hv'
        obtain ⟨rfl, -, rfl⟩ := hv'
        have hsx : xs.take (n + 1) = xs.take n ++ [xs[n]] := by rw [List.take_add_one, List.getElem?_eq_getElem hlt]; rfl
        have hsy : ys.take (n + 1) = ys.take n ++ [ys[n]] := by rw [List.take_add_one, List.getElem?_eq_getElem hlty]; rfl
        obtain ⟨⟨p, p'⟩, hp⟩ : ∃ p, p = xs[n] := ⟨_, rfl⟩
        obtain ⟨⟨q, q'⟩, hq⟩ : ∃ q, q = ys[n] := ⟨_, rfl⟩
        rw [← hp] at e1 e1' hsx
        rw [← hq] at e2 e2' hsy
        have d1 := Kp.cellAt (X := []) (w0 := w) e1 (by simp)
        have d2 := Kp.cellAt (X := []) (w0 := w) e2 (by simp)
        have d1' := Kp.cellAt (X := []) (w0 := w) e1' (by simp)
        have d2' := Kp.cellAt (X := []) (w0 := w) e2' (by simp)
        have HSX := Lib.hid hsx
        have HSY := Lib.hid hsy
        have HP := Lib.hid hp
        have HQ := Lib.hid hq
        clear hsx hsy e1 e2 e1' e2' hp hq
        by_cases hpq : p = q
        · subst hpq
          by_cases hpq' : p' = q'
          · subst hpq'
            have hstep : xs.take (n + 1) = ys.take (n + 1) := by rw [HSX.out, HSY.out, HT.out]
            have HST := Lib.hid hstep
            clear hstep HP HQ HSX HSY
            go_wp2_with fail
            refine wpB_begin 999 (Kp [] w) (by kernel_rfl) (by first | exact hK.drew | exact Kp.drew (Kp.refl _ _)) (fun hHeld => ?_)
            refine wpB_take 0 _ ?_ rfl (by kernel_rfl) (fun _ _ _ h => h) rfl hHeld ?_ ?_
            rotate_left
            · (intro W hW; go_simp; try with_reducible rfl)
            try simp only [Act.put, List.setIfInBounds_toArray, List.set_cons_zero, List.set_cons_succ]
            refine wpB_take 1 _ ?_ rfl (by kernel_rfl) (fun _ _ _ h => h) rfl hHeld ?_ ?_
            rotate_left
            · (intro W hW; go_simp; try with_reducible rfl)
            try simp only [Act.put, List.setIfInBounds_toArray, List.set_cons_zero, List.set_cons_succ]
            refine wpB_take 2 _ ?_ rfl (by kernel_rfl) (fun _ _ _ h => h) rfl hHeld ?_ ?_
            rotate_left
            · (intro W hW; go_simp; try with_reducible rfl)
            try simp only [Act.put, List.setIfInBounds_toArray, List.set_cons_zero, List.set_cons_succ]
            refine wpB_take 3 _ ?_ rfl (by kernel_rfl) (fun _ _ _ h => h) rfl hHeld ?_ ?_
            rotate_left
            · (intro W hW; go_simp; try with_reducible rfl)
            try simp only [Act.put, List.setIfInBounds_toArray, List.set_cons_zero, List.set_cons_succ]
            refine wpB_take 4 _ ?_ rfl (by kernel_rfl) (fun _ _ _ h => h) rfl hHeld ?_ ?_
            rotate_left
            · (intro W hW; go_simp; try with_reducible rfl)
            try simp only [Act.put, List.setIfInBounds_toArray, List.set_cons_zero, List.set_cons_succ]
            refine wpB_take 5 _ ?_ rfl (by kernel_rfl) (fun _ _ _ h => h) rfl hHeld ?_ ?_
            rotate_left
            · (intro W hW; go_simp; try with_reducible rfl)
            try simp only [Act.put, List.setIfInBounds_toArray, List.set_cons_zero, List.set_cons_succ]
            refine wpB_take 6 _ ?_ rfl (by kernel_rfl) (fun _ _ _ h => h) rfl hHeld ?_ ?_
            rotate_left
            · (intro W hW; go_simp; try with_reducible rfl)
            try simp only [Act.put, List.setIfInBounds_toArray, List.set_cons_zero, List.set_cons_succ]
            refine wpB_take 7 _ ?_ rfl (by kernel_rfl) (fun _ _ _ h => h) rfl hHeld ?_ ?_
            rotate_left
            · (intro W hW; go_simp; try with_reducible rfl)
            try simp only [Act.put, List.setIfInBounds_toArray, List.set_cons_zero, List.set_cons_succ]
            refine wpB_take 8 _ ?_ rfl (by kernel_rfl) (fun _ _ _ h => h) rfl hHeld ?_ ?_
            rotate_left
            · (intro W hW; go_simp; try with_reducible rfl)
            try simp only [Act.put, List.setIfInBounds_toArray, List.set_cons_zero, List.set_cons_succ]
            refine wpB_done (by kernel_rfl) ?_ _
            go_wp2_with fail
            go_roundg g'
            case rel =>
              exact ⟨n + 1, st_next HN.out, by go_num, hHeld, HST.out⟩
            case measure => omega
          · have hb := int_ne hpq'
            have hne : decide (xs = ys) = false := by
              rw [decide_eq_false_iff_not]
              rintro rfl
              exact hpq' (congrArg Prod.snd (HP.out.trans HQ.out.symm))
            have HNE := Lib.hid hne
            clear hne HP HQ HSX HSY hpq'
            go_wp2_with fail
            refine wpB_begin 999 (Kp [] w) (by kernel_rfl) (by first | exact hK.drew | exact Kp.drew (Kp.refl _ _)) (fun hHeld => ?_)
            refine wpB_take 0 _ ?_ rfl (by kernel_rfl) (fun _ _ _ h => h) rfl hHeld ?_ ?_
            rotate_left
            · (intro W hW; go_simp; try with_reducible rfl)
            try simp only [Act.put, List.setIfInBounds_toArray, List.set_cons_zero, List.set_cons_succ]
            refine wpB_take 1 _ ?_ rfl (by kernel_rfl) (fun _ _ _ h => h) rfl hHeld ?_ ?_
            rotate_left
            · (intro W hW; go_simp; try with_reducible rfl)
            try simp only [Act.put, List.setIfInBounds_toArray, List.set_cons_zero, List.set_cons_succ]
            refine wpB_take 2 _ ?_ rfl (by kernel_rfl) (fun _ _ _ h => h) rfl hHeld ?_ ?_
            rotate_left
            · (intro W hW; go_simp; try with_reducible rfl)
            try simp only [Act.put, List.setIfInBounds_toArray, List.set_cons_zero, List.set_cons_succ]
            refine wpB_take 3 _ ?_ rfl (by kernel_rfl) (fun _ _ _ h => h) rfl hHeld ?_ ?_
            rotate_left
            · (intro W hW; go_simp; try with_reducible rfl)
            try simp only [Act.put, List.setIfInBounds_toArray, List.set_cons_zero, List.set_cons_succ]
            refine wpB_take 4 _ ?_ rfl (by kernel_rfl) (fun _ _ _ h => h) rfl hHeld ?_ ?_
            rotate_left
            · (intro W hW; go_simp; try with_reducible rfl)
            try simp only [Act.put, List.setIfInBounds_toArray, List.set_cons_zero, List.set_cons_succ]
            refine wpB_take 5 _ ?_ rfl (by kernel_rfl) (fun _ _ _ h => h) rfl hHeld ?_ ?_
            rotate_left
            · (intro W hW; go_simp; try with_reducible rfl)
            try simp only [Act.put, List.setIfInBounds_toArray, List.set_cons_zero, List.set_cons_succ]
            refine wpB_take 6 _ ?_ rfl (by kernel_rfl) (fun _ _ _ h => h) rfl hHeld ?_ ?_
            rotate_left
            · (intro W hW; go_simp; try with_reducible rfl)
            try simp only [Act.put, List.setIfInBounds_toArray, List.set_cons_zero, List.set_cons_succ]
            refine wpB_take 7 _ ?_ rfl (by kernel_rfl) (fun _ _ _ h => h) rfl hHeld ?_ ?_
            rotate_left
            · (intro W hW; go_simp; try with_reducible rfl)
            try simp only [Act.put, List.setIfInBounds_toArray, List.set_cons_zero, List.set_cons_succ]
            refine wpB_take 8 _ ?_ rfl (by kernel_rfl) (fun _ _ _ h => h) rfl hHeld ?_ ?_
            rotate_left
            · (intro W hW; go_simp; try with_reducible rfl)
            try simp only [Act.put, List.setIfInBounds_toArray, List.set_cons_zero, List.set_cons_succ]
            refine wpB_done (by kernel_rfl) ?_ _
            go_wp2_with fail
            go_ret
            exact ⟨by rw [HNE.out]; rfl, hHeld⟩
        · have hb := int_ne hpq
          have hne : decide (xs = ys) = false := by
            rw [decide_eq_false_iff_not]
            rintro rfl
            exact hpq (congrArg Prod.fst (HP.out.trans HQ.out.symm))
          have HNE := Lib.hid hne
          clear hne HP HQ HSX HSY hpq
          go_wp2_with fail
          refine wpB_begin 999 (Kp [] w) (by kernel_rfl) (by first | exact hK.drew | exact Kp.drew (Kp.refl _ _)) (fun hHeld => ?_)
          refine wpB_take 0 _ ?_ rfl (by kernel_rfl) (fun _ _ _ h => h) rfl hHeld ?_ ?_
          rotate_left
          · (intro W hW; go_simp; try with_reducible rfl)
          try simp only [Act.put, List.setIfInBounds_toArray, List.set_cons_zero, List.set_cons_succ]
          refine wpB_take 1 _ ?_ rfl (by kernel_rfl) (fun _ _ _ h => h) rfl hHeld ?_ ?_
          rotate_left
          · (intro W hW; go_simp; try with_reducible rfl)
          try simp only [Act.put, List.setIfInBounds_toArray, List.set_cons_zero, List.set_cons_succ]
          refine wpB_take 2 _ ?_ rfl (by kernel_rfl) (fun _ _ _ h => h) rfl hHeld ?_ ?_
          rotate_left
          · (intro W hW; go_simp; try with_reducible rfl)
          try simp only [Act.put, List.setIfInBounds_toArray, List.set_cons_zero, List.set_cons_succ]
          refine wpB_take 3 _ ?_ rfl (by kernel_rfl) (fun _ _ _ h => h) rfl hHeld ?_ ?_
          rotate_left
          · (intro W hW; go_simp; try with_reducible rfl)
          try simp only [Act.put, List.setIfInBounds_toArray, List.set_cons_zero, List.set_cons_succ]
          refine wpB_take 4 _ ?_ rfl (by kernel_rfl) (fun _ _ _ h => h) rfl hHeld ?_ ?_
          rotate_left
          · (intro W hW; go_simp; try with_reducible rfl)
          try simp only [Act.put, List.setIfInBounds_toArray, List.set_cons_zero, List.set_cons_succ]
          refine wpB_take 5 _ ?_ rfl (by kernel_rfl) (fun _ _ _ h => h) rfl hHeld ?_ ?_
          rotate_left
          · (intro W hW; go_simp; try with_reducible rfl)
          try simp only [Act.put, List.setIfInBounds_toArray, List.set_cons_zero, List.set_cons_succ]
          refine wpB_take 6 _ ?_ rfl (by kernel_rfl) (fun _ _ _ h => h) rfl hHeld ?_ ?_
          rotate_left
          · (intro W hW; go_simp; try with_reducible rfl)
          try simp only [Act.put, List.setIfInBounds_toArray, List.set_cons_zero, List.set_cons_succ]
          refine wpB_take 7 _ ?_ rfl (by kernel_rfl) (fun _ _ _ h => h) rfl hHeld ?_ ?_
          rotate_left
          · (intro W hW; go_simp; try with_reducible rfl)
          try simp only [Act.put, List.setIfInBounds_toArray, List.set_cons_zero, List.set_cons_succ]
          refine wpB_take 8 _ ?_ rfl (by kernel_rfl) (fun _ _ _ h => h) rfl hHeld ?_ ?_
          rotate_left
          · (intro W hW; go_simp; try with_reducible rfl)
          try simp only [Act.put, List.setIfInBounds_toArray, List.set_cons_zero, List.set_cons_succ]
          refine wpB_done (by kernel_rfl) ?_ _
          go_wp2_with fail
          go_ret
          exact ⟨by rw [HNE.out]; rfl, hHeld⟩
      · obtain rfl : n = xs.length := by omega
        obtain rfl : gk = 0 := by omega
        clear hn
        have he : decide (xs = ys) = true := by
          rw [decide_eq_true_eq]
          have h1 := HT.out
          rw [List.take_length, HL.out, List.take_length] at h1
          exact h1
        have HE := Lib.hid he
        clear he
        go_wp2_with fail
        go_ret
        exact ⟨by rw [HE.out]; rfl, hK⟩
  · have hlb : ((xs.length : Int) != (ys.length : Int)) = true := by simp; omega
    have hne : decide (xs = ys) = false := by
      rw [decide_eq_false_iff_not]
      rintro rfl
      exact hl rfl
    rw [hne]
    clear hl hne
    go_enter Tryz.func74, Tryz.ntmps74
    go_wp2_with fail
    go_ret
    exact ⟨rfl, hK⟩
set_option maxHeartbeats 1000000 in
set_option maxRecDepth 20000 in
theorem r10same (xs ys : List (Int × Int)) (vx vy : Value) (B : Nat) (w : World) (hx : LocsAt B w vx xs) (hy : LocsAt B w vy ys) (hz : xs.length ≤ 9223372036854775807) :
    Calls Tryz.prog 65 #[vx, vy] w fun e w' => e = .returned (.bool (decide (xs = ys))) ∧ Kp [] w w' := by
  obtain ⟨ax, cx, rfl⟩ := slice_ex hx
  obtain ⟨ay, cy, rfl⟩ := slice_ex hy
  have hK := Kp.refl [] w
  by_cases hl : xs.length = ys.length
  · have HL := Lib.hid hl
    have hlb : ((xs.length : Int) != (ys.length : Int)) = false := by simp; omega
    clear hl
    go_enter Tryz.func65, Tryz.ntmps65
    go_wp2_with fail
    go_loopg [5] xs.length (fun g i wr => ∃ n : Nat, n + g = xs.length ∧ i = .int .i64 n ∧ Kp [] w wr ∧ xs.take n = ys.take n)
    case atStart => exact ⟨0, by omega, rfl, hK, rfl⟩
    case round =>
      clear hK
      obtain ⟨n, hn, rfl, hK, htk⟩ := hrel
      have HN := Lib.hid hn
      have HT := Lib.hid htk
      clear htk
      by_cases hlt : n < xs.length
      · obtain ⟨g', rfl⟩ : ∃ g', gk = g' + 1 := ⟨gk - 1, by omega⟩
        clear hn
        have hltI : (n : Int) < (xs.length : Int) := by omega
        have hlty : n < ys.length := by have := HL.out; omega
        have hltyI : (n : Int) < (ys.length : Int) := by omega
        obtain ⟨g, o, c, hv', e1, e1'⟩ := loc_at hx n hlt
        simp only [Value.slice.injEq] at hv'
        obtain ⟨rfl, -, rfl⟩ := hv'
        obtain ⟨g2, o2, c2, hv', e2, e2'⟩ := loc_at hy n hlty
        simp only [Value.slice.injEq] at hv'
        obtain ⟨rfl, -, rfl⟩ := hv'
        have hsx : xs.take (n + 1) = xs.take n ++ [xs[n]] := by rw [List.take_add_one, List.getElem?_eq_getElem hlt]; rfl
        have hsy : ys.take (n + 1) = ys.take n ++ [ys[n]] := by rw [List.take_add_one, List.getElem?_eq_getElem hlty]; rfl
        obtain ⟨⟨p, p'⟩, hp⟩ : ∃ p, p = xs[n] := ⟨_, rfl⟩
        obtain ⟨⟨q, q'⟩, hq⟩ : ∃ q, q = ys[n] := ⟨_, rfl⟩
        rw [← hp] at e1 e1' hsx
        rw [← hq] at e2 e2' hsy
        have d1 := Kp.cellAt (X := []) (w0 := w) e1 (by simp)
        have d2 := Kp.cellAt (X := []) (w0 := w) e2 (by simp)
        have d1' := Kp.cellAt (X := []) (w0 := w) e1' (by simp)
        have d2' := Kp.cellAt (X := []) (w0 := w) e2' (by simp)
        have HSX := Lib.hid hsx
        have HSY := Lib.hid hsy
        have HP := Lib.hid hp
        have HQ := Lib.hid hq
        clear hsx hsy e1 e2 e1' e2' hp hq
        by_cases hpq : p = q
        · subst hpq
          by_cases hpq' : p' = q'
          · subst hpq'
            have hstep : xs.take (n + 1) = ys.take (n + 1) := by rw [HSX.out, HSY.out, HT.out]
            have HST := Lib.hid hstep
            clear hstep HP HQ HSX HSY
            go_wp2_with fail
            refine wpB_begin 999 (Kp [] w) (by kernel_rfl) (by first | exact hK.drew | exact Kp.drew (Kp.refl _ _)) (fun hHeld => ?_)
            refine wpB_take 0 _ ?_ rfl (by kernel_rfl) (fun _ _ _ h => h) rfl hHeld ?_ ?_
            rotate_left
            · (intro W hW; go_simp; try with_reducible rfl)
            try simp only [Act.put, List.setIfInBounds_toArray, List.set_cons_zero, List.set_cons_succ]
            refine wpB_take 1 _ ?_ rfl (by kernel_rfl) (fun _ _ _ h => h) rfl hHeld ?_ ?_
            rotate_left
            · (intro W hW; go_simp; try with_reducible rfl)
            try simp only [Act.put, List.setIfInBounds_toArray, List.set_cons_zero, List.set_cons_succ]
            refine wpB_take 2 _ ?_ rfl (by kernel_rfl) (fun _ _ _ h => h) rfl hHeld ?_ ?_
            rotate_left
            · (intro W hW; go_simp; try with_reducible rfl)
            try simp only [Act.put, List.setIfInBounds_toArray, List.set_cons_zero, List.set_cons_succ]
            refine wpB_take 3 _ ?_ rfl (by kernel_rfl) (fun _ _ _ h => h) rfl hHeld ?_ ?_
            rotate_left
            · (intro W hW; go_simp; try with_reducible rfl)
            try simp only [Act.put, List.setIfInBounds_toArray, List.set_cons_zero, List.set_cons_succ]
            refine wpB_take 4 _ ?_ rfl (by kernel_rfl) (fun _ _ _ h => h) rfl hHeld ?_ ?_
            rotate_left
            · (intro W hW; go_simp; try with_reducible rfl)
            try simp only [Act.put, List.setIfInBounds_toArray, List.set_cons_zero, List.set_cons_succ]
            refine wpB_take 5 _ ?_ rfl (by kernel_rfl) (fun _ _ _ h => h) rfl hHeld ?_ ?_
            rotate_left
            · (intro W hW; go_simp; try with_reducible rfl)
            try simp only [Act.put, List.setIfInBounds_toArray, List.set_cons_zero, List.set_cons_succ]
            refine wpB_take 6 _ ?_ rfl (by kernel_rfl) (fun _ _ _ h => h) rfl hHeld ?_ ?_
            rotate_left
            · (intro W hW; go_simp; try with_reducible rfl)
            try simp only [Act.put, List.setIfInBounds_toArray, List.set_cons_zero, List.set_cons_succ]
            refine wpB_take 7 _ ?_ rfl (by kernel_rfl) (fun _ _ _ h => h) rfl hHeld ?_ ?_
            rotate_left
            · (intro W hW; go_simp; try with_reducible rfl)
            try simp only [Act.put, List.setIfInBounds_toArray, List.set_cons_zero, List.set_cons_succ]
            refine wpB_take 8 _ ?_ rfl (by kernel_rfl) (fun _ _ _ h => h) rfl hHeld ?_ ?_
            rotate_left
            · (intro W hW; go_simp; try with_reducible rfl)
            try simp only [Act.put, List.setIfInBounds_toArray, List.set_cons_zero, List.set_cons_succ]
            refine wpB_done (by kernel_rfl) ?_ _
            go_wp2_with fail
            go_roundg g'
            case rel =>
              exact ⟨n + 1, st_next HN.out, by go_num, hHeld, HST.out⟩
            case measure => omega
          · have hb := int_ne hpq'
            have hne : decide (xs = ys) = false := by
              rw [decide_eq_false_iff_not]
              rintro rfl
              exact hpq' (congrArg Prod.snd (HP.out.trans HQ.out.symm))
            have HNE := Lib.hid hne
            clear hne HP HQ HSX HSY hpq'
            go_wp2_with fail
            refine wpB_begin 999 (Kp [] w) (by kernel_rfl) (by first | exact hK.drew | exact Kp.drew (Kp.refl _ _)) (fun hHeld => ?_)
            refine wpB_take 0 _ ?_ rfl (by kernel_rfl) (fun _ _ _ h => h) rfl hHeld ?_ ?_
            rotate_left
            · (intro W hW; go_simp; try with_reducible rfl)
            try simp only [Act.put, List.setIfInBounds_toArray, List.set_cons_zero, List.set_cons_succ]
            refine wpB_take 1 _ ?_ rfl (by kernel_rfl) (fun _ _ _ h => h) rfl hHeld ?_ ?_
            rotate_left
            · (intro W hW; go_simp; try with_reducible rfl)
            try simp only [Act.put, List.setIfInBounds_toArray, List.set_cons_zero, List.set_cons_succ]
            refine wpB_take 2 _ ?_ rfl (by kernel_rfl) (fun _ _ _ h => h) rfl hHeld ?_ ?_
            rotate_left
            · (intro W hW; go_simp; try with_reducible rfl)
            try simp only [Act.put, List.setIfInBounds_toArray, List.set_cons_zero, List.set_cons_succ]
            refine wpB_take 3 _ ?_ rfl (by kernel_rfl) (fun _ _ _ h => h) rfl hHeld ?_ ?_
            rotate_left
            · (intro W hW; go_simp; try with_reducible rfl)
            try simp only [Act.put, List.setIfInBounds_toArray, List.set_cons_zero, List.set_cons_succ]
            refine wpB_take 4 _ ?_ rfl (by kernel_rfl) (fun _ _ _ h => h) rfl hHeld ?_ ?_
            rotate_left
            · (intro W hW; go_simp; try with_reducible rfl)
            try simp only [Act.put, List.setIfInBounds_toArray, List.set_cons_zero, List.set_cons_succ]
            refine wpB_take 5 _ ?_ rfl (by kernel_rfl) (fun _ _ _ h => h) rfl hHeld ?_ ?_
            rotate_left
            · (intro W hW; go_simp; try with_reducible rfl)
            try simp only [Act.put, List.setIfInBounds_toArray, List.set_cons_zero, List.set_cons_succ]
            refine wpB_take 6 _ ?_ rfl (by kernel_rfl) (fun _ _ _ h => h) rfl hHeld ?_ ?_
            rotate_left
            · (intro W hW; go_simp; try with_reducible rfl)
            try simp only [Act.put, List.setIfInBounds_toArray, List.set_cons_zero, List.set_cons_succ]
            refine wpB_take 7 _ ?_ rfl (by kernel_rfl) (fun _ _ _ h => h) rfl hHeld ?_ ?_
            rotate_left
            · (intro W hW; go_simp; try with_reducible rfl)
            try simp only [Act.put, List.setIfInBounds_toArray, List.set_cons_zero, List.set_cons_succ]
            refine wpB_take 8 _ ?_ rfl (by kernel_rfl) (fun _ _ _ h => h) rfl hHeld ?_ ?_
            rotate_left
            · (intro W hW; go_simp; try with_reducible rfl)
            try simp only [Act.put, List.setIfInBounds_toArray, List.set_cons_zero, List.set_cons_succ]
            refine wpB_done (by kernel_rfl) ?_ _
            go_wp2_with fail
            go_ret
            exact ⟨by rw [HNE.out]; rfl, hHeld⟩
        · have hb := int_ne hpq
          have hne : decide (xs = ys) = false := by
            rw [decide_eq_false_iff_not]
            rintro rfl
            exact hpq (congrArg Prod.fst (HP.out.trans HQ.out.symm))
          have HNE := Lib.hid hne
          clear hne HP HQ HSX HSY hpq
          go_wp2_with fail
          refine wpB_begin 999 (Kp [] w) (by kernel_rfl) (by first | exact hK.drew | exact Kp.drew (Kp.refl _ _)) (fun hHeld => ?_)
          refine wpB_take 0 _ ?_ rfl (by kernel_rfl) (fun _ _ _ h => h) rfl hHeld ?_ ?_
          rotate_left
          · (intro W hW; go_simp; try with_reducible rfl)
          try simp only [Act.put, List.setIfInBounds_toArray, List.set_cons_zero, List.set_cons_succ]
          refine wpB_take 1 _ ?_ rfl (by kernel_rfl) (fun _ _ _ h => h) rfl hHeld ?_ ?_
          rotate_left
          · (intro W hW; go_simp; try with_reducible rfl)
          try simp only [Act.put, List.setIfInBounds_toArray, List.set_cons_zero, List.set_cons_succ]
          refine wpB_take 2 _ ?_ rfl (by kernel_rfl) (fun _ _ _ h => h) rfl hHeld ?_ ?_
          rotate_left
          · (intro W hW; go_simp; try with_reducible rfl)
          try simp only [Act.put, List.setIfInBounds_toArray, List.set_cons_zero, List.set_cons_succ]
          refine wpB_take 3 _ ?_ rfl (by kernel_rfl) (fun _ _ _ h => h) rfl hHeld ?_ ?_
          rotate_left
          · (intro W hW; go_simp; try with_reducible rfl)
          try simp only [Act.put, List.setIfInBounds_toArray, List.set_cons_zero, List.set_cons_succ]
          refine wpB_take 4 _ ?_ rfl (by kernel_rfl) (fun _ _ _ h => h) rfl hHeld ?_ ?_
          rotate_left
          · (intro W hW; go_simp; try with_reducible rfl)
          try simp only [Act.put, List.setIfInBounds_toArray, List.set_cons_zero, List.set_cons_succ]
          refine wpB_take 5 _ ?_ rfl (by kernel_rfl) (fun _ _ _ h => h) rfl hHeld ?_ ?_
          rotate_left
          · (intro W hW; go_simp; try with_reducible rfl)
          try simp only [Act.put, List.setIfInBounds_toArray, List.set_cons_zero, List.set_cons_succ]
          refine wpB_take 6 _ ?_ rfl (by kernel_rfl) (fun _ _ _ h => h) rfl hHeld ?_ ?_
          rotate_left
          · (intro W hW; go_simp; try with_reducible rfl)
          try simp only [Act.put, List.setIfInBounds_toArray, List.set_cons_zero, List.set_cons_succ]
          refine wpB_take 7 _ ?_ rfl (by kernel_rfl) (fun _ _ _ h => h) rfl hHeld ?_ ?_
          rotate_left
          · (intro W hW; go_simp; try with_reducible rfl)
          try simp only [Act.put, List.setIfInBounds_toArray, List.set_cons_zero, List.set_cons_succ]
          refine wpB_take 8 _ ?_ rfl (by kernel_rfl) (fun _ _ _ h => h) rfl hHeld ?_ ?_
          rotate_left
          · (intro W hW; go_simp; try with_reducible rfl)
          try simp only [Act.put, List.setIfInBounds_toArray, List.set_cons_zero, List.set_cons_succ]
          refine wpB_done (by kernel_rfl) ?_ _
          go_wp2_with fail
          go_ret
          exact ⟨by rw [HNE.out]; rfl, hHeld⟩
      · obtain rfl : n = xs.length := by omega
        obtain rfl : gk = 0 := by omega
        clear hn
        have he : decide (xs = ys) = true := by
          rw [decide_eq_true_eq]
          have h1 := HT.out
          rw [List.take_length, HL.out, List.take_length] at h1
          exact h1
        have HE := Lib.hid he
        clear he
        go_wp2_with fail
        go_ret
        exact ⟨by rw [HE.out]; rfl, hK⟩
  · have hlb : ((xs.length : Int) != (ys.length : Int)) = true := by simp; omega
    have hne : decide (xs = ys) = false := by
      rw [decide_eq_false_iff_not]
      rintro rfl
      exact hl rfl
    rw [hne]
    clear hl hne
    go_enter Tryz.func65, Tryz.ntmps65
    go_wp2_with fail
    go_ret
    exact ⟨rfl, hK⟩
end Go.Proofs.YtdhhddifmkijhaaGreat
