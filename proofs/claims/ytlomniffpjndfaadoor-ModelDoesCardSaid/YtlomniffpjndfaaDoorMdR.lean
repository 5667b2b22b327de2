/-
  Whether two answers are the same.
-/
import Derived.Test.YtlomniffpjndfaaDoorP5
namespace Go.Proofs.YtlomniffpjndfaaDoor
open Go.RowKit Go.Sort Go.WideShapes

theorem bytes_ne {a b : ByteArray} (h : ¬ a = b) : (a.toList == b.toList) = false := by
  rw [ByteArray.toList_eq, ByteArray.toList_eq]
  simp only [beq_eq_false_iff_ne, ne_eq]
  exact fun e => h (bytes_inj e)
theorem strv_at {B : Nat} {w : World} {v : Value} {l : List ByteArray} (h : SliceAt B w v 1 l.length (l.map Value.string)) (i : Nat) (hi : i < l.length) : ∃ g o c, v = .slice (some ⟨g, o, none⟩) l.length c ∧ w.cell? ⟨g, o + i, none⟩ = some (.string l[i]) := by
  obtain ⟨av, cap, rfl⟩ := slice_ex h
  obtain ⟨g, o, rfl, hc, -, -, hcell⟩ := h.cells (by omega)
  exact ⟨g, o, cap, rfl, hcell i _ (by rw [List.getElem?_map, List.getElem?_eq_getElem hi]; rfl)⟩
set_option maxHeartbeats 1000000 in
set_option maxRecDepth 20000 in
theorem r02same (xs ys : List ByteArray) (vx vy : Value) (B B' : Nat) (w : World) (hx : SliceAt B w vx 1 xs.length (xs.map Value.string)) (hy : SliceAt B' w vy 1 ys.length (ys.map Value.string)) (hz : xs.length ≤ 100000) :
    Calls Tryd.prog 19 #[vx, vy] w fun e w' => e = .returned (.bool (decide (xs = ys))) ∧ Kp [] w w' := by
  obtain ⟨ax, cx, rfl⟩ := slice_ex hx
  obtain ⟨ay, cy, rfl⟩ := slice_ex hy
  have hK := Kp.refl [] w
  by_cases hl : xs.length = ys.length
  · have HL := Lib.hid hl
    have hlb : ((xs.length : Int) != (ys.length : Int)) = false := by simp; omega
    clear hl
    go_enter Tryd.func19, Tryd.ntmps19
    go_wp2_with fail
    go_loopg [5] xs.length (fun g i wr => ∃ n : Nat, n + g = xs.length ∧ i = .int .i64 n ∧ Kp [] w wr ∧ xs.take n = ys.take n)
    case atStart => exact ⟨0, by omega, rfl, hK, rfl⟩
    case round =>
      clear hK
      obtain ⟨n, hn, rfl, hK, htk⟩ := hrel
      have HN := Lib.hid hn
      have HT := Lib.hid htk
      clear htk
      by_cases hlt : n < xs.length
      · obtain ⟨g', rfl⟩ : ∃ g', gk = g' + 1 := ⟨gk - 1, by omega⟩
        clear hn
        have hltI : (n : Int) < (xs.length : Int) := by omega
        have hlty : n < ys.length := by have := HL.out; omega
        have hltyI : (n : Int) < (ys.length : Int) := by omega
        obtain ⟨g, o, c, hv', e1⟩ := strv_at hx n hlt
        simp only [Value.slice.injEq] at hv'
        obtain ⟨rfl, -, rfl⟩ := hv'
        obtain ⟨g2, o2, c2, hv', e2⟩ := strv_at hy n hlty
        simp only [Value.slice.injEq] at hv'
        obtain ⟨rfl, -, rfl⟩ := hv'
        have hsx : xs.take (n + 1) = xs.take n ++ [xs[n]] := by rw [List.take_add_one, List.getElem?_eq_getElem hlt]; rfl
        have hsy : ys.take (n + 1) = ys.take n ++ [ys[n]] := by rw [List.take_add_one, List.getElem?_eq_getElem hlty]; rfl
        obtain ⟨p, hp⟩ : ∃ p, p = xs[n] := ⟨_, rfl⟩
        obtain ⟨q, hq⟩ : ∃ q, q = ys[n] := ⟨_, rfl⟩
        rw [← hp] at e1 hsx
        rw [← hq] at e2 hsy
        have d1 := Kp.cellAt (X := []) (w0 := w) e1 (by simp)
        have d2 := Kp.cellAt (X := []) (w0 := w) e2 (by simp)
        have HSX := Lib.hid hsx
        have HSY := Lib.hid hsy
        have HP := Lib.hid hp
        have HQ := Lib.hid hq
        clear hsx hsy e1 e2 hp hq
        by_cases hpq : p = q
        · subst hpq
          have hstep : xs.take (n + 1) = ys.take (n + 1) := by rw [HSX.out, HSY.out, HT.out]
          have HST := Lib.hid hstep
          clear hstep HP HQ HSX HSY
          go_wp2_with fail
          refine wpB_begin 999 (Kp [] w) (by kernel_rfl) (by first | exact hK.drew | exact Kp.drew (Kp.refl _ _)) (fun hHeld => ?_)
          refine wpB_take 0 _ ?_ rfl (by kernel_rfl) (fun _ _ _ h => h) rfl hHeld ?_ ?_
          rotate_left
          · (intro W hW; go_simp; try with_reducible rfl)
          try simp only [Act.put, List.setIfInBounds_toArray, List.set_cons_zero, List.set_cons_succ]
          refine wpB_take 1 _ ?_ rfl (by kernel_rfl) (fun _ _ _ h => h) rfl hHeld ?_ ?_
          rotate_left
          · (intro W hW; go_simp; try with_reducible rfl)
          try simp only [Act.put, List.setIfInBounds_toArray, List.set_cons_zero, List.set_cons_succ]
          refine wpB_take 2 _ ?_ rfl (by kernel_rfl) (fun _ _ _ h => h) rfl hHeld ?_ ?_
          rotate_left
          · (intro W hW; go_simp; try with_reducible rfl)
          try simp only [Act.put, List.setIfInBounds_toArray, List.set_cons_zero, List.set_cons_succ]
          refine wpB_take 3 _ ?_ rfl (by kernel_rfl) (fun _ _ _ h => h) rfl hHeld ?_ ?_
          rotate_left
          · (intro W hW; go_simp; try with_reducible rfl)
          try simp only [Act.put, List.setIfInBounds_toArray, List.set_cons_zero, List.set_cons_succ]
          refine wpB_take 4 _ ?_ rfl (by kernel_rfl) (fun _ _ _ h => h) rfl hHeld ?_ ?_
          rotate_left
          · (intro W hW; go_simp; try with_reducible rfl)
          try simp only [Act.put, List.setIfInBounds_toArray, List.set_cons_zero, List.set_cons_succ]
          refine wpB_take 5 _ ?_ rfl (by kernel_rfl) (fun _ _ _ h => h) rfl hHeld ?_ ?_
          rotate_left
          · (intro W hW; go_simp; try with_reducible rfl)
          try simp only [Act.put, List.setIfInBounds_toArray, List.set_cons_zero, List.set_cons_succ]
          refine wpB_take 6 _ ?_ rfl (by kernel_rfl) (fun _ _ _ h => h) rfl hHeld ?_ ?_
          rotate_left
          · (intro W hW; go_simp; try with_reducible rfl)
          try simp only [Act.put, List.setIfInBounds_toArray, List.set_cons_zero, List.set_cons_succ]
          refine wpB_take 7 _ ?_ rfl (by kernel_rfl) (fun _ _ _ h => h) rfl hHeld ?_ ?_
          rotate_left
          · (intro W hW; go_simp; try with_reducible rfl)
          try simp only [Act.put, List.setIfInBounds_toArray, List.set_cons_zero, List.set_cons_succ]
          refine wpB_take 8 _ ?_ rfl (by kernel_rfl) (fun _ _ _ h => h) rfl hHeld ?_ ?_
          rotate_left
          · (intro W hW; go_simp; try with_reducible rfl)
          try simp only [Act.put, List.setIfInBounds_toArray, List.set_cons_zero, List.set_cons_succ]
          refine wpB_done (by kernel_rfl) ?_ _
          go_wp2_with fail
          go_roundg g'
          case rel =>
            exact ⟨n + 1, st_next HN.out, by go_num, hHeld, HST.out⟩
          case measure => omega
        · have hb := bytes_ne hpq
          have hne : decide (xs = ys) = false := by
            rw [decide_eq_false_iff_not]
            rintro rfl
            exact hpq (HP.out.trans HQ.out.symm)
          have HNE := Lib.hid hne
          clear hne HP HQ HSX HSY hpq
          go_wp2_with fail
          refine wpB_begin 999 (Kp [] w) (by kernel_rfl) (by first | exact hK.drew | exact Kp.drew (Kp.refl _ _)) (fun hHeld => ?_)
          refine wpB_take 0 _ ?_ rfl (by kernel_rfl) (fun _ _ _ h => h) rfl hHeld ?_ ?_
          rotate_left
          · (intro W hW; go_simp; try with_reducible rfl)
          try simp only [Act.put, List.setIfInBounds_toArray, List.set_cons_zero, List.set_cons_succ]
          refine wpB_take 1 _ ?_ rfl (by kernel_rfl) (fun _ _ _ h => h) rfl hHeld ?_ ?_
          rotate_left
          · (intro W hW; go_simp; try with_reducible rfl)
          try simp only [Act.put, List.setIfInBounds_toArray, List.set_cons_zero, List.set_cons_succ]
          refine wpB_take 2 _ ?_ rfl (by kernel_rfl) (fun _ _ _ h => h) rfl hHeld ?_ ?_
          rotate_left
          · (intro W hW; go_simp; try with_reducible rfl)
          try simp only [Act.put, List.setIfInBounds_toArray, List.set_cons_zero, List.set_cons_succ]
          refine wpB_take 3 _ ?_ rfl (by kernel_rfl) (fun _ _ _ h => h) rfl hHeld ?_ ?_
          rotate_left
          · (intro W hW; go_simp; try with_reducible rfl)
          try simp only [Act.put, List.setIfInBounds_toArray, List.set_cons_zero, List.set_cons_succ]
          refine wpB_take 4 _ ?_ rfl (by kernel_rfl) (fun _ _ _ h => h) rfl hHeld ?_ ?_
          rotate_left
          · (intro W hW; go_simp; try with_reducible rfl)
          try simp only [Act.put, List.setIfInBounds_toArray, List.set_cons_zero, List.set_cons_succ]
          refine wpB_take 5 _ ?_ rfl (by kernel_rfl) (fun _ _ _ h => h) rfl hHeld ?_ ?_
          rotate_left
          · (intro W hW; go_simp; try with_reducible rfl)
          try simp only [Act.put, List.setIfInBounds_toArray, List.set_cons_zero, List.set_cons_succ]
          refine wpB_take 6 _ ?_ rfl (by kernel_rfl) (fun _ _ _ h => h) rfl hHeld ?_ ?_
          rotate_left
          · (intro W hW; go_simp; try with_reducible rfl)
          try simp only [Act.put, List.setIfInBounds_toArray, List.set_cons_zero, List.set_cons_succ]
          refine wpB_take 7 _ ?_ rfl (by kernel_rfl) (fun _ _ _ h => h) rfl hHeld ?_ ?_
          rotate_left
          · (intro W hW; go_simp; try with_reducible rfl)
          try simp only [Act.put, List.setIfInBounds_toArray, List.set_cons_zero, List.set_cons_succ]
          refine wpB_take 8 _ ?_ rfl (by kernel_rfl) (fun _ _ _ h => h) rfl hHeld ?_ ?_
          rotate_left
          · (intro W hW; go_simp; try with_reducible rfl)
          try simp only [Act.put, List.setIfInBounds_toArray, List.set_cons_zero, List.set_cons_succ]
          refine wpB_done (by kernel_rfl) ?_ _
          go_wp2_with fail
          go_ret
          exact ⟨by rw [HNE.out]; rfl, hHeld⟩
      · obtain rfl : n = xs.length := by omega
        obtain rfl : gk = 0 := by omega
        clear hn
        have he : decide (xs = ys) = true := by
          rw [decide_eq_true_eq]
          have h1 := HT.out
          rw [List.take_length, HL.out, List.take_length] at h1
          exact h1
        have HE := Lib.hid he
        clear he
        go_wp2_with fail
        go_ret
        exact ⟨by rw [HE.out]; rfl, hK⟩
  · have hlb : ((xs.length : Int) != (ys.length : Int)) = true := by simp; omega
    have hne : decide (xs = ys) = false := by
      rw [decide_eq_false_iff_not]
      rintro rfl
      exact hl rfl
    rw [hne]
    clear hl hne
    go_enter Tryd.func19, Tryd.ntmps19
    go_wp2_with fail
    go_ret
    exact ⟨rfl, hK⟩
def toB (k : List UInt8) : ByteArray := ⟨k.toArray⟩
theorem toB_inj {a b : List UInt8} (h : toB a = toB b) : a = b := by
  unfold toB at h
  simpa using h
theorem map_toB (l : List (List UInt8)) : l.map encStr = (l.map toB).map Value.string := by rw [List.map_map]; rfl
theorem map_inj {α β : Type} {f : α → β} (hf : ∀ a b, f a = f b → a = b) : ∀ {l m : List α}, l.map f = m.map f → l = m
  | [], [], _ => rfl
  | [], _ :: _, h => by cases h
  | _ :: _, [], h => by cases h
  | a :: l, b :: m, h => by
    simp only [List.map_cons, List.cons.injEq] at h
    rw [hf a b h.1, map_inj hf h.2]
theorem r02same_keys (xs ys : List (List UInt8)) (vx vy : Value) (B B' : Nat) (w : World) (hx : SliceAt B w vx 1 xs.length (xs.map encStr)) (hy : SliceAt B' w vy 1 ys.length (ys.map encStr)) (hz : xs.length ≤ 100000) :
    Calls Tryd.prog 19 #[vx, vy] w fun e w' => e = .returned (.bool (decide (xs = ys))) ∧ Kp [] w w' := by
  rw [map_toB] at hx hy
  have h := r02same (xs.map toB) (ys.map toB) vx vy B B' w (by rw [List.length_map]; exact hx) (by rw [List.length_map]; exact hy) (by rw [List.length_map]; exact hz)
  have e : decide (xs.map toB = ys.map toB) = decide (xs = ys) := by
    by_cases h : xs = ys
    · rw [decide_eq_true h, decide_eq_true (by rw [h])]
    · rw [decide_eq_false h, decide_eq_false (fun e => h (map_inj (fun _ _ => toB_inj) e))]
  rw [e] at h
  exact h
set_option maxHeartbeats 2000000 in
set_option maxRecDepth 20000 in
theorem rsame16 {x y : Value} {r q : RespD} {B B' : Nat} (w : World) (hx : Gave B w x r) (hy : Gave B' w y q) (hz : r.keys.length ≤ 1000) :
    Calls Tryd.prog 11 #[x, y] w fun e w' => e = .returned (.bool (decide (r = q))) ∧ Kp [] w w' := by
  obtain ⟨ax, cx, rfl, hox⟩ := hx
  obtain ⟨ay, cy, rfl, hoy⟩ := hy
  obtain ⟨rc, rv, rk⟩ := r
  obtain ⟨qc, qv, qk⟩ := q
  simp only at hox hoy hz ⊢
  obtain ⟨w1, hw1⟩ : ∃ w1, w1 = (w.alloc (.cells #[.int .i64 rc, .string rv, .slice ax rk.length cx] 37)).alloc (.cells #[.int .i64 qc, .string qv, .slice ay qk.length cy] 37) := ⟨_, rfl⟩
  have k1 : Kp [] w w1 := hw1 ▸ ((Kp.refl _ _).alloc _).alloc _
  have hs := r02same_keys rk qk (.slice ax rk.length cx) (.slice ay qk.length cy) _ _ w1 ((SliceAt.of_owns hox).keep0 k1) ((SliceAt.of_owns hoy).keep0 k1) (by omega)
  have HW1 := Lib.hid hw1
  obtain ⟨A, hA⟩ : ∃ A, A = rk.length := ⟨_, rfl⟩
  obtain ⟨A2, hA2⟩ : ∃ A2, A2 = qk.length := ⟨_, rfl⟩
  rw [← hA, ← hA2] at hs ⊢
  rw [← hA, ← hA2] at HW1
  rw [← hA, ← hA2] at hw1
  clear hox hoy
  by_cases h1 : rc = qc
  · subst h1
    by_cases h2 : rv = qv
    · subst h2
      have he : decide ((⟨rc, rv, rk⟩ : RespD) = ⟨rc, rv, qk⟩) = decide (rk = qk) := by
        by_cases e : rk = qk
        · rw [decide_eq_true e, decide_eq_true (by rw [e])]
        · rw [decide_eq_false e, decide_eq_false (fun h => e (by cases h; rfl))]
      rw [he]
      obtain ⟨D, hD⟩ : ∃ D, D = decide (rk = qk) := ⟨_, rfl⟩
      rw [← hD] at hs ⊢
      clear hD he hA hA2 hw1
      go_enter Tryd.func11, Tryd.ntmps11
      go_wp2_with fail
      rw [← HW1.out]
      refine hs.mono ?_
      rintro e w2 ⟨rfl, k2⟩
      have hk := k1.trans k2
      clear hs
      cases D with
      | true =>
        go_wp2_with fail
        go_ret
        exact ⟨rfl, hk⟩
      | false =>
        go_wp2_with fail
        go_ret
        exact ⟨rfl, hk⟩
    · have hb := bytes_ne h2
      have he : decide ((⟨rc, rv, rk⟩ : RespD) = ⟨rc, qv, qk⟩) = false := decide_eq_false (fun h => h2 (by cases h; rfl))
      rw [he]
      clear he h2 hA hA2
      rw [hw1] at k1
      clear hw1 HW1 hs
      go_enter Tryd.func11, Tryd.ntmps11
      go_wp2_with fail
      go_ret
      exact ⟨rfl, k1⟩
  · have hb : (rc == qc) = false := by simpa using h1
    have he : decide ((⟨rc, rv, rk⟩ : RespD) = ⟨qc, qv, qk⟩) = false := decide_eq_false (fun h => h1 (by cases h; rfl))
    rw [he]
    clear he h1 hA hA2
    rw [hw1] at k1
    clear hw1 HW1 hs
    go_enter Tryd.func11, Tryd.ntmps11
    go_wp2_with fail
    go_ret
    exact ⟨rfl, k1⟩
end Go.Proofs.YtlomniffpjndfaaDoor
