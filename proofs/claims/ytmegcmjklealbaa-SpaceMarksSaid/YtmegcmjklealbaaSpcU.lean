/-
  What the document's space does, call by call: Same. What a law's step does on both.
-/
import Derived.Test.YtmegcmjklealbaaSpcT
namespace Go.Proofs.Ytmegcmjklealbaa
open Go.RowKit

theorem pairs_at (l : List (Int × Int)) : ∀ (i : Nat) (hi : i < l.length), (Pairs l)[i * 2]? = some (.int .i64 l[i].1) ∧ (Pairs l)[i * 2 + 1]? = some (.int .i64 l[i].2) := by
  induction l with
  | nil => intro i hi; simp at hi
  | cons p l ih =>
    intro i hi
    cases i with
    | zero => simp [Pairs]
    | succ i =>
      have := ih i (by simpa using hi)
      simp only [Pairs, List.flatMap_cons] at this ⊢
      rw [show (i + 1) * 2 = i * 2 + 2 from by omega, List.getElem?_append_right (by simp), List.getElem?_append_right (by simp)]
      simpa [show i * 2 + 2 + 1 - 2 = i * 2 + 1 from by omega] using this
theorem locs_at {B : Nat} {w : World} {v : Value} {xs : List (Int × Int)} (h : SliceAt B w v 2 xs.length (Pairs xs)) (i : Nat) (hi : i < xs.length) :
    ∃ g o c, v = .slice (some ⟨g, o, none⟩) xs.length c ∧ w.cell? ⟨g, o + i * 2, none⟩ = some (.int .i64 xs[i].1) ∧ w.cell? ⟨g, o + i * 2 + 1, none⟩ = some (.int .i64 xs[i].2) := by
  obtain ⟨av, cap, rfl⟩ := slice_ex h
  obtain ⟨g, o, rfl, hc, -, hb, hcell⟩ := h.cells (by omega)
  have := pairs_at xs i hi
  exact ⟨g, o, cap, rfl, hcell _ _ this.1, by rw [Nat.add_assoc]; exact hcell _ _ this.2⟩

theorem rsame_any (a b : Value) (xs ys : List (Int × Int)) (w : World) (B C : Nat) (ha : SliceAt B w a 2 xs.length (Pairs xs)) (hb : SliceAt C w b 2 ys.length (Pairs ys)) (hlen : xs.length ≤ 6000) (hlen2 : ys.length ≤ 6000) :
    Calls Try.prog 21 #[a, b] w fun e w' => e = .returned (.bool (decide (xs = ys))) ∧ Kp [] w w' := by
  obtain ⟨aa, ca, rfl⟩ := slice_ex ha
  obtain ⟨ab, cb, rfl⟩ := slice_ex hb
  by_cases hl : xs.length = ys.length
  · have HL := Lib.hid hl
    have hlb : ((xs.length : Int) != (ys.length : Int)) = false := by simp [hl]
    clear hl
    go_enter Try.func21, Try.ntmps21
    go_wp2_with fail
    go_loopg [5] xs.length (fun g i wr => ∃ n : Nat, n + g = xs.length ∧ i = .int .i64 n ∧ Kp [] w wr ∧ xs.take n = ys.take n)
    case atStart => exact ⟨0, by omega, rfl, Kp.refl _ _, rfl⟩
    case round =>
      obtain ⟨n, hn, rfl, hK, hte⟩ := hrel
      have HN := Lib.hid hn
      have HTE := Lib.hid hte
      clear hte
      by_cases hlt : n < xs.length
      · obtain ⟨g', rfl⟩ : ∃ g', gk = g' + 1 := ⟨gk - 1, by omega⟩
        clear hn
        have hlt2 : n < ys.length := by have := HL.out; omega
        have hltI : (n : Int) < (xs.length : Int) := by omega
        have hltI2 : (n : Int) < (ys.length : Int) := by omega
        obtain ⟨g, o, c, hv, e1, e2⟩ := locs_at ha n hlt
        simp only [Value.slice.injEq] at hv
        obtain ⟨rfl, -, rfl⟩ := hv
        obtain ⟨g2, o2, c2, hv, f1, f2⟩ := locs_at hb n hlt2
        simp only [Value.slice.injEq] at hv
        obtain ⟨rfl, -, rfl⟩ := hv
        have d1 := Kp.cellAt (X := []) e1 (by simp)
        have d2 := Kp.cellAt (X := []) e2 (by simp)
        have d3 := Kp.cellAt (X := []) f1 (by simp)
        have d4 := Kp.cellAt (X := []) f2 (by simp)
        clear e1 e2 f1 f2
        go_wp2_with fail
        refine wpB_begin 999 (Kp [] w) (by kernel_rfl) (by first | exact hK.drew | exact Kp.drew (Kp.refl _ _)) (fun hHeld => ?_)
        refine wpB_take 0 _ ?_ rfl (by kernel_rfl) (fun _ _ _ h => h) rfl hHeld ?_ ?_
        rotate_left
        · (intro W hW; go_simp; try with_reducible rfl)
        try simp only [Act.put, List.setIfInBounds_toArray, List.set_cons_zero, List.set_cons_succ]
        refine wpB_take 1 _ ?_ rfl (by kernel_rfl) (fun _ _ _ h => h) rfl hHeld ?_ ?_
        rotate_left
        · (intro W hW; go_simp; try with_reducible rfl)
        try simp only [Act.put, List.setIfInBounds_toArray, List.set_cons_zero, List.set_cons_succ]
        refine wpB_take 2 _ ?_ rfl (by kernel_rfl) (fun _ _ _ h => h) rfl hHeld ?_ ?_
        rotate_left
        · (intro W hW; go_simp; try with_reducible rfl)
        try simp only [Act.put, List.setIfInBounds_toArray, List.set_cons_zero, List.set_cons_succ]
        refine wpB_take 3 _ ?_ rfl (by kernel_rfl) (fun _ _ _ h => h) rfl hHeld ?_ ?_
        rotate_left
        · (intro W hW; go_simp; try with_reducible rfl)
        try simp only [Act.put, List.setIfInBounds_toArray, List.set_cons_zero, List.set_cons_succ]
        refine wpB_take 4 _ ?_ rfl (by kernel_rfl) (fun _ _ _ h => h) rfl hHeld ?_ ?_
        rotate_left
        · (intro W hW; go_simp; try with_reducible rfl)
        try simp only [Act.put, List.setIfInBounds_toArray, List.set_cons_zero, List.set_cons_succ]
        refine wpB_take 5 _ ?_ rfl (by kernel_rfl) (fun _ _ _ h => h) rfl hHeld ?_ ?_
        rotate_left
        · (intro W hW; go_simp; try with_reducible rfl)
        try simp only [Act.put, List.setIfInBounds_toArray, List.set_cons_zero, List.set_cons_succ]
        refine wpB_take 6 _ ?_ rfl (by kernel_rfl) (fun _ _ _ h => h) rfl hHeld ?_ ?_
        rotate_left
        · (intro W hW; go_simp; try with_reducible rfl)
        try simp only [Act.put, List.setIfInBounds_toArray, List.set_cons_zero, List.set_cons_succ]
        refine wpB_take 7 _ ?_ rfl (by kernel_rfl) (fun _ _ _ h => h) rfl hHeld ?_ ?_
        rotate_left
        · (intro W hW; go_simp; try with_reducible rfl)
        try simp only [Act.put, List.setIfInBounds_toArray, List.set_cons_zero, List.set_cons_succ]
        refine wpB_take 8 _ ?_ rfl (by kernel_rfl) (fun _ _ _ h => h) rfl hHeld ?_ ?_
        rotate_left
        · (intro W hW; go_simp; exact ne_pair xs[n] ys[n] _)
        try simp only [Act.put, List.setIfInBounds_toArray, List.set_cons_zero, List.set_cons_succ]
        refine wpB_done (by kernel_rfl) ?_ _
        obtain ⟨bq, hbq⟩ : ∃ bq, bq = (xs[n] != ys[n]) := ⟨_, rfl⟩
        rw [← hbq]
        have HBQ := Lib.hid hbq
        clear hbq
        cases bq with
        | false =>
          go_wp2_with fail
          go_roundg g'
          case rel =>
            have hn := HN.out
            refine ⟨n + 1, by omega, by go_num, hHeld, ?_⟩
            have := HBQ.out
            rw [List.take_succ_eq_append_getElem hlt, List.take_succ_eq_append_getElem hlt2, HTE.out]
            have e : xs[n] = ys[n] := by simpa [bne] using this.symm
            rw [e]
          case measure => omega
        | true =>
          go_wp2_with fail
          go_ret
          refine ⟨?_, hHeld⟩
          have hne : xs ≠ ys := by
            intro e
            have := HBQ.out
            subst e
            simp at this
          rw [decide_eq_false hne]; rfl
      · obtain rfl : n = xs.length := by omega
        obtain rfl : gk = 0 := by omega
        clear hn
        go_wp2_with fail
        go_ret
        refine ⟨?_, hK⟩
        have h := HTE.out
        rw [List.take_length, HL.out, List.take_length] at h
        rw [decide_eq_true h]; rfl
  · have hne : xs ≠ ys := fun e => hl (by rw [e])
    have hlb : ((xs.length : Int) != (ys.length : Int)) = true := by rw [bne_iff_ne]; omega
    rw [decide_eq_false hne]
    clear hl hne
    go_enter Try.func21, Try.ntmps21
    go_wp2_with fail
    go_ret
    exact ⟨rfl, Kp.refl _ _⟩
end Go.Proofs.Ytmegcmjklealbaa
