/-
  Whether a command may be: Check.
-/
import Derived.Test.YtmihnakapnoefaaGreatDoorScrD
namespace Go.Proofs.YtmihnakapnoefaaGreatDoor
open Go.RowKit Go.WideShapes

theorem only_keep (c : Cmd) : (onlyC c).keep = (if c.act = 7 then c.keep else []) ∧ (onlyC c).torn = (if c.act = 7 then c.torn else []) := by
  unfold onlyC
  by_cases e7 : c.act = 7
  · rw [if_neg (by omega), if_neg (by omega), if_neg (by omega), if_neg (by omega), if_neg (by omega), if_neg (by omega), if_neg (by omega), if_pos e7, if_pos e7, if_pos e7]
    exact ⟨rfl, rfl⟩
  · rw [if_neg e7, if_neg e7, if_neg e7]
    repeat' split
    all_goals exact ⟨rfl, rfl⟩
theorem onlyV_at {B : Nat} {w : World} {act : Int} {v : Value} {l l' : List Bool} (h : BoolsAt B w v l) (hl : l' = if act = 7 then l else []) : BoolsAt B w (onlyV act v) l' := by
  subst hl
  unfold onlyV
  split
  · exact h
  · exact ⟨rfl, none, 0, rfl, fun h => absurd h (by decide)⟩
theorem min_neg (n a b : Int) : (if b < if a < n then a else n then b else if a < n then a else n) < 0 ↔ (n < 0 ∨ a < 0 ∨ b < 0) := by
  by_cases h1 : a < n
  · rw [if_pos h1]
    by_cases h2 : b < a
    · rw [if_pos h2]; omega
    · rw [if_neg h2]; omega
  · rw [if_neg h1]
    by_cases h2 : b < n
    · rw [if_pos h2]; omega
    · rw [if_neg h2]; omega
theorem max_big (n a b : Int) : 99999 < (if (if n < a then a else n) < b then b else if n < a then a else n) ↔ (99999 < n ∨ 99999 < a ∨ 99999 < b) := by
  by_cases h1 : n < a
  · rw [if_pos h1]
    by_cases h2 : a < b
    · rw [if_pos h2]; omega
    · rw [if_neg h2]; omega
  · rw [if_neg h1]
    by_cases h2 : n < b
    · rw [if_pos h2]; omega
    · rw [if_neg h2]; omega
set_option maxHeartbeats 2000000 in
set_option maxRecDepth 20000 in
theorem scheck (c : Cmd) (kv tv : Value) (B : Nat) (w : World) (h1 : BoolsAt B w kv c.keep) (h2 : BoolsAt B w tv c.torn) (z1 : c.keep.length ≤ 9223372036854775807) (z2 : c.torn.length ≤ 9223372036854775807)
    (hs : c.rs.size < 16384) (hv : c.rv.size < 16384) :
    Calls Tryz.prog 10 #[.agg (CmdV c kv tv)] w fun e w' => e = .returned (.int .i64 (checkC c)) ∧ Kp [] w w' := by
  obtain ⟨ka, kc, rfl⟩ := slice_ex h1
  obtain ⟨ta, tc, rfl⟩ := slice_ex h2
  have zo1 : (onlyC c).keep.length ≤ 9223372036854775807 := by rw [(only_keep c).1]; split <;> simp [z1]
  have zo2 : (onlyC c).torn.length ≤ 9223372036854775807 := by rw [(only_keep c).2]; split <;> simp [z2]
  obtain ⟨w0, hw0⟩ : ∃ w0, w0 = w.alloc (.cells (CmdV c (.slice ka c.keep.length kc) (.slice ta c.torn.length tc)) 32) := ⟨_, rfl⟩
  have kw0 : Kp [] w w0 := hw0 ▸ (Kp.refl _ _).alloc _
  have hbx : w0.heap[w.heap.size]? = some (.cells (CmdV c (.slice ka c.keep.length kc) (.slice ta c.torn.length tc)) 32 (0, 0)) := by rw [hw0]; exact block_new _ _
  obtain ⟨a0, a1, a2, a3, a4, a5, a6, a7, a8, a9⟩ := cells10 hbx
  simp only [CmdV] at hw0 ⊢
  have hk1 := h1.keep0 kw0
  have hk2 := h2.keep0 kw0
  have Hw0 := Lib.hid hw0
  have hK := Kp.refl [] w0
  obtain ⟨R, hR⟩ : ∃ R, R = checkC c := ⟨_, rfl⟩
  rw [← hR]
  have HR := Lib.hid hR
  obtain ⟨sc, hsc⟩ : ∃ sc, sc = sameC (onlyC c) c := ⟨_, rfl⟩
  have HS := Lib.hid hsc.symm
  clear hw0 hbx h1 h2 hR hsc
  by_cases e1 : c.act < 0
  · have hr : R = 1 := by rw [HR.out]; unfold checkC; rw [if_pos e1]
    subst hr
    go_enter Tryz.func10, Tryz.ntmps10
    go_wp2_with fail
    go_ret
    exact ⟨rfl, by rw [Hw0.out] at kw0; exact kw0⟩
  by_cases e2 : c.act > 7
  · have hr : R = 1 := by rw [HR.out]; unfold checkC; rw [if_neg e1, if_pos e2]
    subst hr
    go_enter Tryz.func10, Tryz.ntmps10
    go_wp2_with fail
    go_ret
    exact ⟨rfl, by rw [Hw0.out] at kw0; exact kw0⟩
  by_cases e0 : c.act = 0
  · have hab : (c.act == 0) = true := by simpa using e0
    have HE0 := Lib.hid e0
    clear e0
    go_enter Tryz.func10, Tryz.ntmps10
    go_wp2_with fail
    rw [← Hw0.out]
    refine (qcheck c.rk c.rs c.rv hs hv _).mono ?_
    rintro e w1 ⟨rfl, k1⟩
    have hK := hK.trans k1
    obtain ⟨ce, hce⟩ : ∃ ce, ce = checkE c.rk c.rs c.rv := ⟨_, rfl⟩
    rw [← hce]
    have HCE := Lib.hid hce
    clear hce
    by_cases h0 : ce = 0
    · subst h0
      have hcal : ¬ (c.act = 0 ∧ checkE c.rk c.rs c.rv ≠ 0) := fun e => e.2 HCE.out.symm
      have HCAL := Lib.hid hcal
      clear hcal
      go_wp2_with fail
      cases sc with
      | false =>
        refine wpB_begin 999 (Kp [] w0) (by kernel_rfl) (by exact hK.drew) (fun hHeld => ?_)
        refine wpB_take 0 _ ?_ rfl (by kernel_rfl) (fun _ _ _ h => h) rfl hHeld ?_ ?_
        rotate_left
        · (intro W hW; go_simp; try with_reducible rfl)
        try simp only [Act.put, List.setIfInBounds_toArray, List.set_cons_zero, List.set_cons_succ]
        refine wpB_take 2 _ ?_ rfl (by kernel_rfl) (fun _ _ _ h => h) rfl hHeld ?_ ?_
        rotate_left
        · (intro W hW; go_simp; try with_reducible rfl)
        try simp only [Act.put, List.setIfInBounds_toArray, List.set_cons_zero, List.set_cons_succ]
        refine wpB_step 1 _ rfl (by kernel_rfl) rfl rfl (fun K hK_ => ?_)
        go_simp
        refine (named_any c ka ta c.keep.length kc c.torn.length tc _).mono ?_
        rintro e w3 ⟨rfl, k3⟩
        refine hK_.out _ _ (by first | exact hHeld | exact hHeld.call ‹_› | exact hHeld.alloc _) (fun hHeld => ?_)
        clear hK_ K
        try simp only [Act.put, List.setIfInBounds_toArray, List.set_cons_zero, List.set_cons_succ]
        refine wpB_step 3 _ rfl (by kernel_rfl) rfl rfl (fun K hK_ => ?_)
        go_simp
        refine (ssame (onlyC c) c _ _ _ _ _ _ (onlyV_at (hk1.keep0 hHeld) (only_keep c).1) (onlyV_at (hk2.keep0 hHeld) (only_keep c).2) (hk1.keep0 hHeld) (hk2.keep0 hHeld) zo1 zo2).mono ?_
        rintro e w4 ⟨rfl, k4⟩
        rw [HS.out]
        refine hK_.out _ _ (by first | exact hHeld | exact hHeld.call ‹_› | exact hHeld.alloc _) (fun hHeld => ?_)
        clear hK_ K
        try simp only [Act.put, List.setIfInBounds_toArray, List.set_cons_zero, List.set_cons_succ]
        refine wpB_take 4 _ ?_ rfl (by kernel_rfl) (fun _ _ _ h => h) rfl hHeld ?_ ?_
        rotate_left
        · (intro W hW; go_simp; try with_reducible rfl)
        try simp only [Act.put, List.setIfInBounds_toArray, List.set_cons_zero, List.set_cons_succ]
        refine wpB_take 5 _ ?_ rfl (by kernel_rfl) (fun _ _ _ h => h) rfl hHeld ?_ ?_
        rotate_left
        · (intro W hW; go_simp; try with_reducible rfl)
        try simp only [Act.put, List.setIfInBounds_toArray, List.set_cons_zero, List.set_cons_succ]
        refine wpB_skip 6 _ rfl (by kernel_rfl) (fun _ _ _ h => h) rfl hHeld ?_
        try simp only [Act.put, List.setIfInBounds_toArray, List.set_cons_zero, List.set_cons_succ]
        refine wpB_skip 7 _ rfl (by kernel_rfl) (fun _ _ _ h => h) rfl hHeld ?_
        try simp only [Act.put, List.setIfInBounds_toArray, List.set_cons_zero, List.set_cons_succ]
        refine wpB_skip 8 _ rfl (by kernel_rfl) (fun _ _ _ h => h) rfl hHeld ?_
        try simp only [Act.put, List.setIfInBounds_toArray, List.set_cons_zero, List.set_cons_succ]
        refine wpB_skip 9 _ rfl (by kernel_rfl) (fun _ _ _ h => h) rfl hHeld ?_
        try simp only [Act.put, List.setIfInBounds_toArray, List.set_cons_zero, List.set_cons_succ]
        refine wpB_skip 10 _ rfl (by kernel_rfl) (fun _ _ _ h => h) rfl hHeld ?_
        try simp only [Act.put, List.setIfInBounds_toArray, List.set_cons_zero, List.set_cons_succ]
        refine wpB_skip 11 _ rfl (by kernel_rfl) (fun _ _ _ h => h) rfl hHeld ?_
        try simp only [Act.put, List.setIfInBounds_toArray, List.set_cons_zero, List.set_cons_succ]
        refine wpB_skip 12 _ rfl (by kernel_rfl) (fun _ _ _ h => h) rfl hHeld ?_
        try simp only [Act.put, List.setIfInBounds_toArray, List.set_cons_zero, List.set_cons_succ]
        refine wpB_skip 13 _ rfl (by kernel_rfl) (fun _ _ _ h => h) rfl hHeld ?_
        try simp only [Act.put, List.setIfInBounds_toArray, List.set_cons_zero, List.set_cons_succ]
        refine wpB_take 14 _ ?_ rfl (by kernel_rfl) (fun _ _ _ h => h) rfl hHeld ?_ ?_
        rotate_left
        · (intro W hW; go_simp; try with_reducible rfl)
        try simp only [Act.put, List.setIfInBounds_toArray, List.set_cons_zero, List.set_cons_succ]
        refine wpB_take 15 _ ?_ rfl (by kernel_rfl) (fun _ _ _ h => h) rfl hHeld ?_ ?_
        rotate_left
        · (intro W hW; go_simp; try with_reducible rfl)
        try simp only [Act.put, List.setIfInBounds_toArray, List.set_cons_zero, List.set_cons_succ]
        refine wpB_skip 16 _ rfl (by kernel_rfl) (fun _ _ _ h => h) rfl hHeld ?_
        try simp only [Act.put, List.setIfInBounds_toArray, List.set_cons_zero, List.set_cons_succ]
        refine wpB_skip 17 _ rfl (by kernel_rfl) (fun _ _ _ h => h) rfl hHeld ?_
        try simp only [Act.put, List.setIfInBounds_toArray, List.set_cons_zero, List.set_cons_succ]
        refine wpB_skip 18 _ rfl (by kernel_rfl) (fun _ _ _ h => h) rfl hHeld ?_
        try simp only [Act.put, List.setIfInBounds_toArray, List.set_cons_zero, List.set_cons_succ]
        refine wpB_skip 19 _ rfl (by kernel_rfl) (fun _ _ _ h => h) rfl hHeld ?_
        try simp only [Act.put, List.setIfInBounds_toArray, List.set_cons_zero, List.set_cons_succ]
        refine wpB_skip 20 _ rfl (by kernel_rfl) (fun _ _ _ h => h) rfl hHeld ?_
        try simp only [Act.put, List.setIfInBounds_toArray, List.set_cons_zero, List.set_cons_succ]
        refine wpB_skip 21 _ rfl (by kernel_rfl) (fun _ _ _ h => h) rfl hHeld ?_
        try simp only [Act.put, List.setIfInBounds_toArray, List.set_cons_zero, List.set_cons_succ]
        refine wpB_skip 22 _ rfl (by kernel_rfl) (fun _ _ _ h => h) rfl hHeld ?_
        try simp only [Act.put, List.setIfInBounds_toArray, List.set_cons_zero, List.set_cons_succ]
        refine wpB_skip 23 _ rfl (by kernel_rfl) (fun _ _ _ h => h) rfl hHeld ?_
        try simp only [Act.put, List.setIfInBounds_toArray, List.set_cons_zero, List.set_cons_succ]
        refine wpB_take 24 _ ?_ rfl (by kernel_rfl) (fun _ _ _ h => h) rfl hHeld ?_ ?_
        rotate_left
        · (intro W hW; go_simp; try with_reducible rfl)
        try simp only [Act.put, List.setIfInBounds_toArray, List.set_cons_zero, List.set_cons_succ]
        refine wpB_done (by kernel_rfl) ?_ _
        have hr : R = 1 := by rw [HR.out]; unfold checkC; rw [if_neg (by omega), if_neg (by omega), if_neg HCAL.out, HS.out]; rfl
        subst hr
        go_wp2_with fail
        go_ret
        exact ⟨rfl, kw0.trans hHeld⟩
      | true =>
        by_cases m1 : (if c.b < if c.a < c.n then c.a else c.n then c.b else if c.a < c.n then c.a else c.n) < 0
        · refine wpB_begin 999 (Kp [] w0) (by kernel_rfl) (by exact hK.drew) (fun hHeld => ?_)
          refine wpB_take 0 _ ?_ rfl (by kernel_rfl) (fun _ _ _ h => h) rfl hHeld ?_ ?_
          rotate_left
          · (intro W hW; go_simp; try with_reducible rfl)
          try simp only [Act.put, List.setIfInBounds_toArray, List.set_cons_zero, List.set_cons_succ]
          refine wpB_take 2 _ ?_ rfl (by kernel_rfl) (fun _ _ _ h => h) rfl hHeld ?_ ?_
          rotate_left
          · (intro W hW; go_simp; try with_reducible rfl)
          try simp only [Act.put, List.setIfInBounds_toArray, List.set_cons_zero, List.set_cons_succ]
          refine wpB_step 1 _ rfl (by kernel_rfl) rfl rfl (fun K hK_ => ?_)
          go_simp
          refine (named_any c ka ta c.keep.length kc c.torn.length tc _).mono ?_
          rintro e w3 ⟨rfl, k3⟩
          refine hK_.out _ _ (by first | exact hHeld | exact hHeld.call ‹_› | exact hHeld.alloc _) (fun hHeld => ?_)
          clear hK_ K
          try simp only [Act.put, List.setIfInBounds_toArray, List.set_cons_zero, List.set_cons_succ]
          refine wpB_step 3 _ rfl (by kernel_rfl) rfl rfl (fun K hK_ => ?_)
          go_simp
          refine (ssame (onlyC c) c _ _ _ _ _ _ (onlyV_at (hk1.keep0 hHeld) (only_keep c).1) (onlyV_at (hk2.keep0 hHeld) (only_keep c).2) (hk1.keep0 hHeld) (hk2.keep0 hHeld) zo1 zo2).mono ?_
          rintro e w4 ⟨rfl, k4⟩
          rw [HS.out]
          refine hK_.out _ _ (by first | exact hHeld | exact hHeld.call ‹_› | exact hHeld.alloc _) (fun hHeld => ?_)
          clear hK_ K
          try simp only [Act.put, List.setIfInBounds_toArray, List.set_cons_zero, List.set_cons_succ]
          refine wpB_take 4 _ ?_ rfl (by kernel_rfl) (fun _ _ _ h => h) rfl hHeld ?_ ?_
          rotate_left
          · (intro W hW; go_simp; try with_reducible rfl)
          try simp only [Act.put, List.setIfInBounds_toArray, List.set_cons_zero, List.set_cons_succ]
          refine wpB_take 5 _ ?_ rfl (by kernel_rfl) (fun _ _ _ h => h) rfl hHeld ?_ ?_
          rotate_left
          · (intro W hW; go_simp; try with_reducible rfl)
          try simp only [Act.put, List.setIfInBounds_toArray, List.set_cons_zero, List.set_cons_succ]
          refine wpB_take 6 _ ?_ rfl (by kernel_rfl) (fun _ _ _ h => h) rfl hHeld ?_ ?_
          rotate_left
          · (intro W hW; go_simp; try with_reducible rfl)
          try simp only [Act.put, List.setIfInBounds_toArray, List.set_cons_zero, List.set_cons_succ]
          refine wpB_take 7 _ ?_ rfl (by kernel_rfl) (fun _ _ _ h => h) rfl hHeld ?_ ?_
          rotate_left
          · (intro W hW; go_simp; try with_reducible rfl)
          try simp only [Act.put, List.setIfInBounds_toArray, List.set_cons_zero, List.set_cons_succ]
          refine wpB_take 8 _ ?_ rfl (by kernel_rfl) (fun _ _ _ h => h) rfl hHeld ?_ ?_
          rotate_left
          · (intro W hW; go_simp; try with_reducible rfl)
          try simp only [Act.put, List.setIfInBounds_toArray, List.set_cons_zero, List.set_cons_succ]
          refine wpB_take 9 _ ?_ rfl (by kernel_rfl) (fun _ _ _ h => h) rfl hHeld ?_ ?_
          rotate_left
          · (intro W hW; go_simp; try with_reducible rfl)
          try simp only [Act.put, List.setIfInBounds_toArray, List.set_cons_zero, List.set_cons_succ]
          refine wpB_take 10 _ ?_ rfl (by kernel_rfl) (fun _ _ _ h => h) rfl hHeld ?_ ?_
          rotate_left
          · (intro W hW; go_simp; try with_reducible rfl)
          try simp only [Act.put, List.setIfInBounds_toArray, List.set_cons_zero, List.set_cons_succ]
          refine wpB_take 11 _ ?_ rfl (by kernel_rfl) (fun _ _ _ h => h) rfl hHeld ?_ ?_
          rotate_left
          · (intro W hW; go_simp; try with_reducible rfl)
          try simp only [Act.put, List.setIfInBounds_toArray, List.set_cons_zero, List.set_cons_succ]
          refine wpB_take 12 _ ?_ rfl (by kernel_rfl) (fun _ _ _ h => h) rfl hHeld ?_ ?_
          rotate_left
          · (intro W hW; go_simp; try with_reducible rfl)
          try simp only [Act.put, List.setIfInBounds_toArray, List.set_cons_zero, List.set_cons_succ]
          refine wpB_take 13 _ ?_ rfl (by kernel_rfl) (fun _ _ _ h => h) rfl hHeld ?_ ?_
          rotate_left
          · (intro W hW; go_simp; try with_reducible rfl)
          try simp only [Act.put, List.setIfInBounds_toArray, List.set_cons_zero, List.set_cons_succ]
          refine wpB_take 14 _ ?_ rfl (by kernel_rfl) (fun _ _ _ h => h) rfl hHeld ?_ ?_
          rotate_left
          · (intro W hW; go_simp; try with_reducible rfl)
          try simp only [Act.put, List.setIfInBounds_toArray, List.set_cons_zero, List.set_cons_succ]
          refine wpB_take 15 _ ?_ rfl (by kernel_rfl) (fun _ _ _ h => h) rfl hHeld ?_ ?_
          rotate_left
          · (intro W hW; go_simp; try with_reducible rfl)
          try simp only [Act.put, List.setIfInBounds_toArray, List.set_cons_zero, List.set_cons_succ]
          refine wpB_skip 16 _ rfl (by kernel_rfl) (fun _ _ _ h => h) rfl hHeld ?_
          try simp only [Act.put, List.setIfInBounds_toArray, List.set_cons_zero, List.set_cons_succ]
          refine wpB_skip 17 _ rfl (by kernel_rfl) (fun _ _ _ h => h) rfl hHeld ?_
          try simp only [Act.put, List.setIfInBounds_toArray, List.set_cons_zero, List.set_cons_succ]
          refine wpB_skip 18 _ rfl (by kernel_rfl) (fun _ _ _ h => h) rfl hHeld ?_
          try simp only [Act.put, List.setIfInBounds_toArray, List.set_cons_zero, List.set_cons_succ]
          refine wpB_skip 19 _ rfl (by kernel_rfl) (fun _ _ _ h => h) rfl hHeld ?_
          try simp only [Act.put, List.setIfInBounds_toArray, List.set_cons_zero, List.set_cons_succ]
          refine wpB_skip 20 _ rfl (by kernel_rfl) (fun _ _ _ h => h) rfl hHeld ?_
          try simp only [Act.put, List.setIfInBounds_toArray, List.set_cons_zero, List.set_cons_succ]
          refine wpB_skip 21 _ rfl (by kernel_rfl) (fun _ _ _ h => h) rfl hHeld ?_
          try simp only [Act.put, List.setIfInBounds_toArray, List.set_cons_zero, List.set_cons_succ]
          refine wpB_skip 22 _ rfl (by kernel_rfl) (fun _ _ _ h => h) rfl hHeld ?_
          try simp only [Act.put, List.setIfInBounds_toArray, List.set_cons_zero, List.set_cons_succ]
          refine wpB_skip 23 _ rfl (by kernel_rfl) (fun _ _ _ h => h) rfl hHeld ?_
          try simp only [Act.put, List.setIfInBounds_toArray, List.set_cons_zero, List.set_cons_succ]
          refine wpB_take 24 _ ?_ rfl (by kernel_rfl) (fun _ _ _ h => h) rfl hHeld ?_ ?_
          rotate_left
          · (intro W hW; go_simp; try with_reducible rfl)
          try simp only [Act.put, List.setIfInBounds_toArray, List.set_cons_zero, List.set_cons_succ]
          refine wpB_done (by kernel_rfl) ?_ _
          have hr : R = 1 := by
            rw [HR.out]; unfold checkC; rw [if_neg (by omega), if_neg (by omega), if_neg HCAL.out, HS.out]
            have h1 := (min_neg _ _ _).1 m1
            rw [if_neg (by unfold numOk; simp; omega)]
          subst hr
          generalize (if c.b < if c.a < c.n then c.a else c.n then c.b else if c.a < c.n then c.a else c.n) = mnv at m1 ⊢
          go_wp2_with fail
          go_ret
          exact ⟨rfl, kw0.trans hHeld⟩
        · refine wpB_begin 999 (Kp [] w0) (by kernel_rfl) (by exact hK.drew) (fun hHeld => ?_)
          refine wpB_take 0 _ ?_ rfl (by kernel_rfl) (fun _ _ _ h => h) rfl hHeld ?_ ?_
          rotate_left
          · (intro W hW; go_simp; try with_reducible rfl)
          try simp only [Act.put, List.setIfInBounds_toArray, List.set_cons_zero, List.set_cons_succ]
          refine wpB_take 2 _ ?_ rfl (by kernel_rfl) (fun _ _ _ h => h) rfl hHeld ?_ ?_
          rotate_left
          · (intro W hW; go_simp; try with_reducible rfl)
          try simp only [Act.put, List.setIfInBounds_toArray, List.set_cons_zero, List.set_cons_succ]
          refine wpB_step 1 _ rfl (by kernel_rfl) rfl rfl (fun K hK_ => ?_)
          go_simp
          refine (named_any c ka ta c.keep.length kc c.torn.length tc _).mono ?_
          rintro e w3 ⟨rfl, k3⟩
          refine hK_.out _ _ (by first | exact hHeld | exact hHeld.call ‹_› | exact hHeld.alloc _) (fun hHeld => ?_)
          clear hK_ K
          try simp only [Act.put, List.setIfInBounds_toArray, List.set_cons_zero, List.set_cons_succ]
          refine wpB_step 3 _ rfl (by kernel_rfl) rfl rfl (fun K hK_ => ?_)
          go_simp
          refine (ssame (onlyC c) c _ _ _ _ _ _ (onlyV_at (hk1.keep0 hHeld) (only_keep c).1) (onlyV_at (hk2.keep0 hHeld) (only_keep c).2) (hk1.keep0 hHeld) (hk2.keep0 hHeld) zo1 zo2).mono ?_
          rintro e w4 ⟨rfl, k4⟩
          rw [HS.out]
          refine hK_.out _ _ (by first | exact hHeld | exact hHeld.call ‹_› | exact hHeld.alloc _) (fun hHeld => ?_)
          clear hK_ K
          try simp only [Act.put, List.setIfInBounds_toArray, List.set_cons_zero, List.set_cons_succ]
          refine wpB_take 4 _ ?_ rfl (by kernel_rfl) (fun _ _ _ h => h) rfl hHeld ?_ ?_
          rotate_left
          · (intro W hW; go_simp; try with_reducible rfl)
          try simp only [Act.put, List.setIfInBounds_toArray, List.set_cons_zero, List.set_cons_succ]
          refine wpB_take 5 _ ?_ rfl (by kernel_rfl) (fun _ _ _ h => h) rfl hHeld ?_ ?_
          rotate_left
          · (intro W hW; go_simp; try with_reducible rfl)
          try simp only [Act.put, List.setIfInBounds_toArray, List.set_cons_zero, List.set_cons_succ]
          refine wpB_take 6 _ ?_ rfl (by kernel_rfl) (fun _ _ _ h => h) rfl hHeld ?_ ?_
          rotate_left
          · (intro W hW; go_simp; try with_reducible rfl)
          try simp only [Act.put, List.setIfInBounds_toArray, List.set_cons_zero, List.set_cons_succ]
          refine wpB_take 7 _ ?_ rfl (by kernel_rfl) (fun _ _ _ h => h) rfl hHeld ?_ ?_
          rotate_left
          · (intro W hW; go_simp; try with_reducible rfl)
          try simp only [Act.put, List.setIfInBounds_toArray, List.set_cons_zero, List.set_cons_succ]
          refine wpB_take 8 _ ?_ rfl (by kernel_rfl) (fun _ _ _ h => h) rfl hHeld ?_ ?_
          rotate_left
          · (intro W hW; go_simp; try with_reducible rfl)
          try simp only [Act.put, List.setIfInBounds_toArray, List.set_cons_zero, List.set_cons_succ]
          refine wpB_take 9 _ ?_ rfl (by kernel_rfl) (fun _ _ _ h => h) rfl hHeld ?_ ?_
          rotate_left
          · (intro W hW; go_simp; try with_reducible rfl)
          try simp only [Act.put, List.setIfInBounds_toArray, List.set_cons_zero, List.set_cons_succ]
          refine wpB_take 10 _ ?_ rfl (by kernel_rfl) (fun _ _ _ h => h) rfl hHeld ?_ ?_
          rotate_left
          · (intro W hW; go_simp; try with_reducible rfl)
          try simp only [Act.put, List.setIfInBounds_toArray, List.set_cons_zero, List.set_cons_succ]
          refine wpB_take 11 _ ?_ rfl (by kernel_rfl) (fun _ _ _ h => h) rfl hHeld ?_ ?_
          rotate_left
          · (intro W hW; go_simp; try with_reducible rfl)
          try simp only [Act.put, List.setIfInBounds_toArray, List.set_cons_zero, List.set_cons_succ]
          refine wpB_take 12 _ ?_ rfl (by kernel_rfl) (fun _ _ _ h => h) rfl hHeld ?_ ?_
          rotate_left
          · (intro W hW; go_simp; try with_reducible rfl)
          try simp only [Act.put, List.setIfInBounds_toArray, List.set_cons_zero, List.set_cons_succ]
          refine wpB_take 13 _ ?_ rfl (by kernel_rfl) (fun _ _ _ h => h) rfl hHeld ?_ ?_
          rotate_left
          · (intro W hW; go_simp; try with_reducible rfl)
          try simp only [Act.put, List.setIfInBounds_toArray, List.set_cons_zero, List.set_cons_succ]
          refine wpB_take 14 _ ?_ rfl (by kernel_rfl) (fun _ _ _ h => h) rfl hHeld ?_ ?_
          rotate_left
          · (intro W hW; go_simp; try with_reducible rfl)
          try simp only [Act.put, List.setIfInBounds_toArray, List.set_cons_zero, List.set_cons_succ]
          refine wpB_take 15 _ ?_ rfl (by kernel_rfl) (fun _ _ _ h => h) rfl hHeld ?_ ?_
          rotate_left
          · (intro W hW; go_simp; try with_reducible rfl)
          try simp only [Act.put, List.setIfInBounds_toArray, List.set_cons_zero, List.set_cons_succ]
          refine wpB_take 16 _ ?_ rfl (by kernel_rfl) (fun _ _ _ h => h) rfl hHeld ?_ ?_
          rotate_left
          · (intro W hW; go_simp; try with_reducible rfl)
          try simp only [Act.put, List.setIfInBounds_toArray, List.set_cons_zero, List.set_cons_succ]
          refine wpB_take 17 _ ?_ rfl (by kernel_rfl) (fun _ _ _ h => h) rfl hHeld ?_ ?_
          rotate_left
          · (intro W hW; go_simp; try with_reducible rfl)
          try simp only [Act.put, List.setIfInBounds_toArray, List.set_cons_zero, List.set_cons_succ]
          refine wpB_take 18 _ ?_ rfl (by kernel_rfl) (fun _ _ _ h => h) rfl hHeld ?_ ?_
          rotate_left
          · (intro W hW; go_simp; try with_reducible rfl)
          try simp only [Act.put, List.setIfInBounds_toArray, List.set_cons_zero, List.set_cons_succ]
          refine wpB_take 19 _ ?_ rfl (by kernel_rfl) (fun _ _ _ h => h) rfl hHeld ?_ ?_
          rotate_left
          · (intro W hW; go_simp; try with_reducible rfl)
          try simp only [Act.put, List.setIfInBounds_toArray, List.set_cons_zero, List.set_cons_succ]
          refine wpB_take 20 _ ?_ rfl (by kernel_rfl) (fun _ _ _ h => h) rfl hHeld ?_ ?_
          rotate_left
          · (intro W hW; go_simp; try with_reducible rfl)
          try simp only [Act.put, List.setIfInBounds_toArray, List.set_cons_zero, List.set_cons_succ]
          refine wpB_take 21 _ ?_ rfl (by kernel_rfl) (fun _ _ _ h => h) rfl hHeld ?_ ?_
          rotate_left
          · (intro W hW; go_simp; try with_reducible rfl)
          try simp only [Act.put, List.setIfInBounds_toArray, List.set_cons_zero, List.set_cons_succ]
          refine wpB_take 22 _ ?_ rfl (by kernel_rfl) (fun _ _ _ h => h) rfl hHeld ?_ ?_
          rotate_left
          · (intro W hW; go_simp; try with_reducible rfl)
          try simp only [Act.put, List.setIfInBounds_toArray, List.set_cons_zero, List.set_cons_succ]
          refine wpB_take 23 _ ?_ rfl (by kernel_rfl) (fun _ _ _ h => h) rfl hHeld ?_ ?_
          rotate_left
          · (intro W hW; go_simp; try with_reducible rfl)
          try simp only [Act.put, List.setIfInBounds_toArray, List.set_cons_zero, List.set_cons_succ]
          refine wpB_take 24 _ ?_ rfl (by kernel_rfl) (fun _ _ _ h => h) rfl hHeld ?_ ?_
          rotate_left
          · (intro W hW; go_simp; try with_reducible rfl)
          try simp only [Act.put, List.setIfInBounds_toArray, List.set_cons_zero, List.set_cons_succ]
          refine wpB_done (by kernel_rfl) ?_ _
          have h1 := fun h => m1 ((min_neg _ _ _).2 h)
          by_cases m2 : 99999 < (if (if c.n < c.a then c.a else c.n) < c.b then c.b else if c.n < c.a then c.a else c.n)
          · have hr : R = 1 := by
              rw [HR.out]; unfold checkC; rw [if_neg (by omega), if_neg (by omega), if_neg HCAL.out, HS.out]
              have h2 := (max_big _ _ _).1 m2
              rw [if_neg (by unfold numOk; simp; omega)]
            subst hr
            clear h1
            generalize (if c.b < if c.a < c.n then c.a else c.n then c.b else if c.a < c.n then c.a else c.n) = mnv at m1 ⊢
            generalize (if (if c.n < c.a then c.a else c.n) < c.b then c.b else if c.n < c.a then c.a else c.n) = mxv at m2 ⊢
            go_wp2_with fail
            go_ret
            exact ⟨rfl, kw0.trans hHeld⟩
          · have hr : R = 0 := by
              rw [HR.out]; unfold checkC; rw [if_neg (by omega), if_neg (by omega), if_neg HCAL.out, HS.out]
              have h2 := fun h => m2 ((max_big _ _ _).2 h)
              rw [if_pos (by unfold numOk; simp; omega)]
            subst hr
            clear h1
            generalize (if c.b < if c.a < c.n then c.a else c.n then c.b else if c.a < c.n then c.a else c.n) = mnv at m1 ⊢
            generalize (if (if c.n < c.a then c.a else c.n) < c.b then c.b else if c.n < c.a then c.a else c.n) = mxv at m2 ⊢
            go_wp2_with fail
            go_ret
            exact ⟨rfl, kw0.trans hHeld⟩
    · have hne : (ce != 0) = true := by simpa using h0
      have hr : R = ce := by rw [HR.out]; unfold checkC; rw [if_neg (by omega), if_neg (by omega), if_pos ⟨HE0.out, by rw [← HCE.out]; exact h0⟩, HCE.out]
      have HRR := Lib.hid hr
      clear h0 hr
      go_wp2_with fail
      go_ret
      exact ⟨by rw [HRR.out]; rfl, kw0.trans hK⟩
  · have hab := int_ne e0
    go_enter Tryz.func10, Tryz.ntmps10
    go_wp2_with fail
    rw [← Hw0.out]
    have hcal : ¬ (c.act = 0 ∧ checkE c.rk c.rs c.rv ≠ 0) := fun e => e0 e.1
    have HCAL := Lib.hid hcal
    clear hcal e0
    cases sc with
    | false =>
      refine wpB_begin 999 (Kp [] w0) (by kernel_rfl) (by exact hK.drew) (fun hHeld => ?_)
      refine wpB_take 0 _ ?_ rfl (by kernel_rfl) (fun _ _ _ h => h) rfl hHeld ?_ ?_
      rotate_left
      · (intro W hW; go_simp; try with_reducible rfl)
      try simp only [Act.put, List.setIfInBounds_toArray, List.set_cons_zero, List.set_cons_succ]
      refine wpB_take 2 _ ?_ rfl (by kernel_rfl) (fun _ _ _ h => h) rfl hHeld ?_ ?_
      rotate_left
      · (intro W hW; go_simp; try with_reducible rfl)
      try simp only [Act.put, List.setIfInBounds_toArray, List.set_cons_zero, List.set_cons_succ]
      refine wpB_step 1 _ rfl (by kernel_rfl) rfl rfl (fun K hK_ => ?_)
      go_simp
      refine (named_any c ka ta c.keep.length kc c.torn.length tc _).mono ?_
      rintro e w3 ⟨rfl, k3⟩
      refine hK_.out _ _ (by first | exact hHeld | exact hHeld.call ‹_› | exact hHeld.alloc _) (fun hHeld => ?_)
      clear hK_ K
      try simp only [Act.put, List.setIfInBounds_toArray, List.set_cons_zero, List.set_cons_succ]
      refine wpB_step 3 _ rfl (by kernel_rfl) rfl rfl (fun K hK_ => ?_)
      go_simp
      refine (ssame (onlyC c) c _ _ _ _ _ _ (onlyV_at (hk1.keep0 hHeld) (only_keep c).1) (onlyV_at (hk2.keep0 hHeld) (only_keep c).2) (hk1.keep0 hHeld) (hk2.keep0 hHeld) zo1 zo2).mono ?_
      rintro e w4 ⟨rfl, k4⟩
      rw [HS.out]
      refine hK_.out _ _ (by first | exact hHeld | exact hHeld.call ‹_› | exact hHeld.alloc _) (fun hHeld => ?_)
      clear hK_ K
      try simp only [Act.put, List.setIfInBounds_toArray, List.set_cons_zero, List.set_cons_succ]
      refine wpB_take 4 _ ?_ rfl (by kernel_rfl) (fun _ _ _ h => h) rfl hHeld ?_ ?_
      rotate_left
      · (intro W hW; go_simp; try with_reducible rfl)
      try simp only [Act.put, List.setIfInBounds_toArray, List.set_cons_zero, List.set_cons_succ]
      refine wpB_take 5 _ ?_ rfl (by kernel_rfl) (fun _ _ _ h => h) rfl hHeld ?_ ?_
      rotate_left
      · (intro W hW; go_simp; try with_reducible rfl)
      try simp only [Act.put, List.setIfInBounds_toArray, List.set_cons_zero, List.set_cons_succ]
      refine wpB_skip 6 _ rfl (by kernel_rfl) (fun _ _ _ h => h) rfl hHeld ?_
      try simp only [Act.put, List.setIfInBounds_toArray, List.set_cons_zero, List.set_cons_succ]
      refine wpB_skip 7 _ rfl (by kernel_rfl) (fun _ _ _ h => h) rfl hHeld ?_
      try simp only [Act.put, List.setIfInBounds_toArray, List.set_cons_zero, List.set_cons_succ]
      refine wpB_skip 8 _ rfl (by kernel_rfl) (fun _ _ _ h => h) rfl hHeld ?_
      try simp only [Act.put, List.setIfInBounds_toArray, List.set_cons_zero, List.set_cons_succ]
      refine wpB_skip 9 _ rfl (by kernel_rfl) (fun _ _ _ h => h) rfl hHeld ?_
      try simp only [Act.put, List.setIfInBounds_toArray, List.set_cons_zero, List.set_cons_succ]
      refine wpB_skip 10 _ rfl (by kernel_rfl) (fun _ _ _ h => h) rfl hHeld ?_
      try simp only [Act.put, List.setIfInBounds_toArray, List.set_cons_zero, List.set_cons_succ]
      refine wpB_skip 11 _ rfl (by kernel_rfl) (fun _ _ _ h => h) rfl hHeld ?_
      try simp only [Act.put, List.setIfInBounds_toArray, List.set_cons_zero, List.set_cons_succ]
      refine wpB_skip 12 _ rfl (by kernel_rfl) (fun _ _ _ h => h) rfl hHeld ?_
      try simp only [Act.put, List.setIfInBounds_toArray, List.set_cons_zero, List.set_cons_succ]
      refine wpB_skip 13 _ rfl (by kernel_rfl) (fun _ _ _ h => h) rfl hHeld ?_
      try simp only [Act.put, List.setIfInBounds_toArray, List.set_cons_zero, List.set_cons_succ]
      refine wpB_take 14 _ ?_ rfl (by kernel_rfl) (fun _ _ _ h => h) rfl hHeld ?_ ?_
      rotate_left
      · (intro W hW; go_simp; try with_reducible rfl)
      try simp only [Act.put, List.setIfInBounds_toArray, List.set_cons_zero, List.set_cons_succ]
      refine wpB_take 15 _ ?_ rfl (by kernel_rfl) (fun _ _ _ h => h) rfl hHeld ?_ ?_
      rotate_left
      · (intro W hW; go_simp; try with_reducible rfl)
      try simp only [Act.put, List.setIfInBounds_toArray, List.set_cons_zero, List.set_cons_succ]
      refine wpB_skip 16 _ rfl (by kernel_rfl) (fun _ _ _ h => h) rfl hHeld ?_
      try simp only [Act.put, List.setIfInBounds_toArray, List.set_cons_zero, List.set_cons_succ]
      refine wpB_skip 17 _ rfl (by kernel_rfl) (fun _ _ _ h => h) rfl hHeld ?_
      try simp only [Act.put, List.setIfInBounds_toArray, List.set_cons_zero, List.set_cons_succ]
      refine wpB_skip 18 _ rfl (by kernel_rfl) (fun _ _ _ h => h) rfl hHeld ?_
      try simp only [Act.put, List.setIfInBounds_toArray, List.set_cons_zero, List.set_cons_succ]
      refine wpB_skip 19 _ rfl (by kernel_rfl) (fun _ _ _ h => h) rfl hHeld ?_
      try simp only [Act.put, List.setIfInBounds_toArray, List.set_cons_zero, List.set_cons_succ]
      refine wpB_skip 20 _ rfl (by kernel_rfl) (fun _ _ _ h => h) rfl hHeld ?_
      try simp only [Act.put, List.setIfInBounds_toArray, List.set_cons_zero, List.set_cons_succ]
      refine wpB_skip 21 _ rfl (by kernel_rfl) (fun _ _ _ h => h) rfl hHeld ?_
      try simp only [Act.put, List.setIfInBounds_toArray, List.set_cons_zero, List.set_cons_succ]
      refine wpB_skip 22 _ rfl (by kernel_rfl) (fun _ _ _ h => h) rfl hHeld ?_
      try simp only [Act.put, List.setIfInBounds_toArray, List.set_cons_zero, List.set_cons_succ]
      refine wpB_skip 23 _ rfl (by kernel_rfl) (fun _ _ _ h => h) rfl hHeld ?_
      try simp only [Act.put, List.setIfInBounds_toArray, List.set_cons_zero, List.set_cons_succ]
      refine wpB_take 24 _ ?_ rfl (by kernel_rfl) (fun _ _ _ h => h) rfl hHeld ?_ ?_
      rotate_left
      · (intro W hW; go_simp; try with_reducible rfl)
      try simp only [Act.put, List.setIfInBounds_toArray, List.set_cons_zero, List.set_cons_succ]
      refine wpB_done (by kernel_rfl) ?_ _
      have hr : R = 1 := by rw [HR.out]; unfold checkC; rw [if_neg (by omega), if_neg (by omega), if_neg HCAL.out, HS.out]; rfl
      subst hr
      go_wp2_with fail
      go_ret
      exact ⟨rfl, kw0.trans hHeld⟩
    | true =>
      by_cases m1 : (if c.b < if c.a < c.n then c.a else c.n then c.b else if c.a < c.n then c.a else c.n) < 0
      · refine wpB_begin 999 (Kp [] w0) (by kernel_rfl) (by exact hK.drew) (fun hHeld => ?_)
        refine wpB_take 0 _ ?_ rfl (by kernel_rfl) (fun _ _ _ h => h) rfl hHeld ?_ ?_
        rotate_left
        · (intro W hW; go_simp; try with_reducible rfl)
        try simp only [Act.put, List.setIfInBounds_toArray, List.set_cons_zero, List.set_cons_succ]
        refine wpB_take 2 _ ?_ rfl (by kernel_rfl) (fun _ _ _ h => h) rfl hHeld ?_ ?_
        rotate_left
        · (intro W hW; go_simp; try with_reducible rfl)
        try simp only [Act.put, List.setIfInBounds_toArray, List.set_cons_zero, List.set_cons_succ]
        refine wpB_step 1 _ rfl (by kernel_rfl) rfl rfl (fun K hK_ => ?_)
        go_simp
        refine (named_any c ka ta c.keep.length kc c.torn.length tc _).mono ?_
        rintro e w3 ⟨rfl, k3⟩
        refine hK_.out _ _ (by first | exact hHeld | exact hHeld.call ‹_› | exact hHeld.alloc _) (fun hHeld => ?_)
        clear hK_ K
        try simp only [Act.put, List.setIfInBounds_toArray, List.set_cons_zero, List.set_cons_succ]
        refine wpB_step 3 _ rfl (by kernel_rfl) rfl rfl (fun K hK_ => ?_)
        go_simp
        refine (ssame (onlyC c) c _ _ _ _ _ _ (onlyV_at (hk1.keep0 hHeld) (only_keep c).1) (onlyV_at (hk2.keep0 hHeld) (only_keep c).2) (hk1.keep0 hHeld) (hk2.keep0 hHeld) zo1 zo2).mono ?_
        rintro e w4 ⟨rfl, k4⟩
        rw [HS.out]
        refine hK_.out _ _ (by first | exact hHeld | exact hHeld.call ‹_› | exact hHeld.alloc _) (fun hHeld => ?_)
        clear hK_ K
        try simp only [Act.put, List.setIfInBounds_toArray, List.set_cons_zero, List.set_cons_succ]
        refine wpB_take 4 _ ?_ rfl (by kernel_rfl) (fun _ _ _ h => h) rfl hHeld ?_ ?_
        rotate_left
        · (intro W hW; go_simp; try with_reducible rfl)
        try simp only [Act.put, List.setIfInBounds_toArray, List.set_cons_zero, List.set_cons_succ]
        refine wpB_take 5 _ ?_ rfl (by kernel_rfl) (fun _ _ _ h => h) rfl hHeld ?_ ?_
        rotate_left
        · (intro W hW; go_simp; try with_reducible rfl)
        try simp only [Act.put, List.setIfInBounds_toArray, List.set_cons_zero, List.set_cons_succ]
        refine wpB_take 6 _ ?_ rfl (by kernel_rfl) (fun _ _ _ h => h) rfl hHeld ?_ ?_
        rotate_left
        · (intro W hW; go_simp; try with_reducible rfl)
        try simp only [Act.put, List.setIfInBounds_toArray, List.set_cons_zero, List.set_cons_succ]
        refine wpB_take 7 _ ?_ rfl (by kernel_rfl) (fun _ _ _ h => h) rfl hHeld ?_ ?_
        rotate_left
        · (intro W hW; go_simp; try with_reducible rfl)
        try simp only [Act.put, List.setIfInBounds_toArray, List.set_cons_zero, List.set_cons_succ]
        refine wpB_take 8 _ ?_ rfl (by kernel_rfl) (fun _ _ _ h => h) rfl hHeld ?_ ?_
        rotate_left
        · (intro W hW; go_simp; try with_reducible rfl)
        try simp only [Act.put, List.setIfInBounds_toArray, List.set_cons_zero, List.set_cons_succ]
        refine wpB_take 9 _ ?_ rfl (by kernel_rfl) (fun _ _ _ h => h) rfl hHeld ?_ ?_
        rotate_left
        · (intro W hW; go_simp; try with_reducible rfl)
        try simp only [Act.put, List.setIfInBounds_toArray, List.set_cons_zero, List.set_cons_succ]
        refine wpB_take 10 _ ?_ rfl (by kernel_rfl) (fun _ _ _ h => h) rfl hHeld ?_ ?_
        rotate_left
        · (intro W hW; go_simp; try with_reducible rfl)
        try simp only [Act.put, List.setIfInBounds_toArray, List.set_cons_zero, List.set_cons_succ]
        refine wpB_take 11 _ ?_ rfl (by kernel_rfl) (fun _ _ _ h => h) rfl hHeld ?_ ?_
        rotate_left
        · (intro W hW; go_simp; try with_reducible rfl)
        try simp only [Act.put, List.setIfInBounds_toArray, List.set_cons_zero, List.set_cons_succ]
        refine wpB_take 12 _ ?_ rfl (by kernel_rfl) (fun _ _ _ h => h) rfl hHeld ?_ ?_
        rotate_left
        · (intro W hW; go_simp; try with_reducible rfl)
        try simp only [Act.put, List.setIfInBounds_toArray, List.set_cons_zero, List.set_cons_succ]
        refine wpB_take 13 _ ?_ rfl (by kernel_rfl) (fun _ _ _ h => h) rfl hHeld ?_ ?_
        rotate_left
        · (intro W hW; go_simp; try with_reducible rfl)
        try simp only [Act.put, List.setIfInBounds_toArray, List.set_cons_zero, List.set_cons_succ]
        refine wpB_take 14 _ ?_ rfl (by kernel_rfl) (fun _ _ _ h => h) rfl hHeld ?_ ?_
        rotate_left
        · (intro W hW; go_simp; try with_reducible rfl)
        try simp only [Act.put, List.setIfInBounds_toArray, List.set_cons_zero, List.set_cons_succ]
        refine wpB_take 15 _ ?_ rfl (by kernel_rfl) (fun _ _ _ h => h) rfl hHeld ?_ ?_
        rotate_left
        · (intro W hW; go_simp; try with_reducible rfl)
        try simp only [Act.put, List.setIfInBounds_toArray, List.set_cons_zero, List.set_cons_succ]
        refine wpB_skip 16 _ rfl (by kernel_rfl) (fun _ _ _ h => h) rfl hHeld ?_
        try simp only [Act.put, List.setIfInBounds_toArray, List.set_cons_zero, List.set_cons_succ]
        refine wpB_skip 17 _ rfl (by kernel_rfl) (fun _ _ _ h => h) rfl hHeld ?_
        try simp only [Act.put, List.setIfInBounds_toArray, List.set_cons_zero, List.set_cons_succ]
        refine wpB_skip 18 _ rfl (by kernel_rfl) (fun _ _ _ h => h) rfl hHeld ?_
        try simp only [Act.put, List.setIfInBounds_toArray, List.set_cons_zero, List.set_cons_succ]
        refine wpB_skip 19 _ rfl (by kernel_rfl) (fun _ _ _ h => h) rfl hHeld ?_
        try simp only [Act.put, List.setIfInBounds_toArray, List.set_cons_zero, List.set_cons_succ]
        refine wpB_skip 20 _ rfl (by kernel_rfl) (fun _ _ _ h => h) rfl hHeld ?_
        try simp only [Act.put, List.setIfInBounds_toArray, List.set_cons_zero, List.set_cons_succ]
        refine wpB_skip 21 _ rfl (by kernel_rfl) (fun _ _ _ h => h) rfl hHeld ?_
        try simp only [Act.put, List.setIfInBounds_toArray, List.set_cons_zero, List.set_cons_succ]
        refine wpB_skip 22 _ rfl (by kernel_rfl) (fun _ _ _ h => h) rfl hHeld ?_
        try simp only [Act.put, List.setIfInBounds_toArray, List.set_cons_zero, List.set_cons_succ]
        refine wpB_skip 23 _ rfl (by kernel_rfl) (fun _ _ _ h => h) rfl hHeld ?_
        try simp only [Act.put, List.setIfInBounds_toArray, List.set_cons_zero, List.set_cons_succ]
        refine wpB_take 24 _ ?_ rfl (by kernel_rfl) (fun _ _ _ h => h) rfl hHeld ?_ ?_
        rotate_left
        · (intro W hW; go_simp; try with_reducible rfl)
        try simp only [Act.put, List.setIfInBounds_toArray, List.set_cons_zero, List.set_cons_succ]
        refine wpB_done (by kernel_rfl) ?_ _
        have hr : R = 1 := by
          rw [HR.out]; unfold checkC; rw [if_neg (by omega), if_neg (by omega), if_neg HCAL.out, HS.out]
          have h1 := (min_neg _ _ _).1 m1
          rw [if_neg (by unfold numOk; simp; omega)]
        subst hr
        generalize (if c.b < if c.a < c.n then c.a else c.n then c.b else if c.a < c.n then c.a else c.n) = mnv at m1 ⊢
        go_wp2_with fail
        go_ret
        exact ⟨rfl, kw0.trans hHeld⟩
      · refine wpB_begin 999 (Kp [] w0) (by kernel_rfl) (by exact hK.drew) (fun hHeld => ?_)
        refine wpB_take 0 _ ?_ rfl (by kernel_rfl) (fun _ _ _ h => h) rfl hHeld ?_ ?_
        rotate_left
        · (intro W hW; go_simp; try with_reducible rfl)
        try simp only [Act.put, List.setIfInBounds_toArray, List.set_cons_zero, List.set_cons_succ]
        refine wpB_take 2 _ ?_ rfl (by kernel_rfl) (fun _ _ _ h => h) rfl hHeld ?_ ?_
        rotate_left
        · (intro W hW; go_simp; try with_reducible rfl)
        try simp only [Act.put, List.setIfInBounds_toArray, List.set_cons_zero, List.set_cons_succ]
        refine wpB_step 1 _ rfl (by kernel_rfl) rfl rfl (fun K hK_ => ?_)
        go_simp
        refine (named_any c ka ta c.keep.length kc c.torn.length tc _).mono ?_
        rintro e w3 ⟨rfl, k3⟩
        refine hK_.out _ _ (by first | exact hHeld | exact hHeld.call ‹_› | exact hHeld.alloc _) (fun hHeld => ?_)
        clear hK_ K
        try simp only [Act.put, List.setIfInBounds_toArray, List.set_cons_zero, List.set_cons_succ]
        refine wpB_step 3 _ rfl (by kernel_rfl) rfl rfl (fun K hK_ => ?_)
        go_simp
        refine (ssame (onlyC c) c _ _ _ _ _ _ (onlyV_at (hk1.keep0 hHeld) (only_keep c).1) (onlyV_at (hk2.keep0 hHeld) (only_keep c).2) (hk1.keep0 hHeld) (hk2.keep0 hHeld) zo1 zo2).mono ?_
        rintro e w4 ⟨rfl, k4⟩
        rw [HS.out]
        refine hK_.out _ _ (by first | exact hHeld | exact hHeld.call ‹_› | exact hHeld.alloc _) (fun hHeld => ?_)
        clear hK_ K
        try simp only [Act.put, List.setIfInBounds_toArray, List.set_cons_zero, List.set_cons_succ]
        refine wpB_take 4 _ ?_ rfl (by kernel_rfl) (fun _ _ _ h => h) rfl hHeld ?_ ?_
        rotate_left
        · (intro W hW; go_simp; try with_reducible rfl)
        try simp only [Act.put, List.setIfInBounds_toArray, List.set_cons_zero, List.set_cons_succ]
        refine wpB_take 5 _ ?_ rfl (by kernel_rfl) (fun _ _ _ h => h) rfl hHeld ?_ ?_
        rotate_left
        · (intro W hW; go_simp; try with_reducible rfl)
        try simp only [Act.put, List.setIfInBounds_toArray, List.set_cons_zero, List.set_cons_succ]
        refine wpB_take 6 _ ?_ rfl (by kernel_rfl) (fun _ _ _ h => h) rfl hHeld ?_ ?_
        rotate_left
        · (intro W hW; go_simp; try with_reducible rfl)
        try simp only [Act.put, List.setIfInBounds_toArray, List.set_cons_zero, List.set_cons_succ]
        refine wpB_take 7 _ ?_ rfl (by kernel_rfl) (fun _ _ _ h => h) rfl hHeld ?_ ?_
        rotate_left
        · (intro W hW; go_simp; try with_reducible rfl)
        try simp only [Act.put, List.setIfInBounds_toArray, List.set_cons_zero, List.set_cons_succ]
        refine wpB_take 8 _ ?_ rfl (by kernel_rfl) (fun _ _ _ h => h) rfl hHeld ?_ ?_
        rotate_left
        · (intro W hW; go_simp; try with_reducible rfl)
        try simp only [Act.put, List.setIfInBounds_toArray, List.set_cons_zero, List.set_cons_succ]
        refine wpB_take 9 _ ?_ rfl (by kernel_rfl) (fun _ _ _ h => h) rfl hHeld ?_ ?_
        rotate_left
        · (intro W hW; go_simp; try with_reducible rfl)
        try simp only [Act.put, List.setIfInBounds_toArray, List.set_cons_zero, List.set_cons_succ]
        refine wpB_take 10 _ ?_ rfl (by kernel_rfl) (fun _ _ _ h => h) rfl hHeld ?_ ?_
        rotate_left
        · (intro W hW; go_simp; try with_reducible rfl)
        try simp only [Act.put, List.setIfInBounds_toArray, List.set_cons_zero, List.set_cons_succ]
        refine wpB_take 11 _ ?_ rfl (by kernel_rfl) (fun _ _ _ h => h) rfl hHeld ?_ ?_
        rotate_left
        · (intro W hW; go_simp; try with_reducible rfl)
        try simp only [Act.put, List.setIfInBounds_toArray, List.set_cons_zero, List.set_cons_succ]
        refine wpB_take 12 _ ?_ rfl (by kernel_rfl) (fun _ _ _ h => h) rfl hHeld ?_ ?_
        rotate_left
        · (intro W hW; go_simp; try with_reducible rfl)
        try simp only [Act.put, List.setIfInBounds_toArray, List.set_cons_zero, List.set_cons_succ]
        refine wpB_take 13 _ ?_ rfl (by kernel_rfl) (fun _ _ _ h => h) rfl hHeld ?_ ?_
        rotate_left
        · (intro W hW; go_simp; try with_reducible rfl)
        try simp only [Act.put, List.setIfInBounds_toArray, List.set_cons_zero, List.set_cons_succ]
        refine wpB_take 14 _ ?_ rfl (by kernel_rfl) (fun _ _ _ h => h) rfl hHeld ?_ ?_
        rotate_left
        · (intro W hW; go_simp; try with_reducible rfl)
        try simp only [Act.put, List.setIfInBounds_toArray, List.set_cons_zero, List.set_cons_succ]
        refine wpB_take 15 _ ?_ rfl (by kernel_rfl) (fun _ _ _ h => h) rfl hHeld ?_ ?_
        rotate_left
        · (intro W hW; go_simp; try with_reducible rfl)
        try simp only [Act.put, List.setIfInBounds_toArray, List.set_cons_zero, List.set_cons_succ]
        refine wpB_take 16 _ ?_ rfl (by kernel_rfl) (fun _ _ _ h => h) rfl hHeld ?_ ?_
        rotate_left
        · (intro W hW; go_simp; try with_reducible rfl)
        try simp only [Act.put, List.setIfInBounds_toArray, List.set_cons_zero, List.set_cons_succ]
        refine wpB_take 17 _ ?_ rfl (by kernel_rfl) (fun _ _ _ h => h) rfl hHeld ?_ ?_
        rotate_left
        · (intro W hW; go_simp; try with_reducible rfl)
        try simp only [Act.put, List.setIfInBounds_toArray, List.set_cons_zero, List.set_cons_succ]
        refine wpB_take 18 _ ?_ rfl (by kernel_rfl) (fun _ _ _ h => h) rfl hHeld ?_ ?_
        rotate_left
        · (intro W hW; go_simp; try with_reducible rfl)
        try simp only [Act.put, List.setIfInBounds_toArray, List.set_cons_zero, List.set_cons_succ]
        refine wpB_take 19 _ ?_ rfl (by kernel_rfl) (fun _ _ _ h => h) rfl hHeld ?_ ?_
        rotate_left
        · (intro W hW; go_simp; try with_reducible rfl)
        try simp only [Act.put, List.setIfInBounds_toArray, List.set_cons_zero, List.set_cons_succ]
        refine wpB_take 20 _ ?_ rfl (by kernel_rfl) (fun _ _ _ h => h) rfl hHeld ?_ ?_
        rotate_left
        · (intro W hW; go_simp; try with_reducible rfl)
        try simp only [Act.put, List.setIfInBounds_toArray, List.set_cons_zero, List.set_cons_succ]
        refine wpB_take 21 _ ?_ rfl (by kernel_rfl) (fun _ _ _ h => h) rfl hHeld ?_ ?_
        rotate_left
        · (intro W hW; go_simp; try with_reducible rfl)
        try simp only [Act.put, List.setIfInBounds_toArray, List.set_cons_zero, List.set_cons_succ]
        refine wpB_take 22 _ ?_ rfl (by kernel_rfl) (fun _ _ _ h => h) rfl hHeld ?_ ?_
        rotate_left
        · (intro W hW; go_simp; try with_reducible rfl)
        try simp only [Act.put, List.setIfInBounds_toArray, List.set_cons_zero, List.set_cons_succ]
        refine wpB_take 23 _ ?_ rfl (by kernel_rfl) (fun _ _ _ h => h) rfl hHeld ?_ ?_
        rotate_left
        · (intro W hW; go_simp; try with_reducible rfl)
        try simp only [Act.put, List.setIfInBounds_toArray, List.set_cons_zero, List.set_cons_succ]
        refine wpB_take 24 _ ?_ rfl (by kernel_rfl) (fun _ _ _ h => h) rfl hHeld ?_ ?_
        rotate_left
        · (intro W hW; go_simp; try with_reducible rfl)
        try simp only [Act.put, List.setIfInBounds_toArray, List.set_cons_zero, List.set_cons_succ]
        refine wpB_done (by kernel_rfl) ?_ _
        have h1 := fun h => m1 ((min_neg _ _ _).2 h)
        by_cases m2 : 99999 < (if (if c.n < c.a then c.a else c.n) < c.b then c.b else if c.n < c.a then c.a else c.n)
        · have hr : R = 1 := by
            rw [HR.out]; unfold checkC; rw [if_neg (by omega), if_neg (by omega), if_neg HCAL.out, HS.out]
            have h2 := (max_big _ _ _).1 m2
            rw [if_neg (by unfold numOk; simp; omega)]
          subst hr
          clear h1
          generalize (if c.b < if c.a < c.n then c.a else c.n then c.b else if c.a < c.n then c.a else c.n) = mnv at m1 ⊢
          generalize (if (if c.n < c.a then c.a else c.n) < c.b then c.b else if c.n < c.a then c.a else c.n) = mxv at m2 ⊢
          go_wp2_with fail
          go_ret
          exact ⟨rfl, kw0.trans hHeld⟩
        · have hr : R = 0 := by
            rw [HR.out]; unfold checkC; rw [if_neg (by omega), if_neg (by omega), if_neg HCAL.out, HS.out]
            have h2 := fun h => m2 ((max_big _ _ _).2 h)
            rw [if_pos (by unfold numOk; simp; omega)]
          subst hr
          clear h1
          generalize (if c.b < if c.a < c.n then c.a else c.n then c.b else if c.a < c.n then c.a else c.n) = mnv at m1 ⊢
          generalize (if (if c.n < c.a then c.a else c.n) < c.b then c.b else if c.n < c.a then c.a else c.n) = mxv at m2 ⊢
          go_wp2_with fail
          go_ret
          exact ⟨rfl, kw0.trans hHeld⟩
end Go.Proofs.YtmihnakapnoefaaGreatDoor
