/-
  The document's Check of a command: its own only, number.
-/
import Derived.Test.YtmihnakapnoefaaGreatDoorScrF
namespace Go.Proofs.YtmihnakapnoefaaGreatDoor
open Go.RowKit Go.WideShapes

set_option maxRecDepth 20000 in
theorem rnum (n : Int) (w : World) : Calls Tryz.prog 29 #[.int .i64 n] w fun e w' => e = .returned (.bool (numOk n)) ∧ w' = w := by
  unfold numOk
  by_cases h0 : 0 ≤ n
  · rw [decide_eq_true h0, Bool.true_and]
    by_cases h1 : n ≤ 99999
    · rw [decide_eq_true h1]
      have hd : decide (n ≤ 99999) = true := decide_eq_true h1
      go_enter Tryz.func29, Tryz.ntmps29
      go_wp2_with fail
      go_ret
      exact ⟨rfl, rfl⟩
    · rw [decide_eq_false h1]
      have hd : decide (n ≤ 99999) = false := decide_eq_false h1
      go_enter Tryz.func29, Tryz.ntmps29
      go_wp2_with fail
      go_ret
      exact ⟨rfl, rfl⟩
  · rw [decide_eq_false h0, Bool.false_and]
    go_enter Tryz.func29, Tryz.ntmps29
    go_wp2_with fail
    go_ret
    exact ⟨rfl, rfl⟩
set_option maxHeartbeats 2000000 in
set_option maxRecDepth 20000 in
theorem ronly (c : Cmd) (ka ta : Option Addr) (kn kc tn tc : Nat) (w : World) : Calls Tryz.prog 28 #[.agg (CmdV c (.slice ka kn kc) (.slice ta tn tc))] w fun e w' => e = .returned (.agg (CmdV (onlyC c) (onlyV c.act (.slice ka kn kc)) (onlyV c.act (.slice ta tn tc)))) ∧ Kp [] w w' := by
  obtain ⟨x0, x1, x2, x3, x4, x5, x6, x7, lx, tx⟩ := c
  by_cases e0 : x0 = 0
  · subst e0
    have ho : onlyC ⟨0, x1, x2, x3, x4, x5, x6, x7, lx, tx⟩ = ⟨0, x1, x2, x3, 0, 0, 0, E0, [], []⟩ := rfl
    have hv : ∀ v, onlyV 0 v = .slice none 0 0 := fun _ => rfl
    simp only [CmdV]
    rw [ho, hv, hv]
    simp only
    clear ho hv
    go_enter Tryz.func28, Tryz.ntmps28
    go_wp2_with fail
    obtain ⟨Z, hZ⟩ : ∃ Z, Z = ((w.alloc (.cells #[.int .i64 0, .int .i64 x1, .string x2, .string x3, .int .i64 x4, .int .i64 x5, .int .i64 x6, .string x7, .slice ka kn kc, .slice ta tn tc] 26)).alloc (.cells #[.int .i64 0, .int .i64 x1, .string x2, .string x3, .int .i64 0, .int .i64 0, .int .i64 0, .string E0, .slice none 0 0, .slice none 0 0] 26)).alloc (.cells #[.int .i64 0, .int .i64 x1, .string x2, .string x3, .int .i64 0, .int .i64 0, .int .i64 0, .string E0, .slice none 0 0, .slice none 0 0] 26) := ⟨_, rfl⟩
    have hz : Z.heap[w.heap.size + 1]? = some (.cells #[.int .i64 0, .int .i64 x1, .string x2, .string x3, .int .i64 0, .int .i64 0, .int .i64 0, .string E0, .slice none 0 0, .slice none 0 0] 26 (0, 0)) := by rw [hZ]; exact block_alloc (two_new _ _ _) _
    have hkz : Kp [] w Z := hZ ▸ (((Kp.refl _ _).alloc _).alloc _).alloc _
    rw [← hZ]
    have HZ := Lib.hid hZ
    clear hZ
    obtain ⟨⟨z0, z1, z2, z3, z4, z5, z6, z7, z8, z9⟩, -⟩ := read10 hz
    refine bodyPost_ret (by simp [results, Tryz.results28, go_sem, z0, z1, z2, z3, z4, z5, z6, z7, z8, z9]; try rfl) rfl ?_
    exact ⟨rfl, hkz⟩
  by_cases e1 : x0 = 1
  · subst e1
    have ho : onlyC ⟨1, x1, x2, x3, x4, x5, x6, x7, lx, tx⟩ = ⟨1, 0, E0, E0, x4, x5, x6, E0, [], []⟩ := rfl
    have hv : ∀ v, onlyV 1 v = .slice none 0 0 := fun _ => rfl
    simp only [CmdV]
    rw [ho, hv, hv]
    simp only
    clear ho hv
    go_enter Tryz.func28, Tryz.ntmps28
    go_wp2_with fail
    obtain ⟨Z, hZ⟩ : ∃ Z, Z = ((w.alloc (.cells #[.int .i64 1, .int .i64 x1, .string x2, .string x3, .int .i64 x4, .int .i64 x5, .int .i64 x6, .string x7, .slice ka kn kc, .slice ta tn tc] 26)).alloc (.cells #[.int .i64 1, .int .i64 0, .string E0, .string E0, .int .i64 x4, .int .i64 x5, .int .i64 x6, .string E0, .slice none 0 0, .slice none 0 0] 26)).alloc (.cells #[.int .i64 1, .int .i64 0, .string E0, .string E0, .int .i64 x4, .int .i64 x5, .int .i64 x6, .string E0, .slice none 0 0, .slice none 0 0] 26) := ⟨_, rfl⟩
    have hz : Z.heap[w.heap.size + 1]? = some (.cells #[.int .i64 1, .int .i64 0, .string E0, .string E0, .int .i64 x4, .int .i64 x5, .int .i64 x6, .string E0, .slice none 0 0, .slice none 0 0] 26 (0, 0)) := by rw [hZ]; exact block_alloc (two_new _ _ _) _
    have hkz : Kp [] w Z := hZ ▸ (((Kp.refl _ _).alloc _).alloc _).alloc _
    rw [← hZ]
    have HZ := Lib.hid hZ
    clear hZ
    obtain ⟨⟨z0, z1, z2, z3, z4, z5, z6, z7, z8, z9⟩, -⟩ := read10 hz
    refine bodyPost_ret (by simp [results, Tryz.results28, go_sem, z0, z1, z2, z3, z4, z5, z6, z7, z8, z9]; try rfl) rfl ?_
    exact ⟨rfl, hkz⟩
  by_cases e2 : x0 = 2
  · subst e2
    have ho : onlyC ⟨2, x1, x2, x3, x4, x5, x6, x7, lx, tx⟩ = ⟨2, 0, E0, E0, x4, 0, 0, E0, [], []⟩ := rfl
    have hv : ∀ v, onlyV 2 v = .slice none 0 0 := fun _ => rfl
    simp only [CmdV]
    rw [ho, hv, hv]
    simp only
    clear ho hv
    go_enter Tryz.func28, Tryz.ntmps28
    go_wp2_with fail
    obtain ⟨Z, hZ⟩ : ∃ Z, Z = ((w.alloc (.cells #[.int .i64 2, .int .i64 x1, .string x2, .string x3, .int .i64 x4, .int .i64 x5, .int .i64 x6, .string x7, .slice ka kn kc, .slice ta tn tc] 26)).alloc (.cells #[.int .i64 2, .int .i64 0, .string E0, .string E0, .int .i64 x4, .int .i64 0, .int .i64 0, .string E0, .slice none 0 0, .slice none 0 0] 26)).alloc (.cells #[.int .i64 2, .int .i64 0, .string E0, .string E0, .int .i64 x4, .int .i64 0, .int .i64 0, .string E0, .slice none 0 0, .slice none 0 0] 26) := ⟨_, rfl⟩
    have hz : Z.heap[w.heap.size + 1]? = some (.cells #[.int .i64 2, .int .i64 0, .string E0, .string E0, .int .i64 x4, .int .i64 0, .int .i64 0, .string E0, .slice none 0 0, .slice none 0 0] 26 (0, 0)) := by rw [hZ]; exact block_alloc (two_new _ _ _) _
    have hkz : Kp [] w Z := hZ ▸ (((Kp.refl _ _).alloc _).alloc _).alloc _
    rw [← hZ]
    have HZ := Lib.hid hZ
    clear hZ
    obtain ⟨⟨z0, z1, z2, z3, z4, z5, z6, z7, z8, z9⟩, -⟩ := read10 hz
    refine bodyPost_ret (by simp [results, Tryz.results28, go_sem, z0, z1, z2, z3, z4, z5, z6, z7, z8, z9]; try rfl) rfl ?_
    exact ⟨rfl, hkz⟩
  by_cases e3 : x0 = 3
  · subst e3
    have ho : onlyC ⟨3, x1, x2, x3, x4, x5, x6, x7, lx, tx⟩ = ⟨3, 0, E0, E0, x4, 0, 0, E0, [], []⟩ := rfl
    have hv : ∀ v, onlyV 3 v = .slice none 0 0 := fun _ => rfl
    simp only [CmdV]
    rw [ho, hv, hv]
    simp only
    clear ho hv
    go_enter Tryz.func28, Tryz.ntmps28
    go_wp2_with fail
    obtain ⟨Z, hZ⟩ : ∃ Z, Z = ((w.alloc (.cells #[.int .i64 3, .int .i64 x1, .string x2, .string x3, .int .i64 x4, .int .i64 x5, .int .i64 x6, .string x7, .slice ka kn kc, .slice ta tn tc] 26)).alloc (.cells #[.int .i64 3, .int .i64 0, .string E0, .string E0, .int .i64 x4, .int .i64 0, .int .i64 0, .string E0, .slice none 0 0, .slice none 0 0] 26)).alloc (.cells #[.int .i64 3, .int .i64 0, .string E0, .string E0, .int .i64 x4, .int .i64 0, .int .i64 0, .string E0, .slice none 0 0, .slice none 0 0] 26) := ⟨_, rfl⟩
    have hz : Z.heap[w.heap.size + 1]? = some (.cells #[.int .i64 3, .int .i64 0, .string E0, .string E0, .int .i64 x4, .int .i64 0, .int .i64 0, .string E0, .slice none 0 0, .slice none 0 0] 26 (0, 0)) := by rw [hZ]; exact block_alloc (two_new _ _ _) _
    have hkz : Kp [] w Z := hZ ▸ (((Kp.refl _ _).alloc _).alloc _).alloc _
    rw [← hZ]
    have HZ := Lib.hid hZ
    clear hZ
    obtain ⟨⟨z0, z1, z2, z3, z4, z5, z6, z7, z8, z9⟩, -⟩ := read10 hz
    refine bodyPost_ret (by simp [results, Tryz.results28, go_sem, z0, z1, z2, z3, z4, z5, z6, z7, z8, z9]; try rfl) rfl ?_
    exact ⟨rfl, hkz⟩
  by_cases e4 : x0 = 4
  · subst e4
    have ho : onlyC ⟨4, x1, x2, x3, x4, x5, x6, x7, lx, tx⟩ = ⟨4, 0, E0, E0, x4, x5, 0, x7, [], []⟩ := rfl
    have hv : ∀ v, onlyV 4 v = .slice none 0 0 := fun _ => rfl
    simp only [CmdV]
    rw [ho, hv, hv]
    simp only
    clear ho hv
    go_enter Tryz.func28, Tryz.ntmps28
    go_wp2_with fail
    obtain ⟨Z, hZ⟩ : ∃ Z, Z = ((w.alloc (.cells #[.int .i64 4, .int .i64 x1, .string x2, .string x3, .int .i64 x4, .int .i64 x5, .int .i64 x6, .string x7, .slice ka kn kc, .slice ta tn tc] 26)).alloc (.cells #[.int .i64 4, .int .i64 0, .string E0, .string E0, .int .i64 x4, .int .i64 x5, .int .i64 0, .string x7, .slice none 0 0, .slice none 0 0] 26)).alloc (.cells #[.int .i64 4, .int .i64 0, .string E0, .string E0, .int .i64 x4, .int .i64 x5, .int .i64 0, .string x7, .slice none 0 0, .slice none 0 0] 26) := ⟨_, rfl⟩
    have hz : Z.heap[w.heap.size + 1]? = some (.cells #[.int .i64 4, .int .i64 0, .string E0, .string E0, .int .i64 x4, .int .i64 x5, .int .i64 0, .string x7, .slice none 0 0, .slice none 0 0] 26 (0, 0)) := by rw [hZ]; exact block_alloc (two_new _ _ _) _
    have hkz : Kp [] w Z := hZ ▸ (((Kp.refl _ _).alloc _).alloc _).alloc _
    rw [← hZ]
    have HZ := Lib.hid hZ
    clear hZ
    obtain ⟨⟨z0, z1, z2, z3, z4, z5, z6, z7, z8, z9⟩, -⟩ := read10 hz
    refine bodyPost_ret (by simp [results, Tryz.results28, go_sem, z0, z1, z2, z3, z4, z5, z6, z7, z8, z9]; try rfl) rfl ?_
    exact ⟨rfl, hkz⟩
  by_cases e5 : x0 = 5
  · subst e5
    have ho : onlyC ⟨5, x1, x2, x3, x4, x5, x6, x7, lx, tx⟩ = ⟨5, 0, E0, E0, 0, x5, 0, E0, [], []⟩ := rfl
    have hv : ∀ v, onlyV 5 v = .slice none 0 0 := fun _ => rfl
    simp only [CmdV]
    rw [ho, hv, hv]
    simp only
    clear ho hv
    go_enter Tryz.func28, Tryz.ntmps28
    go_wp2_with fail
    obtain ⟨Z, hZ⟩ : ∃ Z, Z = ((w.alloc (.cells #[.int .i64 5, .int .i64 x1, .string x2, .string x3, .int .i64 x4, .int .i64 x5, .int .i64 x6, .string x7, .slice ka kn kc, .slice ta tn tc] 26)).alloc (.cells #[.int .i64 5, .int .i64 0, .string E0, .string E0, .int .i64 0, .int .i64 x5, .int .i64 0, .string E0, .slice none 0 0, .slice none 0 0] 26)).alloc (.cells #[.int .i64 5, .int .i64 0, .string E0, .string E0, .int .i64 0, .int .i64 x5, .int .i64 0, .string E0, .slice none 0 0, .slice none 0 0] 26) := ⟨_, rfl⟩
    have hz : Z.heap[w.heap.size + 1]? = some (.cells #[.int .i64 5, .int .i64 0, .string E0, .string E0, .int .i64 0, .int .i64 x5, .int .i64 0, .string E0, .slice none 0 0, .slice none 0 0] 26 (0, 0)) := by rw [hZ]; exact block_alloc (two_new _ _ _) _
    have hkz : Kp [] w Z := hZ ▸ (((Kp.refl _ _).alloc _).alloc _).alloc _
    rw [← hZ]
    have HZ := Lib.hid hZ
    clear hZ
    obtain ⟨⟨z0, z1, z2, z3, z4, z5, z6, z7, z8, z9⟩, -⟩ := read10 hz
    refine bodyPost_ret (by simp [results, Tryz.results28, go_sem, z0, z1, z2, z3, z4, z5, z6, z7, z8, z9]; try rfl) rfl ?_
    exact ⟨rfl, hkz⟩
  by_cases e6 : x0 = 6
  · subst e6
    have ho : onlyC ⟨6, x1, x2, x3, x4, x5, x6, x7, lx, tx⟩ = ⟨6, 0, E0, E0, 0, x5, 0, E0, [], []⟩ := rfl
    have hv : ∀ v, onlyV 6 v = .slice none 0 0 := fun _ => rfl
    simp only [CmdV]
    rw [ho, hv, hv]
    simp only
    clear ho hv
    go_enter Tryz.func28, Tryz.ntmps28
    go_wp2_with fail
    obtain ⟨Z, hZ⟩ : ∃ Z, Z = ((w.alloc (.cells #[.int .i64 6, .int .i64 x1, .string x2, .string x3, .int .i64 x4, .int .i64 x5, .int .i64 x6, .string x7, .slice ka kn kc, .slice ta tn tc] 26)).alloc (.cells #[.int .i64 6, .int .i64 0, .string E0, .string E0, .int .i64 0, .int .i64 x5, .int .i64 0, .string E0, .slice none 0 0, .slice none 0 0] 26)).alloc (.cells #[.int .i64 6, .int .i64 0, .string E0, .string E0, .int .i64 0, .int .i64 x5, .int .i64 0, .string E0, .slice none 0 0, .slice none 0 0] 26) := ⟨_, rfl⟩
    have hz : Z.heap[w.heap.size + 1]? = some (.cells #[.int .i64 6, .int .i64 0, .string E0, .string E0, .int .i64 0, .int .i64 x5, .int .i64 0, .string E0, .slice none 0 0, .slice none 0 0] 26 (0, 0)) := by rw [hZ]; exact block_alloc (two_new _ _ _) _
    have hkz : Kp [] w Z := hZ ▸ (((Kp.refl _ _).alloc _).alloc _).alloc _
    rw [← hZ]
    have HZ := Lib.hid hZ
    clear hZ
    obtain ⟨⟨z0, z1, z2, z3, z4, z5, z6, z7, z8, z9⟩, -⟩ := read10 hz
    refine bodyPost_ret (by simp [results, Tryz.results28, go_sem, z0, z1, z2, z3, z4, z5, z6, z7, z8, z9]; try rfl) rfl ?_
    exact ⟨rfl, hkz⟩
  by_cases e7 : x0 = 7
  · subst e7
    have ho : onlyC ⟨7, x1, x2, x3, x4, x5, x6, x7, lx, tx⟩ = ⟨7, 0, E0, E0, 0, 0, 0, E0, lx, tx⟩ := rfl
    have hv : ∀ v, onlyV 7 v = v := fun _ => rfl
    simp only [CmdV]
    rw [ho, hv, hv]
    simp only
    clear ho hv
    go_enter Tryz.func28, Tryz.ntmps28
    go_wp2_with fail
    obtain ⟨Z, hZ⟩ : ∃ Z, Z = ((w.alloc (.cells #[.int .i64 7, .int .i64 x1, .string x2, .string x3, .int .i64 x4, .int .i64 x5, .int .i64 x6, .string x7, .slice ka kn kc, .slice ta tn tc] 26)).alloc (.cells #[.int .i64 7, .int .i64 0, .string E0, .string E0, .int .i64 0, .int .i64 0, .int .i64 0, .string E0, .slice ka kn kc, .slice ta tn tc] 26)).alloc (.cells #[.int .i64 7, .int .i64 0, .string E0, .string E0, .int .i64 0, .int .i64 0, .int .i64 0, .string E0, .slice ka kn kc, .slice ta tn tc] 26) := ⟨_, rfl⟩
    have hz : Z.heap[w.heap.size + 1]? = some (.cells #[.int .i64 7, .int .i64 0, .string E0, .string E0, .int .i64 0, .int .i64 0, .int .i64 0, .string E0, .slice ka kn kc, .slice ta tn tc] 26 (0, 0)) := by rw [hZ]; exact block_alloc (two_new _ _ _) _
    have hkz : Kp [] w Z := hZ ▸ (((Kp.refl _ _).alloc _).alloc _).alloc _
    rw [← hZ]
    have HZ := Lib.hid hZ
    clear hZ
    obtain ⟨⟨z0, z1, z2, z3, z4, z5, z6, z7, z8, z9⟩, -⟩ := read10 hz
    refine bodyPost_ret (by simp [results, Tryz.results28, go_sem, z0, z1, z2, z3, z4, z5, z6, z7, z8, z9]; try rfl) rfl ?_
    exact ⟨rfl, hkz⟩
  have ho : onlyC ⟨x0, x1, x2, x3, x4, x5, x6, x7, lx, tx⟩ = ⟨x0, 0, E0, E0, 0, 0, 0, E0, [], []⟩ := by unfold onlyC; rw [if_neg e0, if_neg e1, if_neg e2, if_neg e3, if_neg e4, if_neg e5, if_neg e6, if_neg e7]
  have hv : ∀ v, onlyV x0 v = .slice none 0 0 := fun v => by unfold onlyV; rw [if_neg e7]
  simp only [CmdV]
  rw [ho, hv, hv]
  simp only
  clear ho hv
  have f0 := int_ne e0
  have f1 := int_ne e1
  have f2 := int_ne e2
  have f3 := int_ne e3
  have f4 := int_ne e4
  have f5 := int_ne e5
  have f6 := int_ne e6
  have f7 := int_ne e7
  clear e0 e1 e2 e3 e4 e5 e6 e7
  go_enter Tryz.func28, Tryz.ntmps28
  go_wp2_with fail
  obtain ⟨Z, hZ⟩ : ∃ Z, Z = ((w.alloc (.cells #[.int .i64 x0, .int .i64 x1, .string x2, .string x3, .int .i64 x4, .int .i64 x5, .int .i64 x6, .string x7, .slice ka kn kc, .slice ta tn tc] 26)).alloc (.cells #[.int .i64 x0, .int .i64 0, .string E0, .string E0, .int .i64 0, .int .i64 0, .int .i64 0, .string E0, .slice none 0 0, .slice none 0 0] 26)).alloc (.cells #[.int .i64 x0, .int .i64 0, .string E0, .string E0, .int .i64 0, .int .i64 0, .int .i64 0, .string E0, .slice none 0 0, .slice none 0 0] 26) := ⟨_, rfl⟩
  have hz : Z.heap[w.heap.size + 1]? = some (.cells #[.int .i64 x0, .int .i64 0, .string E0, .string E0, .int .i64 0, .int .i64 0, .int .i64 0, .string E0, .slice none 0 0, .slice none 0 0] 26 (0, 0)) := by rw [hZ]; exact block_alloc (two_new _ _ _) _
  have hkz : Kp [] w Z := hZ ▸ (((Kp.refl _ _).alloc _).alloc _).alloc _
  rw [← hZ]
  have HZ := Lib.hid hZ
  clear hZ
  obtain ⟨⟨z0, z1, z2, z3, z4, z5, z6, z7, z8, z9⟩, -⟩ := read10 hz
  refine bodyPost_ret (by simp [results, Tryz.results28, go_sem, z0, z1, z2, z3, z4, z5, z6, z7, z8, z9]; try rfl) rfl ?_
  exact ⟨rfl, hkz⟩
set_option maxHeartbeats 2000000 in
set_option maxRecDepth 20000 in
theorem r23check (c : Cmd) (kv tv : Value) (B : Nat) (w : World) (h1 : BoolsAt B w kv c.keep) (h2 : BoolsAt B w tv c.torn) (z1 : c.keep.length ≤ 9223372036854775807) (z2 : c.torn.length ≤ 9223372036854775807)
    (hs : c.rs.size < 16384) (hv : c.rv.size < 16384) :
    Calls Tryz.prog 11 #[.agg (CmdV c kv tv)] w fun e w' => e = .returned (.int .i64 (checkC c)) ∧ Kp [] w w' := by
  obtain ⟨ka, kc, rfl⟩ := slice_ex h1
  obtain ⟨ta, tc, rfl⟩ := slice_ex h2
  have zo1 : (onlyC c).keep.length ≤ 9223372036854775807 := by rw [(only_keep c).1]; split <;> simp [z1]
  have zo2 : (onlyC c).torn.length ≤ 9223372036854775807 := by rw [(only_keep c).2]; split <;> simp [z2]
  obtain ⟨w0, hw0⟩ : ∃ w0, w0 = w.alloc (.cells (CmdV c (.slice ka c.keep.length kc) (.slice ta c.torn.length tc)) 26) := ⟨_, rfl⟩
  have kw0 : Kp [] w w0 := hw0 ▸ (Kp.refl _ _).alloc _
  have hbx : w0.heap[w.heap.size]? = some (.cells (CmdV c (.slice ka c.keep.length kc) (.slice ta c.torn.length tc)) 26 (0, 0)) := by rw [hw0]; exact block_new _ _
  obtain ⟨a0, a1, a2, a3, a4, a5, a6, a7, a8, a9⟩ := cells10 hbx
  simp only [CmdV] at hw0 ⊢
  have hk1 := h1.keep0 kw0
  have hk2 := h2.keep0 kw0
  have Hw0 := Lib.hid hw0
  have hK := Kp.refl [] w0
  obtain ⟨R, hR⟩ : ∃ R, R = checkC c := ⟨_, rfl⟩
  rw [← hR]
  have HR := Lib.hid hR
  obtain ⟨sc, hsc⟩ : ∃ sc, sc = sameC (onlyC c) c := ⟨_, rfl⟩
  have HS := Lib.hid hsc.symm
  clear hw0 hbx h1 h2 hR hsc
  by_cases e1 : c.act < 0
  · have hr : R = 1 := by rw [HR.out]; unfold checkC; rw [if_pos e1]
    subst hr
    go_enter Tryz.func11, Tryz.ntmps11
    go_wp2_with fail
    go_ret
    exact ⟨rfl, by rw [Hw0.out] at kw0; exact kw0⟩
  by_cases e2 : c.act > 7
  · have hr : R = 1 := by rw [HR.out]; unfold checkC; rw [if_neg e1, if_pos e2]
    subst hr
    go_enter Tryz.func11, Tryz.ntmps11
    go_wp2_with fail
    go_ret
    exact ⟨rfl, by rw [Hw0.out] at kw0; exact kw0⟩
  by_cases e0 : c.act = 0
  · have hab : (c.act == 0) = true := by simpa using e0
    have HE0 := Lib.hid e0
    clear e0
    go_enter Tryz.func11, Tryz.ntmps11
    go_wp2_with fail
    rw [← Hw0.out]
    refine (rcheck c.rk c.rs c.rv hs hv _).mono ?_
    rintro e w1 ⟨rfl, k1⟩
    have hK := hK.trans k1
    obtain ⟨ce, hce⟩ : ∃ ce, ce = checkE c.rk c.rs c.rv := ⟨_, rfl⟩
    rw [← hce]
    have HCE := Lib.hid hce
    clear hce
    by_cases h0 : ce = 0
    · subst h0
      have hcal : ¬ (c.act = 0 ∧ checkE c.rk c.rs c.rv ≠ 0) := fun e => e.2 HCE.out.symm
      have HCAL := Lib.hid hcal
      clear hcal
      go_wp2_with fail
      cases sc with
      | false =>
        refine wpB_begin 999 (Kp [] w0) (by kernel_rfl) (by exact hK.drew) (fun hHeld => ?_)
        refine wpB_take 0 _ ?_ rfl (by kernel_rfl) (fun _ _ _ h => h) rfl hHeld ?_ ?_
        rotate_left
        · (intro W hW; go_simp; try with_reducible rfl)
        try simp only [Act.put, List.setIfInBounds_toArray, List.set_cons_zero, List.set_cons_succ]
        refine wpB_take 2 _ ?_ rfl (by kernel_rfl) (fun _ _ _ h => h) rfl hHeld ?_ ?_
        rotate_left
        · (intro W hW; go_simp; try with_reducible rfl)
        try simp only [Act.put, List.setIfInBounds_toArray, List.set_cons_zero, List.set_cons_succ]
        refine wpB_step 1 _ rfl (by kernel_rfl) rfl rfl (fun K hK_ => ?_)
        go_simp
        refine (ronly c ka ta c.keep.length kc c.torn.length tc _).mono ?_
        rintro e w3 ⟨rfl, k3⟩
        refine hK_.out _ _ (by exact hHeld.trans k3) (fun hHeld => ?_)
        clear hK_ K
        try simp only [Act.put, List.setIfInBounds_toArray, List.set_cons_zero, List.set_cons_succ]
        refine wpB_step 3 _ rfl (by kernel_rfl) rfl rfl (fun K hK_ => ?_)
        go_simp
        refine (r23same (onlyC c) c _ _ _ _ _ _ (onlyV_at (hk1.keep0 hHeld) (only_keep c).1) (onlyV_at (hk2.keep0 hHeld) (only_keep c).2) (hk1.keep0 hHeld) (hk2.keep0 hHeld) zo1 zo2).mono ?_
        rintro e w4 ⟨rfl, k4⟩
        rw [HS.out]
        refine hK_.out _ _ (by exact hHeld.trans k4) (fun hHeld => ?_)
        clear hK_ K
        try simp only [Act.put, List.setIfInBounds_toArray, List.set_cons_zero, List.set_cons_succ]
        refine wpB_take 4 _ ?_ rfl (by kernel_rfl) (fun _ _ _ h => h) rfl hHeld ?_ ?_
        rotate_left
        · (intro W hW; go_simp; try with_reducible rfl)
        try simp only [Act.put, List.setIfInBounds_toArray, List.set_cons_zero, List.set_cons_succ]
        refine wpB_take 5 _ ?_ rfl (by kernel_rfl) (fun _ _ _ h => h) rfl hHeld ?_ ?_
        rotate_left
        · (intro W hW; go_simp; try with_reducible rfl)
        try simp only [Act.put, List.setIfInBounds_toArray, List.set_cons_zero, List.set_cons_succ]
        refine wpB_skip 6 _ rfl (by kernel_rfl) (fun _ _ _ h => h) rfl hHeld ?_
        try simp only [Act.put, List.setIfInBounds_toArray, List.set_cons_zero, List.set_cons_succ]
        refine wpB_skip 7 _ rfl (by kernel_rfl) (fun _ _ _ h => h) rfl hHeld ?_
        try simp only [Act.put, List.setIfInBounds_toArray, List.set_cons_zero, List.set_cons_succ]
        refine wpB_skip 8 _ rfl (by kernel_rfl) (fun _ _ _ h => h) rfl hHeld ?_
        try simp only [Act.put, List.setIfInBounds_toArray, List.set_cons_zero, List.set_cons_succ]
        refine wpB_skip 9 _ rfl (by kernel_rfl) (fun _ _ _ h => h) rfl hHeld ?_
        try simp only [Act.put, List.setIfInBounds_toArray, List.set_cons_zero, List.set_cons_succ]
        refine wpB_take 10 _ ?_ rfl (by kernel_rfl) (fun _ _ _ h => h) rfl hHeld ?_ ?_
        rotate_left
        · (intro W hW; go_simp; try with_reducible rfl)
        try simp only [Act.put, List.setIfInBounds_toArray, List.set_cons_zero, List.set_cons_succ]
        refine wpB_take 11 _ ?_ rfl (by kernel_rfl) (fun _ _ _ h => h) rfl hHeld ?_ ?_
        rotate_left
        · (intro W hW; go_simp; try with_reducible rfl)
        try simp only [Act.put, List.setIfInBounds_toArray, List.set_cons_zero, List.set_cons_succ]
        refine wpB_skip 12 _ rfl (by kernel_rfl) (fun _ _ _ h => h) rfl hHeld ?_
        try simp only [Act.put, List.setIfInBounds_toArray, List.set_cons_zero, List.set_cons_succ]
        refine wpB_skip 13 _ rfl (by kernel_rfl) (fun _ _ _ h => h) rfl hHeld ?_
        try simp only [Act.put, List.setIfInBounds_toArray, List.set_cons_zero, List.set_cons_succ]
        refine wpB_skip 14 _ rfl (by kernel_rfl) (fun _ _ _ h => h) rfl hHeld ?_
        try simp only [Act.put, List.setIfInBounds_toArray, List.set_cons_zero, List.set_cons_succ]
        refine wpB_skip 15 _ rfl (by kernel_rfl) (fun _ _ _ h => h) rfl hHeld ?_
        try simp only [Act.put, List.setIfInBounds_toArray, List.set_cons_zero, List.set_cons_succ]
        refine wpB_take 16 _ ?_ rfl (by kernel_rfl) (fun _ _ _ h => h) rfl hHeld ?_ ?_
        rotate_left
        · (intro W hW; go_simp; try with_reducible rfl)
        try simp only [Act.put, List.setIfInBounds_toArray, List.set_cons_zero, List.set_cons_succ]
        refine wpB_take 17 _ ?_ rfl (by kernel_rfl) (fun _ _ _ h => h) rfl hHeld ?_ ?_
        rotate_left
        · (intro W hW; go_simp; try with_reducible rfl)
        try simp only [Act.put, List.setIfInBounds_toArray, List.set_cons_zero, List.set_cons_succ]
        refine wpB_skip 18 _ rfl (by kernel_rfl) (fun _ _ _ h => h) rfl hHeld ?_
        try simp only [Act.put, List.setIfInBounds_toArray, List.set_cons_zero, List.set_cons_succ]
        refine wpB_skip 19 _ rfl (by kernel_rfl) (fun _ _ _ h => h) rfl hHeld ?_
        try simp only [Act.put, List.setIfInBounds_toArray, List.set_cons_zero, List.set_cons_succ]
        refine wpB_skip 20 _ rfl (by kernel_rfl) (fun _ _ _ h => h) rfl hHeld ?_
        try simp only [Act.put, List.setIfInBounds_toArray, List.set_cons_zero, List.set_cons_succ]
        refine wpB_skip 21 _ rfl (by kernel_rfl) (fun _ _ _ h => h) rfl hHeld ?_
        try simp only [Act.put, List.setIfInBounds_toArray, List.set_cons_zero, List.set_cons_succ]
        refine wpB_take 22 _ ?_ rfl (by kernel_rfl) (fun _ _ _ h => h) rfl hHeld ?_ ?_
        rotate_left
        · (intro W hW; go_simp; try with_reducible rfl)
        try simp only [Act.put, List.setIfInBounds_toArray, List.set_cons_zero, List.set_cons_succ]
        refine wpB_done (by kernel_rfl) ?_ _
        have hr : R = 1 := by rw [HR.out]; unfold checkC; rw [if_neg (by omega), if_neg (by omega), if_neg HCAL.out, HS.out]; rfl
        subst hr
        go_wp2_with fail
        go_ret
        exact ⟨rfl, kw0.trans hHeld⟩
      | true =>
        cases h1 : numOk c.n with
        | false =>
          refine wpB_begin 999 (Kp [] w0) (by kernel_rfl) (by exact hK.drew) (fun hHeld => ?_)
          refine wpB_take 0 _ ?_ rfl (by kernel_rfl) (fun _ _ _ h => h) rfl hHeld ?_ ?_
          rotate_left
          · (intro W hW; go_simp; try with_reducible rfl)
          try simp only [Act.put, List.setIfInBounds_toArray, List.set_cons_zero, List.set_cons_succ]
          refine wpB_take 2 _ ?_ rfl (by kernel_rfl) (fun _ _ _ h => h) rfl hHeld ?_ ?_
          rotate_left
          · (intro W hW; go_simp; try with_reducible rfl)
          try simp only [Act.put, List.setIfInBounds_toArray, List.set_cons_zero, List.set_cons_succ]
          refine wpB_step 1 _ rfl (by kernel_rfl) rfl rfl (fun K hK_ => ?_)
          go_simp
          refine (ronly c ka ta c.keep.length kc c.torn.length tc _).mono ?_
          rintro e w3 ⟨rfl, k3⟩
          refine hK_.out _ _ (by exact hHeld.trans k3) (fun hHeld => ?_)
          clear hK_ K
          try simp only [Act.put, List.setIfInBounds_toArray, List.set_cons_zero, List.set_cons_succ]
          refine wpB_step 3 _ rfl (by kernel_rfl) rfl rfl (fun K hK_ => ?_)
          go_simp
          refine (r23same (onlyC c) c _ _ _ _ _ _ (onlyV_at (hk1.keep0 hHeld) (only_keep c).1) (onlyV_at (hk2.keep0 hHeld) (only_keep c).2) (hk1.keep0 hHeld) (hk2.keep0 hHeld) zo1 zo2).mono ?_
          rintro e w4 ⟨rfl, k4⟩
          rw [HS.out]
          refine hK_.out _ _ (by exact hHeld.trans k4) (fun hHeld => ?_)
          clear hK_ K
          try simp only [Act.put, List.setIfInBounds_toArray, List.set_cons_zero, List.set_cons_succ]
          refine wpB_take 4 _ ?_ rfl (by kernel_rfl) (fun _ _ _ h => h) rfl hHeld ?_ ?_
          rotate_left
          · (intro W hW; go_simp; try with_reducible rfl)
          try simp only [Act.put, List.setIfInBounds_toArray, List.set_cons_zero, List.set_cons_succ]
          refine wpB_take 5 _ ?_ rfl (by kernel_rfl) (fun _ _ _ h => h) rfl hHeld ?_ ?_
          rotate_left
          · (intro W hW; go_simp; try with_reducible rfl)
          try simp only [Act.put, List.setIfInBounds_toArray, List.set_cons_zero, List.set_cons_succ]
          refine wpB_take 6 _ ?_ rfl (by kernel_rfl) (fun _ _ _ h => h) rfl hHeld ?_ ?_
          rotate_left
          · (intro W hW; go_simp; try with_reducible rfl)
          try simp only [Act.put, List.setIfInBounds_toArray, List.set_cons_zero, List.set_cons_succ]
          refine wpB_take 7 _ ?_ rfl (by kernel_rfl) (fun _ _ _ h => h) rfl hHeld ?_ ?_
          rotate_left
          · (intro W hW; go_simp; try with_reducible rfl)
          try simp only [Act.put, List.setIfInBounds_toArray, List.set_cons_zero, List.set_cons_succ]
          refine wpB_step 8 _ rfl (by kernel_rfl) rfl rfl (fun K hK_ => ?_)
          go_simp
          refine (rnum _ _).mono ?_
          rintro e w5 ⟨rfl, rfl⟩
          rw [‹numOk _ = _›]
          refine hK_.out _ _ (by exact hHeld) (fun hHeld => ?_)
          clear hK_ K
          try simp only [Act.put, List.setIfInBounds_toArray, List.set_cons_zero, List.set_cons_succ]
          refine wpB_take 9 _ ?_ rfl (by kernel_rfl) (fun _ _ _ h => h) rfl hHeld ?_ ?_
          rotate_left
          · (intro W hW; go_simp; try with_reducible rfl)
          try simp only [Act.put, List.setIfInBounds_toArray, List.set_cons_zero, List.set_cons_succ]
          refine wpB_take 10 _ ?_ rfl (by kernel_rfl) (fun _ _ _ h => h) rfl hHeld ?_ ?_
          rotate_left
          · (intro W hW; go_simp; try with_reducible rfl)
          try simp only [Act.put, List.setIfInBounds_toArray, List.set_cons_zero, List.set_cons_succ]
          refine wpB_take 11 _ ?_ rfl (by kernel_rfl) (fun _ _ _ h => h) rfl hHeld ?_ ?_
          rotate_left
          · (intro W hW; go_simp; try with_reducible rfl)
          try simp only [Act.put, List.setIfInBounds_toArray, List.set_cons_zero, List.set_cons_succ]
          refine wpB_skip 12 _ rfl (by kernel_rfl) (fun _ _ _ h => h) rfl hHeld ?_
          try simp only [Act.put, List.setIfInBounds_toArray, List.set_cons_zero, List.set_cons_succ]
          refine wpB_skip 13 _ rfl (by kernel_rfl) (fun _ _ _ h => h) rfl hHeld ?_
          try simp only [Act.put, List.setIfInBounds_toArray, List.set_cons_zero, List.set_cons_succ]
          refine wpB_skip 14 _ rfl (by kernel_rfl) (fun _ _ _ h => h) rfl hHeld ?_
          try simp only [Act.put, List.setIfInBounds_toArray, List.set_cons_zero, List.set_cons_succ]
          refine wpB_skip 15 _ rfl (by kernel_rfl) (fun _ _ _ h => h) rfl hHeld ?_
          try simp only [Act.put, List.setIfInBounds_toArray, List.set_cons_zero, List.set_cons_succ]
          refine wpB_take 16 _ ?_ rfl (by kernel_rfl) (fun _ _ _ h => h) rfl hHeld ?_ ?_
          rotate_left
          · (intro W hW; go_simp; try with_reducible rfl)
          try simp only [Act.put, List.setIfInBounds_toArray, List.set_cons_zero, List.set_cons_succ]
          refine wpB_take 17 _ ?_ rfl (by kernel_rfl) (fun _ _ _ h => h) rfl hHeld ?_ ?_
          rotate_left
          · (intro W hW; go_simp; try with_reducible rfl)
          try simp only [Act.put, List.setIfInBounds_toArray, List.set_cons_zero, List.set_cons_succ]
          refine wpB_skip 18 _ rfl (by kernel_rfl) (fun _ _ _ h => h) rfl hHeld ?_
          try simp only [Act.put, List.setIfInBounds_toArray, List.set_cons_zero, List.set_cons_succ]
          refine wpB_skip 19 _ rfl (by kernel_rfl) (fun _ _ _ h => h) rfl hHeld ?_
          try simp only [Act.put, List.setIfInBounds_toArray, List.set_cons_zero, List.set_cons_succ]
          refine wpB_skip 20 _ rfl (by kernel_rfl) (fun _ _ _ h => h) rfl hHeld ?_
          try simp only [Act.put, List.setIfInBounds_toArray, List.set_cons_zero, List.set_cons_succ]
          refine wpB_skip 21 _ rfl (by kernel_rfl) (fun _ _ _ h => h) rfl hHeld ?_
          try simp only [Act.put, List.setIfInBounds_toArray, List.set_cons_zero, List.set_cons_succ]
          refine wpB_take 22 _ ?_ rfl (by kernel_rfl) (fun _ _ _ h => h) rfl hHeld ?_ ?_
          rotate_left
          · (intro W hW; go_simp; try with_reducible rfl)
          try simp only [Act.put, List.setIfInBounds_toArray, List.set_cons_zero, List.set_cons_succ]
          refine wpB_done (by kernel_rfl) ?_ _
          have hr : R = 1 := by rw [HR.out]; unfold checkC; rw [if_neg (by omega), if_neg (by omega), if_neg HCAL.out, HS.out, h1]; rfl
          subst hr
          go_wp2_with fail
          go_ret
          exact ⟨rfl, kw0.trans hHeld⟩
        | true =>
          cases h2 : numOk c.a with
          | false =>
            refine wpB_begin 999 (Kp [] w0) (by kernel_rfl) (by exact hK.drew) (fun hHeld => ?_)
            refine wpB_take 0 _ ?_ rfl (by kernel_rfl) (fun _ _ _ h => h) rfl hHeld ?_ ?_
            rotate_left
            · (intro W hW; go_simp; try with_reducible rfl)
            try simp only [Act.put, List.setIfInBounds_toArray, List.set_cons_zero, List.set_cons_succ]
            refine wpB_take 2 _ ?_ rfl (by kernel_rfl) (fun _ _ _ h => h) rfl hHeld ?_ ?_
            rotate_left
            · (intro W hW; go_simp; try with_reducible rfl)
            try simp only [Act.put, List.setIfInBounds_toArray, List.set_cons_zero, List.set_cons_succ]
            refine wpB_step 1 _ rfl (by kernel_rfl) rfl rfl (fun K hK_ => ?_)
            go_simp
            refine (ronly c ka ta c.keep.length kc c.torn.length tc _).mono ?_
            rintro e w3 ⟨rfl, k3⟩
            refine hK_.out _ _ (by exact hHeld.trans k3) (fun hHeld => ?_)
            clear hK_ K
            try simp only [Act.put, List.setIfInBounds_toArray, List.set_cons_zero, List.set_cons_succ]
            refine wpB_step 3 _ rfl (by kernel_rfl) rfl rfl (fun K hK_ => ?_)
            go_simp
            refine (r23same (onlyC c) c _ _ _ _ _ _ (onlyV_at (hk1.keep0 hHeld) (only_keep c).1) (onlyV_at (hk2.keep0 hHeld) (only_keep c).2) (hk1.keep0 hHeld) (hk2.keep0 hHeld) zo1 zo2).mono ?_
            rintro e w4 ⟨rfl, k4⟩
            rw [HS.out]
            refine hK_.out _ _ (by exact hHeld.trans k4) (fun hHeld => ?_)
            clear hK_ K
            try simp only [Act.put, List.setIfInBounds_toArray, List.set_cons_zero, List.set_cons_succ]
            refine wpB_take 4 _ ?_ rfl (by kernel_rfl) (fun _ _ _ h => h) rfl hHeld ?_ ?_
            rotate_left
            · (intro W hW; go_simp; try with_reducible rfl)
            try simp only [Act.put, List.setIfInBounds_toArray, List.set_cons_zero, List.set_cons_succ]
            refine wpB_take 5 _ ?_ rfl (by kernel_rfl) (fun _ _ _ h => h) rfl hHeld ?_ ?_
            rotate_left
            · (intro W hW; go_simp; try with_reducible rfl)
            try simp only [Act.put, List.setIfInBounds_toArray, List.set_cons_zero, List.set_cons_succ]
            refine wpB_take 6 _ ?_ rfl (by kernel_rfl) (fun _ _ _ h => h) rfl hHeld ?_ ?_
            rotate_left
            · (intro W hW; go_simp; try with_reducible rfl)
            try simp only [Act.put, List.setIfInBounds_toArray, List.set_cons_zero, List.set_cons_succ]
            refine wpB_take 7 _ ?_ rfl (by kernel_rfl) (fun _ _ _ h => h) rfl hHeld ?_ ?_
            rotate_left
            · (intro W hW; go_simp; try with_reducible rfl)
            try simp only [Act.put, List.setIfInBounds_toArray, List.set_cons_zero, List.set_cons_succ]
            refine wpB_step 8 _ rfl (by kernel_rfl) rfl rfl (fun K hK_ => ?_)
            go_simp
            refine (rnum _ _).mono ?_
            rintro e w5 ⟨rfl, rfl⟩
            rw [‹numOk _ = _›]
            refine hK_.out _ _ (by exact hHeld) (fun hHeld => ?_)
            clear hK_ K
            try simp only [Act.put, List.setIfInBounds_toArray, List.set_cons_zero, List.set_cons_succ]
            refine wpB_take 9 _ ?_ rfl (by kernel_rfl) (fun _ _ _ h => h) rfl hHeld ?_ ?_
            rotate_left
            · (intro W hW; go_simp; try with_reducible rfl)
            try simp only [Act.put, List.setIfInBounds_toArray, List.set_cons_zero, List.set_cons_succ]
            refine wpB_take 10 _ ?_ rfl (by kernel_rfl) (fun _ _ _ h => h) rfl hHeld ?_ ?_
            rotate_left
            · (intro W hW; go_simp; try with_reducible rfl)
            try simp only [Act.put, List.setIfInBounds_toArray, List.set_cons_zero, List.set_cons_succ]
            refine wpB_take 11 _ ?_ rfl (by kernel_rfl) (fun _ _ _ h => h) rfl hHeld ?_ ?_
            rotate_left
            · (intro W hW; go_simp; try with_reducible rfl)
            try simp only [Act.put, List.setIfInBounds_toArray, List.set_cons_zero, List.set_cons_succ]
            refine wpB_take 12 _ ?_ rfl (by kernel_rfl) (fun _ _ _ h => h) rfl hHeld ?_ ?_
            rotate_left
            · (intro W hW; go_simp; try with_reducible rfl)
            try simp only [Act.put, List.setIfInBounds_toArray, List.set_cons_zero, List.set_cons_succ]
            refine wpB_take 13 _ ?_ rfl (by kernel_rfl) (fun _ _ _ h => h) rfl hHeld ?_ ?_
            rotate_left
            · (intro W hW; go_simp; try with_reducible rfl)
            try simp only [Act.put, List.setIfInBounds_toArray, List.set_cons_zero, List.set_cons_succ]
            refine wpB_step 14 _ rfl (by kernel_rfl) rfl rfl (fun K hK_ => ?_)
            go_simp
            refine (rnum _ _).mono ?_
            rintro e w5 ⟨rfl, rfl⟩
            rw [‹numOk _ = _›]
            refine hK_.out _ _ (by exact hHeld) (fun hHeld => ?_)
            clear hK_ K
            try simp only [Act.put, List.setIfInBounds_toArray, List.set_cons_zero, List.set_cons_succ]
            refine wpB_take 15 _ ?_ rfl (by kernel_rfl) (fun _ _ _ h => h) rfl hHeld ?_ ?_
            rotate_left
            · (intro W hW; go_simp; try with_reducible rfl)
            try simp only [Act.put, List.setIfInBounds_toArray, List.set_cons_zero, List.set_cons_succ]
            refine wpB_take 16 _ ?_ rfl (by kernel_rfl) (fun _ _ _ h => h) rfl hHeld ?_ ?_
            rotate_left
            · (intro W hW; go_simp; try with_reducible rfl)
            try simp only [Act.put, List.setIfInBounds_toArray, List.set_cons_zero, List.set_cons_succ]
            refine wpB_take 17 _ ?_ rfl (by kernel_rfl) (fun _ _ _ h => h) rfl hHeld ?_ ?_
            rotate_left
            · (intro W hW; go_simp; try with_reducible rfl)
            try simp only [Act.put, List.setIfInBounds_toArray, List.set_cons_zero, List.set_cons_succ]
            refine wpB_skip 18 _ rfl (by kernel_rfl) (fun _ _ _ h => h) rfl hHeld ?_
            try simp only [Act.put, List.setIfInBounds_toArray, List.set_cons_zero, List.set_cons_succ]
            refine wpB_skip 19 _ rfl (by kernel_rfl) (fun _ _ _ h => h) rfl hHeld ?_
            try simp only [Act.put, List.setIfInBounds_toArray, List.set_cons_zero, List.set_cons_succ]
            refine wpB_skip 20 _ rfl (by kernel_rfl) (fun _ _ _ h => h) rfl hHeld ?_
            try simp only [Act.put, List.setIfInBounds_toArray, List.set_cons_zero, List.set_cons_succ]
            refine wpB_skip 21 _ rfl (by kernel_rfl) (fun _ _ _ h => h) rfl hHeld ?_
            try simp only [Act.put, List.setIfInBounds_toArray, List.set_cons_zero, List.set_cons_succ]
            refine wpB_take 22 _ ?_ rfl (by kernel_rfl) (fun _ _ _ h => h) rfl hHeld ?_ ?_
            rotate_left
            · (intro W hW; go_simp; try with_reducible rfl)
            try simp only [Act.put, List.setIfInBounds_toArray, List.set_cons_zero, List.set_cons_succ]
            refine wpB_done (by kernel_rfl) ?_ _
            have hr : R = 1 := by rw [HR.out]; unfold checkC; rw [if_neg (by omega), if_neg (by omega), if_neg HCAL.out, HS.out, h1, h2]; rfl
            subst hr
            go_wp2_with fail
            go_ret
            exact ⟨rfl, kw0.trans hHeld⟩
          | true =>
            cases h3 : numOk c.b with
            | false =>
              refine wpB_begin 999 (Kp [] w0) (by kernel_rfl) (by exact hK.drew) (fun hHeld => ?_)
              refine wpB_take 0 _ ?_ rfl (by kernel_rfl) (fun _ _ _ h => h) rfl hHeld ?_ ?_
              rotate_left
              · (intro W hW; go_simp; try with_reducible rfl)
              try simp only [Act.put, List.setIfInBounds_toArray, List.set_cons_zero, List.set_cons_succ]
              refine wpB_take 2 _ ?_ rfl (by kernel_rfl) (fun _ _ _ h => h) rfl hHeld ?_ ?_
              rotate_left
              · (intro W hW; go_simp; try with_reducible rfl)
              try simp only [Act.put, List.setIfInBounds_toArray, List.set_cons_zero, List.set_cons_succ]
              refine wpB_step 1 _ rfl (by kernel_rfl) rfl rfl (fun K hK_ => ?_)
              go_simp
              refine (ronly c ka ta c.keep.length kc c.torn.length tc _).mono ?_
              rintro e w3 ⟨rfl, k3⟩
              refine hK_.out _ _ (by exact hHeld.trans k3) (fun hHeld => ?_)
              clear hK_ K
              try simp only [Act.put, List.setIfInBounds_toArray, List.set_cons_zero, List.set_cons_succ]
              refine wpB_step 3 _ rfl (by kernel_rfl) rfl rfl (fun K hK_ => ?_)
              go_simp
              refine (r23same (onlyC c) c _ _ _ _ _ _ (onlyV_at (hk1.keep0 hHeld) (only_keep c).1) (onlyV_at (hk2.keep0 hHeld) (only_keep c).2) (hk1.keep0 hHeld) (hk2.keep0 hHeld) zo1 zo2).mono ?_
              rintro e w4 ⟨rfl, k4⟩
              rw [HS.out]
              refine hK_.out _ _ (by exact hHeld.trans k4) (fun hHeld => ?_)
              clear hK_ K
              try simp only [Act.put, List.setIfInBounds_toArray, List.set_cons_zero, List.set_cons_succ]
              refine wpB_take 4 _ ?_ rfl (by kernel_rfl) (fun _ _ _ h => h) rfl hHeld ?_ ?_
              rotate_left
              · (intro W hW; go_simp; try with_reducible rfl)
              try simp only [Act.put, List.setIfInBounds_toArray, List.set_cons_zero, List.set_cons_succ]
              refine wpB_take 5 _ ?_ rfl (by kernel_rfl) (fun _ _ _ h => h) rfl hHeld ?_ ?_
              rotate_left
              · (intro W hW; go_simp; try with_reducible rfl)
              try simp only [Act.put, List.setIfInBounds_toArray, List.set_cons_zero, List.set_cons_succ]
              refine wpB_take 6 _ ?_ rfl (by kernel_rfl) (fun _ _ _ h => h) rfl hHeld ?_ ?_
              rotate_left
              · (intro W hW; go_simp; try with_reducible rfl)
              try simp only [Act.put, List.setIfInBounds_toArray, List.set_cons_zero, List.set_cons_succ]
              refine wpB_take 7 _ ?_ rfl (by kernel_rfl) (fun _ _ _ h => h) rfl hHeld ?_ ?_
              rotate_left
              · (intro W hW; go_simp; try with_reducible rfl)
              try simp only [Act.put, List.setIfInBounds_toArray, List.set_cons_zero, List.set_cons_succ]
              refine wpB_step 8 _ rfl (by kernel_rfl) rfl rfl (fun K hK_ => ?_)
              go_simp
              refine (rnum _ _).mono ?_
              rintro e w5 ⟨rfl, rfl⟩
              rw [‹numOk _ = _›]
              refine hK_.out _ _ (by exact hHeld) (fun hHeld => ?_)
              clear hK_ K
              try simp only [Act.put, List.setIfInBounds_toArray, List.set_cons_zero, List.set_cons_succ]
              refine wpB_take 9 _ ?_ rfl (by kernel_rfl) (fun _ _ _ h => h) rfl hHeld ?_ ?_
              rotate_left
              · (intro W hW; go_simp; try with_reducible rfl)
              try simp only [Act.put, List.setIfInBounds_toArray, List.set_cons_zero, List.set_cons_succ]
              refine wpB_take 10 _ ?_ rfl (by kernel_rfl) (fun _ _ _ h => h) rfl hHeld ?_ ?_
              rotate_left
              · (intro W hW; go_simp; try with_reducible rfl)
              try simp only [Act.put, List.setIfInBounds_toArray, List.set_cons_zero, List.set_cons_succ]
              refine wpB_take 11 _ ?_ rfl (by kernel_rfl) (fun _ _ _ h => h) rfl hHeld ?_ ?_
              rotate_left
              · (intro W hW; go_simp; try with_reducible rfl)
              try simp only [Act.put, List.setIfInBounds_toArray, List.set_cons_zero, List.set_cons_succ]
              refine wpB_take 12 _ ?_ rfl (by kernel_rfl) (fun _ _ _ h => h) rfl hHeld ?_ ?_
              rotate_left
              · (intro W hW; go_simp; try with_reducible rfl)
              try simp only [Act.put, List.setIfInBounds_toArray, List.set_cons_zero, List.set_cons_succ]
              refine wpB_take 13 _ ?_ rfl (by kernel_rfl) (fun _ _ _ h => h) rfl hHeld ?_ ?_
              rotate_left
              · (intro W hW; go_simp; try with_reducible rfl)
              try simp only [Act.put, List.setIfInBounds_toArray, List.set_cons_zero, List.set_cons_succ]
              refine wpB_step 14 _ rfl (by kernel_rfl) rfl rfl (fun K hK_ => ?_)
              go_simp
              refine (rnum _ _).mono ?_
              rintro e w5 ⟨rfl, rfl⟩
              rw [‹numOk _ = _›]
              refine hK_.out _ _ (by exact hHeld) (fun hHeld => ?_)
              clear hK_ K
              try simp only [Act.put, List.setIfInBounds_toArray, List.set_cons_zero, List.set_cons_succ]
              refine wpB_take 15 _ ?_ rfl (by kernel_rfl) (fun _ _ _ h => h) rfl hHeld ?_ ?_
              rotate_left
              · (intro W hW; go_simp; try with_reducible rfl)
              try simp only [Act.put, List.setIfInBounds_toArray, List.set_cons_zero, List.set_cons_succ]
              refine wpB_take 16 _ ?_ rfl (by kernel_rfl) (fun _ _ _ h => h) rfl hHeld ?_ ?_
              rotate_left
              · (intro W hW; go_simp; try with_reducible rfl)
              try simp only [Act.put, List.setIfInBounds_toArray, List.set_cons_zero, List.set_cons_succ]
              refine wpB_take 17 _ ?_ rfl (by kernel_rfl) (fun _ _ _ h => h) rfl hHeld ?_ ?_
              rotate_left
              · (intro W hW; go_simp; try with_reducible rfl)
              try simp only [Act.put, List.setIfInBounds_toArray, List.set_cons_zero, List.set_cons_succ]
              refine wpB_take 18 _ ?_ rfl (by kernel_rfl) (fun _ _ _ h => h) rfl hHeld ?_ ?_
              rotate_left
              · (intro W hW; go_simp; try with_reducible rfl)
              try simp only [Act.put, List.setIfInBounds_toArray, List.set_cons_zero, List.set_cons_succ]
              refine wpB_take 19 _ ?_ rfl (by kernel_rfl) (fun _ _ _ h => h) rfl hHeld ?_ ?_
              rotate_left
              · (intro W hW; go_simp; try with_reducible rfl)
              try simp only [Act.put, List.setIfInBounds_toArray, List.set_cons_zero, List.set_cons_succ]
              refine wpB_step 20 _ rfl (by kernel_rfl) rfl rfl (fun K hK_ => ?_)
              go_simp
              refine (rnum _ _).mono ?_
              rintro e w5 ⟨rfl, rfl⟩
              rw [‹numOk _ = _›]
              refine hK_.out _ _ (by exact hHeld) (fun hHeld => ?_)
              clear hK_ K
              try simp only [Act.put, List.setIfInBounds_toArray, List.set_cons_zero, List.set_cons_succ]
              refine wpB_take 21 _ ?_ rfl (by kernel_rfl) (fun _ _ _ h => h) rfl hHeld ?_ ?_
              rotate_left
              · (intro W hW; go_simp; try with_reducible rfl)
              try simp only [Act.put, List.setIfInBounds_toArray, List.set_cons_zero, List.set_cons_succ]
              refine wpB_take 22 _ ?_ rfl (by kernel_rfl) (fun _ _ _ h => h) rfl hHeld ?_ ?_
              rotate_left
              · (intro W hW; go_simp; try with_reducible rfl)
              try simp only [Act.put, List.setIfInBounds_toArray, List.set_cons_zero, List.set_cons_succ]
              refine wpB_done (by kernel_rfl) ?_ _
              have hr : R = 1 := by rw [HR.out]; unfold checkC; rw [if_neg (by omega), if_neg (by omega), if_neg HCAL.out, HS.out, h1, h2, h3]; rfl
              subst hr
              go_wp2_with fail
              go_ret
              exact ⟨rfl, kw0.trans hHeld⟩
            | true =>
              refine wpB_begin 999 (Kp [] w0) (by kernel_rfl) (by exact hK.drew) (fun hHeld => ?_)
              refine wpB_take 0 _ ?_ rfl (by kernel_rfl) (fun _ _ _ h => h) rfl hHeld ?_ ?_
              rotate_left
              · (intro W hW; go_simp; try with_reducible rfl)
              try simp only [Act.put, List.setIfInBounds_toArray, List.set_cons_zero, List.set_cons_succ]
              refine wpB_take 2 _ ?_ rfl (by kernel_rfl) (fun _ _ _ h => h) rfl hHeld ?_ ?_
              rotate_left
              · (intro W hW; go_simp; try with_reducible rfl)
              try simp only [Act.put, List.setIfInBounds_toArray, List.set_cons_zero, List.set_cons_succ]
              refine wpB_step 1 _ rfl (by kernel_rfl) rfl rfl (fun K hK_ => ?_)
              go_simp
              refine (ronly c ka ta c.keep.length kc c.torn.length tc _).mono ?_
              rintro e w3 ⟨rfl, k3⟩
              refine hK_.out _ _ (by exact hHeld.trans k3) (fun hHeld => ?_)
              clear hK_ K
              try simp only [Act.put, List.setIfInBounds_toArray, List.set_cons_zero, List.set_cons_succ]
              refine wpB_step 3 _ rfl (by kernel_rfl) rfl rfl (fun K hK_ => ?_)
              go_simp
              refine (r23same (onlyC c) c _ _ _ _ _ _ (onlyV_at (hk1.keep0 hHeld) (only_keep c).1) (onlyV_at (hk2.keep0 hHeld) (only_keep c).2) (hk1.keep0 hHeld) (hk2.keep0 hHeld) zo1 zo2).mono ?_
              rintro e w4 ⟨rfl, k4⟩
              rw [HS.out]
              refine hK_.out _ _ (by exact hHeld.trans k4) (fun hHeld => ?_)
              clear hK_ K
              try simp only [Act.put, List.setIfInBounds_toArray, List.set_cons_zero, List.set_cons_succ]
              refine wpB_take 4 _ ?_ rfl (by kernel_rfl) (fun _ _ _ h => h) rfl hHeld ?_ ?_
              rotate_left
              · (intro W hW; go_simp; try with_reducible rfl)
              try simp only [Act.put, List.setIfInBounds_toArray, List.set_cons_zero, List.set_cons_succ]
              refine wpB_take 5 _ ?_ rfl (by kernel_rfl) (fun _ _ _ h => h) rfl hHeld ?_ ?_
              rotate_left
              · (intro W hW; go_simp; try with_reducible rfl)
              try simp only [Act.put, List.setIfInBounds_toArray, List.set_cons_zero, List.set_cons_succ]
              refine wpB_take 6 _ ?_ rfl (by kernel_rfl) (fun _ _ _ h => h) rfl hHeld ?_ ?_
              rotate_left
              · (intro W hW; go_simp; try with_reducible rfl)
              try simp only [Act.put, List.setIfInBounds_toArray, List.set_cons_zero, List.set_cons_succ]
              refine wpB_take 7 _ ?_ rfl (by kernel_rfl) (fun _ _ _ h => h) rfl hHeld ?_ ?_
              rotate_left
              · (intro W hW; go_simp; try with_reducible rfl)
              try simp only [Act.put, List.setIfInBounds_toArray, List.set_cons_zero, List.set_cons_succ]
              refine wpB_step 8 _ rfl (by kernel_rfl) rfl rfl (fun K hK_ => ?_)
              go_simp
              refine (rnum _ _).mono ?_
              rintro e w5 ⟨rfl, rfl⟩
              rw [‹numOk _ = _›]
              refine hK_.out _ _ (by exact hHeld) (fun hHeld => ?_)
              clear hK_ K
              try simp only [Act.put, List.setIfInBounds_toArray, List.set_cons_zero, List.set_cons_succ]
              refine wpB_take 9 _ ?_ rfl (by kernel_rfl) (fun _ _ _ h => h) rfl hHeld ?_ ?_
              rotate_left
              · (intro W hW; go_simp; try with_reducible rfl)
              try simp only [Act.put, List.setIfInBounds_toArray, List.set_cons_zero, List.set_cons_succ]
              refine wpB_take 10 _ ?_ rfl (by kernel_rfl) (fun _ _ _ h => h) rfl hHeld ?_ ?_
              rotate_left
              · (intro W hW; go_simp; try with_reducible rfl)
              try simp only [Act.put, List.setIfInBounds_toArray, List.set_cons_zero, List.set_cons_succ]
              refine wpB_take 11 _ ?_ rfl (by kernel_rfl) (fun _ _ _ h => h) rfl hHeld ?_ ?_
              rotate_left
              · (intro W hW; go_simp; try with_reducible rfl)
              try simp only [Act.put, List.setIfInBounds_toArray, List.set_cons_zero, List.set_cons_succ]
              refine wpB_take 12 _ ?_ rfl (by kernel_rfl) (fun _ _ _ h => h) rfl hHeld ?_ ?_
              rotate_left
              · (intro W hW; go_simp; try with_reducible rfl)
              try simp only [Act.put, List.setIfInBounds_toArray, List.set_cons_zero, List.set_cons_succ]
              refine wpB_take 13 _ ?_ rfl (by kernel_rfl) (fun _ _ _ h => h) rfl hHeld ?_ ?_
              rotate_left
              · (intro W hW; go_simp; try with_reducible rfl)
              try simp only [Act.put, List.setIfInBounds_toArray, List.set_cons_zero, List.set_cons_succ]
              refine wpB_step 14 _ rfl (by kernel_rfl) rfl rfl (fun K hK_ => ?_)
              go_simp
              refine (rnum _ _).mono ?_
              rintro e w5 ⟨rfl, rfl⟩
              rw [‹numOk _ = _›]
              refine hK_.out _ _ (by exact hHeld) (fun hHeld => ?_)
              clear hK_ K
              try simp only [Act.put, List.setIfInBounds_toArray, List.set_cons_zero, List.set_cons_succ]
              refine wpB_take 15 _ ?_ rfl (by kernel_rfl) (fun _ _ _ h => h) rfl hHeld ?_ ?_
              rotate_left
              · (intro W hW; go_simp; try with_reducible rfl)
              try simp only [Act.put, List.setIfInBounds_toArray, List.set_cons_zero, List.set_cons_succ]
              refine wpB_take 16 _ ?_ rfl (by kernel_rfl) (fun _ _ _ h => h) rfl hHeld ?_ ?_
              rotate_left
              · (intro W hW; go_simp; try with_reducible rfl)
              try simp only [Act.put, List.setIfInBounds_toArray, List.set_cons_zero, List.set_cons_succ]
              refine wpB_take 17 _ ?_ rfl (by kernel_rfl) (fun _ _ _ h => h) rfl hHeld ?_ ?_
              rotate_left
              · (intro W hW; go_simp; try with_reducible rfl)
              try simp only [Act.put, List.setIfInBounds_toArray, List.set_cons_zero, List.set_cons_succ]
              refine wpB_take 18 _ ?_ rfl (by kernel_rfl) (fun _ _ _ h => h) rfl hHeld ?_ ?_
              rotate_left
              · (intro W hW; go_simp; try with_reducible rfl)
              try simp only [Act.put, List.setIfInBounds_toArray, List.set_cons_zero, List.set_cons_succ]
              refine wpB_take 19 _ ?_ rfl (by kernel_rfl) (fun _ _ _ h => h) rfl hHeld ?_ ?_
              rotate_left
              · (intro W hW; go_simp; try with_reducible rfl)
              try simp only [Act.put, List.setIfInBounds_toArray, List.set_cons_zero, List.set_cons_succ]
              refine wpB_step 20 _ rfl (by kernel_rfl) rfl rfl (fun K hK_ => ?_)
              go_simp
              refine (rnum _ _).mono ?_
              rintro e w5 ⟨rfl, rfl⟩
              rw [‹numOk _ = _›]
              refine hK_.out _ _ (by exact hHeld) (fun hHeld => ?_)
              clear hK_ K
              try simp only [Act.put, List.setIfInBounds_toArray, List.set_cons_zero, List.set_cons_succ]
              refine wpB_take 21 _ ?_ rfl (by kernel_rfl) (fun _ _ _ h => h) rfl hHeld ?_ ?_
              rotate_left
              · (intro W hW; go_simp; try with_reducible rfl)
              try simp only [Act.put, List.setIfInBounds_toArray, List.set_cons_zero, List.set_cons_succ]
              refine wpB_take 22 _ ?_ rfl (by kernel_rfl) (fun _ _ _ h => h) rfl hHeld ?_ ?_
              rotate_left
              · (intro W hW; go_simp; try with_reducible rfl)
              try simp only [Act.put, List.setIfInBounds_toArray, List.set_cons_zero, List.set_cons_succ]
              refine wpB_done (by kernel_rfl) ?_ _
              have hr : R = 0 := by rw [HR.out]; unfold checkC; rw [if_neg (by omega), if_neg (by omega), if_neg HCAL.out, HS.out, h1, h2, h3]; rfl
              subst hr
              go_wp2_with fail
              go_ret
              exact ⟨rfl, kw0.trans hHeld⟩
    · have hne : (ce != 0) = true := by simpa using h0
      have hr : R = ce := by rw [HR.out]; unfold checkC; rw [if_neg (by omega), if_neg (by omega), if_pos ⟨HE0.out, by rw [← HCE.out]; exact h0⟩, HCE.out]
      have HRR := Lib.hid hr
      clear h0 hr
      go_wp2_with fail
      go_ret
      exact ⟨by rw [HRR.out]; rfl, kw0.trans hK⟩
  · have hab := int_ne e0
    go_enter Tryz.func11, Tryz.ntmps11
    go_wp2_with fail
    rw [← Hw0.out]
    have hcal : ¬ (c.act = 0 ∧ checkE c.rk c.rs c.rv ≠ 0) := fun e => e0 e.1
    have HCAL := Lib.hid hcal
    clear hcal e0
    cases sc with
    | false =>
      refine wpB_begin 999 (Kp [] w0) (by kernel_rfl) (by exact hK.drew) (fun hHeld => ?_)
      refine wpB_take 0 _ ?_ rfl (by kernel_rfl) (fun _ _ _ h => h) rfl hHeld ?_ ?_
      rotate_left
      · (intro W hW; go_simp; try with_reducible rfl)
      try simp only [Act.put, List.setIfInBounds_toArray, List.set_cons_zero, List.set_cons_succ]
      refine wpB_take 2 _ ?_ rfl (by kernel_rfl) (fun _ _ _ h => h) rfl hHeld ?_ ?_
      rotate_left
      · (intro W hW; go_simp; try with_reducible rfl)
      try simp only [Act.put, List.setIfInBounds_toArray, List.set_cons_zero, List.set_cons_succ]
      refine wpB_step 1 _ rfl (by kernel_rfl) rfl rfl (fun K hK_ => ?_)
      go_simp
      refine (ronly c ka ta c.keep.length kc c.torn.length tc _).mono ?_
      rintro e w3 ⟨rfl, k3⟩
      refine hK_.out _ _ (by exact hHeld.trans k3) (fun hHeld => ?_)
      clear hK_ K
      try simp only [Act.put, List.setIfInBounds_toArray, List.set_cons_zero, List.set_cons_succ]
      refine wpB_step 3 _ rfl (by kernel_rfl) rfl rfl (fun K hK_ => ?_)
      go_simp
      refine (r23same (onlyC c) c _ _ _ _ _ _ (onlyV_at (hk1.keep0 hHeld) (only_keep c).1) (onlyV_at (hk2.keep0 hHeld) (only_keep c).2) (hk1.keep0 hHeld) (hk2.keep0 hHeld) zo1 zo2).mono ?_
      rintro e w4 ⟨rfl, k4⟩
      rw [HS.out]
      refine hK_.out _ _ (by exact hHeld.trans k4) (fun hHeld => ?_)
      clear hK_ K
      try simp only [Act.put, List.setIfInBounds_toArray, List.set_cons_zero, List.set_cons_succ]
      refine wpB_take 4 _ ?_ rfl (by kernel_rfl) (fun _ _ _ h => h) rfl hHeld ?_ ?_
      rotate_left
      · (intro W hW; go_simp; try with_reducible rfl)
      try simp only [Act.put, List.setIfInBounds_toArray, List.set_cons_zero, List.set_cons_succ]
      refine wpB_take 5 _ ?_ rfl (by kernel_rfl) (fun _ _ _ h => h) rfl hHeld ?_ ?_
      rotate_left
      · (intro W hW; go_simp; try with_reducible rfl)
      try simp only [Act.put, List.setIfInBounds_toArray, List.set_cons_zero, List.set_cons_succ]
      refine wpB_skip 6 _ rfl (by kernel_rfl) (fun _ _ _ h => h) rfl hHeld ?_
      try simp only [Act.put, List.setIfInBounds_toArray, List.set_cons_zero, List.set_cons_succ]
      refine wpB_skip 7 _ rfl (by kernel_rfl) (fun _ _ _ h => h) rfl hHeld ?_
      try simp only [Act.put, List.setIfInBounds_toArray, List.set_cons_zero, List.set_cons_succ]
      refine wpB_skip 8 _ rfl (by kernel_rfl) (fun _ _ _ h => h) rfl hHeld ?_
      try simp only [Act.put, List.setIfInBounds_toArray, List.set_cons_zero, List.set_cons_succ]
      refine wpB_skip 9 _ rfl (by kernel_rfl) (fun _ _ _ h => h) rfl hHeld ?_
      try simp only [Act.put, List.setIfInBounds_toArray, List.set_cons_zero, List.set_cons_succ]
      refine wpB_take 10 _ ?_ rfl (by kernel_rfl) (fun _ _ _ h => h) rfl hHeld ?_ ?_
      rotate_left
      · (intro W hW; go_simp; try with_reducible rfl)
      try simp only [Act.put, List.setIfInBounds_toArray, List.set_cons_zero, List.set_cons_succ]
      refine wpB_take 11 _ ?_ rfl (by kernel_rfl) (fun _ _ _ h => h) rfl hHeld ?_ ?_
      rotate_left
      · (intro W hW; go_simp; try with_reducible rfl)
      try simp only [Act.put, List.setIfInBounds_toArray, List.set_cons_zero, List.set_cons_succ]
      refine wpB_skip 12 _ rfl (by kernel_rfl) (fun _ _ _ h => h) rfl hHeld ?_
      try simp only [Act.put, List.setIfInBounds_toArray, List.set_cons_zero, List.set_cons_succ]
      refine wpB_skip 13 _ rfl (by kernel_rfl) (fun _ _ _ h => h) rfl hHeld ?_
      try simp only [Act.put, List.setIfInBounds_toArray, List.set_cons_zero, List.set_cons_succ]
      refine wpB_skip 14 _ rfl (by kernel_rfl) (fun _ _ _ h => h) rfl hHeld ?_
      try simp only [Act.put, List.setIfInBounds_toArray, List.set_cons_zero, List.set_cons_succ]
      refine wpB_skip 15 _ rfl (by kernel_rfl) (fun _ _ _ h => h) rfl hHeld ?_
      try simp only [Act.put, List.setIfInBounds_toArray, List.set_cons_zero, List.set_cons_succ]
      refine wpB_take 16 _ ?_ rfl (by kernel_rfl) (fun _ _ _ h => h) rfl hHeld ?_ ?_
      rotate_left
      · (intro W hW; go_simp; try with_reducible rfl)
      try simp only [Act.put, List.setIfInBounds_toArray, List.set_cons_zero, List.set_cons_succ]
      refine wpB_take 17 _ ?_ rfl (by kernel_rfl) (fun _ _ _ h => h) rfl hHeld ?_ ?_
      rotate_left
      · (intro W hW; go_simp; try with_reducible rfl)
      try simp only [Act.put, List.setIfInBounds_toArray, List.set_cons_zero, List.set_cons_succ]
      refine wpB_skip 18 _ rfl (by kernel_rfl) (fun _ _ _ h => h) rfl hHeld ?_
      try simp only [Act.put, List.setIfInBounds_toArray, List.set_cons_zero, List.set_cons_succ]
      refine wpB_skip 19 _ rfl (by kernel_rfl) (fun _ _ _ h => h) rfl hHeld ?_
      try simp only [Act.put, List.setIfInBounds_toArray, List.set_cons_zero, List.set_cons_succ]
      refine wpB_skip 20 _ rfl (by kernel_rfl) (fun _ _ _ h => h) rfl hHeld ?_
      try simp only [Act.put, List.setIfInBounds_toArray, List.set_cons_zero, List.set_cons_succ]
      refine wpB_skip 21 _ rfl (by kernel_rfl) (fun _ _ _ h => h) rfl hHeld ?_
      try simp only [Act.put, List.setIfInBounds_toArray, List.set_cons_zero, List.set_cons_succ]
      refine wpB_take 22 _ ?_ rfl (by kernel_rfl) (fun _ _ _ h => h) rfl hHeld ?_ ?_
      rotate_left
      · (intro W hW; go_simp; try with_reducible rfl)
      try simp only [Act.put, List.setIfInBounds_toArray, List.set_cons_zero, List.set_cons_succ]
      refine wpB_done (by kernel_rfl) ?_ _
      have hr : R = 1 := by rw [HR.out]; unfold checkC; rw [if_neg (by omega), if_neg (by omega), if_neg HCAL.out, HS.out]; rfl
      subst hr
      go_wp2_with fail
      go_ret
      exact ⟨rfl, kw0.trans hHeld⟩
    | true =>
      cases h1 : numOk c.n with
      | false =>
        refine wpB_begin 999 (Kp [] w0) (by kernel_rfl) (by exact hK.drew) (fun hHeld => ?_)
        refine wpB_take 0 _ ?_ rfl (by kernel_rfl) (fun _ _ _ h => h) rfl hHeld ?_ ?_
        rotate_left
        · (intro W hW; go_simp; try with_reducible rfl)
        try simp only [Act.put, List.setIfInBounds_toArray, List.set_cons_zero, List.set_cons_succ]
        refine wpB_take 2 _ ?_ rfl (by kernel_rfl) (fun _ _ _ h => h) rfl hHeld ?_ ?_
        rotate_left
        · (intro W hW; go_simp; try with_reducible rfl)
        try simp only [Act.put, List.setIfInBounds_toArray, List.set_cons_zero, List.set_cons_succ]
        refine wpB_step 1 _ rfl (by kernel_rfl) rfl rfl (fun K hK_ => ?_)
        go_simp
        refine (ronly c ka ta c.keep.length kc c.torn.length tc _).mono ?_
        rintro e w3 ⟨rfl, k3⟩
        refine hK_.out _ _ (by exact hHeld.trans k3) (fun hHeld => ?_)
        clear hK_ K
        try simp only [Act.put, List.setIfInBounds_toArray, List.set_cons_zero, List.set_cons_succ]
        refine wpB_step 3 _ rfl (by kernel_rfl) rfl rfl (fun K hK_ => ?_)
        go_simp
        refine (r23same (onlyC c) c _ _ _ _ _ _ (onlyV_at (hk1.keep0 hHeld) (only_keep c).1) (onlyV_at (hk2.keep0 hHeld) (only_keep c).2) (hk1.keep0 hHeld) (hk2.keep0 hHeld) zo1 zo2).mono ?_
        rintro e w4 ⟨rfl, k4⟩
        rw [HS.out]
        refine hK_.out _ _ (by exact hHeld.trans k4) (fun hHeld => ?_)
        clear hK_ K
        try simp only [Act.put, List.setIfInBounds_toArray, List.set_cons_zero, List.set_cons_succ]
        refine wpB_take 4 _ ?_ rfl (by kernel_rfl) (fun _ _ _ h => h) rfl hHeld ?_ ?_
        rotate_left
        · (intro W hW; go_simp; try with_reducible rfl)
        try simp only [Act.put, List.setIfInBounds_toArray, List.set_cons_zero, List.set_cons_succ]
        refine wpB_take 5 _ ?_ rfl (by kernel_rfl) (fun _ _ _ h => h) rfl hHeld ?_ ?_
        rotate_left
        · (intro W hW; go_simp; try with_reducible rfl)
        try simp only [Act.put, List.setIfInBounds_toArray, List.set_cons_zero, List.set_cons_succ]
        refine wpB_take 6 _ ?_ rfl (by kernel_rfl) (fun _ _ _ h => h) rfl hHeld ?_ ?_
        rotate_left
        · (intro W hW; go_simp; try with_reducible rfl)
        try simp only [Act.put, List.setIfInBounds_toArray, List.set_cons_zero, List.set_cons_succ]
        refine wpB_take 7 _ ?_ rfl (by kernel_rfl) (fun _ _ _ h => h) rfl hHeld ?_ ?_
        rotate_left
        · (intro W hW; go_simp; try with_reducible rfl)
        try simp only [Act.put, List.setIfInBounds_toArray, List.set_cons_zero, List.set_cons_succ]
        refine wpB_step 8 _ rfl (by kernel_rfl) rfl rfl (fun K hK_ => ?_)
        go_simp
        refine (rnum _ _).mono ?_
        rintro e w5 ⟨rfl, rfl⟩
        rw [‹numOk _ = _›]
        refine hK_.out _ _ (by exact hHeld) (fun hHeld => ?_)
        clear hK_ K
        try simp only [Act.put, List.setIfInBounds_toArray, List.set_cons_zero, List.set_cons_succ]
        refine wpB_take 9 _ ?_ rfl (by kernel_rfl) (fun _ _ _ h => h) rfl hHeld ?_ ?_
        rotate_left
        · (intro W hW; go_simp; try with_reducible rfl)
        try simp only [Act.put, List.setIfInBounds_toArray, List.set_cons_zero, List.set_cons_succ]
        refine wpB_take 10 _ ?_ rfl (by kernel_rfl) (fun _ _ _ h => h) rfl hHeld ?_ ?_
        rotate_left
        · (intro W hW; go_simp; try with_reducible rfl)
        try simp only [Act.put, List.setIfInBounds_toArray, List.set_cons_zero, List.set_cons_succ]
        refine wpB_take 11 _ ?_ rfl (by kernel_rfl) (fun _ _ _ h => h) rfl hHeld ?_ ?_
        rotate_left
        · (intro W hW; go_simp; try with_reducible rfl)
        try simp only [Act.put, List.setIfInBounds_toArray, List.set_cons_zero, List.set_cons_succ]
        refine wpB_skip 12 _ rfl (by kernel_rfl) (fun _ _ _ h => h) rfl hHeld ?_
        try simp only [Act.put, List.setIfInBounds_toArray, List.set_cons_zero, List.set_cons_succ]
        refine wpB_skip 13 _ rfl (by kernel_rfl) (fun _ _ _ h => h) rfl hHeld ?_
        try simp only [Act.put, List.setIfInBounds_toArray, List.set_cons_zero, List.set_cons_succ]
        refine wpB_skip 14 _ rfl (by kernel_rfl) (fun _ _ _ h => h) rfl hHeld ?_
        try simp only [Act.put, List.setIfInBounds_toArray, List.set_cons_zero, List.set_cons_succ]
        refine wpB_skip 15 _ rfl (by kernel_rfl) (fun _ _ _ h => h) rfl hHeld ?_
        try simp only [Act.put, List.setIfInBounds_toArray, List.set_cons_zero, List.set_cons_succ]
        refine wpB_take 16 _ ?_ rfl (by kernel_rfl) (fun _ _ _ h => h) rfl hHeld ?_ ?_
        rotate_left
        · (intro W hW; go_simp; try with_reducible rfl)
        try simp only [Act.put, List.setIfInBounds_toArray, List.set_cons_zero, List.set_cons_succ]
        refine wpB_take 17 _ ?_ rfl (by kernel_rfl) (fun _ _ _ h => h) rfl hHeld ?_ ?_
        rotate_left
        · (intro W hW; go_simp; try with_reducible rfl)
        try simp only [Act.put, List.setIfInBounds_toArray, List.set_cons_zero, List.set_cons_succ]
        refine wpB_skip 18 _ rfl (by kernel_rfl) (fun _ _ _ h => h) rfl hHeld ?_
        try simp only [Act.put, List.setIfInBounds_toArray, List.set_cons_zero, List.set_cons_succ]
        refine wpB_skip 19 _ rfl (by kernel_rfl) (fun _ _ _ h => h) rfl hHeld ?_
        try simp only [Act.put, List.setIfInBounds_toArray, List.set_cons_zero, List.set_cons_succ]
        refine wpB_skip 20 _ rfl (by kernel_rfl) (fun _ _ _ h => h) rfl hHeld ?_
        try simp only [Act.put, List.setIfInBounds_toArray, List.set_cons_zero, List.set_cons_succ]
        refine wpB_skip 21 _ rfl (by kernel_rfl) (fun _ _ _ h => h) rfl hHeld ?_
        try simp only [Act.put, List.setIfInBounds_toArray, List.set_cons_zero, List.set_cons_succ]
        refine wpB_take 22 _ ?_ rfl (by kernel_rfl) (fun _ _ _ h => h) rfl hHeld ?_ ?_
        rotate_left
        · (intro W hW; go_simp; try with_reducible rfl)
        try simp only [Act.put, List.setIfInBounds_toArray, List.set_cons_zero, List.set_cons_succ]
        refine wpB_done (by kernel_rfl) ?_ _
        have hr : R = 1 := by rw [HR.out]; unfold checkC; rw [if_neg (by omega), if_neg (by omega), if_neg HCAL.out, HS.out, h1]; rfl
        subst hr
        go_wp2_with fail
        go_ret
        exact ⟨rfl, kw0.trans hHeld⟩
      | true =>
        cases h2 : numOk c.a with
        | false =>
          refine wpB_begin 999 (Kp [] w0) (by kernel_rfl) (by exact hK.drew) (fun hHeld => ?_)
          refine wpB_take 0 _ ?_ rfl (by kernel_rfl) (fun _ _ _ h => h) rfl hHeld ?_ ?_
          rotate_left
          · (intro W hW; go_simp; try with_reducible rfl)
          try simp only [Act.put, List.setIfInBounds_toArray, List.set_cons_zero, List.set_cons_succ]
          refine wpB_take 2 _ ?_ rfl (by kernel_rfl) (fun _ _ _ h => h) rfl hHeld ?_ ?_
          rotate_left
          · (intro W hW; go_simp; try with_reducible rfl)
          try simp only [Act.put, List.setIfInBounds_toArray, List.set_cons_zero, List.set_cons_succ]
          refine wpB_step 1 _ rfl (by kernel_rfl) rfl rfl (fun K hK_ => ?_)
          go_simp
          refine (ronly c ka ta c.keep.length kc c.torn.length tc _).mono ?_
          rintro e w3 ⟨rfl, k3⟩
          refine hK_.out _ _ (by exact hHeld.trans k3) (fun hHeld => ?_)
          clear hK_ K
          try simp only [Act.put, List.setIfInBounds_toArray, List.set_cons_zero, List.set_cons_succ]
          refine wpB_step 3 _ rfl (by kernel_rfl) rfl rfl (fun K hK_ => ?_)
          go_simp
          refine (r23same (onlyC c) c _ _ _ _ _ _ (onlyV_at (hk1.keep0 hHeld) (only_keep c).1) (onlyV_at (hk2.keep0 hHeld) (only_keep c).2) (hk1.keep0 hHeld) (hk2.keep0 hHeld) zo1 zo2).mono ?_
          rintro e w4 ⟨rfl, k4⟩
          rw [HS.out]
          refine hK_.out _ _ (by exact hHeld.trans k4) (fun hHeld => ?_)
          clear hK_ K
          try simp only [Act.put, List.setIfInBounds_toArray, List.set_cons_zero, List.set_cons_succ]
          refine wpB_take 4 _ ?_ rfl (by kernel_rfl) (fun _ _ _ h => h) rfl hHeld ?_ ?_
          rotate_left
          · (intro W hW; go_simp; try with_reducible rfl)
          try simp only [Act.put, List.setIfInBounds_toArray, List.set_cons_zero, List.set_cons_succ]
          refine wpB_take 5 _ ?_ rfl (by kernel_rfl) (fun _ _ _ h => h) rfl hHeld ?_ ?_
          rotate_left
          · (intro W hW; go_simp; try with_reducible rfl)
          try simp only [Act.put, List.setIfInBounds_toArray, List.set_cons_zero, List.set_cons_succ]
          refine wpB_take 6 _ ?_ rfl (by kernel_rfl) (fun _ _ _ h => h) rfl hHeld ?_ ?_
          rotate_left
          · (intro W hW; go_simp; try with_reducible rfl)
          try simp only [Act.put, List.setIfInBounds_toArray, List.set_cons_zero, List.set_cons_succ]
          refine wpB_take 7 _ ?_ rfl (by kernel_rfl) (fun _ _ _ h => h) rfl hHeld ?_ ?_
          rotate_left
          · (intro W hW; go_simp; try with_reducible rfl)
          try simp only [Act.put, List.setIfInBounds_toArray, List.set_cons_zero, List.set_cons_succ]
          refine wpB_step 8 _ rfl (by kernel_rfl) rfl rfl (fun K hK_ => ?_)
          go_simp
          refine (rnum _ _).mono ?_
          rintro e w5 ⟨rfl, rfl⟩
          rw [‹numOk _ = _›]
          refine hK_.out _ _ (by exact hHeld) (fun hHeld => ?_)
          clear hK_ K
          try simp only [Act.put, List.setIfInBounds_toArray, List.set_cons_zero, List.set_cons_succ]
          refine wpB_take 9 _ ?_ rfl (by kernel_rfl) (fun _ _ _ h => h) rfl hHeld ?_ ?_
          rotate_left
          · (intro W hW; go_simp; try with_reducible rfl)
          try simp only [Act.put, List.setIfInBounds_toArray, List.set_cons_zero, List.set_cons_succ]
          refine wpB_take 10 _ ?_ rfl (by kernel_rfl) (fun _ _ _ h => h) rfl hHeld ?_ ?_
          rotate_left
          · (intro W hW; go_simp; try with_reducible rfl)
          try simp only [Act.put, List.setIfInBounds_toArray, List.set_cons_zero, List.set_cons_succ]
          refine wpB_take 11 _ ?_ rfl (by kernel_rfl) (fun _ _ _ h => h) rfl hHeld ?_ ?_
          rotate_left
          · (intro W hW; go_simp; try with_reducible rfl)
          try simp only [Act.put, List.setIfInBounds_toArray, List.set_cons_zero, List.set_cons_succ]
          refine wpB_take 12 _ ?_ rfl (by kernel_rfl) (fun _ _ _ h => h) rfl hHeld ?_ ?_
          rotate_left
          · (intro W hW; go_simp; try with_reducible rfl)
          try simp only [Act.put, List.setIfInBounds_toArray, List.set_cons_zero, List.set_cons_succ]
          refine wpB_take 13 _ ?_ rfl (by kernel_rfl) (fun _ _ _ h => h) rfl hHeld ?_ ?_
          rotate_left
          · (intro W hW; go_simp; try with_reducible rfl)
          try simp only [Act.put, List.setIfInBounds_toArray, List.set_cons_zero, List.set_cons_succ]
          refine wpB_step 14 _ rfl (by kernel_rfl) rfl rfl (fun K hK_ => ?_)
          go_simp
          refine (rnum _ _).mono ?_
          rintro e w5 ⟨rfl, rfl⟩
          rw [‹numOk _ = _›]
          refine hK_.out _ _ (by exact hHeld) (fun hHeld => ?_)
          clear hK_ K
          try simp only [Act.put, List.setIfInBounds_toArray, List.set_cons_zero, List.set_cons_succ]
          refine wpB_take 15 _ ?_ rfl (by kernel_rfl) (fun _ _ _ h => h) rfl hHeld ?_ ?_
          rotate_left
          · (intro W hW; go_simp; try with_reducible rfl)
          try simp only [Act.put, List.setIfInBounds_toArray, List.set_cons_zero, List.set_cons_succ]
          refine wpB_take 16 _ ?_ rfl (by kernel_rfl) (fun _ _ _ h => h) rfl hHeld ?_ ?_
          rotate_left
          · (intro W hW; go_simp; try with_reducible rfl)
          try simp only [Act.put, List.setIfInBounds_toArray, List.set_cons_zero, List.set_cons_succ]
          refine wpB_take 17 _ ?_ rfl (by kernel_rfl) (fun _ _ _ h => h) rfl hHeld ?_ ?_
          rotate_left
          · (intro W hW; go_simp; try with_reducible rfl)
          try simp only [Act.put, List.setIfInBounds_toArray, List.set_cons_zero, List.set_cons_succ]
          refine wpB_skip 18 _ rfl (by kernel_rfl) (fun _ _ _ h => h) rfl hHeld ?_
          try simp only [Act.put, List.setIfInBounds_toArray, List.set_cons_zero, List.set_cons_succ]
          refine wpB_skip 19 _ rfl (by kernel_rfl) (fun _ _ _ h => h) rfl hHeld ?_
          try simp only [Act.put, List.setIfInBounds_toArray, List.set_cons_zero, List.set_cons_succ]
          refine wpB_skip 20 _ rfl (by kernel_rfl) (fun _ _ _ h => h) rfl hHeld ?_
          try simp only [Act.put, List.setIfInBounds_toArray, List.set_cons_zero, List.set_cons_succ]
          refine wpB_skip 21 _ rfl (by kernel_rfl) (fun _ _ _ h => h) rfl hHeld ?_
          try simp only [Act.put, List.setIfInBounds_toArray, List.set_cons_zero, List.set_cons_succ]
          refine wpB_take 22 _ ?_ rfl (by kernel_rfl) (fun _ _ _ h => h) rfl hHeld ?_ ?_
          rotate_left
          · (intro W hW; go_simp; try with_reducible rfl)
          try simp only [Act.put, List.setIfInBounds_toArray, List.set_cons_zero, List.set_cons_succ]
          refine wpB_done (by kernel_rfl) ?_ _
          have hr : R = 1 := by rw [HR.out]; unfold checkC; rw [if_neg (by omega), if_neg (by omega), if_neg HCAL.out, HS.out, h1, h2]; rfl
          subst hr
          go_wp2_with fail
          go_ret
          exact ⟨rfl, kw0.trans hHeld⟩
        | true =>
          cases h3 : numOk c.b with
          | false =>
            refine wpB_begin 999 (Kp [] w0) (by kernel_rfl) (by exact hK.drew) (fun hHeld => ?_)
            refine wpB_take 0 _ ?_ rfl (by kernel_rfl) (fun _ _ _ h => h) rfl hHeld ?_ ?_
            rotate_left
            · (intro W hW; go_simp; try with_reducible rfl)
            try simp only [Act.put, List.setIfInBounds_toArray, List.set_cons_zero, List.set_cons_succ]
            refine wpB_take 2 _ ?_ rfl (by kernel_rfl) (fun _ _ _ h => h) rfl hHeld ?_ ?_
            rotate_left
            · (intro W hW; go_simp; try with_reducible rfl)
            try simp only [Act.put, List.setIfInBounds_toArray, List.set_cons_zero, List.set_cons_succ]
            refine wpB_step 1 _ rfl (by kernel_rfl) rfl rfl (fun K hK_ => ?_)
            go_simp
            refine (ronly c ka ta c.keep.length kc c.torn.length tc _).mono ?_
            rintro e w3 ⟨rfl, k3⟩
            refine hK_.out _ _ (by exact hHeld.trans k3) (fun hHeld => ?_)
            clear hK_ K
            try simp only [Act.put, List.setIfInBounds_toArray, List.set_cons_zero, List.set_cons_succ]
            refine wpB_step 3 _ rfl (by kernel_rfl) rfl rfl (fun K hK_ => ?_)
            go_simp
            refine (r23same (onlyC c) c _ _ _ _ _ _ (onlyV_at (hk1.keep0 hHeld) (only_keep c).1) (onlyV_at (hk2.keep0 hHeld) (only_keep c).2) (hk1.keep0 hHeld) (hk2.keep0 hHeld) zo1 zo2).mono ?_
            rintro e w4 ⟨rfl, k4⟩
            rw [HS.out]
            refine hK_.out _ _ (by exact hHeld.trans k4) (fun hHeld => ?_)
            clear hK_ K
            try simp only [Act.put, List.setIfInBounds_toArray, List.set_cons_zero, List.set_cons_succ]
            refine wpB_take 4 _ ?_ rfl (by kernel_rfl) (fun _ _ _ h => h) rfl hHeld ?_ ?_
            rotate_left
            · (intro W hW; go_simp; try with_reducible rfl)
            try simp only [Act.put, List.setIfInBounds_toArray, List.set_cons_zero, List.set_cons_succ]
            refine wpB_take 5 _ ?_ rfl (by kernel_rfl) (fun _ _ _ h => h) rfl hHeld ?_ ?_
            rotate_left
            · (intro W hW; go_simp; try with_reducible rfl)
            try simp only [Act.put, List.setIfInBounds_toArray, List.set_cons_zero, List.set_cons_succ]
            refine wpB_take 6 _ ?_ rfl (by kernel_rfl) (fun _ _ _ h => h) rfl hHeld ?_ ?_
            rotate_left
            · (intro W hW; go_simp; try with_reducible rfl)
            try simp only [Act.put, List.setIfInBounds_toArray, List.set_cons_zero, List.set_cons_succ]
            refine wpB_take 7 _ ?_ rfl (by kernel_rfl) (fun _ _ _ h => h) rfl hHeld ?_ ?_
            rotate_left
            · (intro W hW; go_simp; try with_reducible rfl)
            try simp only [Act.put, List.setIfInBounds_toArray, List.set_cons_zero, List.set_cons_succ]
            refine wpB_step 8 _ rfl (by kernel_rfl) rfl rfl (fun K hK_ => ?_)
            go_simp
            refine (rnum _ _).mono ?_
            rintro e w5 ⟨rfl, rfl⟩
            rw [‹numOk _ = _›]
            refine hK_.out _ _ (by exact hHeld) (fun hHeld => ?_)
            clear hK_ K
            try simp only [Act.put, List.setIfInBounds_toArray, List.set_cons_zero, List.set_cons_succ]
            refine wpB_take 9 _ ?_ rfl (by kernel_rfl) (fun _ _ _ h => h) rfl hHeld ?_ ?_
            rotate_left
            · (intro W hW; go_simp; try with_reducible rfl)
            try simp only [Act.put, List.setIfInBounds_toArray, List.set_cons_zero, List.set_cons_succ]
            refine wpB_take 10 _ ?_ rfl (by kernel_rfl) (fun _ _ _ h => h) rfl hHeld ?_ ?_
            rotate_left
            · (intro W hW; go_simp; try with_reducible rfl)
            try simp only [Act.put, List.setIfInBounds_toArray, List.set_cons_zero, List.set_cons_succ]
            refine wpB_take 11 _ ?_ rfl (by kernel_rfl) (fun _ _ _ h => h) rfl hHeld ?_ ?_
            rotate_left
            · (intro W hW; go_simp; try with_reducible rfl)
            try simp only [Act.put, List.setIfInBounds_toArray, List.set_cons_zero, List.set_cons_succ]
            refine wpB_take 12 _ ?_ rfl (by kernel_rfl) (fun _ _ _ h => h) rfl hHeld ?_ ?_
            rotate_left
            · (intro W hW; go_simp; try with_reducible rfl)
            try simp only [Act.put, List.setIfInBounds_toArray, List.set_cons_zero, List.set_cons_succ]
            refine wpB_take 13 _ ?_ rfl (by kernel_rfl) (fun _ _ _ h => h) rfl hHeld ?_ ?_
            rotate_left
            · (intro W hW; go_simp; try with_reducible rfl)
            try simp only [Act.put, List.setIfInBounds_toArray, List.set_cons_zero, List.set_cons_succ]
            refine wpB_step 14 _ rfl (by kernel_rfl) rfl rfl (fun K hK_ => ?_)
            go_simp
            refine (rnum _ _).mono ?_
            rintro e w5 ⟨rfl, rfl⟩
            rw [‹numOk _ = _›]
            refine hK_.out _ _ (by exact hHeld) (fun hHeld => ?_)
            clear hK_ K
            try simp only [Act.put, List.setIfInBounds_toArray, List.set_cons_zero, List.set_cons_succ]
            refine wpB_take 15 _ ?_ rfl (by kernel_rfl) (fun _ _ _ h => h) rfl hHeld ?_ ?_
            rotate_left
            · (intro W hW; go_simp; try with_reducible rfl)
            try simp only [Act.put, List.setIfInBounds_toArray, List.set_cons_zero, List.set_cons_succ]
            refine wpB_take 16 _ ?_ rfl (by kernel_rfl) (fun _ _ _ h => h) rfl hHeld ?_ ?_
            rotate_left
            · (intro W hW; go_simp; try with_reducible rfl)
            try simp only [Act.put, List.setIfInBounds_toArray, List.set_cons_zero, List.set_cons_succ]
            refine wpB_take 17 _ ?_ rfl (by kernel_rfl) (fun _ _ _ h => h) rfl hHeld ?_ ?_
            rotate_left
            · (intro W hW; go_simp; try with_reducible rfl)
            try simp only [Act.put, List.setIfInBounds_toArray, List.set_cons_zero, List.set_cons_succ]
            refine wpB_take 18 _ ?_ rfl (by kernel_rfl) (fun _ _ _ h => h) rfl hHeld ?_ ?_
            rotate_left
            · (intro W hW; go_simp; try with_reducible rfl)
            try simp only [Act.put, List.setIfInBounds_toArray, List.set_cons_zero, List.set_cons_succ]
            refine wpB_take 19 _ ?_ rfl (by kernel_rfl) (fun _ _ _ h => h) rfl hHeld ?_ ?_
            rotate_left
            · (intro W hW; go_simp; try with_reducible rfl)
            try simp only [Act.put, List.setIfInBounds_toArray, List.set_cons_zero, List.set_cons_succ]
            refine wpB_step 20 _ rfl (by kernel_rfl) rfl rfl (fun K hK_ => ?_)
            go_simp
            refine (rnum _ _).mono ?_
            rintro e w5 ⟨rfl, rfl⟩
            rw [‹numOk _ = _›]
            refine hK_.out _ _ (by exact hHeld) (fun hHeld => ?_)
            clear hK_ K
            try simp only [Act.put, List.setIfInBounds_toArray, List.set_cons_zero, List.set_cons_succ]
            refine wpB_take 21 _ ?_ rfl (by kernel_rfl) (fun _ _ _ h => h) rfl hHeld ?_ ?_
            rotate_left
            · (intro W hW; go_simp; try with_reducible rfl)
            try simp only [Act.put, List.setIfInBounds_toArray, List.set_cons_zero, List.set_cons_succ]
            refine wpB_take 22 _ ?_ rfl (by kernel_rfl) (fun _ _ _ h => h) rfl hHeld ?_ ?_
            rotate_left
            · (intro W hW; go_simp; try with_reducible rfl)
            try simp only [Act.put, List.setIfInBounds_toArray, List.set_cons_zero, List.set_cons_succ]
            refine wpB_done (by kernel_rfl) ?_ _
            have hr : R = 1 := by rw [HR.out]; unfold checkC; rw [if_neg (by omega), if_neg (by omega), if_neg HCAL.out, HS.out, h1, h2, h3]; rfl
            subst hr
            go_wp2_with fail
            go_ret
            exact ⟨rfl, kw0.trans hHeld⟩
          | true =>
            refine wpB_begin 999 (Kp [] w0) (by kernel_rfl) (by exact hK.drew) (fun hHeld => ?_)
            refine wpB_take 0 _ ?_ rfl (by kernel_rfl) (fun _ _ _ h => h) rfl hHeld ?_ ?_
            rotate_left
            · (intro W hW; go_simp; try with_reducible rfl)
            try simp only [Act.put, List.setIfInBounds_toArray, List.set_cons_zero, List.set_cons_succ]
            refine wpB_take 2 _ ?_ rfl (by kernel_rfl) (fun _ _ _ h => h) rfl hHeld ?_ ?_
            rotate_left
            · (intro W hW; go_simp; try with_reducible rfl)
            try simp only [Act.put, List.setIfInBounds_toArray, List.set_cons_zero, List.set_cons_succ]
            refine wpB_step 1 _ rfl (by kernel_rfl) rfl rfl (fun K hK_ => ?_)
            go_simp
            refine (ronly c ka ta c.keep.length kc c.torn.length tc _).mono ?_
            rintro e w3 ⟨rfl, k3⟩
            refine hK_.out _ _ (by exact hHeld.trans k3) (fun hHeld => ?_)
            clear hK_ K
            try simp only [Act.put, List.setIfInBounds_toArray, List.set_cons_zero, List.set_cons_succ]
            refine wpB_step 3 _ rfl (by kernel_rfl) rfl rfl (fun K hK_ => ?_)
            go_simp
            refine (r23same (onlyC c) c _ _ _ _ _ _ (onlyV_at (hk1.keep0 hHeld) (only_keep c).1) (onlyV_at (hk2.keep0 hHeld) (only_keep c).2) (hk1.keep0 hHeld) (hk2.keep0 hHeld) zo1 zo2).mono ?_
            rintro e w4 ⟨rfl, k4⟩
            rw [HS.out]
            refine hK_.out _ _ (by exact hHeld.trans k4) (fun hHeld => ?_)
            clear hK_ K
            try simp only [Act.put, List.setIfInBounds_toArray, List.set_cons_zero, List.set_cons_succ]
            refine wpB_take 4 _ ?_ rfl (by kernel_rfl) (fun _ _ _ h => h) rfl hHeld ?_ ?_
            rotate_left
            · (intro W hW; go_simp; try with_reducible rfl)
            try simp only [Act.put, List.setIfInBounds_toArray, List.set_cons_zero, List.set_cons_succ]
            refine wpB_take 5 _ ?_ rfl (by kernel_rfl) (fun _ _ _ h => h) rfl hHeld ?_ ?_
            rotate_left
            · (intro W hW; go_simp; try with_reducible rfl)
            try simp only [Act.put, List.setIfInBounds_toArray, List.set_cons_zero, List.set_cons_succ]
            refine wpB_take 6 _ ?_ rfl (by kernel_rfl) (fun _ _ _ h => h) rfl hHeld ?_ ?_
            rotate_left
            · (intro W hW; go_simp; try with_reducible rfl)
            try simp only [Act.put, List.setIfInBounds_toArray, List.set_cons_zero, List.set_cons_succ]
            refine wpB_take 7 _ ?_ rfl (by kernel_rfl) (fun _ _ _ h => h) rfl hHeld ?_ ?_
            rotate_left
            · (intro W hW; go_simp; try with_reducible rfl)
            try simp only [Act.put, List.setIfInBounds_toArray, List.set_cons_zero, List.set_cons_succ]
            refine wpB_step 8 _ rfl (by kernel_rfl) rfl rfl (fun K hK_ => ?_)
            go_simp
            refine (rnum _ _).mono ?_
            rintro e w5 ⟨rfl, rfl⟩
            rw [‹numOk _ = _›]
            refine hK_.out _ _ (by exact hHeld) (fun hHeld => ?_)
            clear hK_ K
            try simp only [Act.put, List.setIfInBounds_toArray, List.set_cons_zero, List.set_cons_succ]
            refine wpB_take 9 _ ?_ rfl (by kernel_rfl) (fun _ _ _ h => h) rfl hHeld ?_ ?_
            rotate_left
            · (intro W hW; go_simp; try with_reducible rfl)
            try simp only [Act.put, List.setIfInBounds_toArray, List.set_cons_zero, List.set_cons_succ]
            refine wpB_take 10 _ ?_ rfl (by kernel_rfl) (fun _ _ _ h => h) rfl hHeld ?_ ?_
            rotate_left
            · (intro W hW; go_simp; try with_reducible rfl)
            try simp only [Act.put, List.setIfInBounds_toArray, List.set_cons_zero, List.set_cons_succ]
            refine wpB_take 11 _ ?_ rfl (by kernel_rfl) (fun _ _ _ h => h) rfl hHeld ?_ ?_
            rotate_left
            · (intro W hW; go_simp; try with_reducible rfl)
            try simp only [Act.put, List.setIfInBounds_toArray, List.set_cons_zero, List.set_cons_succ]
            refine wpB_take 12 _ ?_ rfl (by kernel_rfl) (fun _ _ _ h => h) rfl hHeld ?_ ?_
            rotate_left
            · (intro W hW; go_simp; try with_reducible rfl)
            try simp only [Act.put, List.setIfInBounds_toArray, List.set_cons_zero, List.set_cons_succ]
            refine wpB_take 13 _ ?_ rfl (by kernel_rfl) (fun _ _ _ h => h) rfl hHeld ?_ ?_
            rotate_left
            · (intro W hW; go_simp; try with_reducible rfl)
            try simp only [Act.put, List.setIfInBounds_toArray, List.set_cons_zero, List.set_cons_succ]
            refine wpB_step 14 _ rfl (by kernel_rfl) rfl rfl (fun K hK_ => ?_)
            go_simp
            refine (rnum _ _).mono ?_
            rintro e w5 ⟨rfl, rfl⟩
            rw [‹numOk _ = _›]
            refine hK_.out _ _ (by exact hHeld) (fun hHeld => ?_)
            clear hK_ K
            try simp only [Act.put, List.setIfInBounds_toArray, List.set_cons_zero, List.set_cons_succ]
            refine wpB_take 15 _ ?_ rfl (by kernel_rfl) (fun _ _ _ h => h) rfl hHeld ?_ ?_
            rotate_left
            · (intro W hW; go_simp; try with_reducible rfl)
            try simp only [Act.put, List.setIfInBounds_toArray, List.set_cons_zero, List.set_cons_succ]
            refine wpB_take 16 _ ?_ rfl (by kernel_rfl) (fun _ _ _ h => h) rfl hHeld ?_ ?_
            rotate_left
            · (intro W hW; go_simp; try with_reducible rfl)
            try simp only [Act.put, List.setIfInBounds_toArray, List.set_cons_zero, List.set_cons_succ]
            refine wpB_take 17 _ ?_ rfl (by kernel_rfl) (fun _ _ _ h => h) rfl hHeld ?_ ?_
            rotate_left
            · (intro W hW; go_simp; try with_reducible rfl)
            try simp only [Act.put, List.setIfInBounds_toArray, List.set_cons_zero, List.set_cons_succ]
            refine wpB_take 18 _ ?_ rfl (by kernel_rfl) (fun _ _ _ h => h) rfl hHeld ?_ ?_
            rotate_left
            · (intro W hW; go_simp; try with_reducible rfl)
            try simp only [Act.put, List.setIfInBounds_toArray, List.set_cons_zero, List.set_cons_succ]
            refine wpB_take 19 _ ?_ rfl (by kernel_rfl) (fun _ _ _ h => h) rfl hHeld ?_ ?_
            rotate_left
            · (intro W hW; go_simp; try with_reducible rfl)
            try simp only [Act.put, List.setIfInBounds_toArray, List.set_cons_zero, List.set_cons_succ]
            refine wpB_step 20 _ rfl (by kernel_rfl) rfl rfl (fun K hK_ => ?_)
            go_simp
            refine (rnum _ _).mono ?_
            rintro e w5 ⟨rfl, rfl⟩
            rw [‹numOk _ = _›]
            refine hK_.out _ _ (by exact hHeld) (fun hHeld => ?_)
            clear hK_ K
            try simp only [Act.put, List.setIfInBounds_toArray, List.set_cons_zero, List.set_cons_succ]
            refine wpB_take 21 _ ?_ rfl (by kernel_rfl) (fun _ _ _ h => h) rfl hHeld ?_ ?_
            rotate_left
            · (intro W hW; go_simp; try with_reducible rfl)
            try simp only [Act.put, List.setIfInBounds_toArray, List.set_cons_zero, List.set_cons_succ]
            refine wpB_take 22 _ ?_ rfl (by kernel_rfl) (fun _ _ _ h => h) rfl hHeld ?_ ?_
            rotate_left
            · (intro W hW; go_simp; try with_reducible rfl)
            try simp only [Act.put, List.setIfInBounds_toArray, List.set_cons_zero, List.set_cons_succ]
            refine wpB_done (by kernel_rfl) ?_ _
            have hr : R = 0 := by rw [HR.out]; unfold checkC; rw [if_neg (by omega), if_neg (by omega), if_neg HCAL.out, HS.out, h1, h2, h3]; rfl
            subst hr
            go_wp2_with fail
            go_ret
            exact ⟨rfl, kw0.trans hHeld⟩
end Go.Proofs.YtmihnakapnoefaaGreatDoor
