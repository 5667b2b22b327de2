/-
  A command between the document's form and the program's; which commands are small; some answers that the document gives (live).
-/
import Derived.Test.YtmihnakapnoefaaGreatDoorScrF
import Derived.Test.YtmihnakapnoefaaGreatDoorScrP
namespace Go.Proofs.YtmihnakapnoefaaGreatDoor
open Go.RowKit Go.WideShapes

def smallC (c : Cmd) : Bool := decide (c.rs.size ≤ 100) && decide (c.rv.size ≤ 500) && decide (c.text.size ≤ 300) && decide (c.keep.length ≤ 100) && decide (c.torn.length ≤ 100)
theorem smallC_iff (c : Cmd) : smallC c = true ↔ c.rs.size ≤ 100 ∧ c.rv.size ≤ 500 ∧ c.text.size ≤ 300 ∧ c.keep.length ≤ 100 ∧ c.torn.length ≤ 100 := by
  unfold smallC
  simp only [Bool.and_eq_true, decide_eq_true_eq]
  constructor
  · rintro ⟨⟨⟨⟨a, b⟩, c⟩, d⟩, e⟩; exact ⟨a, b, c, d, e⟩
  · rintro ⟨a, b, c, d, e⟩; exact ⟨⟨⟨⟨a, b⟩, c⟩, d⟩, e⟩
set_option maxHeartbeats 2000000 in
set_option maxRecDepth 20000 in
theorem own_any (c : Cmd) (ka ta : Option Addr) (kn kc tn tc : Nat) (w : World) : Calls Tryz.prog 8 #[.agg (CmdV c (.slice ka kn kc) (.slice ta tn tc))] w fun e w' => e = .returned (.agg (CmdV c (.slice ka kn kc) (.slice ta tn tc))) ∧ Kp [] w w' := by
  obtain ⟨x0, x1, x2, x3, x4, x5, x6, x7, lx, tx⟩ := c
  simp only [CmdV]
  go_enter Tryz.func8, Tryz.ntmps8
  go_wp2_with fail
  obtain ⟨Z, hZ⟩ : ∃ Z, Z = (w.alloc (.cells #[.int .i64 x0, .int .i64 x1, .string x2, .string x3, .int .i64 x4, .int .i64 x5, .int .i64 x6, .string x7, .slice ka kn kc, .slice ta tn tc] 26)).alloc (.cells #[.int .i64 x0, .int .i64 x1, .string x2, .string x3, .int .i64 x4, .int .i64 x5, .int .i64 x6, .string x7, .slice ka kn kc, .slice ta tn tc] 32) := ⟨_, rfl⟩
  have hz : Z.heap[w.heap.size + 1]? = some (.cells #[.int .i64 x0, .int .i64 x1, .string x2, .string x3, .int .i64 x4, .int .i64 x5, .int .i64 x6, .string x7, .slice ka kn kc, .slice ta tn tc] 32 (0, 0)) := by rw [hZ]; exact two_new _ _ _
  have hkz : Kp [] w Z := hZ ▸ ((Kp.refl _ _).alloc _).alloc _
  rw [← hZ]
  have HZ := Lib.hid hZ
  clear hZ
  obtain ⟨⟨z0, z1, z2, z3, z4, z5, z6, z7, z8, z9⟩, -⟩ := read10 hz
  refine bodyPost_ret (by simp [results, Tryz.results8, go_sem, z0, z1, z2, z3, z4, z5, z6, z7, z8, z9]; try rfl) rfl ?_
  exact ⟨rfl, hkz⟩
set_option maxHeartbeats 2000000 in
set_option maxRecDepth 20000 in
theorem told_any (c : Cmd) (ka ta : Option Addr) (kn kc tn tc : Nat) (w : World) : Calls Tryz.prog 15 #[.agg (CmdV c (.slice ka kn kc) (.slice ta tn tc))] w fun e w' => e = .returned (.agg (CmdV c (.slice ka kn kc) (.slice ta tn tc))) ∧ Kp [] w w' := by
  obtain ⟨x0, x1, x2, x3, x4, x5, x6, x7, lx, tx⟩ := c
  simp only [CmdV]
  go_enter Tryz.func15, Tryz.ntmps15
  go_wp2_with fail
  obtain ⟨Z, hZ⟩ : ∃ Z, Z = (w.alloc (.cells #[.int .i64 x0, .int .i64 x1, .string x2, .string x3, .int .i64 x4, .int .i64 x5, .int .i64 x6, .string x7, .slice ka kn kc, .slice ta tn tc] 32)).alloc (.cells #[.int .i64 x0, .int .i64 x1, .string x2, .string x3, .int .i64 x4, .int .i64 x5, .int .i64 x6, .string x7, .slice ka kn kc, .slice ta tn tc] 26) := ⟨_, rfl⟩
  have hz : Z.heap[w.heap.size + 1]? = some (.cells #[.int .i64 x0, .int .i64 x1, .string x2, .string x3, .int .i64 x4, .int .i64 x5, .int .i64 x6, .string x7, .slice ka kn kc, .slice ta tn tc] 26 (0, 0)) := by rw [hZ]; exact two_new _ _ _
  have hkz : Kp [] w Z := hZ ▸ ((Kp.refl _ _).alloc _).alloc _
  rw [← hZ]
  have HZ := Lib.hid hZ
  clear hZ
  obtain ⟨⟨z0, z1, z2, z3, z4, z5, z6, z7, z8, z9⟩, -⟩ := read10 hz
  refine bodyPost_ret (by simp [results, Tryz.results15, go_sem, z0, z1, z2, z3, z4, z5, z6, z7, z8, z9]; try rfl) rfl ?_
  exact ⟨rfl, hkz⟩
set_option maxHeartbeats 2000000 in
set_option maxRecDepth 20000 in
theorem small_any (c : Cmd) (ka ta : Option Addr) (kc tc : Nat) (w : World) (zk : c.keep.length ≤ maxLen) (zt : c.torn.length ≤ maxLen) : Calls Tryz.prog 5 #[.agg (CmdV c (.slice ka c.keep.length kc) (.slice ta c.torn.length tc))] w fun e w' => e = .returned (.bool (smallC c)) ∧ Kp [] w w' := by
  obtain ⟨x0, x1, x2, x3, x4, x5, x6, x7, lx, tx⟩ := c
  simp only [CmdV] at zk zt ⊢
  obtain ⟨n, hn⟩ : ∃ n, n = lx.length := ⟨_, rfl⟩
  obtain ⟨m, hm⟩ : ∃ m, m = tx.length := ⟨_, rfl⟩
  have hS : smallC ⟨x0, x1, x2, x3, x4, x5, x6, x7, lx, tx⟩ = (decide (x2.size ≤ 100) && decide (x3.size ≤ 500) && decide (x7.size ≤ 300) && decide (n ≤ 100) && decide (m ≤ 100)) := by rw [hn, hm]; rfl
  rw [hS]
  rw [← hn] at zk ⊢
  rw [← hm] at zt ⊢
  unfold maxLen at zk zt
  obtain ⟨w0, hw0⟩ : ∃ w0, w0 = w.alloc (.cells #[.int .i64 x0, .int .i64 x1, .string x2, .string x3, .int .i64 x4, .int .i64 x5, .int .i64 x6, .string x7, .slice ka n kc, .slice ta m tc] 26) := ⟨_, rfl⟩
  have kw0 : Kp [] w w0 := hw0 ▸ (Kp.refl _ _).alloc _
  have hbx : w0.heap[w.heap.size]? = some (.cells #[.int .i64 x0, .int .i64 x1, .string x2, .string x3, .int .i64 x4, .int .i64 x5, .int .i64 x6, .string x7, .slice ka n kc, .slice ta m tc] 26 (0, 0)) := by rw [hw0]; exact block_new _ _
  obtain ⟨⟨a0, a1, a2, a3, a4, a5, a6, a7, a8, a9⟩, -⟩ := read10 hbx
  have Hw0 := Lib.hid hw0
  clear hw0 hbx hS hn hm
  by_cases h1 : x2.size ≤ 100
  · by_cases h2 : x3.size ≤ 500
    · by_cases h3 : x7.size ≤ 300
      · by_cases h4 : n ≤ 100
        · by_cases h5 : m ≤ 100
          · rw [decide_eq_true h1, decide_eq_true h2, decide_eq_true h3, decide_eq_true h4, decide_eq_true h5]
            have hd : decide ((m : Int) ≤ 100) = true := by simp; omega
            go_enter Tryz.func5, Tryz.ntmps5
            go_wp2_with fail
            rw [← Hw0.out]
            go_wp2_with fail
            go_ret
            exact ⟨rfl, kw0⟩
          · rw [decide_eq_true h1, decide_eq_true h2, decide_eq_true h3, decide_eq_true h4, decide_eq_false h5]
            have hd : decide ((m : Int) ≤ 100) = false := by simp; omega
            go_enter Tryz.func5, Tryz.ntmps5
            go_wp2_with fail
            rw [← Hw0.out]
            go_wp2_with fail
            go_ret
            exact ⟨rfl, kw0⟩
        · rw [decide_eq_true h1, decide_eq_true h2, decide_eq_true h3, decide_eq_false h4, Bool.and_false, Bool.false_and]
          go_enter Tryz.func5, Tryz.ntmps5
          go_wp2_with fail
          rw [← Hw0.out]
          go_wp2_with fail
          go_ret
          exact ⟨rfl, kw0⟩
      · rw [decide_eq_true h1, decide_eq_true h2, decide_eq_false h3, Bool.and_false, Bool.false_and, Bool.false_and]
        go_enter Tryz.func5, Tryz.ntmps5
        go_wp2_with fail
        rw [← Hw0.out]
        go_wp2_with fail
        go_ret
        exact ⟨rfl, kw0⟩
    · rw [decide_eq_true h1, decide_eq_false h2, Bool.and_false, Bool.false_and, Bool.false_and, Bool.false_and]
      go_enter Tryz.func5, Tryz.ntmps5
      go_wp2_with fail
      rw [← Hw0.out]
      go_wp2_with fail
      go_ret
      exact ⟨rfl, kw0⟩
  · rw [decide_eq_false h1, Bool.false_and, Bool.false_and, Bool.false_and, Bool.false_and]
    go_enter Tryz.func5, Tryz.ntmps5
    go_wp2_with fail
    rw [← Hw0.out]
    go_wp2_with fail
    go_ret
    exact ⟨rfl, kw0⟩
end Go.Proofs.YtmihnakapnoefaaGreatDoor
