/-
  Small records.
-/
import Derived.Test.YtdhhddifmkijhaaIdxF
namespace Go.Proofs.Ytdhhddifmkijhaa
open Go.RowKit

theorem leq_true {a b : Nat} (h : a ≤ b) : decide ((a : Int) ≤ (b : Int)) = true := by simp; exact h
theorem leq_false {a b : Nat} (h : ¬ a ≤ b) : decide ((a : Int) ≤ (b : Int)) = false := by simp; omega
set_option maxHeartbeats 4000000 in
set_option maxRecDepth 20000 in
theorem rsmall (c : RecD) (lv : Value) (B : Nat) (w : World) (hl : LocsAt B w lv c.vol.locs) : Calls Try.prog 10 #[.agg (RecV c lv)] w fun e w' => e = .returned (.bool (smallR c)) ∧ Kp [] w w' := by
  obtain ⟨la, lc, rfl⟩ := slice_ex hl
  obtain ⟨x0, x1, ⟨x2, x3, x4, lx⟩, ⟨x6, x7, x8, x9, xa⟩, xb, xc, xd⟩ := c
  simp only [RecV]
  simp only at hl
  obtain ⟨R, hR⟩ : ∃ R, R = smallR ⟨x0, x1, ⟨x2, x3, x4, lx⟩, ⟨x6, x7, x8, x9, xa⟩, xb, xc, xd⟩ := ⟨_, rfl⟩
  have hR2 : R = (decide (lx.length ≤ 20) && decide (x6.size ≤ 100) && decide (xa.size ≤ 100) && decide (xb.size ≤ 100)) := hR
  rw [← hR]
  have HR := Lib.hid hR2
  clear hR hR2
  obtain ⟨w1, hw1⟩ : ∃ w1, w1 = w.alloc (.cells #[.int .i64 x0, .int .i64 x1, .int .i64 x2, .int .i64 x3, .int .i64 x4, .slice la lx.length lc, .string x6, .int .i64 x7, .int .i64 x8, .int .i64 x9, .string xa, .string xb, .int .i64 xc, .int .i64 xd] 34) := ⟨_, rfl⟩
  have k1 : Kp [] w w1 := hw1 ▸ (Kp.refl _ _).alloc _
  have b1 : w1.heap[w.heap.size]? = some (.cells #[.int .i64 x0, .int .i64 x1, .int .i64 x2, .int .i64 x3, .int .i64 x4, .slice la lx.length lc, .string x6, .int .i64 x7, .int .i64 x8, .int .i64 x9, .string xa, .string xb, .int .i64 xc, .int .i64 xd] 34 (0, 0)) := by rw [hw1]; exact block_new _ _
  have Hw1 := Lib.hid hw1
  clear hw1
  obtain ⟨c0, c1, c2, c3, c4, c5, c6, c7, c8, c9, c10, c11, c12, c13⟩ := read14 b1
  by_cases h0 : lx.length ≤ 20
  · have d0 : decide (lx.length ≤ 20) = true := decide_eq_true h0
    have e0 : decide ((lx.length : Int) ≤ 20) = true := leq_true h0
    clear h0
    by_cases h1 : x6.size ≤ 100
    · have d1 : decide (x6.size ≤ 100) = true := decide_eq_true h1
      have e1 : decide ((x6.size : Int) ≤ 100) = true := leq_true h1
      clear h1
      by_cases h2 : xa.size ≤ 100
      · have d2 : decide (xa.size ≤ 100) = true := decide_eq_true h2
        have e2 : decide ((xa.size : Int) ≤ 100) = true := leq_true h2
        clear h2
        by_cases h3 : xb.size ≤ 100
        · have d3 : decide (xb.size ≤ 100) = true := decide_eq_true h3
          have e3 : decide ((xb.size : Int) ≤ 100) = true := leq_true h3
          clear h3
          go_enter Try.func10, Try.ntmps10
          go_wp2_with fail
          rw [← Hw1.out]
          go_wp2_with fail
          go_ret
          exact ⟨by rw [HR.out, d0, d1, d2, d3]; rfl, k1⟩
        · have d3 : decide (xb.size ≤ 100) = false := decide_eq_false h3
          have e3 : decide ((xb.size : Int) ≤ 100) = false := leq_false h3
          clear h3
          go_enter Try.func10, Try.ntmps10
          go_wp2_with fail
          rw [← Hw1.out]
          go_wp2_with fail
          go_ret
          exact ⟨by rw [HR.out, d0, d1, d2, d3]; rfl, k1⟩
      · have d2 : decide (xa.size ≤ 100) = false := decide_eq_false h2
        have e2 : decide ((xa.size : Int) ≤ 100) = false := leq_false h2
        clear h2
        go_enter Try.func10, Try.ntmps10
        go_wp2_with fail
        rw [← Hw1.out]
        go_wp2_with fail
        go_ret
        exact ⟨by rw [HR.out, d0, d1, d2]; rfl, k1⟩
    · have d1 : decide (x6.size ≤ 100) = false := decide_eq_false h1
      have e1 : decide ((x6.size : Int) ≤ 100) = false := leq_false h1
      clear h1
      go_enter Try.func10, Try.ntmps10
      go_wp2_with fail
      rw [← Hw1.out]
      go_wp2_with fail
      go_ret
      exact ⟨by rw [HR.out, d0, d1]; rfl, k1⟩
  · have d0 : decide (lx.length ≤ 20) = false := decide_eq_false h0
    have e0 : decide ((lx.length : Int) ≤ 20) = false := leq_false h0
    clear h0
    go_enter Try.func10, Try.ntmps10
    go_wp2_with fail
    rw [← Hw1.out]
    go_wp2_with fail
    go_ret
    exact ⟨by rw [HR.out, d0]; rfl, k1⟩
end Go.Proofs.Ytdhhddifmkijhaa
