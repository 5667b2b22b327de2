/-
  Whether two records are the same: record.Same.
-/
import Derived.Test.YtdhhddifmkijhaaGreatIdxA
namespace Go.Proofs.YtdhhddifmkijhaaGreat
open Go.RowKit

theorem cells14 {w : World} {b : Nat} {t : TypeId} {v0 v1 v2 v3 v4 v5 v6 v7 v8 v9 v10 v11 v12 v13 : Value} (h : w.heap[b]? = some (.cells #[v0, v1, v2, v3, v4, v5, v6, v7, v8, v9, v10, v11, v12, v13] t (0, 0))) :
    (∀ W, Kp [] w W → W.cell? ⟨b, 0, none⟩ = some v0) ∧ (∀ W, Kp [] w W → W.cell? ⟨b, 1, none⟩ = some v1) ∧ (∀ W, Kp [] w W → W.cell? ⟨b, 2, none⟩ = some v2) ∧ (∀ W, Kp [] w W → W.cell? ⟨b, 3, none⟩ = some v3) ∧ (∀ W, Kp [] w W → W.cell? ⟨b, 4, none⟩ = some v4) ∧ (∀ W, Kp [] w W → W.cell? ⟨b, 5, none⟩ = some v5) ∧ (∀ W, Kp [] w W → W.cell? ⟨b, 6, none⟩ = some v6) ∧ (∀ W, Kp [] w W → W.cell? ⟨b, 7, none⟩ = some v7) ∧ (∀ W, Kp [] w W → W.cell? ⟨b, 8, none⟩ = some v8) ∧ (∀ W, Kp [] w W → W.cell? ⟨b, 9, none⟩ = some v9) ∧ (∀ W, Kp [] w W → W.cell? ⟨b, 10, none⟩ = some v10) ∧ (∀ W, Kp [] w W → W.cell? ⟨b, 11, none⟩ = some v11) ∧ (∀ W, Kp [] w W → W.cell? ⟨b, 12, none⟩ = some v12) ∧ (∀ W, Kp [] w W → W.cell? ⟨b, 13, none⟩ = some v13) :=
  ⟨Kp.cellAt (X := []) (cell_of_cells h rfl) (by simp), Kp.cellAt (X := []) (cell_of_cells h rfl) (by simp), Kp.cellAt (X := []) (cell_of_cells h rfl) (by simp), Kp.cellAt (X := []) (cell_of_cells h rfl) (by simp), Kp.cellAt (X := []) (cell_of_cells h rfl) (by simp), Kp.cellAt (X := []) (cell_of_cells h rfl) (by simp), Kp.cellAt (X := []) (cell_of_cells h rfl) (by simp), Kp.cellAt (X := []) (cell_of_cells h rfl) (by simp), Kp.cellAt (X := []) (cell_of_cells h rfl) (by simp), Kp.cellAt (X := []) (cell_of_cells h rfl) (by simp), Kp.cellAt (X := []) (cell_of_cells h rfl) (by simp), Kp.cellAt (X := []) (cell_of_cells h rfl) (by simp), Kp.cellAt (X := []) (cell_of_cells h rfl) (by simp), Kp.cellAt (X := []) (cell_of_cells h rfl) (by simp)⟩
set_option maxHeartbeats 40000000 in
set_option maxRecDepth 20000 in
theorem rsame_first (x y : RecD) (lvx lvy : Value) (B : Nat) (w : World) (h1 : LocsAt B w lvx x.vol.locs) (h2 : LocsAt B w lvy y.vol.locs) (z1 : x.vol.locs.length ≤ 9223372036854775807) (hne : ¬ (x.seq = y.seq ∧ x.kind = y.kind ∧ x.vol.id = y.vol.id ∧ x.vol.gen = y.vol.gen ∧ x.vol.len = y.vol.len)) :
    Calls Tryz.prog 53 #[.agg (RecV x lvx), .agg (RecV y lvy)] w fun e w' => e = .returned (.bool (decide (x = y))) ∧ Kp [] w w' := by
  obtain ⟨x0, x1, ⟨x2, x3, x4, lx⟩, ⟨x6, x7, x8, x9, xa⟩, xb, xc, xd⟩ := x
  obtain ⟨y0, y1, ⟨y2, y3, y4, ly⟩, ⟨y6, y7, y8, y9, ya⟩, yb, yc, yd⟩ := y
  simp only at h1 h2 z1 hne
  simp only [RecV]
  obtain ⟨w0, hw0⟩ : ∃ w0, w0 = (w.alloc (.cells #[.int .i64 x0, .int .i64 x1, .int .i64 x2, .int .i64 x3, .int .i64 x4, lvx, .string x6, .int .i64 x7, .int .i64 x8, .int .i64 x9, .string xa, .string xb, .int .i64 xc, .int .i64 xd] 43)).alloc (.cells #[.int .i64 y0, .int .i64 y1, .int .i64 y2, .int .i64 y3, .int .i64 y4, lvy, .string y6, .int .i64 y7, .int .i64 y8, .int .i64 y9, .string ya, .string yb, .int .i64 yc, .int .i64 yd] 43) := ⟨_, rfl⟩
  have kw0 : Kp [] w w0 := hw0 ▸ ((Kp.refl _ _).alloc _).alloc _
  have hbx : w0.heap[w.heap.size]? = some (.cells #[.int .i64 x0, .int .i64 x1, .int .i64 x2, .int .i64 x3, .int .i64 x4, lvx, .string x6, .int .i64 x7, .int .i64 x8, .int .i64 x9, .string xa, .string xb, .int .i64 xc, .int .i64 xd] 43 (0, 0)) := by rw [hw0]; exact block_alloc (block_new _ _) _
  have hby : w0.heap[w.heap.size + 1]? = some (.cells #[.int .i64 y0, .int .i64 y1, .int .i64 y2, .int .i64 y3, .int .i64 y4, lvy, .string y6, .int .i64 y7, .int .i64 y8, .int .i64 y9, .string ya, .string yb, .int .i64 yc, .int .i64 yd] 43 (0, 0)) := by
    rw [hw0]
    have := block_new (w.alloc (.cells #[.int .i64 x0, .int .i64 x1, .int .i64 x2, .int .i64 x3, .int .i64 x4, lvx, .string x6, .int .i64 x7, .int .i64 x8, .int .i64 x9, .string xa, .string xb, .int .i64 xc, .int .i64 xd] 43)) (.cells #[.int .i64 y0, .int .i64 y1, .int .i64 y2, .int .i64 y3, .int .i64 y4, lvy, .string y6, .int .i64 y7, .int .i64 y8, .int .i64 y9, .string ya, .string yb, .int .i64 yc, .int .i64 yd] 43)
    rw [World.size_alloc] at this
    exact this
  obtain ⟨a0, a1, a2, a3, a4, a5, a6, a7, a8, a9, a10, a11, a12, a13⟩ := cells14 hbx
  obtain ⟨b0, b1, b2, b3, b4, b5, b6, b7, b8, b9, b10, b11, b12, b13⟩ := cells14 hby
  have Hw0 := Lib.hid hw0
  have hK := Kp.refl [] w0
  have k1 := h1.keep0 kw0
  have k2 := h2.keep0 kw0
  clear hw0 hbx hby h1 h2
  by_cases e0 : x0 = y0
  · subst e0
    by_cases e1 : x1 = y1
    · subst e1
      by_cases e2 : x2 = y2
      · subst e2
        by_cases e3 : x3 = y3
        · subst e3
          by_cases e4 : x4 = y4
          · subst e4
            exact absurd ⟨rfl, rfl, rfl, rfl, rfl⟩ hne
          · clear hne
            have hR : (decide ((⟨x0, x1, ⟨x2, x3, x4, lx⟩, ⟨x6, x7, x8, x9, xa⟩, xb, xc, xd⟩ : RecD) = (⟨x0, x1, ⟨x2, x3, y4, ly⟩, ⟨y6, y7, y8, y9, ya⟩, yb, yc, yd⟩ : RecD))) = false := by
              rw [decide_eq_false_iff_not]
              intro e
              injection e with e0' e1' e2' e3' e4' e5' e6'
              injection e2' with f0 f1 f2 f3
              injection e3' with g0 g1 g2 g3 g4
              exact absurd f2 e4
            rw [hR]
            clear hR
            have := int_ne e4
            go_enter Tryz.func53, Tryz.ntmps53
            go_wp2_with fail
            rw [← Hw0.out]
            go_wp2_with fail
            go_ret
            exact ⟨rfl, kw0⟩
        · clear hne
          have hR : (decide ((⟨x0, x1, ⟨x2, x3, x4, lx⟩, ⟨x6, x7, x8, x9, xa⟩, xb, xc, xd⟩ : RecD) = (⟨x0, x1, ⟨x2, y3, y4, ly⟩, ⟨y6, y7, y8, y9, ya⟩, yb, yc, yd⟩ : RecD))) = false := by
            rw [decide_eq_false_iff_not]
            intro e
            injection e with e0' e1' e2' e3' e4' e5' e6'
            injection e2' with f0 f1 f2 f3
            injection e3' with g0 g1 g2 g3 g4
            exact absurd f1 e3
          rw [hR]
          clear hR
          have := int_ne e3
          go_enter Tryz.func53, Tryz.ntmps53
          go_wp2_with fail
          rw [← Hw0.out]
          go_wp2_with fail
          go_ret
          exact ⟨rfl, kw0⟩
      · clear hne
        have hR : (decide ((⟨x0, x1, ⟨x2, x3, x4, lx⟩, ⟨x6, x7, x8, x9, xa⟩, xb, xc, xd⟩ : RecD) = (⟨x0, x1, ⟨y2, y3, y4, ly⟩, ⟨y6, y7, y8, y9, ya⟩, yb, yc, yd⟩ : RecD))) = false := by
          rw [decide_eq_false_iff_not]
          intro e
          injection e with e0' e1' e2' e3' e4' e5' e6'
          injection e2' with f0 f1 f2 f3
          injection e3' with g0 g1 g2 g3 g4
          exact absurd f0 e2
        rw [hR]
        clear hR
        have := int_ne e2
        go_enter Tryz.func53, Tryz.ntmps53
        go_wp2_with fail
        rw [← Hw0.out]
        go_wp2_with fail
        go_ret
        exact ⟨rfl, kw0⟩
    · clear hne
      have hR : (decide ((⟨x0, x1, ⟨x2, x3, x4, lx⟩, ⟨x6, x7, x8, x9, xa⟩, xb, xc, xd⟩ : RecD) = (⟨x0, y1, ⟨y2, y3, y4, ly⟩, ⟨y6, y7, y8, y9, ya⟩, yb, yc, yd⟩ : RecD))) = false := by
        rw [decide_eq_false_iff_not]
        intro e
        injection e with e0' e1' e2' e3' e4' e5' e6'
        injection e2' with f0 f1 f2 f3
        injection e3' with g0 g1 g2 g3 g4
        exact absurd e1' e1
      rw [hR]
      clear hR
      have := int_ne e1
      go_enter Tryz.func53, Tryz.ntmps53
      go_wp2_with fail
      rw [← Hw0.out]
      go_wp2_with fail
      go_ret
      exact ⟨rfl, kw0⟩
  · clear hne
    have hR : (decide ((⟨x0, x1, ⟨x2, x3, x4, lx⟩, ⟨x6, x7, x8, x9, xa⟩, xb, xc, xd⟩ : RecD) = (⟨y0, y1, ⟨y2, y3, y4, ly⟩, ⟨y6, y7, y8, y9, ya⟩, yb, yc, yd⟩ : RecD))) = false := by
      rw [decide_eq_false_iff_not]
      intro e
      injection e with e0' e1' e2' e3' e4' e5' e6'
      injection e2' with f0 f1 f2 f3
      injection e3' with g0 g1 g2 g3 g4
      exact absurd e0' e0
    rw [hR]
    clear hR
    have := int_ne e0
    go_enter Tryz.func53, Tryz.ntmps53
    go_wp2_with fail
    rw [← Hw0.out]
    go_wp2_with fail
    go_ret
    exact ⟨rfl, kw0⟩
set_option maxHeartbeats 40000000 in
set_option maxRecDepth 20000 in
theorem rsame_rest (x y : RecD) (lvx lvy : Value) (B : Nat) (w : World) (h1 : LocsAt B w lvx x.vol.locs) (h2 : LocsAt B w lvy y.vol.locs) (z1 : x.vol.locs.length ≤ 9223372036854775807) (heq : x.seq = y.seq ∧ x.kind = y.kind ∧ x.vol.id = y.vol.id ∧ x.vol.gen = y.vol.gen ∧ x.vol.len = y.vol.len) :
    Calls Tryz.prog 53 #[.agg (RecV x lvx), .agg (RecV y lvy)] w fun e w' => e = .returned (.bool (decide (x = y))) ∧ Kp [] w w' := by
  obtain ⟨x0, x1, ⟨x2, x3, x4, lx⟩, ⟨x6, x7, x8, x9, xa⟩, xb, xc, xd⟩ := x
  obtain ⟨y0, y1, ⟨y2, y3, y4, ly⟩, ⟨y6, y7, y8, y9, ya⟩, yb, yc, yd⟩ := y
  simp only at h1 h2 z1 heq
  obtain ⟨rfl, rfl, rfl, rfl, rfl⟩ := heq
  simp only [RecV]
  obtain ⟨w0, hw0⟩ : ∃ w0, w0 = (w.alloc (.cells #[.int .i64 x0, .int .i64 x1, .int .i64 x2, .int .i64 x3, .int .i64 x4, lvx, .string x6, .int .i64 x7, .int .i64 x8, .int .i64 x9, .string xa, .string xb, .int .i64 xc, .int .i64 xd] 43)).alloc (.cells #[.int .i64 x0, .int .i64 x1, .int .i64 x2, .int .i64 x3, .int .i64 x4, lvy, .string y6, .int .i64 y7, .int .i64 y8, .int .i64 y9, .string ya, .string yb, .int .i64 yc, .int .i64 yd] 43) := ⟨_, rfl⟩
  have kw0 : Kp [] w w0 := hw0 ▸ ((Kp.refl _ _).alloc _).alloc _
  have hbx : w0.heap[w.heap.size]? = some (.cells #[.int .i64 x0, .int .i64 x1, .int .i64 x2, .int .i64 x3, .int .i64 x4, lvx, .string x6, .int .i64 x7, .int .i64 x8, .int .i64 x9, .string xa, .string xb, .int .i64 xc, .int .i64 xd] 43 (0, 0)) := by rw [hw0]; exact block_alloc (block_new _ _) _
  have hby : w0.heap[w.heap.size + 1]? = some (.cells #[.int .i64 x0, .int .i64 x1, .int .i64 x2, .int .i64 x3, .int .i64 x4, lvy, .string y6, .int .i64 y7, .int .i64 y8, .int .i64 y9, .string ya, .string yb, .int .i64 yc, .int .i64 yd] 43 (0, 0)) := by
    rw [hw0]
    have := block_new (w.alloc (.cells #[.int .i64 x0, .int .i64 x1, .int .i64 x2, .int .i64 x3, .int .i64 x4, lvx, .string x6, .int .i64 x7, .int .i64 x8, .int .i64 x9, .string xa, .string xb, .int .i64 xc, .int .i64 xd] 43)) (.cells #[.int .i64 x0, .int .i64 x1, .int .i64 x2, .int .i64 x3, .int .i64 x4, lvy, .string y6, .int .i64 y7, .int .i64 y8, .int .i64 y9, .string ya, .string yb, .int .i64 yc, .int .i64 yd] 43)
    rw [World.size_alloc] at this
    exact this
  obtain ⟨a0, a1, a2, a3, a4, a5, a6, a7, a8, a9, a10, a11, a12, a13⟩ := cells14 hbx
  obtain ⟨b0, b1, b2, b3, b4, b5, b6, b7, b8, b9, b10, b11, b12, b13⟩ := cells14 hby
  have Hw0 := Lib.hid hw0
  have hK := Kp.refl [] w0
  have k1 := h1.keep0 kw0
  have k2 := h2.keep0 kw0
  clear hw0 hbx hby h1 h2
  by_cases eL : lx = ly
  · have hd : decide (lx = ly) = true := decide_eq_true eL
    clear hd
    subst eL
    by_cases e6 : x6 = y6
    · subst e6
      by_cases e7 : x7 = y7
      · subst e7
        by_cases e8 : x8 = y8
        · subst e8
          by_cases e9 : x9 = y9
          · subst e9
            by_cases ea : xa = ya
            · subst ea
              by_cases eb : xb = yb
              · subst eb
                by_cases ec : xc = yc
                · subst ec
                  by_cases ed : xd = yd
                  · subst ed
                    have hR : (decide ((⟨x0, x1, ⟨x2, x3, x4, lx⟩, ⟨x6, x7, x8, x9, xa⟩, xb, xc, xd⟩ : RecD) = (⟨x0, x1, ⟨x2, x3, x4, lx⟩, ⟨x6, x7, x8, x9, xa⟩, xb, xc, xd⟩ : RecD))) = true := decide_eq_true rfl
                    rw [hR]
                    clear hR
                    go_enter Tryz.func53, Tryz.ntmps53
                    go_wp2_with fail
                    rw [← Hw0.out]
                    go_wp2_with fail
                    refine (leq_any lx lx _ _ _ _ k1 k2 z1).mono ?_
                    rintro e w1 ⟨rfl, hk1⟩
                    have hK1 := hk1
                    rw [decide_eq_true (rfl : lx = lx)]
                    go_wp2_with fail
                    go_ret
                    exact ⟨rfl, kw0.trans hK1⟩
                  · have hR : (decide ((⟨x0, x1, ⟨x2, x3, x4, lx⟩, ⟨x6, x7, x8, x9, xa⟩, xb, xc, xd⟩ : RecD) = (⟨x0, x1, ⟨x2, x3, x4, lx⟩, ⟨x6, x7, x8, x9, xa⟩, xb, xc, yd⟩ : RecD))) = false := by
                      rw [decide_eq_false_iff_not]
                      intro e
                      injection e with e0' e1' e2' e3' e4' e5' e6'
                      injection e2' with f0 f1 f2 f3
                      injection e3' with g0 g1 g2 g3 g4
                      exact absurd e6' ed
                    rw [hR]
                    clear hR
                    have := int_ne ed
                    go_enter Tryz.func53, Tryz.ntmps53
                    go_wp2_with fail
                    rw [← Hw0.out]
                    go_wp2_with fail
                    refine (leq_any lx lx _ _ _ _ k1 k2 z1).mono ?_
                    rintro e w1 ⟨rfl, hk1⟩
                    have hK1 := hk1
                    rw [decide_eq_true (rfl : lx = lx)]
                    go_wp2_with fail
                    go_ret
                    exact ⟨rfl, kw0.trans hK1⟩
                · have hR : (decide ((⟨x0, x1, ⟨x2, x3, x4, lx⟩, ⟨x6, x7, x8, x9, xa⟩, xb, xc, xd⟩ : RecD) = (⟨x0, x1, ⟨x2, x3, x4, lx⟩, ⟨x6, x7, x8, x9, xa⟩, xb, yc, yd⟩ : RecD))) = false := by
                    rw [decide_eq_false_iff_not]
                    intro e
                    injection e with e0' e1' e2' e3' e4' e5' e6'
                    injection e2' with f0 f1 f2 f3
                    injection e3' with g0 g1 g2 g3 g4
                    exact absurd e5' ec
                  rw [hR]
                  clear hR
                  have := int_ne ec
                  go_enter Tryz.func53, Tryz.ntmps53
                  go_wp2_with fail
                  rw [← Hw0.out]
                  go_wp2_with fail
                  refine (leq_any lx lx _ _ _ _ k1 k2 z1).mono ?_
                  rintro e w1 ⟨rfl, hk1⟩
                  have hK1 := hk1
                  rw [decide_eq_true (rfl : lx = lx)]
                  go_wp2_with fail
                  go_ret
                  exact ⟨rfl, kw0.trans hK1⟩
              · have hR : (decide ((⟨x0, x1, ⟨x2, x3, x4, lx⟩, ⟨x6, x7, x8, x9, xa⟩, xb, xc, xd⟩ : RecD) = (⟨x0, x1, ⟨x2, x3, x4, lx⟩, ⟨x6, x7, x8, x9, xa⟩, yb, yc, yd⟩ : RecD))) = false := by
                  rw [decide_eq_false_iff_not]
                  intro e
                  injection e with e0' e1' e2' e3' e4' e5' e6'
                  injection e2' with f0 f1 f2 f3
                  injection e3' with g0 g1 g2 g3 g4
                  exact absurd e4' eb
                rw [hR]
                clear hR
                have := bytes_ne eb
                go_enter Tryz.func53, Tryz.ntmps53
                go_wp2_with fail
                rw [← Hw0.out]
                go_wp2_with fail
                refine (leq_any lx lx _ _ _ _ k1 k2 z1).mono ?_
                rintro e w1 ⟨rfl, hk1⟩
                have hK1 := hk1
                rw [decide_eq_true (rfl : lx = lx)]
                go_wp2_with fail
                go_ret
                exact ⟨rfl, kw0.trans hK1⟩
            · have hR : (decide ((⟨x0, x1, ⟨x2, x3, x4, lx⟩, ⟨x6, x7, x8, x9, xa⟩, xb, xc, xd⟩ : RecD) = (⟨x0, x1, ⟨x2, x3, x4, lx⟩, ⟨x6, x7, x8, x9, ya⟩, yb, yc, yd⟩ : RecD))) = false := by
                rw [decide_eq_false_iff_not]
                intro e
                injection e with e0' e1' e2' e3' e4' e5' e6'
                injection e2' with f0 f1 f2 f3
                injection e3' with g0 g1 g2 g3 g4
                exact absurd g4 ea
              rw [hR]
              clear hR
              have := bytes_ne ea
              go_enter Tryz.func53, Tryz.ntmps53
              go_wp2_with fail
              rw [← Hw0.out]
              go_wp2_with fail
              refine (leq_any lx lx _ _ _ _ k1 k2 z1).mono ?_
              rintro e w1 ⟨rfl, hk1⟩
              have hK1 := hk1
              rw [decide_eq_true (rfl : lx = lx)]
              go_wp2_with fail
              go_ret
              exact ⟨rfl, kw0.trans hK1⟩
          · have hR : (decide ((⟨x0, x1, ⟨x2, x3, x4, lx⟩, ⟨x6, x7, x8, x9, xa⟩, xb, xc, xd⟩ : RecD) = (⟨x0, x1, ⟨x2, x3, x4, lx⟩, ⟨x6, x7, x8, y9, ya⟩, yb, yc, yd⟩ : RecD))) = false := by
              rw [decide_eq_false_iff_not]
              intro e
              injection e with e0' e1' e2' e3' e4' e5' e6'
              injection e2' with f0 f1 f2 f3
              injection e3' with g0 g1 g2 g3 g4
              exact absurd g3 e9
            rw [hR]
            clear hR
            have := int_ne e9
            go_enter Tryz.func53, Tryz.ntmps53
            go_wp2_with fail
            rw [← Hw0.out]
            go_wp2_with fail
            refine (leq_any lx lx _ _ _ _ k1 k2 z1).mono ?_
            rintro e w1 ⟨rfl, hk1⟩
            have hK1 := hk1
            rw [decide_eq_true (rfl : lx = lx)]
            go_wp2_with fail
            go_ret
            exact ⟨rfl, kw0.trans hK1⟩
        · have hR : (decide ((⟨x0, x1, ⟨x2, x3, x4, lx⟩, ⟨x6, x7, x8, x9, xa⟩, xb, xc, xd⟩ : RecD) = (⟨x0, x1, ⟨x2, x3, x4, lx⟩, ⟨x6, x7, y8, y9, ya⟩, yb, yc, yd⟩ : RecD))) = false := by
            rw [decide_eq_false_iff_not]
            intro e
            injection e with e0' e1' e2' e3' e4' e5' e6'
            injection e2' with f0 f1 f2 f3
            injection e3' with g0 g1 g2 g3 g4
            exact absurd g2 e8
          rw [hR]
          clear hR
          have := int_ne e8
          go_enter Tryz.func53, Tryz.ntmps53
          go_wp2_with fail
          rw [← Hw0.out]
          go_wp2_with fail
          refine (leq_any lx lx _ _ _ _ k1 k2 z1).mono ?_
          rintro e w1 ⟨rfl, hk1⟩
          have hK1 := hk1
          rw [decide_eq_true (rfl : lx = lx)]
          go_wp2_with fail
          go_ret
          exact ⟨rfl, kw0.trans hK1⟩
      · have hR : (decide ((⟨x0, x1, ⟨x2, x3, x4, lx⟩, ⟨x6, x7, x8, x9, xa⟩, xb, xc, xd⟩ : RecD) = (⟨x0, x1, ⟨x2, x3, x4, lx⟩, ⟨x6, y7, y8, y9, ya⟩, yb, yc, yd⟩ : RecD))) = false := by
          rw [decide_eq_false_iff_not]
          intro e
          injection e with e0' e1' e2' e3' e4' e5' e6'
          injection e2' with f0 f1 f2 f3
          injection e3' with g0 g1 g2 g3 g4
          exact absurd g1 e7
        rw [hR]
        clear hR
        have := int_ne e7
        go_enter Tryz.func53, Tryz.ntmps53
        go_wp2_with fail
        rw [← Hw0.out]
        go_wp2_with fail
        refine (leq_any lx lx _ _ _ _ k1 k2 z1).mono ?_
        rintro e w1 ⟨rfl, hk1⟩
        have hK1 := hk1
        rw [decide_eq_true (rfl : lx = lx)]
        go_wp2_with fail
        go_ret
        exact ⟨rfl, kw0.trans hK1⟩
    · have hR : (decide ((⟨x0, x1, ⟨x2, x3, x4, lx⟩, ⟨x6, x7, x8, x9, xa⟩, xb, xc, xd⟩ : RecD) = (⟨x0, x1, ⟨x2, x3, x4, lx⟩, ⟨y6, y7, y8, y9, ya⟩, yb, yc, yd⟩ : RecD))) = false := by
        rw [decide_eq_false_iff_not]
        intro e
        injection e with e0' e1' e2' e3' e4' e5' e6'
        injection e2' with f0 f1 f2 f3
        injection e3' with g0 g1 g2 g3 g4
        exact absurd g0 e6
      rw [hR]
      clear hR
      have := bytes_ne e6
      go_enter Tryz.func53, Tryz.ntmps53
      go_wp2_with fail
      rw [← Hw0.out]
      go_wp2_with fail
      refine (leq_any lx lx _ _ _ _ k1 k2 z1).mono ?_
      rintro e w1 ⟨rfl, hk1⟩
      have hK1 := hk1
      rw [decide_eq_true (rfl : lx = lx)]
      go_wp2_with fail
      go_ret
      exact ⟨rfl, kw0.trans hK1⟩
  · have hd : decide (lx = ly) = false := decide_eq_false eL
    have HD := Lib.hid hd
    have hR : (decide ((⟨x0, x1, ⟨x2, x3, x4, lx⟩, ⟨x6, x7, x8, x9, xa⟩, xb, xc, xd⟩ : RecD) = (⟨x0, x1, ⟨x2, x3, x4, ly⟩, ⟨y6, y7, y8, y9, ya⟩, yb, yc, yd⟩ : RecD))) = false := by
      rw [decide_eq_false_iff_not]
      intro e
      injection e with e0' e1' e2' e3' e4' e5' e6'
      injection e2' with f0 f1 f2 f3
      injection e3' with g0 g1 g2 g3 g4
      exact absurd f3 eL
    rw [hR]
    clear hR
    clear hd eL
    go_enter Tryz.func53, Tryz.ntmps53
    go_wp2_with fail
    rw [← Hw0.out]
    go_wp2_with fail
    refine (leq_any lx ly _ _ _ _ k1 k2 z1).mono ?_
    rintro e w1 ⟨rfl, hk1⟩
    have hK1 := hk1
    rw [HD.out]
    go_wp2_with fail
    go_ret
    exact ⟨rfl, kw0.trans hK1⟩
theorem rsame (x y : RecD) (lvx lvy : Value) (B : Nat) (w : World) (h1 : LocsAt B w lvx x.vol.locs) (h2 : LocsAt B w lvy y.vol.locs) (z1 : x.vol.locs.length ≤ 9223372036854775807) :
    Calls Tryz.prog 53 #[.agg (RecV x lvx), .agg (RecV y lvy)] w fun e w' => e = .returned (.bool (decide (x = y))) ∧ Kp [] w w' := by
  by_cases h : x.seq = y.seq ∧ x.kind = y.kind ∧ x.vol.id = y.vol.id ∧ x.vol.gen = y.vol.gen ∧ x.vol.len = y.vol.len
  · exact rsame_rest x y lvx lvy B w h1 h2 z1 h
  · exact rsame_first x y lvx lvy B w h1 h2 z1 h
end Go.Proofs.YtdhhddifmkijhaaGreat
