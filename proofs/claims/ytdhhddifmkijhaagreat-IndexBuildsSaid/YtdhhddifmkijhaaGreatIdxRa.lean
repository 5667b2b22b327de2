/-
  The document's record: number, a place, a volume, only, Same.
-/
import Derived.Test.YtdhhddifmkijhaaGreatIdxSm
namespace Go.Proofs.YtdhhddifmkijhaaGreat
open Go.RowKit

set_option maxRecDepth 20000 in
theorem rnum (n : Int) (w : World) : Calls Tryz.prog 57 #[.int .i64 n] w fun e w' => e = .returned (.bool (inB n 1099511627776)) ∧ w' = w := by
  unfold inB
  by_cases h0 : 0 ≤ n
  · rw [decide_eq_true h0, Bool.true_and]
    by_cases h1 : n ≤ 1099511627776
    · rw [decide_eq_true h1]
      have hd : decide (n ≤ 1099511627776) = true := decide_eq_true h1
      go_enter Tryz.func57, Tryz.ntmps57
      go_wp2_with fail
      go_ret
      exact ⟨rfl, rfl⟩
    · rw [decide_eq_false h1]
      have hd : decide (n ≤ 1099511627776) = false := decide_eq_false h1
      go_enter Tryz.func57, Tryz.ntmps57
      go_wp2_with fail
      go_ret
      exact ⟨rfl, rfl⟩
  · rw [decide_eq_false h0, Bool.false_and]
    go_enter Tryz.func57, Tryz.ntmps57
    go_wp2_with fail
    go_ret
    exact ⟨rfl, rfl⟩
set_option maxRecDepth 20000 in
theorem ris (d s : Int) (w : World) : Calls Tryz.prog 75 #[.agg #[.int .i64 d, .int .i64 s]] w fun e w' => e = .returned (.bool (locOk (d, s))) ∧ Kp [] w w' := by
  have hk : Kp [] w (w.alloc (.cells #[.int .i64 d, .int .i64 s] 88)) := (Kp.refl _ _).alloc _
  obtain ⟨R, hR⟩ : ∃ R, R = locOk (d, s) := ⟨_, rfl⟩
  have hR2 : R = (decide (0 ≤ d) && decide (d ≤ 11) && (decide (0 ≤ s) && decide (s ≤ 47))) := hR
  rw [← hR]
  have HR := Lib.hid hR2
  clear hR hR2
  by_cases h0 : 0 ≤ d
  · have g0 : decide (0 ≤ d) = true := decide_eq_true h0
    by_cases h1 : d < 12
    · have g1 : decide (d < 12) = true := decide_eq_true h1
      by_cases h2 : 0 ≤ s
      · have g2 : decide (0 ≤ s) = true := decide_eq_true h2
        by_cases h3 : s < 48
        · have g3 : decide (s < 48) = true := decide_eq_true h3
          have hr : R = true := by rw [HR.out]; rw [decide_eq_true h0, decide_eq_true (show d ≤ 11 by omega), decide_eq_true h2, decide_eq_true (show s ≤ 47 by omega)]; rfl
          have HZ := Lib.hid hr
          clear hr
          go_enter Tryz.func75, Tryz.ntmps75
          go_wp2_with fail
          go_ret
          exact ⟨by rw [HZ.out]; rfl, hk⟩
        · have g3 : decide (s < 48) = false := decide_eq_false h3
          have hr : R = false := by rw [HR.out]; rw [decide_eq_false (show ¬ s ≤ 47 by omega)]; simp
          have HZ := Lib.hid hr
          clear hr
          go_enter Tryz.func75, Tryz.ntmps75
          go_wp2_with fail
          go_ret
          exact ⟨by rw [HZ.out]; rfl, hk⟩
      · have g2 : decide (0 ≤ s) = false := decide_eq_false h2
        have hr : R = false := by rw [HR.out]; rw [decide_eq_false h2]; simp
        have HZ := Lib.hid hr
        clear hr
        go_enter Tryz.func75, Tryz.ntmps75
        go_wp2_with fail
        go_ret
        exact ⟨by rw [HZ.out]; rfl, hk⟩
    · have g1 : decide (d < 12) = false := decide_eq_false h1
      have hr : R = false := by rw [HR.out]; rw [decide_eq_false (show ¬ d ≤ 11 by omega)]; simp
      have HZ := Lib.hid hr
      clear hr
      go_enter Tryz.func75, Tryz.ntmps75
      go_wp2_with fail
      go_ret
      exact ⟨by rw [HZ.out]; rfl, hk⟩
  · have g0 : decide (0 ≤ d) = false := decide_eq_false h0
    have hr : R = false := by rw [HR.out]; rw [decide_eq_false h0]; simp
    have HZ := Lib.hid hr
    clear hr
    go_enter Tryz.func75, Tryz.ntmps75
    go_wp2_with fail
    go_ret
    exact ⟨by rw [HZ.out]; rfl, hk⟩
set_option maxRecDepth 20000 in
theorem ret14_r11Only (t : Array Value) (Z : World) (R : Nat) {v0 v1 v2 v3 v4 v5 v6 v7 v8 v9 v10 v11 v12 v13 : Value} (h2 : t.getD 2 undef = .pointer (some ⟨R, 0, none⟩)) (z0 : Z.cell? ⟨R, 0, none⟩ = some v0) (z1 : Z.cell? ⟨R, 1, none⟩ = some v1) (z2 : Z.cell? ⟨R, 2, none⟩ = some v2) (z3 : Z.cell? ⟨R, 3, none⟩ = some v3) (z4 : Z.cell? ⟨R, 4, none⟩ = some v4) (z5 : Z.cell? ⟨R, 5, none⟩ = some v5) (z6 : Z.cell? ⟨R, 6, none⟩ = some v6) (z7 : Z.cell? ⟨R, 7, none⟩ = some v7) (z8 : Z.cell? ⟨R, 8, none⟩ = some v8) (z9 : Z.cell? ⟨R, 9, none⟩ = some v9) (z10 : Z.cell? ⟨R, 10, none⟩ = some v10) (z11 : Z.cell? ⟨R, 11, none⟩ = some v11) (z12 : Z.cell? ⟨R, 12, none⟩ = some v12) (z13 : Z.cell? ⟨R, 13, none⟩ = some v13) :
    (results Tryz.f59 t).run Tryz.prog Z = .ok (.agg #[v0, v1, v2, v3, v4, v5, v6, v7, v8, v9, v10, v11, v12, v13]) Z := by
  have h2' : t[2]?.getD undef = .pointer (some ⟨R, 0, none⟩) := by rw [← h2]; simp [Array.getD_eq_getD_getElem?]
  simp [results, Tryz.results59, go_sem, z0, z1, z2, z3, z4, z5, z6, z7, z8, z9, z10, z11, z12, z13, h2']
  try rfl
set_option maxHeartbeats 4000000 in
set_option maxRecDepth 20000 in
theorem ronly (c : RecD) (la : Option Addr) (ln lc : Nat) (w : World) : Calls Tryz.prog 59 #[.agg (RecV c (.slice la ln lc))] w fun e w' => e = .returned (.agg (RecV (namedR c) (namedV c.kind (.slice la ln lc)))) ∧ Kp [] w w' := by
  obtain ⟨x0, x1, ⟨x2, x3, x4, lx⟩, ⟨x6, x7, x8, x9, xa⟩, xb, xc, xd⟩ := c
  by_cases e1 : x1 = 1
  · subst e1
    have ho : namedR ⟨x0, 1, ⟨x2, x3, x4, lx⟩, ⟨x6, x7, x8, x9, xa⟩, xb, xc, xd⟩ = ⟨x0, 1, zeroVol, zeroEnt, xb, 0, 0⟩ := rfl
    have hv : ∀ v, namedV 1 v = .slice none 0 0 := fun _ => rfl
    simp only [RecV]
    rw [ho, hv]
    simp only
    clear ho hv
    go_enter Tryz.func59, Tryz.ntmps59
    go_wp2_with fail
    obtain ⟨Z, hZ⟩ : ∃ Z, Z = ((w.alloc (.cells #[.int .i64 x0, .int .i64 1, .int .i64 x2, .int .i64 x3, .int .i64 x4, .slice la ln lc, .string x6, .int .i64 x7, .int .i64 x8, .int .i64 x9, .string xa, .string xb, .int .i64 xc, .int .i64 xd] 40)).alloc (.cells #[.int .i64 x0, .int .i64 1, .int .i64 0, .int .i64 0, .int .i64 0, .slice none 0 0, .string E0, .int .i64 0, .int .i64 0, .int .i64 0, .string E0, .string xb, .int .i64 0, .int .i64 0] 40)).alloc (.cells #[.int .i64 x0, .int .i64 1, .int .i64 0, .int .i64 0, .int .i64 0, .slice none 0 0, .string E0, .int .i64 0, .int .i64 0, .int .i64 0, .string E0, .string xb, .int .i64 0, .int .i64 0] 40) := ⟨_, rfl⟩
    have hz : Z.heap[w.heap.size + 1]? = some (.cells #[.int .i64 x0, .int .i64 1, .int .i64 0, .int .i64 0, .int .i64 0, .slice none 0 0, .string E0, .int .i64 0, .int .i64 0, .int .i64 0, .string E0, .string xb, .int .i64 0, .int .i64 0] 40 (0, 0)) := by rw [hZ]; exact block_alloc (two_new _ _ _) _
    have hkz : Kp [] w Z := hZ ▸ (((Kp.refl _ _).alloc _).alloc _).alloc _
    rw [← hZ]
    have HZ := Lib.hid hZ
    clear hZ
    obtain ⟨z0, z1, z2, z3, z4, z5, z6, z7, z8, z9, z10, z11, z12, z13⟩ := read14 hz
    exact bodyPost_ret (ret14_r11Only _ _ (w.heap.size + 1) (by kernel_rfl) z0 z1 z2 z3 z4 z5 z6 z7 z8 z9 z10 z11 z12 z13) rfl ⟨rfl, hkz⟩
  by_cases e0 : x1 = 0
  · subst e0
    have ho : namedR ⟨x0, 0, ⟨x2, x3, x4, lx⟩, ⟨x6, x7, x8, x9, xa⟩, xb, xc, xd⟩ = ⟨x0, 0, ⟨x2, x3, x4, lx⟩, ⟨x6, x7, x8, x9, xa⟩, E0, 0, 0⟩ := rfl
    have hv : ∀ v, namedV 0 v = v := fun _ => rfl
    simp only [RecV]
    rw [ho, hv]
    simp only
    clear ho hv
    go_enter Tryz.func59, Tryz.ntmps59
    go_wp2_with fail
    obtain ⟨Z, hZ⟩ : ∃ Z, Z = ((w.alloc (.cells #[.int .i64 x0, .int .i64 0, .int .i64 x2, .int .i64 x3, .int .i64 x4, .slice la ln lc, .string x6, .int .i64 x7, .int .i64 x8, .int .i64 x9, .string xa, .string xb, .int .i64 xc, .int .i64 xd] 40)).alloc (.cells #[.int .i64 x0, .int .i64 0, .int .i64 x2, .int .i64 x3, .int .i64 x4, .slice la ln lc, .string x6, .int .i64 x7, .int .i64 x8, .int .i64 x9, .string xa, .string E0, .int .i64 0, .int .i64 0] 40)).alloc (.cells #[.int .i64 x0, .int .i64 0, .int .i64 x2, .int .i64 x3, .int .i64 x4, .slice la ln lc, .string x6, .int .i64 x7, .int .i64 x8, .int .i64 x9, .string xa, .string E0, .int .i64 0, .int .i64 0] 40) := ⟨_, rfl⟩
    have hz : Z.heap[w.heap.size + 1]? = some (.cells #[.int .i64 x0, .int .i64 0, .int .i64 x2, .int .i64 x3, .int .i64 x4, .slice la ln lc, .string x6, .int .i64 x7, .int .i64 x8, .int .i64 x9, .string xa, .string E0, .int .i64 0, .int .i64 0] 40 (0, 0)) := by rw [hZ]; exact block_alloc (two_new _ _ _) _
    have hkz : Kp [] w Z := hZ ▸ (((Kp.refl _ _).alloc _).alloc _).alloc _
    rw [← hZ]
    have HZ := Lib.hid hZ
    clear hZ
    obtain ⟨z0, z1, z2, z3, z4, z5, z6, z7, z8, z9, z10, z11, z12, z13⟩ := read14 hz
    exact bodyPost_ret (ret14_r11Only _ _ (w.heap.size + 1) (by kernel_rfl) z0 z1 z2 z3 z4 z5 z6 z7 z8 z9 z10 z11 z12 z13) rfl ⟨rfl, hkz⟩
  by_cases e3 : x1 = 3
  · subst e3
    have ho : namedR ⟨x0, 3, ⟨x2, x3, x4, lx⟩, ⟨x6, x7, x8, x9, xa⟩, xb, xc, xd⟩ = ⟨x0, 3, ⟨x2, x3, x4, lx⟩, zeroEnt, E0, xc, xd⟩ := rfl
    have hv : ∀ v, namedV 3 v = v := fun _ => rfl
    simp only [RecV]
    rw [ho, hv]
    simp only
    clear ho hv
    go_enter Tryz.func59, Tryz.ntmps59
    go_wp2_with fail
    obtain ⟨Z, hZ⟩ : ∃ Z, Z = ((w.alloc (.cells #[.int .i64 x0, .int .i64 3, .int .i64 x2, .int .i64 x3, .int .i64 x4, .slice la ln lc, .string x6, .int .i64 x7, .int .i64 x8, .int .i64 x9, .string xa, .string xb, .int .i64 xc, .int .i64 xd] 40)).alloc (.cells #[.int .i64 x0, .int .i64 3, .int .i64 x2, .int .i64 x3, .int .i64 x4, .slice la ln lc, .string E0, .int .i64 0, .int .i64 0, .int .i64 0, .string E0, .string E0, .int .i64 xc, .int .i64 xd] 40)).alloc (.cells #[.int .i64 x0, .int .i64 3, .int .i64 x2, .int .i64 x3, .int .i64 x4, .slice la ln lc, .string E0, .int .i64 0, .int .i64 0, .int .i64 0, .string E0, .string E0, .int .i64 xc, .int .i64 xd] 40) := ⟨_, rfl⟩
    have hz : Z.heap[w.heap.size + 1]? = some (.cells #[.int .i64 x0, .int .i64 3, .int .i64 x2, .int .i64 x3, .int .i64 x4, .slice la ln lc, .string E0, .int .i64 0, .int .i64 0, .int .i64 0, .string E0, .string E0, .int .i64 xc, .int .i64 xd] 40 (0, 0)) := by rw [hZ]; exact block_alloc (two_new _ _ _) _
    have hkz : Kp [] w Z := hZ ▸ (((Kp.refl _ _).alloc _).alloc _).alloc _
    rw [← hZ]
    have HZ := Lib.hid hZ
    clear hZ
    obtain ⟨z0, z1, z2, z3, z4, z5, z6, z7, z8, z9, z10, z11, z12, z13⟩ := read14 hz
    exact bodyPost_ret (ret14_r11Only _ _ (w.heap.size + 1) (by kernel_rfl) z0 z1 z2 z3 z4 z5 z6 z7 z8 z9 z10 z11 z12 z13) rfl ⟨rfl, hkz⟩
  have ho : namedR ⟨x0, x1, ⟨x2, x3, x4, lx⟩, ⟨x6, x7, x8, x9, xa⟩, xb, xc, xd⟩ = ⟨x0, x1, ⟨x2, x3, x4, lx⟩, zeroEnt, E0, 0, 0⟩ := by unfold namedR; rw [if_neg e1, if_neg e0, if_neg e3]
  have hv : ∀ v, namedV x1 v = v := fun v => by unfold namedV; rw [if_neg e1]
  simp only [RecV]
  rw [ho, hv]
  simp only
  clear ho hv
  have f0 := int_ne e0
  have f1 := int_ne e1
  have f3 := int_ne e3
  clear e0 e1 e3
  go_enter Tryz.func59, Tryz.ntmps59
  go_wp2_with fail
  obtain ⟨Z, hZ⟩ : ∃ Z, Z = ((w.alloc (.cells #[.int .i64 x0, .int .i64 x1, .int .i64 x2, .int .i64 x3, .int .i64 x4, .slice la ln lc, .string x6, .int .i64 x7, .int .i64 x8, .int .i64 x9, .string xa, .string xb, .int .i64 xc, .int .i64 xd] 40)).alloc (.cells #[.int .i64 x0, .int .i64 x1, .int .i64 x2, .int .i64 x3, .int .i64 x4, .slice la ln lc, .string E0, .int .i64 0, .int .i64 0, .int .i64 0, .string E0, .string E0, .int .i64 0, .int .i64 0] 40)).alloc (.cells #[.int .i64 x0, .int .i64 x1, .int .i64 x2, .int .i64 x3, .int .i64 x4, .slice la ln lc, .string E0, .int .i64 0, .int .i64 0, .int .i64 0, .string E0, .string E0, .int .i64 0, .int .i64 0] 40) := ⟨_, rfl⟩
  have hz : Z.heap[w.heap.size + 1]? = some (.cells #[.int .i64 x0, .int .i64 x1, .int .i64 x2, .int .i64 x3, .int .i64 x4, .slice la ln lc, .string E0, .int .i64 0, .int .i64 0, .int .i64 0, .string E0, .string E0, .int .i64 0, .int .i64 0] 40 (0, 0)) := by rw [hZ]; exact block_alloc (two_new _ _ _) _
  have hkz : Kp [] w Z := hZ ▸ (((Kp.refl _ _).alloc _).alloc _).alloc _
  rw [← hZ]
  have HZ := Lib.hid hZ
  clear hZ
  obtain ⟨z0, z1, z2, z3, z4, z5, z6, z7, z8, z9, z10, z11, z12, z13⟩ := read14 hz
  exact bodyPost_ret (ret14_r11Only _ _ (w.heap.size + 1) (by kernel_rfl) z0 z1 z2 z3 z4 z5 z6 z7 z8 z9 z10 z11 z12 z13) rfl ⟨rfl, hkz⟩
set_option maxHeartbeats 4000000 in
set_option maxRecDepth 20000 in
theorem rsame11 (x y : RecD) (lvx lvy : Value) (B : Nat) (w : World) (h1 : LocsAt B w lvx x.vol.locs) (h2 : LocsAt B w lvy y.vol.locs) (z1 : x.vol.locs.length ≤ 100000) :
    Calls Tryz.prog 58 #[.agg (RecV x lvx), .agg (RecV y lvy)] w fun e w' => e = .returned (.bool (decide (x = y))) ∧ Kp [] w w' := by
  obtain ⟨la, lc, rfl⟩ := slice_ex h1
  obtain ⟨ma, mc, rfl⟩ := slice_ex h2
  obtain ⟨x0, x1, ⟨x2, x3, x4, lx⟩, ⟨x6, x7, x8, x9, xa⟩, xb, xc, xd⟩ := x
  obtain ⟨y0, y1, ⟨y2, y3, y4, ly⟩, ⟨y6, y7, y8, y9, ya⟩, yb, yc, yd⟩ := y
  simp only at h1 h2 z1
  simp only [RecV]
  obtain ⟨R, hR⟩ : ∃ R, R = decide ((⟨x0, x1, ⟨x2, x3, x4, lx⟩, ⟨x6, x7, x8, x9, xa⟩, xb, xc, xd⟩ : RecD) = ⟨y0, y1, ⟨y2, y3, y4, ly⟩, ⟨y6, y7, y8, y9, ya⟩, yb, yc, yd⟩) := ⟨_, rfl⟩
  rw [← hR]
  obtain ⟨w0, hw0⟩ : ∃ w0, w0 = (w.alloc (.cells #[.int .i64 x0, .int .i64 x1, .int .i64 x2, .int .i64 x3, .int .i64 x4, .slice la lx.length lc, .string x6, .int .i64 x7, .int .i64 x8, .int .i64 x9, .string xa, .string xb, .int .i64 xc, .int .i64 xd] 40)).alloc (.cells #[.int .i64 y0, .int .i64 y1, .int .i64 y2, .int .i64 y3, .int .i64 y4, .slice ma ly.length mc, .string y6, .int .i64 y7, .int .i64 y8, .int .i64 y9, .string ya, .string yb, .int .i64 yc, .int .i64 yd] 40) := ⟨_, rfl⟩
  have kw0 : Kp [] w w0 := hw0 ▸ ((Kp.refl _ _).alloc _).alloc _
  have hbx : w0.heap[w.heap.size]? = some (.cells #[.int .i64 x0, .int .i64 x1, .int .i64 x2, .int .i64 x3, .int .i64 x4, .slice la lx.length lc, .string x6, .int .i64 x7, .int .i64 x8, .int .i64 x9, .string xa, .string xb, .int .i64 xc, .int .i64 xd] 40 (0, 0)) := by rw [hw0]; exact block_alloc (block_new _ _) _
  have hby : w0.heap[w.heap.size + 1]? = some (.cells #[.int .i64 y0, .int .i64 y1, .int .i64 y2, .int .i64 y3, .int .i64 y4, .slice ma ly.length mc, .string y6, .int .i64 y7, .int .i64 y8, .int .i64 y9, .string ya, .string yb, .int .i64 yc, .int .i64 yd] 40 (0, 0)) := by rw [hw0]; exact two_new _ _ _
  obtain ⟨c0, c1, c2, c3, c4, c5, c6, c7, c8, c9, c10, c11, c12, c13⟩ := cells14 hbx
  obtain ⟨d0, d1, d2, d3, d4, d5, d6, d7, d8, d9, d10, d11, d12, d13⟩ := cells14 hby
  have hv := r11vols ⟨x2, x3, x4, lx⟩ ⟨y2, y3, y4, ly⟩ _ _ B B w0 (h1.keep0 kw0) (h2.keep0 kw0) z1
  simp only [VolVA] at hv
  obtain ⟨Q, hQ⟩ : ∃ Q, Q = decide ((⟨x2, x3, x4, lx⟩ : VolD) = ⟨y2, y3, y4, ly⟩) := ⟨_, rfl⟩
  rw [← hQ] at hv
  have HR := Lib.hid hR
  have HQ := Lib.hid hQ
  have Hw0 := Lib.hid hw0
  have hK := Kp.refl [] w0
  clear hR hQ hw0 hbx hby
  by_cases e0 : x0 = y0
  · have g0 : (x0 == y0) = true := by simp [e0]
    by_cases e1 : x1 = y1
    · have g1 : (x1 == y1) = true := by simp [e1]
      cases Q with
      | false =>
        have hq := of_decide_eq_false HQ.out.symm
        have hr : R = false := by rw [HR.out]; exact decide_eq_false (fun h => hq (by cases h; rfl))
        have HZ := Lib.hid hr
        clear hr
        clear e0 e1
        go_enter Tryz.func58, Tryz.ntmps58
        go_wp2_with fail
        rw [← Hw0.out]
        go_wp2_with fail
        refine hv.mono ?_
        rintro e w1 ⟨rfl, hk1⟩
        clear hv
        go_wp2_with fail
        go_ret
        exact ⟨by rw [HZ.out]; rfl, kw0.trans hk1⟩
      | true =>
        have hq := of_decide_eq_true HQ.out.symm
        by_cases e6 : x6 = y6
        · have g6 : (x6.toList == y6.toList) = true := by simp [e6]
          by_cases e7 : x7 = y7
          · have g7 : (x7 == y7) = true := by simp [e7]
            by_cases e8 : x8 = y8
            · have g8 : (x8 == y8) = true := by simp [e8]
              by_cases e9 : x9 = y9
              · have g9 : (x9 == y9) = true := by simp [e9]
                by_cases ea : xa = ya
                · have ga : (xa.toList == ya.toList) = true := by simp [ea]
                  by_cases eb : xb = yb
                  · have gb : (xb.toList == yb.toList) = true := by simp [eb]
                    by_cases ec : xc = yc
                    · have gc : (xc == yc) = true := by simp [ec]
                      by_cases ed : xd = yd
                      · have gd : (xd == yd) = true := by simp [ed]
                        have hr : R = true := by rw [HR.out]; refine decide_eq_true ?_; simp only [VolD.mk.injEq] at hq; obtain ⟨q1, q2, q3, q4⟩ := hq; subst q1 q2 q3 q4 e0 e1 e6 e7 e8 e9 ea eb ec ed; rfl
                        have HZ := Lib.hid hr
                        clear hr
                        clear e0 e1 e6 e7 e8 e9 ea eb ec ed
                        go_enter Tryz.func58, Tryz.ntmps58
                        go_wp2_with fail
                        rw [← Hw0.out]
                        go_wp2_with fail
                        refine hv.mono ?_
                        rintro e w1 ⟨rfl, hk1⟩
                        clear hv
                        go_wp2_with fail
                        go_ret
                        exact ⟨by rw [HZ.out]; rfl, kw0.trans hk1⟩
                      · have gd := int_ne ed
                        have hr : R = false := by rw [HR.out]; exact decide_eq_false (fun h => ed (by cases h; rfl))
                        have HZ := Lib.hid hr
                        clear hr
                        clear e0 e1 e6 e7 e8 e9 ea eb ec ed
                        go_enter Tryz.func58, Tryz.ntmps58
                        go_wp2_with fail
                        rw [← Hw0.out]
                        go_wp2_with fail
                        refine hv.mono ?_
                        rintro e w1 ⟨rfl, hk1⟩
                        clear hv
                        go_wp2_with fail
                        go_ret
                        exact ⟨by rw [HZ.out]; rfl, kw0.trans hk1⟩
                    · have gc := int_ne ec
                      have hr : R = false := by rw [HR.out]; exact decide_eq_false (fun h => ec (by cases h; rfl))
                      have HZ := Lib.hid hr
                      clear hr
                      clear e0 e1 e6 e7 e8 e9 ea eb ec
                      go_enter Tryz.func58, Tryz.ntmps58
                      go_wp2_with fail
                      rw [← Hw0.out]
                      go_wp2_with fail
                      refine hv.mono ?_
                      rintro e w1 ⟨rfl, hk1⟩
                      clear hv
                      go_wp2_with fail
                      go_ret
                      exact ⟨by rw [HZ.out]; rfl, kw0.trans hk1⟩
                  · have gb := bytes_ne eb
                    have hr : R = false := by rw [HR.out]; exact decide_eq_false (fun h => eb (by cases h; rfl))
                    have HZ := Lib.hid hr
                    clear hr
                    clear e0 e1 e6 e7 e8 e9 ea eb
                    go_enter Tryz.func58, Tryz.ntmps58
                    go_wp2_with fail
                    rw [← Hw0.out]
                    go_wp2_with fail
                    refine hv.mono ?_
                    rintro e w1 ⟨rfl, hk1⟩
                    clear hv
                    go_wp2_with fail
                    go_ret
                    exact ⟨by rw [HZ.out]; rfl, kw0.trans hk1⟩
                · have ga := bytes_ne ea
                  have hr : R = false := by rw [HR.out]; exact decide_eq_false (fun h => ea (by cases h; rfl))
                  have HZ := Lib.hid hr
                  clear hr
                  clear e0 e1 e6 e7 e8 e9 ea
                  go_enter Tryz.func58, Tryz.ntmps58
                  go_wp2_with fail
                  rw [← Hw0.out]
                  go_wp2_with fail
                  refine hv.mono ?_
                  rintro e w1 ⟨rfl, hk1⟩
                  clear hv
                  go_wp2_with fail
                  go_ret
                  exact ⟨by rw [HZ.out]; rfl, kw0.trans hk1⟩
              · have g9 := int_ne e9
                have hr : R = false := by rw [HR.out]; exact decide_eq_false (fun h => e9 (by cases h; rfl))
                have HZ := Lib.hid hr
                clear hr
                clear e0 e1 e6 e7 e8 e9
                go_enter Tryz.func58, Tryz.ntmps58
                go_wp2_with fail
                rw [← Hw0.out]
                go_wp2_with fail
                refine hv.mono ?_
                rintro e w1 ⟨rfl, hk1⟩
                clear hv
                go_wp2_with fail
                go_ret
                exact ⟨by rw [HZ.out]; rfl, kw0.trans hk1⟩
            · have g8 := int_ne e8
              have hr : R = false := by rw [HR.out]; exact decide_eq_false (fun h => e8 (by cases h; rfl))
              have HZ := Lib.hid hr
              clear hr
              clear e0 e1 e6 e7 e8
              go_enter Tryz.func58, Tryz.ntmps58
              go_wp2_with fail
              rw [← Hw0.out]
              go_wp2_with fail
              refine hv.mono ?_
              rintro e w1 ⟨rfl, hk1⟩
              clear hv
              go_wp2_with fail
              go_ret
              exact ⟨by rw [HZ.out]; rfl, kw0.trans hk1⟩
          · have g7 := int_ne e7
            have hr : R = false := by rw [HR.out]; exact decide_eq_false (fun h => e7 (by cases h; rfl))
            have HZ := Lib.hid hr
            clear hr
            clear e0 e1 e6 e7
            go_enter Tryz.func58, Tryz.ntmps58
            go_wp2_with fail
            rw [← Hw0.out]
            go_wp2_with fail
            refine hv.mono ?_
            rintro e w1 ⟨rfl, hk1⟩
            clear hv
            go_wp2_with fail
            go_ret
            exact ⟨by rw [HZ.out]; rfl, kw0.trans hk1⟩
        · have g6 := bytes_ne e6
          have hr : R = false := by rw [HR.out]; exact decide_eq_false (fun h => e6 (by cases h; rfl))
          have HZ := Lib.hid hr
          clear hr
          clear e0 e1 e6
          go_enter Tryz.func58, Tryz.ntmps58
          go_wp2_with fail
          rw [← Hw0.out]
          go_wp2_with fail
          refine hv.mono ?_
          rintro e w1 ⟨rfl, hk1⟩
          clear hv
          go_wp2_with fail
          go_ret
          exact ⟨by rw [HZ.out]; rfl, kw0.trans hk1⟩
    · have g1 := int_ne e1
      have hr : R = false := by rw [HR.out]; exact decide_eq_false (fun h => e1 (by cases h; rfl))
      have HZ := Lib.hid hr
      clear hr
      clear e0 e1
      go_enter Tryz.func58, Tryz.ntmps58
      go_wp2_with fail
      rw [← Hw0.out]
      go_wp2_with fail
      go_ret
      exact ⟨by rw [HZ.out]; rfl, kw0⟩
  · have g0 := int_ne e0
    have hr : R = false := by rw [HR.out]; exact decide_eq_false (fun h => e0 (by cases h; rfl))
    have HZ := Lib.hid hr
    clear hr
    clear e0
    go_enter Tryz.func58, Tryz.ntmps58
    go_wp2_with fail
    rw [← Hw0.out]
    go_wp2_with fail
    go_ret
    exact ⟨by rw [HZ.out]; rfl, kw0⟩
end Go.Proofs.YtdhhddifmkijhaaGreat
