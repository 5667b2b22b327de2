/-
  The laws' own volumes and records; small records.
  Small records.
-/
import Derived.Test.YtdhhddifmkijhaaGreatIdxE
namespace Go.Proofs.YtdhhddifmkijhaaGreat
open Go.RowKit

def locs9 (n : Nat) : List (Int × Int) := (List.range n).map fun i : Nat => ((i : Int), (0 : Int))
def laidV (id gen n : Int) : VolD := ⟨id, gen, n, locs9 9⟩
theorem locs9_snoc (n : Nat) : locs9 (n + 1) = locs9 n ++ [((n : Int), 0)] := by
  unfold locs9
  rw [List.range_succ, List.map_append]; rfl
theorem locs9_len (n : Nat) : (locs9 n).length = n := by simp [locs9]
theorem flat_snoc (l : List (Int × Int)) (p : Int × Int) : (l ++ [p]).flatMap locV = l.flatMap locV ++ [.int .i64 p.1, .int .i64 p.2] := by simp [locV]
theorem Tryz.info88 : (Tryz.prog.info? 88).map (fun i => (i.zero, i.size, i.bytes)) = some (some (.agg #[.int .i64 0, .int .i64 0]), 2, 16) := by kernel_rfl
theorem Tryz.underlying34 : Tryz.prog.underlying 34 = some (.slice 88) := by kernel_rfl
set_option maxRecDepth 20000 in
theorem ret4_laid13 (t : Array Value) (Z : World) (R : Nat) {v0 v1 v2 v3 : Value} (h2 : t.getD 6 undef = .pointer (some ⟨R, 0, none⟩)) (z0 : Z.cell? ⟨R, 0, none⟩ = some v0) (z1 : Z.cell? ⟨R, 1, none⟩ = some v1) (z2 : Z.cell? ⟨R, 2, none⟩ = some v2) (z3 : Z.cell? ⟨R, 3, none⟩ = some v3) :
    (results Tryz.f19 t).run Tryz.prog Z = .ok (.agg #[v0, v1, v2, v3]) Z := by
  have h2' : t[6]?.getD undef = .pointer (some ⟨R, 0, none⟩) := by rw [← h2]; simp [Array.getD_eq_getD_getElem?]
  simp [results, Tryz.results19, go_sem, z0, z1, z2, z3, h2']
  try rfl
set_option maxHeartbeats 4000000 in
set_option maxRecDepth 20000 in
theorem laid_any (id gen n : Int) (w : World) : Calls Tryz.prog 19 #[.int .i64 id, .int .i64 gen, .int .i64 n] w fun e w' => ∃ av cv, e = .returned (.agg #[.int .i64 id, .int .i64 gen, .int .i64 n, .slice av 9 cv]) ∧ w'.ownsRow w.heap.size 88 2 (.slice av 9 cv) 9 ((locs9 9).flatMap locV) ∧ Kp [] w w' := by
  obtain ⟨w0, hw0⟩ : ∃ w0, w0 = w.alloc (.cells #[.int .i64 0, .int .i64 0, .int .i64 0, .slice none 0 0] 36) := ⟨_, rfl⟩
  have k0 : Kp [] w w0 := hw0 ▸ (Kp.refl _ _).alloc _
  have bR : w0.heap[w.heap.size]? = some (.cells #[.int .i64 0, .int .i64 0, .int .i64 0, .slice none 0 0] 36 (0, 0)) := by rw [hw0]; exact block_new _ _
  obtain ⟨b, hb⟩ : ∃ b, b = w0.heap.size := ⟨_, rfl⟩
  have hbs : w.heap.size + 1 = b := by rw [hb, hw0, World.size_alloc]
  obtain ⟨w1, hw1⟩ : ∃ w1, w1 = w0.alloc (.cells #[.int .i64 id, .int .i64 gen, .int .i64 n, .slice none 0 0] 36) := ⟨_, rfl⟩
  have k1 : Kp [] w0 w1 := hw1 ▸ (Kp.refl _ _).alloc _
  have bb : w1.heap[b]? = some (.cells #[.int .i64 id, .int .i64 gen, .int .i64 n, .slice none 0 0] 36 (0, 0)) := by rw [hw1, hb]; exact block_new _ _
  have hs1 : w1.heap.size = b + 1 := by rw [hw1, World.size_alloc, ← hb]
  have kw := k0.trans k1
  have bR1 := (k1.block _ (lt_of_block bR) (by simp)).trans bR
  have Hw0 := Lib.hid hw0
  have Hw1 := Lib.hid hw1
  have HB := Lib.hid hbs
  have HS := Lib.hid hs1
  have hK := Kp.refl [b] w1
  have hO : w1.ownsRow (b + 1) 88 2 (.slice none 0 0) 0 [] := ⟨rfl, .inl ⟨rfl, rfl⟩⟩
  clear hw0 hw1 hb hs1 hbs bR
  obtain ⟨i0, hi, hz0, hz1, hz2⟩ := info_parts Tryz.info88
  go_enter Tryz.func19, Tryz.ntmps19
  go_wp2_with fail
  rw [← Hw0.out, ← Hw1.out, HB.out]
  go_loopg [8] 9 (fun g i wr => ∃ (k : Nat) (av : Option Addr) (cv : Nat), k + g = 9 ∧ i = .int .i64 k ∧ Kp [b] w1 wr ∧ wr.heap[b]? = some (.cells #[.int .i64 id, .int .i64 gen, .int .i64 n, .slice av k cv] 36 (0, 0)) ∧ wr.ownsRow (b + 1) 88 2 (.slice av k cv) k ((locs9 k).flatMap locV))
  case atStart => exact ⟨0, none, 0, by omega, rfl, hK, bb, hO⟩
  case round =>
    clear hK bb hO
    obtain ⟨k, av, cv, hk, rfl, hK, hbb, hO⟩ := hrel
    have c0 := cell_of_cells (o := 0) (v := .int .i64 id) hbb rfl
    have c1 := cell_of_cells (o := 1) (v := .int .i64 gen) hbb rfl
    have c2 := cell_of_cells (o := 2) (v := .int .i64 n) hbb rfl
    have c3 := cell_of_cells (o := 3) (v := .slice av k cv) hbb rfl
    have HN := Lib.hid hk
    have HO := Lib.hid hO
    have hge := own_block_ge hO
    by_cases hlt : k < 9
    · obtain ⟨g', rfl⟩ : ∃ g', gk = g' + 1 := ⟨gk - 1, by omega⟩
      have hltI : (k : Int) < 9 := by omega
      clear hk hO
      go_wp2_with (first | (at_builtin; refine wpList_append_mine _ rfl (.tmp 18) (.tmp 21) 34 rfl (b + 1) 88 i0 (.agg #[.int .i64 0, .int .i64 0]) 2 16 Tryz.underlying34 hi hz0 hz1 hz2 rfl (by decide) (.slice av k cv) k ((locs9 k).flatMap locV) rfl (ownsRow_keep (X := []) HO.out ((Kp.refl _ wr).alloc _) (fun _ _ => by simp)) ⟨wr.heap.size, 0, none⟩ 1 1 [.int .i64 k, .int .i64 0] rfl rfl (new_cells wr _ _) (one_cells2 rfl rfl) (by unfold maxLen; omega) (by omega) (by have := hK.size; have := HS.out; simp; omega) ?_))
      intro v' w3 hown' hkp _ _
      obtain ⟨av', cv', rfl⟩ := ownsRow_ex hown'
      have k3 : Kp (Value.slice av k cv).ownBlock.toList wr w3 := ((Kp.refl _ wr).alloc _).trans hkp
      have hx : ∀ i, i < b + 1 → i ∉ (Value.slice av k cv).ownBlock.toList := fun i hi hm => by
        simp only [Option.mem_toList] at hm
        have := hge _ hm; omega
      have hbb3 := (k3.block b (lt_of_block hbb) (hx b (Nat.lt_succ_self _))).trans hbb
      have hK3 : Kp [b] w1 w3 := hK.step k3 (fun i hi hm => absurd hm (hx i (by have := HS.out; omega)))
      have d3 := cell_of_cells (o := 3) (v := .slice av k cv) hbb3 rfl
      have f3 := frozen_of_cells hbb3 3
      rw [← flat_snoc _ ((k : Int), 0), ← locs9_snoc] at hown'
      have hb4 : (w3.setCell ⟨b, 3, none⟩ (.slice av' (k + 1) cv')).heap[b]? = some (.cells #[.int .i64 id, .int .i64 gen, .int .i64 n, .slice av' (k + 1) cv'] 36 (0, 0)) := by
        rw [block_setCell hbb3]
        rfl
      have hO4 := ownsRow_keep (X := [b]) hown' ((Kp.refl _ w3).setCell (p := ⟨b, 3, none⟩) (.inl (by simp)) (.slice av' (k + 1) cv')) (fun i hi => by simp; omega)
      have hK4 : Kp [b] w1 (w3.setCell ⟨b, 3, none⟩ (.slice av' (k + 1) cv')) := hK3.setCell (.inl (by simp)) _
      clear hkp hown' k3 hge c0 c1 c2 c3 hbb hK hK3 hbb3
      go_wp2_with fail
      go_roundg g'
      case rel => exact ⟨k + 1, av', cv', st_next HN.out, by go_num, hK4, hb4, hO4⟩
      case measure => omega
    · obtain rfl : k = 9 := by omega
      obtain rfl : gk = 0 := by omega
      have hr := (hK.block _ (lt_of_block bR1) (by have := HB.out; simp; omega)).trans bR1
      have z0 := cell_of_cells (o := 0) (v := .int .i64 0) hr rfl
      have z1 := cell_of_cells (o := 1) (v := .int .i64 0) hr rfl
      have z2 := cell_of_cells (o := 2) (v := .int .i64 0) hr rfl
      have z3 := cell_of_cells (o := 3) (v := .slice none 0 0) hr rfl
      have f0 := frozen_of_cells hr
      clear hk hge
      go_wp2_with fail
      obtain ⟨Z, hZ⟩ : ∃ Z, Z = (((wr.setCell ⟨w.heap.size, 0, none⟩ (.int .i64 id)).setCell ⟨w.heap.size, 1, none⟩ (.int .i64 gen)).setCell ⟨w.heap.size, 2, none⟩ (.int .i64 n)).setCell ⟨w.heap.size, 3, none⟩ (.slice av 9 cv) := ⟨_, rfl⟩
      have hz : Z.heap[w.heap.size]? = some (.cells #[.int .i64 id, .int .i64 gen, .int .i64 n, .slice av 9 cv] 36 (0, 0)) := by
        rw [hZ, block_setCell (block_setCell (block_setCell (block_setCell hr 0 _) 1 _) 2 _) 3 _]
        rfl
      have hkr : Kp [w.heap.size] wr Z := hZ ▸ ((((Kp.refl _ _).setCell (.inl (by simp)) _).setCell (.inl (by simp)) _).setCell (.inl (by simp)) _).setCell (.inl (by simp)) _
      have hkz : Kp [] w Z := (kw.step hK (fun i hi hm => by have := HB.out; simp only [List.mem_singleton] at hm; omega)).step hkr (fun i hi hm => by simp only [List.mem_singleton] at hm; omega)
      have hOz := ownsRow_keep hO hkr (fun i hi => by have := HB.out; simp; omega)
      rw [← hZ]
      have HZ := Lib.hid hZ
      clear hZ
      exact bodyPost_ret (ret4_laid13 _ _ w.heap.size (by kernel_rfl) (cell_of_cells hz rfl) (cell_of_cells hz rfl) (cell_of_cells hz rfl) (cell_of_cells hz rfl)) rfl ⟨av, cv, rfl, ownsRow_base hOz (by have := HB.out; omega), hkz⟩
/-- the digest of the laws' own entries -/
abbrev dig13 : ByteArray := ⟨#[48, 49, 50, 51, 52, 53, 54, 55, 56, 57, 97, 98, 99, 100, 101, 102, 48, 49, 50, 51, 52, 53, 54, 55, 56, 57, 97, 98, 99, 100, 101, 102]⟩
def putR (key : ByteArray) (id : Int) : RecD := ⟨0, 0, laidV id 0 40, ⟨key, id, 0, 40, dig13⟩, E0, 0, 0⟩
set_option maxRecDepth 20000 in
theorem ret14_put13 (t : Array Value) (Z : World) (R : Nat) {v0 v1 v2 v3 v4 v5 v6 v7 v8 v9 v10 v11 v12 v13 : Value} (h2 : t.getD 4 undef = .pointer (some ⟨R, 0, none⟩)) (z0 : Z.cell? ⟨R, 0, none⟩ = some v0) (z1 : Z.cell? ⟨R, 1, none⟩ = some v1) (z2 : Z.cell? ⟨R, 2, none⟩ = some v2) (z3 : Z.cell? ⟨R, 3, none⟩ = some v3) (z4 : Z.cell? ⟨R, 4, none⟩ = some v4) (z5 : Z.cell? ⟨R, 5, none⟩ = some v5) (z6 : Z.cell? ⟨R, 6, none⟩ = some v6) (z7 : Z.cell? ⟨R, 7, none⟩ = some v7) (z8 : Z.cell? ⟨R, 8, none⟩ = some v8) (z9 : Z.cell? ⟨R, 9, none⟩ = some v9) (z10 : Z.cell? ⟨R, 10, none⟩ = some v10) (z11 : Z.cell? ⟨R, 11, none⟩ = some v11) (z12 : Z.cell? ⟨R, 12, none⟩ = some v12) (z13 : Z.cell? ⟨R, 13, none⟩ = some v13) :
    (results Tryz.f18 t).run Tryz.prog Z = .ok (.agg #[v0, v1, v2, v3, v4, v5, v6, v7, v8, v9, v10, v11, v12, v13]) Z := by
  have h2' : t[4]?.getD undef = .pointer (some ⟨R, 0, none⟩) := by rw [← h2]; simp [Array.getD_eq_getD_getElem?]
  simp [results, Tryz.results18, go_sem, z0, z1, z2, z3, z4, z5, z6, z7, z8, z9, z10, z11, z12, z13, h2']
  try rfl
set_option maxHeartbeats 4000000 in
set_option maxRecDepth 20000 in
theorem put_any (key : ByteArray) (id : Int) (w : World) : Calls Tryz.prog 18 #[.string key, .int .i64 id] w fun e w' => ∃ av cv, e = .returned (.agg (RecV (putR key id) (.slice av 9 cv))) ∧ w'.ownsRow w.heap.size 88 2 (.slice av 9 cv) 9 ((locs9 9).flatMap locV) ∧ Kp [] w w' := by
  obtain ⟨w0, hw0⟩ : ∃ w0, w0 = w.alloc (.cells #[.int .i64 0, .int .i64 0, .int .i64 0, .int .i64 0, .int .i64 0, .slice none 0 0, .string E0, .int .i64 0, .int .i64 0, .int .i64 0, .string E0, .string E0, .int .i64 0, .int .i64 0] 43) := ⟨_, rfl⟩
  have k0 : Kp [] w w0 := hw0 ▸ (Kp.refl _ _).alloc _
  have bR : w0.heap[w.heap.size]? = some (.cells #[.int .i64 0, .int .i64 0, .int .i64 0, .int .i64 0, .int .i64 0, .slice none 0 0, .string E0, .int .i64 0, .int .i64 0, .int .i64 0, .string E0, .string E0, .int .i64 0, .int .i64 0] 43 (0, 0)) := by rw [hw0]; exact block_new _ _
  have hs0 : w.heap.size < w0.heap.size := by rw [hw0, World.size_alloc]; exact Nat.lt_succ_self _
  have Hw0 := Lib.hid hw0
  clear hw0
  go_enter Tryz.func18, Tryz.ntmps18
  go_wp2_with fail
  rw [← Hw0.out]
  refine (laid_any id 0 40 _).mono ?_
  rintro e w1 ⟨av, cv, rfl, hO, k1⟩
  have hr := (k1.block _ (lt_of_block bR) (by simp)).trans bR
  obtain ⟨z0, z1, z2, z3, z4, z5, z6, z7, z8, z9, z10, z11, z12, z13⟩ := read14 hr
  have f0 := frozen_of_cells hr
  go_wp2_with fail
  obtain ⟨Z, hZ⟩ : ∃ Z, Z = w1.setCells w.heap.size 0 [.int .i64 0, .int .i64 0, .int .i64 id, .int .i64 0, .int .i64 40, .slice av 9 cv, .string key, .int .i64 id, .int .i64 0, .int .i64 40, .string dig13, .string E0, .int .i64 0, .int .i64 0] := ⟨_, rfl⟩
  have hz : Z.heap[w.heap.size]? = some (.cells #[.int .i64 0, .int .i64 0, .int .i64 id, .int .i64 0, .int .i64 40, .slice av 9 cv, .string key, .int .i64 id, .int .i64 0, .int .i64 40, .string dig13, .string E0, .int .i64 0, .int .i64 0] 43 (0, 0)) := by rw [hZ]; exact setCells_whole hr rfl
  have hkr : Kp [w.heap.size] w1 Z := hZ ▸ Kp.setCells (.inl (by simp)) _ _ (Kp.refl _ _)
  have hkz : Kp [] w Z := (k0.trans k1).step hkr (fun i hi hm => by simp only [List.mem_singleton] at hm; omega)
  have hOz := ownsRow_keep hO hkr (fun i hi => by simp; omega)
  refine cast (congrArg (fun u => bodyPost _ _ _ _ _ u) hZ) ?_
  have HZ := Lib.hid hZ
  clear hZ z0 z1 z2 z3 z4 z5 z6 z7 z8 z9 z10 z11 z12 z13
  obtain ⟨z0, z1, z2, z3, z4, z5, z6, z7, z8, z9, z10, z11, z12, z13⟩ := read14 hz
  exact bodyPost_ret (ret14_put13 _ _ w.heap.size (by kernel_rfl) z0 z1 z2 z3 z4 z5 z6 z7 z8 z9 z10 z11 z12 z13) rfl ⟨av, cv, rfl, ownsRow_base hOz (by omega), hkz⟩
end Go.Proofs.YtdhhddifmkijhaaGreat

namespace Go.Proofs.YtdhhddifmkijhaaGreat
open Go.RowKit

theorem leq_true {a b : Nat} (h : a ≤ b) : decide ((a : Int) ≤ (b : Int)) = true := by simp; exact h
theorem leq_false {a b : Nat} (h : ¬ a ≤ b) : decide ((a : Int) ≤ (b : Int)) = false := by simp; omega
set_option maxHeartbeats 4000000 in
set_option maxRecDepth 20000 in
theorem rsmall (c : RecD) (lv : Value) (B : Nat) (w : World) (hl : LocsAt B w lv c.vol.locs) : Calls Tryz.prog 7 #[.agg (RecV c lv)] w fun e w' => e = .returned (.bool (smallR c)) ∧ Kp [] w w' := by
  obtain ⟨la, lc, rfl⟩ := slice_ex hl
  obtain ⟨x0, x1, ⟨x2, x3, x4, lx⟩, ⟨x6, x7, x8, x9, xa⟩, xb, xc, xd⟩ := c
  simp only [RecV]
  simp only at hl
  obtain ⟨R, hR⟩ : ∃ R, R = smallR ⟨x0, x1, ⟨x2, x3, x4, lx⟩, ⟨x6, x7, x8, x9, xa⟩, xb, xc, xd⟩ := ⟨_, rfl⟩
  have hR2 : R = (decide (lx.length ≤ 20) && decide (x6.size ≤ 100) && decide (xa.size ≤ 100) && decide (xb.size ≤ 100)) := hR
  rw [← hR]
  have HR := Lib.hid hR2
  clear hR hR2
  obtain ⟨w1, hw1⟩ : ∃ w1, w1 = w.alloc (.cells #[.int .i64 x0, .int .i64 x1, .int .i64 x2, .int .i64 x3, .int .i64 x4, .slice la lx.length lc, .string x6, .int .i64 x7, .int .i64 x8, .int .i64 x9, .string xa, .string xb, .int .i64 xc, .int .i64 xd] 40) := ⟨_, rfl⟩
  have k1 : Kp [] w w1 := hw1 ▸ (Kp.refl _ _).alloc _
  have b1 : w1.heap[w.heap.size]? = some (.cells #[.int .i64 x0, .int .i64 x1, .int .i64 x2, .int .i64 x3, .int .i64 x4, .slice la lx.length lc, .string x6, .int .i64 x7, .int .i64 x8, .int .i64 x9, .string xa, .string xb, .int .i64 xc, .int .i64 xd] 40 (0, 0)) := by rw [hw1]; exact block_new _ _
  have Hw1 := Lib.hid hw1
  clear hw1
  obtain ⟨c0, c1, c2, c3, c4, c5, c6, c7, c8, c9, c10, c11, c12, c13⟩ := read14 b1
  by_cases h0 : lx.length ≤ 20
  · have d0 : decide (lx.length ≤ 20) = true := decide_eq_true h0
    have e0 : decide ((lx.length : Int) ≤ 20) = true := leq_true h0
    clear h0
    by_cases h1 : x6.size ≤ 100
    · have d1 : decide (x6.size ≤ 100) = true := decide_eq_true h1
      have e1 : decide ((x6.size : Int) ≤ 100) = true := leq_true h1
      clear h1
      by_cases h2 : xa.size ≤ 100
      · have d2 : decide (xa.size ≤ 100) = true := decide_eq_true h2
        have e2 : decide ((xa.size : Int) ≤ 100) = true := leq_true h2
        clear h2
        by_cases h3 : xb.size ≤ 100
        · have d3 : decide (xb.size ≤ 100) = true := decide_eq_true h3
          have e3 : decide ((xb.size : Int) ≤ 100) = true := leq_true h3
          clear h3
          go_enter Tryz.func7, Tryz.ntmps7
          go_wp2_with fail
          rw [← Hw1.out]
          go_wp2_with fail
          go_ret
          exact ⟨by rw [HR.out, d0, d1, d2, d3]; rfl, k1⟩
        · have d3 : decide (xb.size ≤ 100) = false := decide_eq_false h3
          have e3 : decide ((xb.size : Int) ≤ 100) = false := leq_false h3
          clear h3
          go_enter Tryz.func7, Tryz.ntmps7
          go_wp2_with fail
          rw [← Hw1.out]
          go_wp2_with fail
          go_ret
          exact ⟨by rw [HR.out, d0, d1, d2, d3]; rfl, k1⟩
      · have d2 : decide (xa.size ≤ 100) = false := decide_eq_false h2
        have e2 : decide ((xa.size : Int) ≤ 100) = false := leq_false h2
        clear h2
        go_enter Tryz.func7, Tryz.ntmps7
        go_wp2_with fail
        rw [← Hw1.out]
        go_wp2_with fail
        go_ret
        exact ⟨by rw [HR.out, d0, d1, d2]; rfl, k1⟩
    · have d1 : decide (x6.size ≤ 100) = false := decide_eq_false h1
      have e1 : decide ((x6.size : Int) ≤ 100) = false := leq_false h1
      clear h1
      go_enter Tryz.func7, Tryz.ntmps7
      go_wp2_with fail
      rw [← Hw1.out]
      go_wp2_with fail
      go_ret
      exact ⟨by rw [HR.out, d0, d1]; rfl, k1⟩
  · have d0 : decide (lx.length ≤ 20) = false := decide_eq_false h0
    have e0 : decide ((lx.length : Int) ≤ 20) = false := leq_false h0
    clear h0
    go_enter Tryz.func7, Tryz.ntmps7
    go_wp2_with fail
    rw [← Hw1.out]
    go_wp2_with fail
    go_ret
    exact ⟨by rw [HR.out, d0]; rfl, k1⟩
end Go.Proofs.YtdhhddifmkijhaaGreat
