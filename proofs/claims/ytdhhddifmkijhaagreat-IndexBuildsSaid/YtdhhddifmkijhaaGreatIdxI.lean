/-
  New, Known, Get, Next of the program's index.
-/
import Derived.Test.YtdhhddifmkijhaaGreatIdxH
namespace Go.Proofs.YtdhhddifmkijhaaGreat
open Go.RowKit Go.ChangeMaps Go.Maps Go.WideShapes Go.WideMaps Go.WideElems Go.MapKept Go.ChangeShapes

theorem IxAt.cells {I : Ib} {w : World} {x : Ix} (h : IxAt I w x) : w.cell? ⟨I.b, 0, none⟩ = some (.map (some I.e)) ∧ w.cell? ⟨I.b, 1, none⟩ = some (.map (some I.g)) ∧ w.cell? ⟨I.b, 2, none⟩ = some (.map (some I.v)) ∧ w.cell? ⟨I.b, 3, none⟩ = some (.map (some I.h)) ∧ w.cell? ⟨I.b, 4, none⟩ = some (.int .i64 x.N) :=
  ⟨cell_of_cells h.top rfl, cell_of_cells h.top rfl, cell_of_cells h.top rfl, cell_of_cells h.top rfl, cell_of_cells h.top rfl⟩
set_option maxHeartbeats 4000000 in
set_option maxRecDepth 20000 in
theorem inew (w : World) : Calls Tryz.prog 6 #[] w fun e w' => ∃ I : Ib, e = .returned I.p ∧ IxAt I w' Ix.zero ∧ Kp [] w w' ∧ (∀ i ∈ I.X, w.heap.size ≤ i) := by
  go_enter Tryz.func6, Tryz.ntmps6
  go_wp2_with fail
  rw [run_makeMap_plain]
  go_wp2_with fail
  rw [run_makeMap_plain]
  go_wp2_with fail
  rw [run_makeMap_plain]
  go_wp2_with fail
  rw [run_makeMap_plain]
  go_wp2_with fail
  go_ret
  obtain ⟨w1, h1⟩ : ∃ w1, w1 = w.alloc (.map #[] 0) := ⟨_, rfl⟩
  obtain ⟨w2, h2⟩ : ∃ w2, w2 = w1.alloc (.map #[] 0) := ⟨_, rfl⟩
  obtain ⟨w3, h3⟩ : ∃ w3, w3 = w2.alloc (.map #[] 0) := ⟨_, rfl⟩
  obtain ⟨w4, h4⟩ : ∃ w4, w4 = w3.alloc (.map #[] 0) := ⟨_, rfl⟩
  have s1 : w1.heap.size = w.heap.size + 1 := by rw [h1, World.size_alloc]
  have s2 : w2.heap.size = w.heap.size + 1 + 1 := by rw [h2, World.size_alloc, s1]
  have s3 : w3.heap.size = w.heap.size + 1 + 1 + 1 := by rw [h3, World.size_alloc, s2]
  have s4 : w4.heap.size = w.heap.size + 1 + 1 + 1 + 1 := by rw [h4, World.size_alloc, s3]
  rw [← h1, ← h2, ← h3, ← h4]
  have k1 : Kp [] w w1 := h1 ▸ (Kp.refl _ _).alloc _
  have k2 : Kp [] w1 w2 := h2 ▸ (Kp.refl _ _).alloc _
  have k3 : Kp [] w2 w3 := h3 ▸ (Kp.refl _ _).alloc _
  have k4 : Kp [] w3 w4 := h4 ▸ (Kp.refl _ _).alloc _
  obtain ⟨o, ho⟩ : ∃ o, o = Obj.cells #[Value.map (some w.heap.size), Value.map (some (w.heap.size + 1)), Value.map (some (w.heap.size + 1 + 1)), Value.map (some (w.heap.size + 1 + 1 + 1)), Value.int .i64 0] 70 := ⟨_, rfl⟩
  rw [← ho]
  have k5 : Kp [] w4 (w4.alloc o) := (Kp.refl _ _).alloc _
  refine ⟨⟨w.heap.size + 1 + 1 + 1 + 1, w.heap.size, w.heap.size + 1, w.heap.size + 1 + 1, w.heap.size + 1 + 1 + 1⟩, rfl, ⟨?_, ?_, ?_, ⟨[], rfl, ?_, by simp⟩, ?_, ?_⟩, (((k1.trans k2).trans k3).trans k4).trans k5, ?_⟩
  · rw [← s4, block_new, ho]; rfl
  · exact (h1 ▸ MapK.made w : MapK _ w1 _ _).keep (((k2.trans k3).trans k4).trans k5) (by simp)
  · exact (s1 ▸ h2 ▸ MapK.made w1 : MapK _ w2 _ _).keep ((k3.trans k4).trans k5) (by simp)
  · exact (s2 ▸ h3 ▸ MapK.made w2 : MapK _ w3 _ _).keep (k4.trans k5) (by simp)
  · exact (s3 ▸ h4 ▸ MapK.made w3 : MapK _ w4 _ _).keep k5 (by simp)
  · simp only [Ib.X, List.nodup_cons, List.mem_cons, List.not_mem_nil, or_false, List.nodup_nil, not_or, and_true, not_false_eq_true]
    omega
  · intro i hi
    simp only [Ib.X, List.mem_cons, List.not_mem_nil, or_false] at hi
    omega
theorem inext {I : Ib} {x : Ix} (w : World) (h : IxAt I w x) : Calls Tryz.prog 23 #[I.p] w fun e w' => e = .returned (.int .i64 x.N) ∧ Kp [] w w' := by
  obtain ⟨c0, c1, c2, c3, c4⟩ := h.cells
  have hK := Kp.refl [] w
  go_enter Tryz.func23, Tryz.ntmps23
  go_wp2_with fail
  go_ret
  exact ⟨rfl, hK⟩
set_option maxHeartbeats 4000000 in
set_option maxRecDepth 20000 in
theorem iknown {I : Ib} {x : Ix} (hf : Fit x) (k : ByteArray) (hk : k.size ≤ maxLen) (w : World) (h : IxAt I w x) : Calls Tryz.prog 21 #[I.p, .string k] w fun e w' => e = .returned (.bool (x.known k)) ∧ Kp [] w w' := by
  have hK := Kp.refl [] w
  obtain ⟨c0, c1, c2, c3, c4⟩ := h.cells
  obtain ⟨⟨a1, a2, a3, a4, a5⟩, hn⟩ : ∃ n, n = (x.get k).1 := ⟨_, rfl⟩
  have l1 := look_ent h hf hk
  rw [← hn] at l1
  simp only [EntVA] at l1
  have kx := (Kp.refl [] w).alloc (.cells #[.string a1, .int .i64 a2, .int .i64 a3, .int .i64 a4, .string a5] 38)
  have l2 := look_gone (h.keep0 kx) hf hk
  have d1 := Kp.cellAt (X := []) c1 (by simp) _ kx
  obtain ⟨R, hR⟩ : ∃ R, R = x.known k := ⟨_, rfl⟩
  rw [← hR]
  have hR2 : R = ((aGet k x.E).isSome || has x.G k) := hR
  have HR := Lib.hid hR2
  clear hR hR2 hn
  cases hb : (aGet k x.E).isSome with
  | true =>
    rw [hb] at l1
    go_enter Tryz.func21, Tryz.ntmps21
    go_wp2_with fail
    go_ret
    exact ⟨by rw [HR.out, hb]; rfl, kx⟩
  | false =>
    rw [hb] at l1
    go_enter Tryz.func21, Tryz.ntmps21
    go_wp2_with fail
    go_ret
    exact ⟨by rw [HR.out, hb]; rfl, kx⟩
set_option maxRecDepth 20000 in
theorem ret5_iGet (t : Array Value) (Z : World) (R : Nat) (e : Int) {v0 v1 v2 v3 v4 : Value} (h2 : t.getD 4 undef = .pointer (some ⟨R, 0, none⟩)) (h3 : t.getD 5 undef = .int .i64 e) (z0 : Z.cell? ⟨R, 0, none⟩ = some v0) (z1 : Z.cell? ⟨R, 1, none⟩ = some v1) (z2 : Z.cell? ⟨R, 2, none⟩ = some v2) (z3 : Z.cell? ⟨R, 3, none⟩ = some v3) (z4 : Z.cell? ⟨R, 4, none⟩ = some v4) :
    (results Tryz.f20 t).run Tryz.prog Z = .ok (.tuple #[.agg #[v0, v1, v2, v3, v4], .int .i64 e]) Z := by
  have h2' : t[4]?.getD undef = .pointer (some ⟨R, 0, none⟩) := by rw [← h2]; simp [Array.getD_eq_getD_getElem?]
  have h3' : t[5]?.getD undef = .int .i64 e := by rw [← h3]; simp [Array.getD_eq_getD_getElem?]
  simp [results, Tryz.results20, go_sem, z0, z1, z2, z3, z4, h2', h3']
  try rfl
theorem read5 {W : World} {b : Nat} {t : TypeId} {v0 v1 v2 v3 v4 : Value} (h : W.heap[b]? = some (.cells #[v0, v1, v2, v3, v4] t (0, 0))) : W.cell? ⟨b, 0, none⟩ = some v0 ∧ W.cell? ⟨b, 1, none⟩ = some v1 ∧ W.cell? ⟨b, 2, none⟩ = some v2 ∧ W.cell? ⟨b, 3, none⟩ = some v3 ∧ W.cell? ⟨b, 4, none⟩ = some v4 :=
  ⟨cell_of_cells h rfl, cell_of_cells h rfl, cell_of_cells h rfl, cell_of_cells h rfl, cell_of_cells h rfl⟩
set_option maxHeartbeats 4000000 in
set_option maxRecDepth 20000 in
theorem iget {I : Ib} {x : Ix} (hf : Fit x) (k : ByteArray) (hk : k.size ≤ maxLen) (w : World) (h : IxAt I w x) : Calls Tryz.prog 20 #[I.p, .string k] w fun e w' => e = .returned (.tuple #[.agg (EntVA (x.get k).1), .int .i64 (x.get k).2]) ∧ Kp [] w w' := by
  have kr := (Kp.refl [] w).alloc (.cells #[.string E0, .int .i64 0, .int .i64 0, .int .i64 0, .string E0] 38)
  obtain ⟨w1, hw1⟩ : ∃ w1, w1 = w.alloc (.cells #[.string E0, .int .i64 0, .int .i64 0, .int .i64 0, .string E0] 38) := ⟨_, rfl⟩
  rw [← hw1] at kr
  have br : w1.heap[w.heap.size]? = some (.cells #[.string E0, .int .i64 0, .int .i64 0, .int .i64 0, .string E0] 38 (0, 0)) := by rw [hw1]; exact block_new _ _
  have h1 := h.keep0 kr
  obtain ⟨c0, -, -, -, -⟩ := h1.cells
  obtain ⟨⟨⟨a1, a2, a3, a4, a5⟩, er⟩, hn⟩ : ∃ n, n = x.get k := ⟨_, rfl⟩
  have l1 := look_ent h1 hf hk
  rw [← hn] at l1
  rw [← hn]
  simp only [EntVA] at l1 ⊢
  have f0 := frozen_of_cells br
  have br0 := br
  clear h1
  subst hw1
  cases hb : aGet k x.E with
  | none =>
    unfold Ix.get at hn
    rw [hb] at hn
    cases hn
    rw [hb] at l1
    clear hb
    go_enter Tryz.func20, Tryz.ntmps20
    go_wp2_with fail
    obtain ⟨Z, hZ⟩ : ∃ Z, Z = (w.alloc (.cells #[.string E0, .int .i64 0, .int .i64 0, .int .i64 0, .string E0] 38)).alloc (.cells #[.string E0, .int .i64 0, .int .i64 0, .int .i64 0, .string E0] 38) := ⟨_, rfl⟩
    have hz : Z.heap[w.heap.size]? = some (.cells #[.string E0, .int .i64 0, .int .i64 0, .int .i64 0, .string E0] 38 (0, 0)) := by rw [hZ]; exact block_alloc (block_new _ _) _
    have hkz : Kp [] w Z := hZ ▸ ((Kp.refl _ _).alloc _).alloc _
    rw [← hZ]
    have HZ := Lib.hid hZ
    clear hZ
    obtain ⟨z0, z1, z2, z3, z4⟩ := read5 hz
    exact bodyPost_ret (ret5_iGet _ _ w.heap.size _ (by kernel_rfl) (by kernel_rfl) z0 z1 z2 z3 z4) rfl ⟨rfl, hkz⟩
  | some n =>
    unfold Ix.get at hn
    rw [hb] at hn
    cases hn
    rw [hb] at l1
    clear hb
    go_enter Tryz.func20, Tryz.ntmps20
    go_wp2_with fail
    obtain ⟨Z, hZ⟩ : ∃ Z, Z = (w.alloc (.cells #[.string a1, .int .i64 a2, .int .i64 a3, .int .i64 a4, .string a5] 38)).alloc (.cells #[.string a1, .int .i64 a2, .int .i64 a3, .int .i64 a4, .string a5] 38) := ⟨_, rfl⟩
    have hz : Z.heap[w.heap.size]? = some (.cells #[.string a1, .int .i64 a2, .int .i64 a3, .int .i64 a4, .string a5] 38 (0, 0)) := by rw [hZ]; exact block_alloc (block_new _ _) _
    have hkz : Kp [] w Z := hZ ▸ ((Kp.refl _ _).alloc _).alloc _
    rw [← hZ]
    have HZ := Lib.hid hZ
    clear hZ
    obtain ⟨z0, z1, z2, z3, z4⟩ := read5 hz
    exact bodyPost_ret (ret5_iGet _ _ w.heap.size _ (by kernel_rfl) (by kernel_rfl) z0 z1 z2 z3 z4) rfl ⟨rfl, hkz⟩
end Go.Proofs.YtdhhddifmkijhaaGreat
