/-
  A record with what its kind names alone; the document's form and the program's.
-/
import Derived.Test.YtdhhddifmkijhaaGreatIdxB
namespace Go.Proofs.YtdhhddifmkijhaaGreat
open Go.RowKit

/-- the places' slice of what a kind names -/
def namedV (kind : Int) (lv : Value) : Value := if kind = 1 then .slice none 0 0 else lv
set_option maxRecDepth 20000 in
theorem read14 {W : World} {b : Nat} {t : TypeId} {v0 v1 v2 v3 v4 v5 v6 v7 v8 v9 v10 v11 v12 v13 : Value} (h : W.heap[b]? = some (.cells #[v0, v1, v2, v3, v4, v5, v6, v7, v8, v9, v10, v11, v12, v13] t (0, 0))) : W.cell? ⟨b, 0, none⟩ = some v0 ∧ W.cell? ⟨b, 1, none⟩ = some v1 ∧ W.cell? ⟨b, 2, none⟩ = some v2 ∧ W.cell? ⟨b, 3, none⟩ = some v3 ∧ W.cell? ⟨b, 4, none⟩ = some v4 ∧ W.cell? ⟨b, 5, none⟩ = some v5 ∧ W.cell? ⟨b, 6, none⟩ = some v6 ∧ W.cell? ⟨b, 7, none⟩ = some v7 ∧ W.cell? ⟨b, 8, none⟩ = some v8 ∧ W.cell? ⟨b, 9, none⟩ = some v9 ∧ W.cell? ⟨b, 10, none⟩ = some v10 ∧ W.cell? ⟨b, 11, none⟩ = some v11 ∧ W.cell? ⟨b, 12, none⟩ = some v12 ∧ W.cell? ⟨b, 13, none⟩ = some v13 :=
  ⟨cell_of_cells h rfl, cell_of_cells h rfl, cell_of_cells h rfl, cell_of_cells h rfl, cell_of_cells h rfl, cell_of_cells h rfl, cell_of_cells h rfl, cell_of_cells h rfl, cell_of_cells h rfl, cell_of_cells h rfl, cell_of_cells h rfl, cell_of_cells h rfl, cell_of_cells h rfl, cell_of_cells h rfl⟩
set_option maxRecDepth 20000 in
theorem ret14_rNamed (t : Array Value) (Z : World) (R : Nat) {v0 v1 v2 v3 v4 v5 v6 v7 v8 v9 v10 v11 v12 v13 : Value} (h2 : t.getD 2 undef = .pointer (some ⟨R, 0, none⟩)) (z0 : Z.cell? ⟨R, 0, none⟩ = some v0) (z1 : Z.cell? ⟨R, 1, none⟩ = some v1) (z2 : Z.cell? ⟨R, 2, none⟩ = some v2) (z3 : Z.cell? ⟨R, 3, none⟩ = some v3) (z4 : Z.cell? ⟨R, 4, none⟩ = some v4) (z5 : Z.cell? ⟨R, 5, none⟩ = some v5) (z6 : Z.cell? ⟨R, 6, none⟩ = some v6) (z7 : Z.cell? ⟨R, 7, none⟩ = some v7) (z8 : Z.cell? ⟨R, 8, none⟩ = some v8) (z9 : Z.cell? ⟨R, 9, none⟩ = some v9) (z10 : Z.cell? ⟨R, 10, none⟩ = some v10) (z11 : Z.cell? ⟨R, 11, none⟩ = some v11) (z12 : Z.cell? ⟨R, 12, none⟩ = some v12) (z13 : Z.cell? ⟨R, 13, none⟩ = some v13) :
    (results Tryz.f54 t).run Tryz.prog Z = .ok (.agg #[v0, v1, v2, v3, v4, v5, v6, v7, v8, v9, v10, v11, v12, v13]) Z := by
  have h2' : t[2]?.getD undef = .pointer (some ⟨R, 0, none⟩) := by rw [← h2]; simp [Array.getD_eq_getD_getElem?]
  simp [results, Tryz.results54, go_sem, z0, z1, z2, z3, z4, z5, z6, z7, z8, z9, z10, z11, z12, z13, h2']
  try rfl
set_option maxRecDepth 20000 in
theorem ret14_own13 (t : Array Value) (Z : World) (R : Nat) {v0 v1 v2 v3 v4 v5 v6 v7 v8 v9 v10 v11 v12 v13 : Value} (h2 : t.getD 2 undef = .pointer (some ⟨R, 0, none⟩)) (z0 : Z.cell? ⟨R, 0, none⟩ = some v0) (z1 : Z.cell? ⟨R, 1, none⟩ = some v1) (z2 : Z.cell? ⟨R, 2, none⟩ = some v2) (z3 : Z.cell? ⟨R, 3, none⟩ = some v3) (z4 : Z.cell? ⟨R, 4, none⟩ = some v4) (z5 : Z.cell? ⟨R, 5, none⟩ = some v5) (z6 : Z.cell? ⟨R, 6, none⟩ = some v6) (z7 : Z.cell? ⟨R, 7, none⟩ = some v7) (z8 : Z.cell? ⟨R, 8, none⟩ = some v8) (z9 : Z.cell? ⟨R, 9, none⟩ = some v9) (z10 : Z.cell? ⟨R, 10, none⟩ = some v10) (z11 : Z.cell? ⟨R, 11, none⟩ = some v11) (z12 : Z.cell? ⟨R, 12, none⟩ = some v12) (z13 : Z.cell? ⟨R, 13, none⟩ = some v13) :
    (results Tryz.f9 t).run Tryz.prog Z = .ok (.agg #[v0, v1, v2, v3, v4, v5, v6, v7, v8, v9, v10, v11, v12, v13]) Z := by
  have h2' : t[2]?.getD undef = .pointer (some ⟨R, 0, none⟩) := by rw [← h2]; simp [Array.getD_eq_getD_getElem?]
  simp [results, Tryz.results9, go_sem, z0, z1, z2, z3, z4, z5, z6, z7, z8, z9, z10, z11, z12, z13, h2']
  try rfl
theorem two_new (w : World) (o o' : Obj) : ((w.alloc o).alloc o').heap[w.heap.size + 1]? = some o' := by
  have := block_new (w.alloc o) o'
  rwa [World.size_alloc] at this
set_option maxHeartbeats 4000000 in
set_option maxRecDepth 20000 in
theorem rnamed (c : RecD) (la : Option Addr) (ln lc : Nat) (w : World) : Calls Tryz.prog 54 #[.agg (RecV c (.slice la ln lc))] w fun e w' => e = .returned (.agg (RecV (namedR c) (namedV c.kind (.slice la ln lc)))) ∧ Kp [] w w' := by
  obtain ⟨x0, x1, ⟨x2, x3, x4, lx⟩, ⟨x6, x7, x8, x9, xa⟩, xb, xc, xd⟩ := c
  by_cases e1 : x1 = 1
  · subst e1
    have ho : namedR ⟨x0, 1, ⟨x2, x3, x4, lx⟩, ⟨x6, x7, x8, x9, xa⟩, xb, xc, xd⟩ = ⟨x0, 1, zeroVol, zeroEnt, xb, 0, 0⟩ := rfl
    have hv : ∀ v, namedV 1 v = .slice none 0 0 := fun _ => rfl
    simp only [RecV]
    rw [ho, hv]
    simp only
    clear ho hv
    go_enter Tryz.func54, Tryz.ntmps54
    go_wp2_with fail
    obtain ⟨Z, hZ⟩ : ∃ Z, Z = ((w.alloc (.cells #[.int .i64 x0, .int .i64 1, .int .i64 x2, .int .i64 x3, .int .i64 x4, .slice la ln lc, .string x6, .int .i64 x7, .int .i64 x8, .int .i64 x9, .string xa, .string xb, .int .i64 xc, .int .i64 xd] 43)).alloc (.cells #[.int .i64 x0, .int .i64 1, .int .i64 0, .int .i64 0, .int .i64 0, .slice none 0 0, .string E0, .int .i64 0, .int .i64 0, .int .i64 0, .string E0, .string xb, .int .i64 0, .int .i64 0] 43)).alloc (.cells #[.int .i64 x0, .int .i64 1, .int .i64 0, .int .i64 0, .int .i64 0, .slice none 0 0, .string E0, .int .i64 0, .int .i64 0, .int .i64 0, .string E0, .string xb, .int .i64 0, .int .i64 0] 43) := ⟨_, rfl⟩
    have hz : Z.heap[w.heap.size + 1]? = some (.cells #[.int .i64 x0, .int .i64 1, .int .i64 0, .int .i64 0, .int .i64 0, .slice none 0 0, .string E0, .int .i64 0, .int .i64 0, .int .i64 0, .string E0, .string xb, .int .i64 0, .int .i64 0] 43 (0, 0)) := by rw [hZ]; exact block_alloc (two_new _ _ _) _
    have hkz : Kp [] w Z := hZ ▸ (((Kp.refl _ _).alloc _).alloc _).alloc _
    rw [← hZ]
    have HZ := Lib.hid hZ
    clear hZ
    obtain ⟨z0, z1, z2, z3, z4, z5, z6, z7, z8, z9, z10, z11, z12, z13⟩ := read14 hz
    exact bodyPost_ret (ret14_rNamed _ _ (w.heap.size + 1) (by kernel_rfl) z0 z1 z2 z3 z4 z5 z6 z7 z8 z9 z10 z11 z12 z13) rfl ⟨rfl, hkz⟩
  by_cases e0 : x1 = 0
  · subst e0
    have ho : namedR ⟨x0, 0, ⟨x2, x3, x4, lx⟩, ⟨x6, x7, x8, x9, xa⟩, xb, xc, xd⟩ = ⟨x0, 0, ⟨x2, x3, x4, lx⟩, ⟨x6, x7, x8, x9, xa⟩, E0, 0, 0⟩ := rfl
    have hv : ∀ v, namedV 0 v = v := fun _ => rfl
    simp only [RecV]
    rw [ho, hv]
    simp only
    clear ho hv
    go_enter Tryz.func54, Tryz.ntmps54
    go_wp2_with fail
    go_region
    go_wp2_with fail
    obtain ⟨Z, hZ⟩ : ∃ Z, Z = (((w.alloc (.cells #[.int .i64 x0, .int .i64 0, .int .i64 x2, .int .i64 x3, .int .i64 x4, .slice la ln lc, .string x6, .int .i64 x7, .int .i64 x8, .int .i64 x9, .string xa, .string xb, .int .i64 xc, .int .i64 xd] 43)).alloc (.cells #[.int .i64 x0, .int .i64 0, .int .i64 x2, .int .i64 x3, .int .i64 x4, .slice la ln lc, .string x6, .int .i64 x7, .int .i64 x8, .int .i64 x9, .string xa, .string E0, .int .i64 0, .int .i64 0] 43)).alloc (.cells #[.int .i64 x0, .int .i64 0, .int .i64 x2, .int .i64 x3, .int .i64 x4, .slice la ln lc, .string x6, .int .i64 x7, .int .i64 x8, .int .i64 x9, .string xa, .string E0, .int .i64 0, .int .i64 0] 43)).drew := ⟨_, rfl⟩
    have hz : Z.heap[w.heap.size + 1]? = some (.cells #[.int .i64 x0, .int .i64 0, .int .i64 x2, .int .i64 x3, .int .i64 x4, .slice la ln lc, .string x6, .int .i64 x7, .int .i64 x8, .int .i64 x9, .string xa, .string E0, .int .i64 0, .int .i64 0] 43 (0, 0)) := by rw [hZ]; exact block_alloc (two_new _ _ _) _
    have hkz : Kp [] w Z := hZ ▸ ((((Kp.refl _ _).alloc _).alloc _).alloc _).drew
    rw [← hZ]
    have HZ := Lib.hid hZ
    clear hZ
    obtain ⟨z0, z1, z2, z3, z4, z5, z6, z7, z8, z9, z10, z11, z12, z13⟩ := read14 hz
    exact bodyPost_ret (ret14_rNamed _ _ (w.heap.size + 1) (by kernel_rfl) z0 z1 z2 z3 z4 z5 z6 z7 z8 z9 z10 z11 z12 z13) rfl ⟨rfl, hkz⟩
  by_cases e3 : x1 = 3
  · subst e3
    have ho : namedR ⟨x0, 3, ⟨x2, x3, x4, lx⟩, ⟨x6, x7, x8, x9, xa⟩, xb, xc, xd⟩ = ⟨x0, 3, ⟨x2, x3, x4, lx⟩, zeroEnt, E0, xc, xd⟩ := rfl
    have hv : ∀ v, namedV 3 v = v := fun _ => rfl
    simp only [RecV]
    rw [ho, hv]
    simp only
    clear ho hv
    go_enter Tryz.func54, Tryz.ntmps54
    go_wp2_with fail
    go_region
    go_wp2_with fail
    obtain ⟨Z, hZ⟩ : ∃ Z, Z = (((w.alloc (.cells #[.int .i64 x0, .int .i64 3, .int .i64 x2, .int .i64 x3, .int .i64 x4, .slice la ln lc, .string x6, .int .i64 x7, .int .i64 x8, .int .i64 x9, .string xa, .string xb, .int .i64 xc, .int .i64 xd] 43)).alloc (.cells #[.int .i64 x0, .int .i64 3, .int .i64 x2, .int .i64 x3, .int .i64 x4, .slice la ln lc, .string E0, .int .i64 0, .int .i64 0, .int .i64 0, .string E0, .string E0, .int .i64 xc, .int .i64 xd] 43)).alloc (.cells #[.int .i64 x0, .int .i64 3, .int .i64 x2, .int .i64 x3, .int .i64 x4, .slice la ln lc, .string E0, .int .i64 0, .int .i64 0, .int .i64 0, .string E0, .string E0, .int .i64 xc, .int .i64 xd] 43)).drew := ⟨_, rfl⟩
    have hz : Z.heap[w.heap.size + 1]? = some (.cells #[.int .i64 x0, .int .i64 3, .int .i64 x2, .int .i64 x3, .int .i64 x4, .slice la ln lc, .string E0, .int .i64 0, .int .i64 0, .int .i64 0, .string E0, .string E0, .int .i64 xc, .int .i64 xd] 43 (0, 0)) := by rw [hZ]; exact block_alloc (two_new _ _ _) _
    have hkz : Kp [] w Z := hZ ▸ ((((Kp.refl _ _).alloc _).alloc _).alloc _).drew
    rw [← hZ]
    have HZ := Lib.hid hZ
    clear hZ
    obtain ⟨z0, z1, z2, z3, z4, z5, z6, z7, z8, z9, z10, z11, z12, z13⟩ := read14 hz
    exact bodyPost_ret (ret14_rNamed _ _ (w.heap.size + 1) (by kernel_rfl) z0 z1 z2 z3 z4 z5 z6 z7 z8 z9 z10 z11 z12 z13) rfl ⟨rfl, hkz⟩
  have ho : namedR ⟨x0, x1, ⟨x2, x3, x4, lx⟩, ⟨x6, x7, x8, x9, xa⟩, xb, xc, xd⟩ = ⟨x0, x1, ⟨x2, x3, x4, lx⟩, zeroEnt, E0, 0, 0⟩ := by unfold namedR; rw [if_neg e1, if_neg e0, if_neg e3]
  have hv : ∀ v, namedV x1 v = v := fun v => by unfold namedV; rw [if_neg e1]
  simp only [RecV]
  rw [ho, hv]
  simp only
  clear ho hv
  have f0 := int_ne e0
  have f1 := int_ne e1
  have f3 := int_ne e3
  clear e0 e1 e3
  go_enter Tryz.func54, Tryz.ntmps54
  go_wp2_with fail
  obtain ⟨Z, hZ⟩ : ∃ Z, Z = ((w.alloc (.cells #[.int .i64 x0, .int .i64 x1, .int .i64 x2, .int .i64 x3, .int .i64 x4, .slice la ln lc, .string x6, .int .i64 x7, .int .i64 x8, .int .i64 x9, .string xa, .string xb, .int .i64 xc, .int .i64 xd] 43)).alloc (.cells #[.int .i64 x0, .int .i64 x1, .int .i64 x2, .int .i64 x3, .int .i64 x4, .slice la ln lc, .string E0, .int .i64 0, .int .i64 0, .int .i64 0, .string E0, .string E0, .int .i64 0, .int .i64 0] 43)).alloc (.cells #[.int .i64 x0, .int .i64 x1, .int .i64 x2, .int .i64 x3, .int .i64 x4, .slice la ln lc, .string E0, .int .i64 0, .int .i64 0, .int .i64 0, .string E0, .string E0, .int .i64 0, .int .i64 0] 43) := ⟨_, rfl⟩
  have hz : Z.heap[w.heap.size + 1]? = some (.cells #[.int .i64 x0, .int .i64 x1, .int .i64 x2, .int .i64 x3, .int .i64 x4, .slice la ln lc, .string E0, .int .i64 0, .int .i64 0, .int .i64 0, .string E0, .string E0, .int .i64 0, .int .i64 0] 43 (0, 0)) := by rw [hZ]; exact block_alloc (two_new _ _ _) _
  have hkz : Kp [] w Z := hZ ▸ (((Kp.refl _ _).alloc _).alloc _).alloc _
  rw [← hZ]
  have HZ := Lib.hid hZ
  clear hZ
  obtain ⟨z0, z1, z2, z3, z4, z5, z6, z7, z8, z9, z10, z11, z12, z13⟩ := read14 hz
  exact bodyPost_ret (ret14_rNamed _ _ (w.heap.size + 1) (by kernel_rfl) z0 z1 z2 z3 z4 z5 z6 z7 z8 z9 z10 z11 z12 z13) rfl ⟨rfl, hkz⟩
set_option maxHeartbeats 4000000 in
set_option maxRecDepth 20000 in
theorem own_any (c : RecD) (la : Option Addr) (ln lc : Nat) (w : World) : Calls Tryz.prog 9 #[.agg (RecV c (.slice la ln lc))] w fun e w' => e = .returned (.agg (RecV c (.slice la ln lc))) ∧ Kp [] w w' := by
  obtain ⟨x0, x1, ⟨x2, x3, x4, lx⟩, ⟨x6, x7, x8, x9, xa⟩, xb, xc, xd⟩ := c
  simp only [RecV]
  go_enter Tryz.func9, Tryz.ntmps9
  go_wp2_with fail
  obtain ⟨Z, hZ⟩ : ∃ Z, Z = (w.alloc (.cells #[.int .i64 x0, .int .i64 x1, .int .i64 x2, .int .i64 x3, .int .i64 x4, .slice la ln lc, .string x6, .int .i64 x7, .int .i64 x8, .int .i64 x9, .string xa, .string xb, .int .i64 xc, .int .i64 xd] 40)).alloc (.cells #[.int .i64 x0, .int .i64 x1, .int .i64 x2, .int .i64 x3, .int .i64 x4, .slice la ln lc, .string x6, .int .i64 x7, .int .i64 x8, .int .i64 x9, .string xa, .string xb, .int .i64 xc, .int .i64 xd] 43) := ⟨_, rfl⟩
  have hz : Z.heap[w.heap.size + 1]? = some (.cells #[.int .i64 x0, .int .i64 x1, .int .i64 x2, .int .i64 x3, .int .i64 x4, .slice la ln lc, .string x6, .int .i64 x7, .int .i64 x8, .int .i64 x9, .string xa, .string xb, .int .i64 xc, .int .i64 xd] 43 (0, 0)) := by rw [hZ]; exact two_new _ _ _
  have hkz : Kp [] w Z := hZ ▸ ((Kp.refl _ _).alloc _).alloc _
  rw [← hZ]
  have HZ := Lib.hid hZ
  clear hZ
  obtain ⟨z0, z1, z2, z3, z4, z5, z6, z7, z8, z9, z10, z11, z12, z13⟩ := read14 hz
  exact bodyPost_ret (ret14_own13 _ _ (w.heap.size + 1) (by kernel_rfl) z0 z1 z2 z3 z4 z5 z6 z7 z8 z9 z10 z11 z12 z13) rfl ⟨rfl, hkz⟩
end Go.Proofs.YtdhhddifmkijhaaGreat
