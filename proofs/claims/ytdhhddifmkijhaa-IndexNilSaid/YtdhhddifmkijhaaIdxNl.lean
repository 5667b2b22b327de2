/-
  An index that is none.
-/
import Derived.Test.YtdhhddifmkijhaaIdxJ
namespace Go.Proofs.Ytdhhddifmkijhaa
open Go.RowKit Go.ChangeMaps Go.Maps Go.WideShapes Go.WideMaps Go.WideElems Go.MapKept Go.ChangeShapes

theorem inext_nil (w : World) : Calls Try.prog 15 #[.pointer none] w fun e w' => e = .returned (.int .i64 0) ∧ Kp [] w w' := by
  have hK := Kp.refl [] w
  go_enter Try.func15, Try.ntmps15
  go_wp2_with fail
  go_ret
  exact ⟨rfl, hK⟩
theorem iknown_nil (k : ByteArray) (w : World) : Calls Try.prog 14 #[.pointer none, .string k] w fun e w' => e = .returned (.bool false) ∧ Kp [] w w' := by
  have hK := Kp.refl [] w
  go_enter Try.func14, Try.ntmps14
  go_wp2_with fail
  go_ret
  exact ⟨rfl, hK⟩
theorem ivolumes_nil (w : World) : Calls Try.prog 21 #[.pointer none] w fun e w' => e = .returned (.slice none 0 0) ∧ Kp [] w w' := by
  have hK := Kp.refl [] w
  go_enter Try.func21, Try.ntmps21
  go_wp2_with fail
  go_ret
  exact ⟨rfl, hK⟩
theorem ilist_nil (f : ByteArray) (many : Int) (w : World) : Calls Try.prog 20 #[.pointer none, .string f, .int .i64 many] w fun e w' => e = .returned (.slice none 0 0) ∧ Kp [] w w' := by
  have hK : Kp [] w (w.alloc (.cells #[.string f] 9)) := (Kp.refl [] w).alloc _
  go_enter Try.func20, Try.ntmps20
  go_wp2_with fail
  go_ret
  exact ⟨rfl, hK⟩
set_option maxHeartbeats 4000000 in
set_option maxRecDepth 20000 in
theorem iget_nil (k : ByteArray) (w : World) : Calls Try.prog 13 #[.pointer none, .string k] w fun e w' => e = .returned (.tuple #[.agg (EntVA zeroEnt), .int .i64 1]) ∧ Kp [] w w' := by
  go_enter Try.func13, Try.ntmps13
  go_wp2_with fail
  obtain ⟨Z, hZ⟩ : ∃ Z, Z = w.alloc (.cells #[.string E0, .int .i64 0, .int .i64 0, .int .i64 0, .string E0] 32) := ⟨_, rfl⟩
  have hz : Z.heap[w.heap.size]? = some (.cells #[.string E0, .int .i64 0, .int .i64 0, .int .i64 0, .string E0] 32 (0, 0)) := by rw [hZ]; exact block_new _ _
  have hkz : Kp [] w Z := hZ ▸ (Kp.refl _ _).alloc _
  rw [← hZ]
  have HZ := Lib.hid hZ
  clear hZ
  obtain ⟨z0, z1, z2, z3, z4⟩ := read5 hz
  exact bodyPost_ret (ret5_iGet _ _ w.heap.size _ (by kernel_rfl) (by kernel_rfl) z0 z1 z2 z3 z4) rfl ⟨rfl, hkz⟩
set_option maxHeartbeats 4000000 in
set_option maxRecDepth 20000 in
theorem ivolume_nil (id : Int) (w : World) : Calls Try.prog 24 #[.pointer none, .int .i64 id] w fun e w' => e = .returned (.tuple #[.agg (VolVA zeroVol (.slice none 0 0)), .int .i64 1]) ∧ Kp [] w w' := by
  go_enter Try.func24, Try.ntmps24
  go_wp2_with fail
  obtain ⟨Z, hZ⟩ : ∃ Z, Z = w.alloc (.cells #[.int .i64 0, .int .i64 0, .int .i64 0, .slice none 0 0] 30) := ⟨_, rfl⟩
  have hz : Z.heap[w.heap.size]? = some (.cells #[.int .i64 0, .int .i64 0, .int .i64 0, .slice none 0 0] 30 (0, 0)) := by rw [hZ]; exact block_new _ _
  have hkz : Kp [] w Z := hZ ▸ (Kp.refl _ _).alloc _
  rw [← hZ]
  have HZ := Lib.hid hZ
  clear hZ
  obtain ⟨z0, z1, z2, z3⟩ := read4 hz
  exact bodyPost_ret (ret4_iVolume _ _ w.heap.size _ (by kernel_rfl) (by kernel_rfl) z0 z1 z2 z3) rfl ⟨rfl, hkz⟩
set_option maxRecDepth 20000 in
theorem imay_nil (r : RecD) (la : Option Addr) (ln lc : Nat) (w : World) : Calls Try.prog 16 #[.pointer none, .agg (RecV r (.slice la ln lc))] w fun e w' => e = .returned (.int .i64 1) ∧ Kp [] w w' := by
  obtain ⟨x0, x1, ⟨x2, x3, x4, lx⟩, ⟨x6, x7, x8, x9, xa⟩, xb, xc, xd⟩ := r
  simp only [RecV]
  have hK : Kp [] w (w.alloc (.cells #[.int .i64 x0, .int .i64 x1, .int .i64 x2, .int .i64 x3, .int .i64 x4, .slice la ln lc, .string x6, .int .i64 x7, .int .i64 x8, .int .i64 x9, .string xa, .string xb, .int .i64 xc, .int .i64 xd] 39)) := (Kp.refl [] w).alloc _
  go_enter Try.func16, Try.ntmps16
  go_wp2_with fail
  go_ret
  exact ⟨rfl, hK⟩
set_option maxRecDepth 20000 in
theorem iapply_nil (r : RecD) (la : Option Addr) (ln lc : Nat) (w : World) : Calls Try.prog 11 #[.pointer none, .agg (RecV r (.slice la ln lc))] w fun e w' => e = .returned (.tuple #[.slice none 0 0, .int .i64 1]) ∧ Kp [] w w' := by
  have hma := fun W => imay_nil r la ln lc W
  obtain ⟨x0, x1, ⟨x2, x3, x4, lx⟩, ⟨x6, x7, x8, x9, xa⟩, xb, xc, xd⟩ := r
  simp only [RecV] at hma ⊢
  obtain ⟨w1, hw1⟩ : ∃ w1, w1 = w.alloc (.cells #[.int .i64 x0, .int .i64 x1, .int .i64 x2, .int .i64 x3, .int .i64 x4, .slice la ln lc, .string x6, .int .i64 x7, .int .i64 x8, .int .i64 x9, .string xa, .string xb, .int .i64 xc, .int .i64 xd] 39) := ⟨_, rfl⟩
  have k1 : Kp [] w w1 := hw1 ▸ (Kp.refl _ _).alloc _
  have Hw1 := Lib.hid hw1
  clear hw1
  go_enter Try.func11, Try.ntmps11
  go_wp2_with fail
  rw [← Hw1.out]
  refine (hma w1).mono ?_
  rintro e w2 ⟨rfl, k2⟩
  have hk := k1.trans k2
  clear hma
  go_wp2_with fail
  go_ret2
  exact ⟨rfl, hk⟩
end Go.Proofs.Ytdhhddifmkijhaa
