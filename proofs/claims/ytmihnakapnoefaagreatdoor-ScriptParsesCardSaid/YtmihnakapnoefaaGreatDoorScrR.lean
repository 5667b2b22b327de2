/-
  The command of a line: Parse, the program's.
-/
import Derived.Test.YtmihnakapnoefaaGreatDoorScrQ
import Derived.WalkMore
namespace Go.Proofs.YtmihnakapnoefaaGreatDoor
open Go.RowKit Go.WideShapes

set_option maxHeartbeats 16000000 in
set_option maxRecDepth 20000 in
theorem sparse_call (s : ByteArray) (hs : s.size < 16384) (hc : isCall s = true) (w : World) (hE : Env w) :
    Calls Tryz.prog 12 #[.string s] w fun e w' => ∃ kv tv, e = .returned (.tuple #[.agg (CmdV (parseC s).1 kv tv), .int .i64 (parseC s).2]) ∧ BoolsAt w'.heap.size w' kv (parseC s).1.keep ∧ BoolsAt w'.heap.size w' tv (parseC s).1.torn ∧ Kp [] w w' := by
  obtain ⟨w0, hw0⟩ : ∃ w0, w0 = w.alloc (.cells #[.int .i64 0, .int .i64 0, .string E0, .string E0, .int .i64 0, .int .i64 0, .int .i64 0, .string E0, .slice none 0 0, .slice none 0 0] 32) := ⟨_, rfl⟩
  have kw0 : Kp [] w w0 := hw0 ▸ (Kp.refl _ _).alloc _
  obtain ⟨R, hR⟩ : ∃ R, R = w.heap.size := ⟨_, rfl⟩
  have hbR : w0.heap[R]? = some (.cells #[.int .i64 0, .int .i64 0, .string E0, .string E0, .int .i64 0, .int .i64 0, .int .i64 0, .string E0, .slice none 0 0, .slice none 0 0] 32 (0, 0)) := by rw [hw0, hR]; exact block_new _ _
  have HR := Lib.hid hR
  have Hw0 := Lib.hid hw0
  have HBR := Lib.hid hbR
  obtain ⟨⟨pc, pe⟩, hp⟩ : ∃ p, p = parseC s := ⟨_, rfl⟩
  rw [← hp]
  have HP := Lib.hid hp
  have hE0 := hE.keep kw0
  have HCL := Lib.hid hc
  clear hw0 hR hp hbR hc
  go_enter Tryz.func12, Tryz.ntmps12
  go_wp2_with fail
  rw [← Hw0.out, ← HR.out]
  go_step3
  go_wp2_with fail
  refine (Tryz.strings_CutPrefix s ⟨#[99, 97, 108, 108, 32]⟩ w0).mono ?_
  rintro e w1 ⟨rfl, e1⟩
  rw [e1]
  clear e1 w1
  have hpre : Lib.hasPrefix s.data.toList (⟨#[99, 97, 108, 108, 32]⟩ : ByteArray).data.toList = isCall s := call_prefix s
  rw [hpre, HCL.out]
  have hc := HCL.out
  clear HCL
  have htr : (⟨(Lib.trimPrefix s.data.toList (⟨#[99, 97, 108, 108, 32]⟩ : ByteArray).data.toList).toArray⟩ : ByteArray) = SB (s.data.toList.drop 5) := by
    unfold Lib.trimPrefix; rw [hpre, hc]; rfl
  rw [htr]
  obtain ⟨s5, hs5⟩ : ∃ s5, s5 = SB (s.data.toList.drop 5) := ⟨_, rfl⟩
  rw [← hs5]
  have hz5 : s5.size < 16384 := by rw [hs5, SB_size, List.length_drop, len_data]; omega
  obtain ⟨⟨⟨rk, rs, rv⟩, re⟩, hq⟩ : ∃ p, p = parseR s5 := ⟨_, rfl⟩
  have hpc : pc = reqCmd (rk, rs, rv) ∧ pe = re := by
    have := HP.out
    unfold parseC at this
    rw [hc, if_pos rfl, ← hs5, ← hq] at this
    simp only [Prod.mk.injEq] at this
    exact this
  obtain ⟨rfl, rfl⟩ := hpc
  have HQ := Lib.hid hq
  clear hpre htr hs5 hc hq HP
  go_wp2_with fail
  refine (qparse s5 hz5 _ hE0.sh).mono ?_
  rintro e w1 ⟨rfl, k1⟩
  rw [← HQ.out]
  simp only [reqV]
  have hbR1 := Kp.blockAt (X := []) HBR.out (by simp) _ (k1.alloc (.cells #[.int .i64 rk, .string rs, .string rv] 23))
  obtain ⟨⟨r0, r1, r2, r3, r4, r5, r6, r7, r8, r9⟩, rf⟩ := read10 hbR1
  have HB1 := Lib.hid hbR1
  have hk1 := kw0.trans (k1.alloc (.cells #[.int .i64 rk, .string rs, .string rv] 23))
  clear hbR1
  go_wp2_with fail
  rw [Exit.noGoto_ret]
  have hz := put10 (HB1.out) (.int .i64 0) (.int .i64 rk) (.string rs) (.string rv) (.int .i64 0) (.int .i64 0) (.int .i64 0) (.string E0) (.slice none 0 0) (.slice none 0 0)
  have hkz := (hk1).put10 (R := R) (.inr (Nat.le_of_eq HR.out.symm)) (.int .i64 0) (.int .i64 rk) (.string rs) (.string rv) (.int .i64 0) (.int .i64 0) (.int .i64 0) (.string E0) (.slice none 0 0) (.slice none 0 0)
  obtain ⟨Z, hZ⟩ : ∃ Z, Z = (((((((((((w1.alloc (.cells #[.int .i64 rk, .string rs, .string rv] 23)).setCell ⟨R, 0, none⟩ (.int .i64 0)).setCell ⟨R, 1, none⟩ (.int .i64 rk)).setCell ⟨R, 2, none⟩ (.string rs)).setCell ⟨R, 3, none⟩ (.string rv)).setCell ⟨R, 4, none⟩ (.int .i64 0)).setCell ⟨R, 5, none⟩ (.int .i64 0)).setCell ⟨R, 6, none⟩ (.int .i64 0)).setCell ⟨R, 7, none⟩ (.string E0)).setCell ⟨R, 8, none⟩ (.slice none 0 0)).setCell ⟨R, 9, none⟩ (.slice none 0 0)) := ⟨_, rfl⟩
  rw [← hZ] at hz hkz ⊢
  have HZ := Lib.hid hZ
  clear hZ
  obtain ⟨⟨z0, z1, z2, z3, z4, z5, z6, z7, z8, z9⟩, -⟩ := read10 hz
  refine bodyPost_ret (by simp [results, Tryz.results12, go_sem, z0, z1, z2, z3, z4, z5, z6, z7, z8, z9]; try rfl) rfl ?_
  exact ⟨_, _, rfl, nilBools _, nilBools _, hkz⟩
theorem sparse (s : ByteArray) (hs : s.size < 16384) (w : World) (hE : Env w) :
    Calls Tryz.prog 12 #[.string s] w fun e w' => ∃ kv tv, e = .returned (.tuple #[.agg (CmdV (parseC s).1 kv tv), .int .i64 (parseC s).2]) ∧ BoolsAt w'.heap.size w' kv (parseC s).1.keep ∧ BoolsAt w'.heap.size w' tv (parseC s).1.torn ∧ Kp [] w w' := by
  cases hc : isCall s with
  | true => exact sparse_call s hs hc w hE
  | false => exact sparse_line s hs hc w hE
end Go.Proofs.YtmihnakapnoefaaGreatDoor
