/-
  live: some answers that the document gives, of commands' lines.
-/
import Derived.Test.YtmihnakapnoefaaGreatDoorScrS
import Derived.Test.YtmihnakapnoefaaGreatDoorScrR
namespace Go.Proofs.YtmihnakapnoefaaGreatDoor
open Go.RowKit Go.WideShapes

theorem dd1 : Lib.decDigits 1 = [49] := by rw [dec_small 1 (by decide)]; rfl
theorem dd0 : Lib.decDigits 0 = [48] := by rw [dec_small 0 (by decide)]; rfl
theorem dd20 : Lib.decDigits 20 = [50, 48] := by rw [dec_step 20 (by decide)]; show Lib.decDigits 2 ++ _ = _; rw [dec_small 2 (by decide)]; rfl
abbrev cKeep : Cmd := ⟨1, 0, E0, E0, 1, 0, 20, E0, [], []⟩
abbrev cPut : Cmd := ⟨0, 0, ⟨#[97]⟩, ⟨#[104, 105]⟩, 0, 0, 0, E0, [], []⟩
abbrev cCrash : Cmd := ⟨7, 0, E0, E0, 0, 0, 0, E0, [true, false], []⟩
theorem sv1 : parseC ⟨#[107, 101, 101, 112, 32, 49, 32, 48, 32, 50, 48]⟩ = (cKeep, 0) := by
  have h := back_printC (c := cKeep) (by decide +kernel)
  have e : lineC cKeep = [107, 101, 101, 112, 32, 49, 32, 48, 32, 50, 48] := by
    show Lib.join [wordA 1, Lib.decDigits 1, Lib.decDigits 0, Lib.decDigits 20] [32] = _
    rw [dd1, dd0, dd20]; rfl
  rw [e] at h
  exact h
theorem sv2 : parseC ⟨#[99, 97, 108, 108, 32, 112, 117, 116, 32, 97, 32, 54, 56, 54, 57]⟩ = (cPut, 0) := by
  have h := back_printC (c := cPut) (by decide +kernel)
  have e : lineC cPut = [99, 97, 108, 108, 32, 112, 117, 116, 32, 97, 32, 54, 56, 54, 57] := by decide +kernel
  rw [e] at h
  exact h
theorem sv3 : printC cCrash = (⟨#[99, 114, 97, 115, 104, 32, 49, 48, 32, 45]⟩, 0) := by
  have h : checkC cCrash = 0 := by decide +kernel
  have e : lineC cCrash = [99, 114, 97, 115, 104, 32, 49, 48, 32, 45] := by decide +kernel
  unfold printC
  rw [if_pos h, e]
theorem sv4 : parseC ⟨#[115, 116, 101, 112, 32, 48, 49]⟩ = (zeroCmd, 14) := by
  have h := parse_word (k := 2) (r := [[48, 49]]) (by decide) (by decide) (by decide)
  have e : readC 2 ([[48, 49]].map SB) = none := by
    have hn : numR [48, 49] = none := by
      unfold numR
      rw [show digVal [48, 49] = 1 from rfl, dd1, if_neg (by decide)]
    show (match numR [48, 49] with | some n => some (⟨2, 0, E0, E0, n, 0, 0, E0, [], []⟩ : Cmd) | none => none) = none
    rw [hn]
  rw [e] at h
  exact h
theorem sv_call (s : ByteArray) (h : isCall s = true) (e : Int) (hp : parseR (SB (s.data.toList.drop 5)) = (zeroReq, e)) : parseC s = (zeroCmd, e) := by
  unfold parseC
  rw [h, if_pos rfl, hp]; rfl
theorem sv5 : parseC ⟨#[99, 97, 108, 108, 32, 103, 101, 116]⟩ = (zeroCmd, 14) := sv_call _ (by decide +kernel) _ (by decide +kernel)
theorem sv6 : parseC ⟨#[99, 97, 108, 108, 32, 103, 101, 116, 32, 1]⟩ = (zeroCmd, 11) := sv_call _ (by decide +kernel) _ (by decide +kernel)
theorem sv7 : checkC ⟨8, 0, E0, E0, 0, 0, 0, E0, [], []⟩ = 1 := by decide +kernel
theorem bools_two (w : World) (t : TypeId) : BoolsAt (w.heap.size + 1) (w.alloc (.cells #[.bool true, .bool false] t)) (.slice (some ⟨w.heap.size, 0, none⟩) 2 2) [true, false] := slice_new w t [.bool true, .bool false] 1 2 rfl
set_option maxHeartbeats 4000000 in
set_option maxRecDepth 100000 in
theorem live_true (w : World) (hE : Env w) : Calls Tryz.prog 6 #[] w fun e w' => e = .returned (.bool true) ∧ Kp [] w w' := by
  have hK := Kp.refl [] w
  go_enter Tryz.func6, Tryz.ntmps6
  go_wp2_with fail
  refine (sparse _ (by decide) _ (hE.keep hK)).mono ?_
  rintro e w1 ⟨kv0, tv0, rfl, hb1_1, hb2_1, kk⟩
  rw [sv1] at hb1_1 hb2_1 ⊢
  obtain ⟨ka1, kc1, rfl⟩ := slice_ex hb1_1
  obtain ⟨ta1, tc1, rfl⟩ := slice_ex hb2_1
  replace hK := hK.trans kk
  clear kk
  simp only [CmdV]
  go_wp2_with fail
  obtain ⟨u1, h2⟩ : ∃ u1, u1 = (w1).alloc (.cells #[.int .i64 1, .int .i64 0, .string E0, .string E0, .int .i64 1, .int .i64 0, .int .i64 20, .string E0, .slice ka1 0 kc1, .slice ta1 0 tc1] 32) := ⟨_, rfl⟩
  have b2 : (u1).heap[(w1).heap.size]? = some (.cells #[.int .i64 1, .int .i64 0, .string E0, .string E0, .int .i64 1, .int .i64 0, .int .i64 20, .string E0, .slice ka1 0 kc1, .slice ta1 0 tc1] 32 (0, 0)) := by rw [h2]; exact block_new _ _
  have kk : Kp [] w1 u1 := h2 ▸ (Kp.refl _ _).alloc _
  have hsz : (u1).heap.size = (w1).heap.size + 1 := by rw [h2]; simp
  have HSZ := Lib.hid hsz
  clear hsz
  replace hK := hK.trans kk
  rw [← h2]
  clear h2
  obtain ⟨a0, a1, a2, a3, a4, a5, a6, a7, a8, a9⟩ := cells10 b2
  have hA := Kp.refl [] u1
  have HW1 := Lib.hid kk
  have q1 := hb1_1.keep0 kk
  have q2 := hb2_1.keep0 kk
  clear b2 kk hb1_1 hb2_1 HSZ
  refine (sparse _ (by decide) _ (hE.keep hK)).mono ?_
  rintro e w2 ⟨kv0, tv0, rfl, hb1_2, hb2_2, kk⟩
  rw [sv2] at hb1_2 hb2_2 ⊢
  obtain ⟨ka2, kc2, rfl⟩ := slice_ex hb1_2
  obtain ⟨ta2, tc2, rfl⟩ := slice_ex hb2_2
  replace hK := hK.trans kk
  replace hA := hA.trans kk
  clear kk hb1_2 hb2_2
  simp only [CmdV]
  go_wp2_with fail
  obtain ⟨u2, h2⟩ : ∃ u2, u2 = (w2).alloc (.cells #[.int .i64 0, .int .i64 0, .string ⟨#[97]⟩, .string ⟨#[104, 105]⟩, .int .i64 0, .int .i64 0, .int .i64 0, .string E0, .slice ka2 0 kc2, .slice ta2 0 tc2] 32) := ⟨_, rfl⟩
  have b2 : (u2).heap[(w2).heap.size]? = some (.cells #[.int .i64 0, .int .i64 0, .string ⟨#[97]⟩, .string ⟨#[104, 105]⟩, .int .i64 0, .int .i64 0, .int .i64 0, .string E0, .slice ka2 0 kc2, .slice ta2 0 tc2] 32 (0, 0)) := by rw [h2]; exact block_new _ _
  have kk : Kp [] w2 u2 := h2 ▸ (Kp.refl _ _).alloc _
  have hsz : (u2).heap.size = (w2).heap.size + 1 := by rw [h2]; simp
  have HSZ := Lib.hid hsz
  clear hsz
  replace hK := hK.trans kk
  rw [← h2]
  clear h2
  obtain ⟨b0, b1, b2', b3, b4, b5, b6, b7, b8, b9⟩ := cells10 b2
  have hB := Kp.refl [] u2
  replace hA := hA.trans kk
  clear b2 kk b0 b1 b2' b4 b5 b6 b7 b8 b9
  obtain ⟨u3, h3⟩ : ∃ u3, u3 = u2.alloc (.cells #[.bool true, .bool false] 4) := ⟨_, rfl⟩
  have q3 : BoolsAt u3.heap.size u3 (.slice (some ⟨w2.heap.size + 1, 0, none⟩) 2 2) [true, false] := by
    rw [h3, ← HSZ.out]
    exact (bools_two u2 4).up (by simp)
  have kk : Kp [] u2 u3 := h3 ▸ (Kp.refl _ _).alloc _
  replace hK := hK.trans kk
  replace hA := hA.trans kk
  replace hB := hB.trans kk
  rw [← h3]
  clear h3 kk HSZ
  refine (sprint cCrash _ _ _ _ q3 (nilBools u3) (by decide) (by decide) (by decide) (by decide) (by decide) (hE.keep hK).tab).mono ?_
  rintro e w3 ⟨rfl, kk⟩
  rw [sv3]
  replace hK := hK.trans kk
  replace hA := hA.trans kk
  replace hB := hB.trans kk
  clear kk q3
  go_wp2_with fail
  refine (sparse _ (by decide) _ (hE.keep hK)).mono ?_
  rintro e w4 ⟨kv0, tv0, rfl, hb1_4, hb2_4, kk⟩
  rw [sv4] at hb1_4 hb2_4 ⊢
  obtain ⟨ka4, kc4, rfl⟩ := slice_ex hb1_4
  obtain ⟨ta4, tc4, rfl⟩ := slice_ex hb2_4
  replace hK := hK.trans kk
  replace hA := hA.trans kk
  replace hB := hB.trans kk
  clear kk hb1_4 hb2_4
  simp only [CmdV, zeroCmd]
  go_wp2_with fail
  obtain ⟨u4, h2⟩ : ∃ u4, u4 = (w4).alloc (.cells #[.int .i64 0, .int .i64 0, .string E0, .string E0, .int .i64 0, .int .i64 0, .int .i64 0, .string E0, .slice ka4 0 kc4, .slice ta4 0 tc4] 32) := ⟨_, rfl⟩
  have b2 : (u4).heap[(w4).heap.size]? = some (.cells #[.int .i64 0, .int .i64 0, .string E0, .string E0, .int .i64 0, .int .i64 0, .int .i64 0, .string E0, .slice ka4 0 kc4, .slice ta4 0 tc4] 32 (0, 0)) := by rw [h2]; exact block_new _ _
  have kk : Kp [] w4 u4 := h2 ▸ (Kp.refl _ _).alloc _
  have hsz : (u4).heap.size = (w4).heap.size + 1 := by rw [h2]; simp
  have HSZ := Lib.hid hsz
  clear hsz
  replace hK := hK.trans kk
  rw [← h2]
  clear h2
  replace hA := hA.trans kk
  replace hB := hB.trans kk
  clear kk b2 HSZ
  refine (sparse _ (by decide) _ (hE.keep hK)).mono ?_
  rintro e w5 ⟨kv0, tv0, rfl, hb1_5, hb2_5, kk⟩
  rw [sv5] at hb1_5 hb2_5 ⊢
  obtain ⟨ka5, kc5, rfl⟩ := slice_ex hb1_5
  obtain ⟨ta5, tc5, rfl⟩ := slice_ex hb2_5
  replace hK := hK.trans kk
  replace hA := hA.trans kk
  replace hB := hB.trans kk
  clear kk hb1_5 hb2_5
  simp only [CmdV, zeroCmd]
  go_wp2_with fail
  obtain ⟨u5, h2⟩ : ∃ u5, u5 = (w5).alloc (.cells #[.int .i64 0, .int .i64 0, .string E0, .string E0, .int .i64 0, .int .i64 0, .int .i64 0, .string E0, .slice ka5 0 kc5, .slice ta5 0 tc5] 32) := ⟨_, rfl⟩
  have b2 : (u5).heap[(w5).heap.size]? = some (.cells #[.int .i64 0, .int .i64 0, .string E0, .string E0, .int .i64 0, .int .i64 0, .int .i64 0, .string E0, .slice ka5 0 kc5, .slice ta5 0 tc5] 32 (0, 0)) := by rw [h2]; exact block_new _ _
  have kk : Kp [] w5 u5 := h2 ▸ (Kp.refl _ _).alloc _
  have hsz : (u5).heap.size = (w5).heap.size + 1 := by rw [h2]; simp
  have HSZ := Lib.hid hsz
  clear hsz
  replace hK := hK.trans kk
  rw [← h2]
  clear h2
  replace hA := hA.trans kk
  replace hB := hB.trans kk
  clear kk b2 HSZ
  refine (sparse _ (by decide) _ (hE.keep hK)).mono ?_
  rintro e w6 ⟨kv0, tv0, rfl, hb1_6, hb2_6, kk⟩
  rw [sv6] at hb1_6 hb2_6 ⊢
  obtain ⟨ka6, kc6, rfl⟩ := slice_ex hb1_6
  obtain ⟨ta6, tc6, rfl⟩ := slice_ex hb2_6
  replace hK := hK.trans kk
  replace hA := hA.trans kk
  replace hB := hB.trans kk
  clear kk hb1_6 hb2_6
  simp only [CmdV, zeroCmd]
  obtain ⟨ob, hob⟩ : ∃ ob, ob = Obj.cells #[.int .i64 0, .int .i64 0, .string E0, .string E0, .int .i64 0, .int .i64 0, .int .i64 0, .string E0, .slice ka6 0 kc6, .slice ta6 0 tc6] 32 := ⟨_, rfl⟩
  have hA6 := hA.alloc (.cells #[.int .i64 0, .int .i64 0, .string E0, .string E0, .int .i64 0, .int .i64 0, .int .i64 0, .string E0, .slice ka6 0 kc6, .slice ta6 0 tc6] 32)
  have hB6 := hB.alloc (.cells #[.int .i64 0, .int .i64 0, .string E0, .string E0, .int .i64 0, .int .i64 0, .int .i64 0, .string E0, .slice ka6 0 kc6, .slice ta6 0 tc6] 32)
  have hK6 := hK.alloc (.cells #[.int .i64 0, .int .i64 0, .string E0, .string E0, .int .i64 0, .int .i64 0, .int .i64 0, .string E0, .slice ka6 0 kc6, .slice ta6 0 tc6] 32)
  clear hob ob
  go_wp2_with fail
  obtain ⟨u6, h6⟩ : ∃ u6, u6 = w6.alloc (.cells #[.int .i64 0, .int .i64 0, .string E0, .string E0, .int .i64 0, .int .i64 0, .int .i64 0, .string E0, .slice ka6 0 kc6, .slice ta6 0 tc6] 32) := ⟨_, rfl⟩
  rw [← h6] at hA6 hB6 hK6 ⊢
  clear h6 hA hB hK
  have hsame : sameC cKeep ⟨1, 0, E0, E0, 1, 0, 20, E0, [], []⟩ = true := by decide +kernel
  have HSM := Lib.hid hsame
  clear hsame
  refine (ssame cKeep ⟨1, 0, E0, E0, 1, 0, 20, E0, [], []⟩ _ _ _ _ _ _ (q1.keep0 hA6) (q2.keep0 hA6) ((nilBools w1).keep0 ((HW1.out).trans hA6)) ((nilBools w1).keep0 ((HW1.out).trans hA6)) (by decide) (by decide)).mono ?_
  rintro e w7 ⟨rfl, kk⟩
  rw [HSM.out]
  replace hB6 := hB6.trans kk
  replace hK6 := hK6.trans kk
  clear kk
  go_wp2_with fail
  have hch : checkC ⟨8, 0, E0, E0, 0, 0, 0, E0, [], []⟩ = 1 := sv7
  refine (scheck ⟨8, 0, E0, E0, 0, 0, 0, E0, [], []⟩ _ _ _ _ (nilBools w7) (nilBools w7) (by decide) (by decide) (by decide) (by decide)).mono ?_
  rintro e w8 ⟨rfl, kk⟩
  rw [sv7]
  replace hK6 := hK6.trans kk
  clear kk hch
  go_wp2_with fail
  go_ret
  exact ⟨rfl, hK6⟩
end Go.Proofs.YtmihnakapnoefaaGreatDoor
