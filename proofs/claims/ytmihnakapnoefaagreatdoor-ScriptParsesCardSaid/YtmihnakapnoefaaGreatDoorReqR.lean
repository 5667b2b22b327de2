/-
  The request of a line: Parse, the document's.
-/
import Derived.Test.YtmihnakapnoefaaGreatDoorReqQ
namespace Go.Proofs.YtmihnakapnoefaaGreatDoor
open Go.RowKit Go.WideShapes

/-- what the loop over the kinds has found, behind k of them -/
def kindTo (x : ByteArray) (k : Nat) : Int := if 0 ≤ kindOf x ∧ kindOf x < k then kindOf x else -1
theorem kindTo_all (x : ByteArray) : kindTo x 5 = kindOf x := by
  have := kind_range x
  unfold kindTo
  split <;> omega
theorem kindTo_zero (x : ByteArray) : kindTo x 0 = -1 := by
  unfold kindTo
  rw [if_neg (by omega)]
theorem kind_word (x : ByteArray) (k : Nat) (hk : k < 5) : (x = SB (wordL k)) ↔ kindOf x = (k : Int) := by
  have hs : kindOf x = if SB (wordL 0) = x then 0 else if SB (wordL 1) = x then 1 else if SB (wordL 2) = x then 2 else if SB (wordL 3) = x then 3 else if SB (wordL 4) = x then 4 else -1 := by
    unfold kindOf Lib.idxOfS wordsB
    simp only [Lib.idxFromS]
    rfl
  constructor
  · rintro rfl
    rw [hs]
    match k, hk with
    | 0, _ => decide +kernel
    | 1, _ => decide +kernel
    | 2, _ => decide +kernel
    | 3, _ => decide +kernel
    | 4, _ => decide +kernel
  · intro h
    rw [hs] at h
    match k, hk, h with
    | 0, _, h =>
      repeat' split at h
      all_goals first | exact Eq.symm ‹SB (wordL 0) = x› | exact absurd h (by decide)
    | 1, _, h =>
      repeat' split at h
      all_goals first | exact Eq.symm ‹SB (wordL 1) = x› | exact absurd h (by decide)
    | 2, _, h =>
      repeat' split at h
      all_goals first | exact Eq.symm ‹SB (wordL 2) = x› | exact absurd h (by decide)
    | 3, _, h =>
      repeat' split at h
      all_goals first | exact Eq.symm ‹SB (wordL 3) = x› | exact absurd h (by decide)
    | 4, _, h =>
      repeat' split at h
      all_goals first | exact Eq.symm ‹SB (wordL 4) = x› | exact absurd h (by decide)
theorem kindTo_step (x : ByteArray) (k : Nat) (hk : k < 5) : kindTo x (k + 1) = if x = SB (wordL k) then (k : Int) else kindTo x k := by
  by_cases h : x = SB (wordL k)
  · rw [if_pos h]
    have := (kind_word x k hk).1 h
    unfold kindTo
    rw [if_pos (by omega), this]
  · rw [if_neg h]
    have : kindOf x ≠ (k : Int) := fun e => h ((kind_word x k hk).2 e)
    unfold kindTo
    split <;> split <;> omega

theorem map_data_inj : ∀ a b : List ByteArray, a.map (·.data.toList) = b.map (·.data.toList) → a = b
  | [], [], _ => rfl
  | [], y :: b, h => by simp at h
  | x :: a, [], h => by simp at h
  | x :: a, y :: b, h => by
    simp only [List.map_cons, List.cons.injEq] at h
    rw [bytes_inj h.1, map_data_inj a b h.2]
set_option maxHeartbeats 4000000 in
set_option maxRecDepth 20000 in
theorem rparse (s : ByteArray) (hs : s.size < 16384) (w : World) :
    Calls Tryz.prog 34 #[.string s] w fun e w' => e = .returned (.tuple #[reqV (parseR s).1, .int .i64 (parseR s).2]) ∧ Kp [] w w' := by
  obtain ⟨w0, hw0⟩ : ∃ w0, w0 = w.alloc (.cells #[.int .i64 0, .string ⟨#[]⟩, .string ⟨#[]⟩] 23) := ⟨_, rfl⟩
  have kw0 : Kp [] w w0 := hw0 ▸ (Kp.refl _ _).alloc _
  have hrb : w0.heap[w.heap.size]? = some (.cells #[.int .i64 0, .string ⟨#[]⟩, .string ⟨#[]⟩] 23 (0, 0)) := by rw [hw0]; exact block_new _ _
  have hz0 : w0.heap.size = w.heap.size + 1 := by rw [hw0]; simp
  go_enter Tryz.func34, Tryz.ntmps34
  go_wp2_with fail
  rw [← hw0]
  refine (rwords s hs w0).mono ?_
  rintro e w1 ⟨v, rfl, ⟨ys, hys, hown⟩, k1⟩
  obtain rfl : ys = piecesOf s := by
    have h := hys.trans (pieces_words s).symm
    exact map_data_inj _ _ h
  obtain ⟨xs, hxs⟩ : ∃ xs, xs = piecesOf s := ⟨_, rfl⟩
  rw [← hxs] at hown
  have HXS := Lib.hid hxs
  obtain ⟨x0, rest, rfl⟩ : ∃ x0 rest, xs = x0 :: rest := by
    match xs, HXS.out with
    | [], h => exact absurd (congrArg List.length h) (by rw [pieces_len]; simp)
    | x0 :: rest, _ => exact ⟨x0, rest, rfl⟩
  obtain ⟨B, cp, hv, hBge, hcells⟩ : ∃ B cp, v = .slice (some ⟨B, 0, none⟩) (rest.length + 1) cp ∧ w0.heap.size ≤ B ∧ ∀ (j : Nat) (x : ByteArray), (x0 :: rest)[j]? = some x → w1.cell? ⟨B, j, none⟩ = some (.string x) := by
    obtain ⟨hl1, ⟨hv, hn⟩ | ⟨g, cap, cur, hv, hg, hb', hc, hm, hs, ht⟩⟩ := hown
    · simp at hn
    · refine ⟨g, cap, hv, hg, fun j x hj => cell_of_cells hb' ?_⟩
      rw [← Array.getElem?_toList]
      have h2 : (cur.toList.take ((x0 :: rest).length * 1))[j]? = some (.string x) := by rw [ht, List.getElem?_map, hj]; rfl
      rw [List.getElem?_take] at h2
      split at h2
      · exact h2
      · cases h2
  subst hv
  have hBlt := lt_of_cell (hcells 0 x0 rfl)
  have hrb1 := Kp.blockAt (X := []) hrb (by simp) _ k1
  obtain ⟨R, hR⟩ : ∃ R, R = w.heap.size := ⟨_, rfl⟩
  rw [← hR] at hrb1 ⊢
  have hKw := kw0.trans k1
  have HR := Lib.hid hR
  have HB := Lib.hid hBge
  have HZ := Lib.hid hz0
  have HCS := Lib.hid hcells
  clear hys hxs hown hw0 kw0 hrb hz0 k1 hR hBge hcells
  have d0 : ∀ W, Kp [] w1 W → W.cell? ⟨B, 0, none⟩ = some (.string x0) := Kp.cellAt (X := []) (HCS.out 0 x0 rfl) (by simp)
  go_wp2_with fail
  obtain ⟨b, hb⟩ : ∃ b, b = w1.heap.size := ⟨_, rfl⟩
  obtain ⟨w2, hw2⟩ : ∃ w2, w2 = w1.alloc (.cells #[.int .i64 (-1), .string ⟨#[]⟩, .string ⟨#[]⟩] 23) := ⟨_, rfl⟩
  have hblk : w2.heap[b]? = some (.cells #[.int .i64 (kindTo x0 0), .string ⟨#[]⟩, .string ⟨#[]⟩] 23 (0, 0)) := by rw [hw2, hb, kindTo_zero]; exact block_new _ _
  have hK2 : Kp [] w1 w2 := by rw [hw2]; exact (Kp.refl _ _).alloc _
  rw [← hw2, ← hb]
  have HBB := Lib.hid hb
  clear hw2 hb
  go_loopg [6] 5 (fun g i wr => ∃ n : Nat, n + g = 5 ∧ i = .int .i64 n ∧ Kp [] w1 wr ∧ wr.heap[b]? = some (.cells #[.int .i64 (kindTo x0 n), .string ⟨#[]⟩, .string ⟨#[]⟩] 23 (0, 0)))
  case atStart => exact ⟨0, by omega, rfl, hK2, hblk⟩
  case round =>
    clear hblk hK2
    obtain ⟨n, hn, rfl, hK, hblk⟩ := hrel
    have HN := Lib.hid hn
    have p0 : wr.cell? ⟨b, 0, none⟩ = some (.int .i64 (kindTo x0 n)) := cell_of_cells hblk rfl
    have f0 : wr.frozen? ⟨b, 0, none⟩ = false := frozen_of_cells hblk _
    by_cases hlt : n < 5
    · obtain ⟨g', rfl⟩ : ∃ g', gk = g' + 1 := ⟨gk - 1, by omega⟩
      clear hn
      have hltI : (n : Int) < 5 := by omega
      have hstep := kindTo_step x0 n hlt
      have HST := Lib.hid hstep
      clear hstep
      go_wp2_with fail
      refine wpB_begin 999 (Kp [] w1) (by kernel_rfl) (by first | exact hK.drew | exact Kp.drew (Kp.refl _ _)) (fun hHeld => ?_)
      refine wpB_take 0 _ ?_ rfl (by kernel_rfl) (fun _ _ _ h => h) rfl hHeld ?_ ?_
      rotate_left
      · (intro W hW; go_simp; try with_reducible rfl)
      try simp only [Act.put, List.setIfInBounds_toArray, List.set_cons_zero, List.set_cons_succ]
      refine wpB_take 1 _ ?_ rfl (by kernel_rfl) (fun _ _ _ h => h) rfl hHeld ?_ ?_
      rotate_left
      · (intro W hW; go_simp; try with_reducible rfl)
      try simp only [Act.put, List.setIfInBounds_toArray, List.set_cons_zero, List.set_cons_succ]
      refine wpB_take 2 _ ?_ rfl (by kernel_rfl) (fun _ _ _ h => h) rfl hHeld ?_ ?_
      rotate_left
      · (intro W hW; go_simp; try with_reducible rfl)
      try simp only [Act.put, List.setIfInBounds_toArray, List.set_cons_zero, List.set_cons_succ]
      refine wpB_take 3 _ ?_ rfl (by kernel_rfl) (fun _ _ _ h => h) rfl hHeld ?_ ?_
      rotate_left
      · (intro W hW; go_simp; try with_reducible rfl)
      try simp only [Act.put, List.setIfInBounds_toArray, List.set_cons_zero, List.set_cons_succ]
      refine wpB_step 4 _ rfl (by kernel_rfl) rfl rfl (fun K hK_ => ?_)
      go_simp
      refine (rword n hlt _).mono ?_
      rintro e w4 ⟨rfl, k4⟩
      refine hK_.out _ _ (by first | exact hHeld | exact hHeld.call ‹_› | exact hHeld.alloc _) (fun hHeld => ?_)
      clear hK_ K
      try simp only [Act.put, List.setIfInBounds_toArray, List.set_cons_zero, List.set_cons_succ]
      refine wpB_take 5 _ ?_ rfl (by kernel_rfl) (fun _ _ _ h => h) rfl hHeld ?_ ?_
      rotate_left
      · (intro W hW; go_simp; try with_reducible rfl)
      try simp only [Act.put, List.setIfInBounds_toArray, List.set_cons_zero, List.set_cons_succ]
      refine wpB_done (by kernel_rfl) ?_ _
      have hblk4 := Kp.blockAt (X := []) hblk (by simp) _ ((Kp.refl [] wr).drew.trans k4)
      have p4 : w4.cell? ⟨b, 0, none⟩ = some (.int .i64 (kindTo x0 n)) := cell_of_cells hblk4 rfl
      have f4 : w4.frozen? ⟨b, 0, none⟩ = false := frozen_of_cells hblk4 _
      have HB4 := Lib.hid hblk4
      clear hblk hK p0 f0 k4 hblk4
      cases hq : (x0.toList == wordL n) with
      | true =>
        have he : x0 = SB (wordL n) := by
          rw [ByteArray.toList_eq] at hq
          exact bytes_inj (by simpa using hq)
        have HE := Lib.hid he
        clear he
        go_wp2_with fail
        go_roundg g'
        case rel =>
          have hn := HN.out
          refine ⟨n + 1, by omega, by go_num, hHeld.setCell (.inr (by have := HBB.out; simp; omega)) _, ?_⟩
          rw [HST.out, if_pos HE.out, block_setCell HB4.out]
          rfl
        case measure => omega
      | false =>
        have he : ¬ x0 = SB (wordL n) := by
          intro e
          rw [e, ByteArray.toList_eq] at hq
          simp at hq
        have HE := Lib.hid he
        clear he
        go_wp2_with fail
        go_roundg g'
        case rel =>
          have hn := HN.out
          exact ⟨n + 1, by omega, by go_num, hHeld, by rw [HST.out, if_neg HE.out]; exact HB4.out⟩
        case measure => omega
    · obtain rfl : n = 5 := by omega
      obtain rfl : gk = 0 := by omega
      rw [kindTo_all] at hblk
      clear p0 f0 hn
      obtain ⟨kd, hkd⟩ : ∃ kd, kd = kindOf x0 := ⟨_, rfl⟩
      rw [← hkd] at hblk
      have HKD := Lib.hid hkd
      obtain ⟨W, hW⟩ : ∃ W, W = wr := ⟨_, rfl⟩
      rw [← hW] at hblk hK ⊢
      clear hkd hW
      have hRw := Kp.blockAt (X := []) hrb1 (by simp) _ hK
      have hBb : B ≠ b := by have := HBB.out; omega
      have hbB : b ≠ B := by omega
      have hRlt : R < b := by have := HBB.out; have := HR.out; have := HB.out; have := HZ.out; omega
      have hbR : b ≠ R := by omega
      have hRb : R ≠ b := by omega
      have p0 : W.cell? ⟨b, 0, none⟩ = some (.int .i64 kd) := cell_of_cells hblk rfl
      have p1 : W.cell? ⟨b, 1, none⟩ = some (.string ⟨#[]⟩) := cell_of_cells hblk rfl
      have p2 : W.cell? ⟨b, 2, none⟩ = some (.string ⟨#[]⟩) := cell_of_cells hblk rfl
      have f1 : W.frozen? ⟨b, 1, none⟩ = false := frozen_of_cells hblk _
      have f2 : W.frozen? ⟨b, 2, none⟩ = false := frozen_of_cells hblk _
      have r0 : W.cell? ⟨R, 0, none⟩ = some (.int .i64 0) := cell_of_cells hRw rfl
      have r1 : W.cell? ⟨R, 1, none⟩ = some (.string ⟨#[]⟩) := cell_of_cells hRw rfl
      have r2 : W.cell? ⟨R, 2, none⟩ = some (.string ⟨#[]⟩) := cell_of_cells hRw rfl
      have s0 : W.frozen? ⟨R, 0, none⟩ = false := frozen_of_cells hRw _
      have s1 : W.frozen? ⟨R, 1, none⟩ = false := frozen_of_cells hRw _
      have s2 : W.frozen? ⟨R, 2, none⟩ = false := frozen_of_cells hRw _
      have hKK := hKw.trans hK
      have HRW := Lib.hid hRw
      have HBL := Lib.hid hblk
      have hpz : ∀ x ∈ x0 :: rest, x.size ≤ s.size := by rw [HXS.out]; exact pieces_le s
      have HPZ := Lib.hid hpz
      have hcw : ∀ (j : Nat) (x : ByteArray), (x0 :: rest)[j]? = some x → W.cell? ⟨B, j, none⟩ = some (.string x) := fun j x hj => (hK.cell (lt_of_cell (HCS.out j x hj)) (by simp)).trans (HCS.out j x hj)
      have HCW := Lib.hid hcw
      clear hRw hblk hrb1 hpz hcw HCS d0
      match rest, HXS, HPZ, HCW with
      | [], HXS, HPZ, HCW =>
        by_cases hk4 : kd = 4
        · subst hk4
          have hP : parseR s = ((4, ⟨#[]⟩, ⟨#[]⟩), 0) := by
            unfold parseR; rw [← HXS.out]
            show (if kindOf x0 = 4 then _ else _) = _
            rw [← HKD.out, if_pos rfl]
          have HP := Lib.hid hP
          clear hP
          go_wp2_with fail
          have hz := box3Put (HRW.out) (Value.int IntKind.i64 4) (Value.string ⟨#[]⟩) (Value.string ⟨#[]⟩)
          obtain ⟨Z, hZ⟩ : ∃ Z, Z = (((W).setCell ⟨R, 0, none⟩ (Value.int IntKind.i64 4)).setCell ⟨R, 1, none⟩ (Value.string ⟨#[]⟩)).setCell ⟨R, 2, none⟩ (Value.string ⟨#[]⟩) := ⟨_, rfl⟩
          rw [← hZ] at hz ⊢
          obtain ⟨hz0, hz1, hz2⟩ := hz
          refine bodyPost_ret (by simp [results, Tryz.results34, go_sem, hz0, hz1, hz2]; try rfl) rfl ?_
          subst hZ
          exact ⟨by rw [HP.out]; rfl, ((hKK.setCell (.inr (by have := HR.out; simp; omega)) _).setCell (.inr (by have := HR.out; simp; omega)) _).setCell (.inr (by have := HR.out; simp; omega)) _⟩
        · have b4 : (kd == 4) = false := by simpa using hk4
          have hP : parseR s = (zeroReq, 14) := by
            unfold parseR; rw [← HXS.out]
            show (if kindOf x0 = 4 then _ else _) = _
            rw [← HKD.out, if_neg hk4]
          have HP := Lib.hid hP
          clear hP hk4
          by_cases hk0 : kd < 0
          · go_wp2_with fail
            have hz := box3Put (HRW.out) (Value.int IntKind.i64 0) (Value.string ⟨#[]⟩) (Value.string ⟨#[]⟩)
            obtain ⟨Z, hZ⟩ : ∃ Z, Z = (((W).setCell ⟨R, 0, none⟩ (Value.int IntKind.i64 0)).setCell ⟨R, 1, none⟩ (Value.string ⟨#[]⟩)).setCell ⟨R, 2, none⟩ (Value.string ⟨#[]⟩) := ⟨_, rfl⟩
            rw [← hZ] at hz ⊢
            obtain ⟨hz0, hz1, hz2⟩ := hz
            refine bodyPost_ret (by simp [results, Tryz.results34, go_sem, hz0, hz1, hz2]; try rfl) rfl ?_
            subst hZ
            exact ⟨by rw [HP.out]; rfl, ((hKK.setCell (.inr (by have := HR.out; simp; omega)) _).setCell (.inr (by have := HR.out; simp; omega)) _).setCell (.inr (by have := HR.out; simp; omega)) _⟩
          · cases b0 : (kd == 0) with
            | true =>
              go_wp2_with fail
              have hz := box3Put (HRW.out) (Value.int IntKind.i64 0) (Value.string ⟨#[]⟩) (Value.string ⟨#[]⟩)
              obtain ⟨Z, hZ⟩ : ∃ Z, Z = (((W).setCell ⟨R, 0, none⟩ (Value.int IntKind.i64 0)).setCell ⟨R, 1, none⟩ (Value.string ⟨#[]⟩)).setCell ⟨R, 2, none⟩ (Value.string ⟨#[]⟩) := ⟨_, rfl⟩
              rw [← hZ] at hz ⊢
              obtain ⟨hz0, hz1, hz2⟩ := hz
              refine bodyPost_ret (by simp [results, Tryz.results34, go_sem, hz0, hz1, hz2]; try rfl) rfl ?_
              subst hZ
              exact ⟨by rw [HP.out]; rfl, ((hKK.setCell (.inr (by have := HR.out; simp; omega)) _).setCell (.inr (by have := HR.out; simp; omega)) _).setCell (.inr (by have := HR.out; simp; omega)) _⟩
            | false =>
              go_wp2_with fail
              have hz := box3Put (HRW.out) (Value.int IntKind.i64 0) (Value.string ⟨#[]⟩) (Value.string ⟨#[]⟩)
              obtain ⟨Z, hZ⟩ : ∃ Z, Z = (((W).setCell ⟨R, 0, none⟩ (Value.int IntKind.i64 0)).setCell ⟨R, 1, none⟩ (Value.string ⟨#[]⟩)).setCell ⟨R, 2, none⟩ (Value.string ⟨#[]⟩) := ⟨_, rfl⟩
              rw [← hZ] at hz ⊢
              obtain ⟨hz0, hz1, hz2⟩ := hz
              refine bodyPost_ret (by simp [results, Tryz.results34, go_sem, hz0, hz1, hz2]; try rfl) rfl ?_
              subst hZ
              exact ⟨by rw [HP.out]; rfl, ((hKK.setCell (.inr (by have := HR.out; simp; omega)) _).setCell (.inr (by have := HR.out; simp; omega)) _).setCell (.inr (by have := HR.out; simp; omega)) _⟩
      | [x1], HXS, HPZ, HCW =>
        have e1 : W.cell? ⟨B, 1, none⟩ = some (.string x1) := HCW.out 1 x1 rfl
        have hz1 : x1.size < 16384 := by have := HPZ.out x1 (by simp); omega
        by_cases hk0 : kd < 0
        · have hP : parseR s = (zeroReq, 14) := by
            unfold parseR; rw [← HXS.out]
            show (if kindOf x0 < 0 then _ else _) = _
            rw [← HKD.out, if_pos hk0]
          have HP := Lib.hid hP
          clear hP
          have b4 : (kd == 4) = false := by simp; omega
          have b0 : (kd == 0) = false := by simp; omega
          go_wp2_with fail
          have hz := box3Put (HRW.out) (Value.int IntKind.i64 0) (Value.string ⟨#[]⟩) (Value.string ⟨#[]⟩)
          obtain ⟨Z, hZ⟩ : ∃ Z, Z = (((W).setCell ⟨R, 0, none⟩ (Value.int IntKind.i64 0)).setCell ⟨R, 1, none⟩ (Value.string ⟨#[]⟩)).setCell ⟨R, 2, none⟩ (Value.string ⟨#[]⟩) := ⟨_, rfl⟩
          rw [← hZ] at hz ⊢
          obtain ⟨hz0, hz1, hz2⟩ := hz
          refine bodyPost_ret (by simp [results, Tryz.results34, go_sem, hz0, hz1, hz2]; try rfl) rfl ?_
          subst hZ
          exact ⟨by rw [HP.out]; rfl, ((hKK.setCell (.inr (by have := HR.out; simp; omega)) _).setCell (.inr (by have := HR.out; simp; omega)) _).setCell (.inr (by have := HR.out; simp; omega)) _⟩
        · have hP0 : parseR s = if kd = 0 then (zeroReq, 14) else if kd = 4 ∧ x1.size = 0 then (zeroReq, 14) else chkR kd x1 ⟨#[]⟩ := by
            unfold parseR; rw [← HXS.out]
            show (if kindOf x0 < 0 then _ else _) = _
            rw [← HKD.out, if_neg hk0]
          cases b0 : (kd == 0) with
          | true =>
            obtain rfl : kd = 0 := by simpa using b0
            have hP : parseR s = (zeroReq, 14) := by rw [hP0, if_pos rfl]
            have HP := Lib.hid hP
            clear hP hP0
            go_wp2_with fail
            have hz := box3Put (HRW.out) (Value.int IntKind.i64 0) (Value.string ⟨#[]⟩) (Value.string ⟨#[]⟩)
            obtain ⟨Z, hZ⟩ : ∃ Z, Z = (((W).setCell ⟨R, 0, none⟩ (Value.int IntKind.i64 0)).setCell ⟨R, 1, none⟩ (Value.string ⟨#[]⟩)).setCell ⟨R, 2, none⟩ (Value.string ⟨#[]⟩) := ⟨_, rfl⟩
            rw [← hZ] at hz ⊢
            obtain ⟨hz0, hz1, hz2⟩ := hz
            refine bodyPost_ret (by simp [results, Tryz.results34, go_sem, hz0, hz1, hz2]; try rfl) rfl ?_
            subst hZ
            exact ⟨by rw [HP.out]; rfl, ((hKK.setCell (.inr (by have := HR.out; simp; omega)) _).setCell (.inr (by have := HR.out; simp; omega)) _).setCell (.inr (by have := HR.out; simp; omega)) _⟩
          | false =>
            have hn0 : ¬ kd = 0 := by simpa using b0
            cases b4 : (kd == 4) with
            | true =>
              obtain rfl : kd = 4 := by simpa using b4
              cases he : x1.toList.isEmpty with
              | true =>
                have hP : parseR s = (zeroReq, 14) := by rw [hP0, if_neg hn0, if_pos ⟨rfl, by rw [empty_of he]⟩]
                have HP := Lib.hid hP
                clear hP hP0 hn0
                go_wp2_with fail
                have hz := box3Put (Kp.blockAt (X := [b]) HRW.out (by simp; omega) _ ((Kp.refl [b] W).setCell (p := ⟨b, 1, none⟩) (.inl (by simp)) (.string x1))) (Value.int IntKind.i64 0) (Value.string ⟨#[]⟩) (Value.string ⟨#[]⟩)
                obtain ⟨Z, hZ⟩ : ∃ Z, Z = ((((W.setCell ⟨b, 1, none⟩ (.string x1))).setCell ⟨R, 0, none⟩ (Value.int IntKind.i64 0)).setCell ⟨R, 1, none⟩ (Value.string ⟨#[]⟩)).setCell ⟨R, 2, none⟩ (Value.string ⟨#[]⟩) := ⟨_, rfl⟩
                rw [← hZ] at hz ⊢
                obtain ⟨hz0, hz1, hz2⟩ := hz
                refine bodyPost_ret (by simp [results, Tryz.results34, go_sem, hz0, hz1, hz2]; try rfl) rfl ?_
                subst hZ
                exact ⟨by rw [HP.out]; rfl, (((hKK.setCell (.inr (by have := HR.out; simp; omega)) _).setCell (.inr (by have := HR.out; simp; omega)) _).setCell (.inr (by have := HR.out; simp; omega)) _).setCell (.inr (by have := HR.out; simp; omega)) _⟩
              | false =>
                have hPC : parseR s = chkR 4 x1 ⟨#[]⟩ := by rw [hP0, if_neg hn0, if_neg (by rw [empty_of he]; simp)]
                have HPC := Lib.hid hPC
                clear hPC hP0 hn0
                go_wp2_with fail
                refine (rcheck 4 x1 (⟨#[]⟩ : ByteArray) (hz1) (by decide) _).mono ?_
                rintro e w9 ⟨rfl, k9⟩
                have hb9 := Kp.blockAt (X := []) (block_setCell HBL.out 1 (.string x1)) (by simp) _ k9
                have hR9 := Kp.blockAt (X := []) (Kp.blockAt (X := [b]) HRW.out (by simp; omega) _ ((Kp.refl [b] W).setCell (.inl (by simp)) _)) (by simp) _ k9
                have q0 : w9.cell? ⟨b, 0, none⟩ = some (.int .i64 4) := cell_of_cells hb9 rfl
                have q1 : w9.cell? ⟨b, 1, none⟩ = some (.string x1) := cell_of_cells hb9 rfl
                have q2 : w9.cell? ⟨b, 2, none⟩ = some (.string (⟨#[]⟩ : ByteArray)) := cell_of_cells hb9 rfl
                have u0 : w9.cell? ⟨R, 0, none⟩ = some (.int .i64 0) := cell_of_cells hR9 rfl
                have u1 : w9.cell? ⟨R, 1, none⟩ = some (.string ⟨#[]⟩) := cell_of_cells hR9 rfl
                have u2 : w9.cell? ⟨R, 2, none⟩ = some (.string ⟨#[]⟩) := cell_of_cells hR9 rfl
                have t0 : w9.frozen? ⟨R, 0, none⟩ = false := frozen_of_cells hR9 _
                have t1 : w9.frozen? ⟨R, 1, none⟩ = false := frozen_of_cells hR9 _
                have t2 : w9.frozen? ⟨R, 2, none⟩ = false := frozen_of_cells hR9 _
                have hK9 := (hKK.setCell (.inr (by have := HR.out; simp; omega)) _).trans k9
                have HR9 := Lib.hid hR9
                obtain ⟨ce, hce⟩ : ∃ ce, ce = checkE 4 x1 (⟨#[]⟩ : ByteArray) := ⟨_, rfl⟩
                rw [← hce]
                by_cases h0 : ce = 0
                · subst h0
                  have hP : parseR s = ((4, x1, (⟨#[]⟩ : ByteArray)), 0) := by rw [HPC.out]; unfold chkR; rw [if_pos hce.symm]
                  have HP := Lib.hid hP
                  clear hP hce hb9 hR9
                  go_wp2_with fail
                  have hz := box3Put (HR9.out) (Value.int IntKind.i64 4) (Value.string x1) (Value.string (⟨#[]⟩ : ByteArray))
                  obtain ⟨Z, hZ⟩ : ∃ Z, Z = (((w9).setCell ⟨R, 0, none⟩ (Value.int IntKind.i64 4)).setCell ⟨R, 1, none⟩ (Value.string x1)).setCell ⟨R, 2, none⟩ (Value.string (⟨#[]⟩ : ByteArray)) := ⟨_, rfl⟩
                  rw [← hZ] at hz ⊢
                  obtain ⟨hz0, hz1, hz2⟩ := hz
                  refine bodyPost_ret (by simp [results, Tryz.results34, go_sem, hz0, hz1, hz2]; try rfl) rfl ?_
                  subst hZ
                  exact ⟨by rw [HP.out]; rfl, ((hK9.setCell (.inr (by have := HR.out; simp; omega)) _).setCell (.inr (by have := HR.out; simp; omega)) _).setCell (.inr (by have := HR.out; simp; omega)) _⟩
                · have hne : (ce != 0) = true := by simpa using h0
                  have hP : parseR s = (zeroReq, ce) := by rw [HPC.out]; unfold chkR; rw [if_neg (by rw [← hce]; exact h0), hce]
                  have HP := Lib.hid hP
                  clear hP hce hb9 hR9 h0
                  go_wp2_with fail
                  have hz := box3Put (HR9.out) (Value.int IntKind.i64 0) (Value.string ⟨#[]⟩) (Value.string ⟨#[]⟩)
                  obtain ⟨Z, hZ⟩ : ∃ Z, Z = (((w9).setCell ⟨R, 0, none⟩ (Value.int IntKind.i64 0)).setCell ⟨R, 1, none⟩ (Value.string ⟨#[]⟩)).setCell ⟨R, 2, none⟩ (Value.string ⟨#[]⟩) := ⟨_, rfl⟩
                  rw [← hZ] at hz ⊢
                  obtain ⟨hz0, hz1, hz2⟩ := hz
                  refine bodyPost_ret (by simp [results, Tryz.results34, go_sem, hz0, hz1, hz2]; try rfl) rfl ?_
                  subst hZ
                  exact ⟨by rw [HP.out]; rfl, ((hK9.setCell (.inr (by have := HR.out; simp; omega)) _).setCell (.inr (by have := HR.out; simp; omega)) _).setCell (.inr (by have := HR.out; simp; omega)) _⟩
            | false =>
              have hn4 : ¬ kd = 4 := by simpa using b4
              have hPC : parseR s = chkR kd x1 ⟨#[]⟩ := by rw [hP0, if_neg hn0, if_neg (fun h => hn4 h.1)]
              have HPC := Lib.hid hPC
              clear hPC hP0 hn0 hn4
              go_wp2_with fail
              refine (rcheck kd x1 (⟨#[]⟩ : ByteArray) (hz1) (by decide) _).mono ?_
              rintro e w9 ⟨rfl, k9⟩
              have hb9 := Kp.blockAt (X := []) (block_setCell HBL.out 1 (.string x1)) (by simp) _ k9
              have hR9 := Kp.blockAt (X := []) (Kp.blockAt (X := [b]) HRW.out (by simp; omega) _ ((Kp.refl [b] W).setCell (.inl (by simp)) _)) (by simp) _ k9
              have q0 : w9.cell? ⟨b, 0, none⟩ = some (.int .i64 kd) := cell_of_cells hb9 rfl
              have q1 : w9.cell? ⟨b, 1, none⟩ = some (.string x1) := cell_of_cells hb9 rfl
              have q2 : w9.cell? ⟨b, 2, none⟩ = some (.string (⟨#[]⟩ : ByteArray)) := cell_of_cells hb9 rfl
              have u0 : w9.cell? ⟨R, 0, none⟩ = some (.int .i64 0) := cell_of_cells hR9 rfl
              have u1 : w9.cell? ⟨R, 1, none⟩ = some (.string ⟨#[]⟩) := cell_of_cells hR9 rfl
              have u2 : w9.cell? ⟨R, 2, none⟩ = some (.string ⟨#[]⟩) := cell_of_cells hR9 rfl
              have t0 : w9.frozen? ⟨R, 0, none⟩ = false := frozen_of_cells hR9 _
              have t1 : w9.frozen? ⟨R, 1, none⟩ = false := frozen_of_cells hR9 _
              have t2 : w9.frozen? ⟨R, 2, none⟩ = false := frozen_of_cells hR9 _
              have hK9 := (hKK.setCell (.inr (by have := HR.out; simp; omega)) _).trans k9
              have HR9 := Lib.hid hR9
              obtain ⟨ce, hce⟩ : ∃ ce, ce = checkE kd x1 (⟨#[]⟩ : ByteArray) := ⟨_, rfl⟩
              rw [← hce]
              by_cases h0 : ce = 0
              · subst h0
                have hP : parseR s = ((kd, x1, (⟨#[]⟩ : ByteArray)), 0) := by rw [HPC.out]; unfold chkR; rw [if_pos hce.symm]
                have HP := Lib.hid hP
                clear hP hce hb9 hR9
                go_wp2_with fail
                have hz := box3Put (HR9.out) (Value.int IntKind.i64 kd) (Value.string x1) (Value.string (⟨#[]⟩ : ByteArray))
                obtain ⟨Z, hZ⟩ : ∃ Z, Z = (((w9).setCell ⟨R, 0, none⟩ (Value.int IntKind.i64 kd)).setCell ⟨R, 1, none⟩ (Value.string x1)).setCell ⟨R, 2, none⟩ (Value.string (⟨#[]⟩ : ByteArray)) := ⟨_, rfl⟩
                rw [← hZ] at hz ⊢
                obtain ⟨hz0, hz1, hz2⟩ := hz
                refine bodyPost_ret (by simp [results, Tryz.results34, go_sem, hz0, hz1, hz2]; try rfl) rfl ?_
                subst hZ
                exact ⟨by rw [HP.out]; rfl, ((hK9.setCell (.inr (by have := HR.out; simp; omega)) _).setCell (.inr (by have := HR.out; simp; omega)) _).setCell (.inr (by have := HR.out; simp; omega)) _⟩
              · have hne : (ce != 0) = true := by simpa using h0
                have hP : parseR s = (zeroReq, ce) := by rw [HPC.out]; unfold chkR; rw [if_neg (by rw [← hce]; exact h0), hce]
                have HP := Lib.hid hP
                clear hP hce hb9 hR9 h0
                go_wp2_with fail
                have hz := box3Put (HR9.out) (Value.int IntKind.i64 0) (Value.string ⟨#[]⟩) (Value.string ⟨#[]⟩)
                obtain ⟨Z, hZ⟩ : ∃ Z, Z = (((w9).setCell ⟨R, 0, none⟩ (Value.int IntKind.i64 0)).setCell ⟨R, 1, none⟩ (Value.string ⟨#[]⟩)).setCell ⟨R, 2, none⟩ (Value.string ⟨#[]⟩) := ⟨_, rfl⟩
                rw [← hZ] at hz ⊢
                obtain ⟨hz0, hz1, hz2⟩ := hz
                refine bodyPost_ret (by simp [results, Tryz.results34, go_sem, hz0, hz1, hz2]; try rfl) rfl ?_
                subst hZ
                exact ⟨by rw [HP.out]; rfl, ((hK9.setCell (.inr (by have := HR.out; simp; omega)) _).setCell (.inr (by have := HR.out; simp; omega)) _).setCell (.inr (by have := HR.out; simp; omega)) _⟩
      | [x1, x2], HXS, HPZ, HCW =>
        have e1 : W.cell? ⟨B, 1, none⟩ = some (.string x1) := HCW.out 1 x1 rfl
        have e2 : W.cell? ⟨B, 2, none⟩ = some (.string x2) := HCW.out 2 x2 rfl
        have hz1 : x1.size < 16384 := by have := HPZ.out x1 (by simp); omega
        have hz2 : x2.size < 16384 := by have := HPZ.out x2 (by simp); omega
        have hP0 : parseR s = if kd = 0 then (match undigR x2.data.toList with | some u => chkR 0 x1 (SB u) | none => (zeroReq, 14)) else (zeroReq, 14) := by
          unfold parseR; rw [← HXS.out]
          show (if kindOf x0 = 0 then _ else _) = _
          rw [← HKD.out]
          cases undigR x2.data.toList <;> rfl
        by_cases hn0 : kd = 0
        · subst hn0
          rw [if_pos rfl] at hP0
          have HP0 := Lib.hid hP0
          clear hP0
          go_wp2_with fail
          refine (rundigits x2 hz2 _).mono ?_
          rintro e w8 ⟨rfl, k8⟩
          have hb8 := Kp.blockAt (X := []) (block_setCell HBL.out 1 (.string x1)) (by simp) _ k8
          have hR8 := Kp.blockAt (X := []) (Kp.blockAt (X := [b]) HRW.out (by simp; omega) _ ((Kp.refl [b] W).setCell (p := ⟨b, 1, none⟩) (.inl (by simp)) (.string x1))) (by simp) _ k8
          have hK8 := (hKK.setCell (p := ⟨b, 1, none⟩) (.inr (by have := HR.out; simp; omega)) (.string x1)).trans k8
          have HB8 := Lib.hid hb8
          have HR8 := Lib.hid hR8
          have p0 : w8.cell? ⟨b, 0, none⟩ = some (.int .i64 0) := cell_of_cells hb8 rfl
          have p1 : w8.cell? ⟨b, 1, none⟩ = some (.string x1) := cell_of_cells hb8 rfl
          have p2 : w8.cell? ⟨b, 2, none⟩ = some (.string ⟨#[]⟩) := cell_of_cells hb8 rfl
          have f2 : w8.frozen? ⟨b, 2, none⟩ = false := frozen_of_cells hb8 _
          have r0 : w8.cell? ⟨R, 0, none⟩ = some (.int .i64 0) := cell_of_cells hR8 rfl
          have r1 : w8.cell? ⟨R, 1, none⟩ = some (.string ⟨#[]⟩) := cell_of_cells hR8 rfl
          have r2 : w8.cell? ⟨R, 2, none⟩ = some (.string ⟨#[]⟩) := cell_of_cells hR8 rfl
          have s0 : w8.frozen? ⟨R, 0, none⟩ = false := frozen_of_cells hR8 _
          have s1 : w8.frozen? ⟨R, 1, none⟩ = false := frozen_of_cells hR8 _
          have s2 : w8.frozen? ⟨R, 2, none⟩ = false := frozen_of_cells hR8 _
          clear hb8 hR8 k8
          cases hu : undigR x2.data.toList with
          | none =>
            have hP : parseR s = (zeroReq, 14) := by rw [HP0.out, hu]
            have HP := Lib.hid hP
            clear hP hu
            go_wp2_with fail
            have hz := box3Put (HR8.out) (Value.int IntKind.i64 0) (Value.string ⟨#[]⟩) (Value.string ⟨#[]⟩)
            obtain ⟨Z, hZ⟩ : ∃ Z, Z = (((w8).setCell ⟨R, 0, none⟩ (Value.int IntKind.i64 0)).setCell ⟨R, 1, none⟩ (Value.string ⟨#[]⟩)).setCell ⟨R, 2, none⟩ (Value.string ⟨#[]⟩) := ⟨_, rfl⟩
            rw [← hZ] at hz ⊢
            obtain ⟨hz0, hz1, hz2⟩ := hz
            refine bodyPost_ret (by simp [results, Tryz.results34, go_sem, hz0, hz1, hz2]; try rfl) rfl ?_
            subst hZ
            exact ⟨by rw [HP.out]; rfl, ((hK8.setCell (.inr (by have := HR.out; simp; omega)) _).setCell (.inr (by have := HR.out; simp; omega)) _).setCell (.inr (by have := HR.out; simp; omega)) _⟩
          | some u =>
            have hPC : parseR s = chkR 0 x1 (SB u) := by rw [HP0.out, hu]
            have HPC := Lib.hid hPC
            have hzu : (SB u).size < 16384 := by have := undig_len hu; rw [SB_size]; simp at this; omega
            clear hPC hu
            go_wp2_with fail
            refine (rcheck 0 x1 (SB u) (hz1) (hzu) _).mono ?_
            rintro e w9 ⟨rfl, k9⟩
            have hb9 := Kp.blockAt (X := []) (block_setCell HB8.out 2 (.string (SB u))) (by simp) _ k9
            have hR9 := Kp.blockAt (X := []) (Kp.blockAt (X := [b]) HR8.out (by simp; omega) _ ((Kp.refl [b] w8).setCell (.inl (by simp)) _)) (by simp) _ k9
            have q0 : w9.cell? ⟨b, 0, none⟩ = some (.int .i64 0) := cell_of_cells hb9 rfl
            have q1 : w9.cell? ⟨b, 1, none⟩ = some (.string x1) := cell_of_cells hb9 rfl
            have q2 : w9.cell? ⟨b, 2, none⟩ = some (.string (SB u)) := cell_of_cells hb9 rfl
            have u0 : w9.cell? ⟨R, 0, none⟩ = some (.int .i64 0) := cell_of_cells hR9 rfl
            have u1 : w9.cell? ⟨R, 1, none⟩ = some (.string ⟨#[]⟩) := cell_of_cells hR9 rfl
            have u2 : w9.cell? ⟨R, 2, none⟩ = some (.string ⟨#[]⟩) := cell_of_cells hR9 rfl
            have t0 : w9.frozen? ⟨R, 0, none⟩ = false := frozen_of_cells hR9 _
            have t1 : w9.frozen? ⟨R, 1, none⟩ = false := frozen_of_cells hR9 _
            have t2 : w9.frozen? ⟨R, 2, none⟩ = false := frozen_of_cells hR9 _
            have hK9 := (hK8.setCell (.inr (by have := HR.out; simp; omega)) _).trans k9
            have HR9 := Lib.hid hR9
            obtain ⟨ce, hce⟩ : ∃ ce, ce = checkE 0 x1 (SB u) := ⟨_, rfl⟩
            rw [← hce]
            by_cases h0 : ce = 0
            · subst h0
              have hP : parseR s = ((0, x1, (SB u)), 0) := by rw [HPC.out]; unfold chkR; rw [if_pos hce.symm]
              have HP := Lib.hid hP
              clear hP hce hb9 hR9
              go_wp2_with fail
              have hz := box3Put (HR9.out) (Value.int IntKind.i64 0) (Value.string x1) (Value.string (SB u))
              obtain ⟨Z, hZ⟩ : ∃ Z, Z = (((w9).setCell ⟨R, 0, none⟩ (Value.int IntKind.i64 0)).setCell ⟨R, 1, none⟩ (Value.string x1)).setCell ⟨R, 2, none⟩ (Value.string (SB u)) := ⟨_, rfl⟩
              rw [← hZ] at hz ⊢
              obtain ⟨hz0, hz1, hz2⟩ := hz
              refine bodyPost_ret (by simp [results, Tryz.results34, go_sem, hz0, hz1, hz2]; try rfl) rfl ?_
              subst hZ
              exact ⟨by rw [HP.out]; rfl, ((hK9.setCell (.inr (by have := HR.out; simp; omega)) _).setCell (.inr (by have := HR.out; simp; omega)) _).setCell (.inr (by have := HR.out; simp; omega)) _⟩
            · have hne : (ce != 0) = true := by simpa using h0
              have hP : parseR s = (zeroReq, ce) := by rw [HPC.out]; unfold chkR; rw [if_neg (by rw [← hce]; exact h0), hce]
              have HP := Lib.hid hP
              clear hP hce hb9 hR9 h0
              go_wp2_with fail
              have hz := box3Put (HR9.out) (Value.int IntKind.i64 0) (Value.string ⟨#[]⟩) (Value.string ⟨#[]⟩)
              obtain ⟨Z, hZ⟩ : ∃ Z, Z = (((w9).setCell ⟨R, 0, none⟩ (Value.int IntKind.i64 0)).setCell ⟨R, 1, none⟩ (Value.string ⟨#[]⟩)).setCell ⟨R, 2, none⟩ (Value.string ⟨#[]⟩) := ⟨_, rfl⟩
              rw [← hZ] at hz ⊢
              obtain ⟨hz0, hz1, hz2⟩ := hz
              refine bodyPost_ret (by simp [results, Tryz.results34, go_sem, hz0, hz1, hz2]; try rfl) rfl ?_
              subst hZ
              exact ⟨by rw [HP.out]; rfl, ((hK9.setCell (.inr (by have := HR.out; simp; omega)) _).setCell (.inr (by have := HR.out; simp; omega)) _).setCell (.inr (by have := HR.out; simp; omega)) _⟩
        · have hP : parseR s = (zeroReq, 14) := by rw [hP0, if_neg hn0]
          have HP := Lib.hid hP
          have b0 : (kd == 0) = false := by simpa using hn0
          clear hP hP0 hn0
          cases b4 : (kd == 4) with
          | true =>
            obtain rfl : kd = 4 := by simpa using b4
            go_wp2_with fail
            have hz := box3Put (HRW.out) (Value.int IntKind.i64 0) (Value.string ⟨#[]⟩) (Value.string ⟨#[]⟩)
            obtain ⟨Z, hZ⟩ : ∃ Z, Z = (((W).setCell ⟨R, 0, none⟩ (Value.int IntKind.i64 0)).setCell ⟨R, 1, none⟩ (Value.string ⟨#[]⟩)).setCell ⟨R, 2, none⟩ (Value.string ⟨#[]⟩) := ⟨_, rfl⟩
            rw [← hZ] at hz ⊢
            obtain ⟨hz0, hz1, hz2⟩ := hz
            refine bodyPost_ret (by simp [results, Tryz.results34, go_sem, hz0, hz1, hz2]; try rfl) rfl ?_
            subst hZ
            exact ⟨by rw [HP.out]; rfl, ((hKK.setCell (.inr (by have := HR.out; simp; omega)) _).setCell (.inr (by have := HR.out; simp; omega)) _).setCell (.inr (by have := HR.out; simp; omega)) _⟩
          | false =>
            by_cases hk0 : kd < 0
            · go_wp2_with fail
              have hz := box3Put (HRW.out) (Value.int IntKind.i64 0) (Value.string ⟨#[]⟩) (Value.string ⟨#[]⟩)
              obtain ⟨Z, hZ⟩ : ∃ Z, Z = (((W).setCell ⟨R, 0, none⟩ (Value.int IntKind.i64 0)).setCell ⟨R, 1, none⟩ (Value.string ⟨#[]⟩)).setCell ⟨R, 2, none⟩ (Value.string ⟨#[]⟩) := ⟨_, rfl⟩
              rw [← hZ] at hz ⊢
              obtain ⟨hz0, hz1, hz2⟩ := hz
              refine bodyPost_ret (by simp [results, Tryz.results34, go_sem, hz0, hz1, hz2]; try rfl) rfl ?_
              subst hZ
              exact ⟨by rw [HP.out]; rfl, ((hKK.setCell (.inr (by have := HR.out; simp; omega)) _).setCell (.inr (by have := HR.out; simp; omega)) _).setCell (.inr (by have := HR.out; simp; omega)) _⟩
            · go_wp2_with fail
              have hz := box3Put (HRW.out) (Value.int IntKind.i64 0) (Value.string ⟨#[]⟩) (Value.string ⟨#[]⟩)
              obtain ⟨Z, hZ⟩ : ∃ Z, Z = (((W).setCell ⟨R, 0, none⟩ (Value.int IntKind.i64 0)).setCell ⟨R, 1, none⟩ (Value.string ⟨#[]⟩)).setCell ⟨R, 2, none⟩ (Value.string ⟨#[]⟩) := ⟨_, rfl⟩
              rw [← hZ] at hz ⊢
              obtain ⟨hz0, hz1, hz2⟩ := hz
              refine bodyPost_ret (by simp [results, Tryz.results34, go_sem, hz0, hz1, hz2]; try rfl) rfl ?_
              subst hZ
              exact ⟨by rw [HP.out]; rfl, ((hKK.setCell (.inr (by have := HR.out; simp; omega)) _).setCell (.inr (by have := HR.out; simp; omega)) _).setCell (.inr (by have := HR.out; simp; omega)) _⟩
      | x1 :: x2 :: x3 :: r, HXS, HPZ, HCW =>
        have hP : parseR s = (zeroReq, 14) := by unfold parseR; rw [← HXS.out]
        have HP := Lib.hid hP
        obtain ⟨ln, hln⟩ : ∃ ln, ln = (x1 :: x2 :: x3 :: r).length + 1 := ⟨_, rfl⟩
        rw [← hln]
        have l4 : 4 ≤ ln := by rw [hln]; simp
        have l1 : ((ln : Int) == 1) = false := by simp; omega
        have l2 : ((ln : Int) == 2) = false := by simp; omega
        have l3 : ((ln : Int) == 3) = false := by simp; omega
        have n2 : ((ln : Int) != 2) = true := by simp; omega
        have n3 : ((ln : Int) != 3) = true := by simp; omega
        clear hP hln
        cases b4 : (kd == 4) with
        | true =>
          obtain rfl : kd = 4 := by simpa using b4
          go_wp2_with fail
          have hz := box3Put (HRW.out) (Value.int IntKind.i64 0) (Value.string ⟨#[]⟩) (Value.string ⟨#[]⟩)
          obtain ⟨Z, hZ⟩ : ∃ Z, Z = (((W).setCell ⟨R, 0, none⟩ (Value.int IntKind.i64 0)).setCell ⟨R, 1, none⟩ (Value.string ⟨#[]⟩)).setCell ⟨R, 2, none⟩ (Value.string ⟨#[]⟩) := ⟨_, rfl⟩
          rw [← hZ] at hz ⊢
          obtain ⟨hz0, hz1, hz2⟩ := hz
          refine bodyPost_ret (by simp [results, Tryz.results34, go_sem, hz0, hz1, hz2]; try rfl) rfl ?_
          subst hZ
          exact ⟨by rw [HP.out]; rfl, ((hKK.setCell (.inr (by have := HR.out; simp; omega)) _).setCell (.inr (by have := HR.out; simp; omega)) _).setCell (.inr (by have := HR.out; simp; omega)) _⟩
        | false =>
          by_cases hk0 : kd < 0
          · go_wp2_with fail
            have hz := box3Put (HRW.out) (Value.int IntKind.i64 0) (Value.string ⟨#[]⟩) (Value.string ⟨#[]⟩)
            obtain ⟨Z, hZ⟩ : ∃ Z, Z = (((W).setCell ⟨R, 0, none⟩ (Value.int IntKind.i64 0)).setCell ⟨R, 1, none⟩ (Value.string ⟨#[]⟩)).setCell ⟨R, 2, none⟩ (Value.string ⟨#[]⟩) := ⟨_, rfl⟩
            rw [← hZ] at hz ⊢
            obtain ⟨hz0, hz1, hz2⟩ := hz
            refine bodyPost_ret (by simp [results, Tryz.results34, go_sem, hz0, hz1, hz2]; try rfl) rfl ?_
            subst hZ
            exact ⟨by rw [HP.out]; rfl, ((hKK.setCell (.inr (by have := HR.out; simp; omega)) _).setCell (.inr (by have := HR.out; simp; omega)) _).setCell (.inr (by have := HR.out; simp; omega)) _⟩
          · cases b0 : (kd == 0) with
            | true =>
              go_wp2_with fail
              have hz := box3Put (HRW.out) (Value.int IntKind.i64 0) (Value.string ⟨#[]⟩) (Value.string ⟨#[]⟩)
              obtain ⟨Z, hZ⟩ : ∃ Z, Z = (((W).setCell ⟨R, 0, none⟩ (Value.int IntKind.i64 0)).setCell ⟨R, 1, none⟩ (Value.string ⟨#[]⟩)).setCell ⟨R, 2, none⟩ (Value.string ⟨#[]⟩) := ⟨_, rfl⟩
              rw [← hZ] at hz ⊢
              obtain ⟨hz0, hz1, hz2⟩ := hz
              refine bodyPost_ret (by simp [results, Tryz.results34, go_sem, hz0, hz1, hz2]; try rfl) rfl ?_
              subst hZ
              exact ⟨by rw [HP.out]; rfl, ((hKK.setCell (.inr (by have := HR.out; simp; omega)) _).setCell (.inr (by have := HR.out; simp; omega)) _).setCell (.inr (by have := HR.out; simp; omega)) _⟩
            | false =>
              go_wp2_with fail
              have hz := box3Put (HRW.out) (Value.int IntKind.i64 0) (Value.string ⟨#[]⟩) (Value.string ⟨#[]⟩)
              obtain ⟨Z, hZ⟩ : ∃ Z, Z = (((W).setCell ⟨R, 0, none⟩ (Value.int IntKind.i64 0)).setCell ⟨R, 1, none⟩ (Value.string ⟨#[]⟩)).setCell ⟨R, 2, none⟩ (Value.string ⟨#[]⟩) := ⟨_, rfl⟩
              rw [← hZ] at hz ⊢
              obtain ⟨hz0, hz1, hz2⟩ := hz
              refine bodyPost_ret (by simp [results, Tryz.results34, go_sem, hz0, hz1, hz2]; try rfl) rfl ?_
              subst hZ
              exact ⟨by rw [HP.out]; rfl, ((hKK.setCell (.inr (by have := HR.out; simp; omega)) _).setCell (.inr (by have := HR.out; simp; omega)) _).setCell (.inr (by have := HR.out; simp; omega)) _⟩
end Go.Proofs.YtmihnakapnoefaaGreatDoor
