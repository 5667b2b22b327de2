/-
  What may be: Check of a needle, and of a request; the program's and the document's.
-/
import Derived.Test.YtlomniffpjndfaaDoorReqA
import Derived.Laws.RangeString
import Derived.Laws.RangeAny
namespace Go.Proofs.YtlomniffpjndfaaDoor
open Go.RowKit

def badR (x : Nat) : Bool := decide (x < 33) || decide (126 < x)
theorem check1 (W : World) (x : Nat) : FnGives Tryd.prog 56 #[] #[encR x] (.bool (badR x)) W := by
  show Calls Tryd.prog 56 #[.int .i32 (x : Int)] W _
  unfold badR
  by_cases h1 : x < 33
  · have h1I : (x : Int) < 33 := by omega
    go_enter Tryd.func56, Tryd.ntmps56
    go_wp2_with fail
    go_ret
    exact ⟨by simp [h1], 0, rfl⟩
  · have h1I : ¬ (x : Int) < 33 := by omega
    have h2 : decide (126 < x) = decide (126 < (x : Int)) := by simp; omega
    rw [h2]
    go_enter Tryd.func56, Tryd.ntmps56
    go_wp2_with fail
    go_ret
    exact ⟨by simp, 0, rfl⟩
theorem check1_runes (w : World) : PredAtRunes Tryd.prog 56 #[] badR w := fun W x _ _ => check1 W x

theorem get_list (s : ByteArray) (i : Nat) (h : i < s.size) : s.data.toList[i]'(by simpa using h) = s[i] := by
  show _ = s.data[i]'h
  exact Array.getElem_toList _
theorem idx_neg (s : ByteArray) : ∀ f pos : Nat, s.size ≤ pos + f → (Lib.idxFuncFrom badR true s f pos < 0 ↔ ∀ i (h : i < s.size), pos ≤ i → plainB s[i] = true)
  | 0, pos, hf => ⟨fun _ i h hp => by omega, fun _ => by simp [Lib.idxFuncFrom]⟩
  | f + 1, pos, hf => by
    unfold Lib.idxFuncFrom
    by_cases hp : pos < s.size
    · rw [if_pos hp]
      by_cases ha : (s[pos]'hp).toNat < 128
      · rw [decode_ascii s pos hp ha]
        by_cases hb : badR (s[pos]'hp).toNat = true
        · rw [if_pos hb]
          refine ⟨fun h => by omega, fun h => ?_⟩
          have := h pos hp (Nat.le_refl _)
          simp only [plainB, badR, Bool.or_eq_true, decide_eq_true_eq] at this hb
          omega
        · rw [if_neg hb, idx_neg s f (pos + 1) (by omega)]
          refine ⟨fun h i hi hpi => ?_, fun h i hi hpi => h i hi (by omega)⟩
          by_cases e : i = pos
          · subst e
            simp only [plainB, badR, Bool.or_eq_true, decide_eq_true_eq] at hb ⊢
            omega
          · exact h i hi (by omega)
      · have h128 := decode_high s pos hp (by omega)
        have hb : badR (Utf8.decode s pos).1 = true := by
          simp only [badR, Bool.or_eq_true, decide_eq_true_eq]
          omega
        rw [if_pos hb]
        refine ⟨fun h => by omega, fun h => ?_⟩
        have := h pos hp (Nat.le_refl _)
        simp only [plainB, decide_eq_true_eq] at this
        omega
    · rw [if_neg hp]
      exact ⟨fun _ i h hpi => by omega, fun _ => by omega⟩
theorem idx_plain (s : ByteArray) : decide (Lib.idxFunc badR true s < 0) = s.data.toList.all plainB := by
  rw [Bool.eq_iff_iff, decide_eq_true_eq]
  unfold Lib.idxFunc
  rw [idx_neg s s.size 0 (by omega), List.all_eq_true]
  refine ⟨fun h x hx => ?_, fun h i hi _ => ?_⟩
  · obtain ⟨i, hi, rfl⟩ := List.getElem_of_mem hx
    exact h i (by simpa using hi) (Nat.zero_le _)
  · exact h _ (get_list s i hi ▸ List.getElem_mem _)

/-- what a needle's Check answers -/
def needleE (k v : ByteArray) : Int := if keyOk k then (if 384 < (numLen k.size + k.size) + (numLen v.size + v.size) + 32 then 12 else 0) else 11
theorem isEmpty_toList (s : ByteArray) : s.toList.isEmpty = decide (s.size = 0) := by
  rw [ByteArray.toList_eq, Bool.eq_iff_iff, List.isEmpty_iff, decide_eq_true_eq, ← List.length_eq_zero_iff]
  simp
theorem keyOk_eq (k : ByteArray) : keyOk k = (!k.toList.isEmpty && !decide (32 < (k.size : Int)) && k.data.toList.all plainB) := by
  rw [isEmpty_toList, Bool.eq_iff_iff]
  unfold keyOk
  simp only [Bool.and_eq_true, decide_eq_true_eq, Bool.not_eq_true', decide_eq_false_iff_not]
  exact ⟨fun ⟨h1, h2, h3⟩ => ⟨⟨by omega, by omega⟩, h1⟩, fun ⟨⟨h1, h2⟩, h3⟩ => ⟨h3, by omega, by omega⟩⟩
theorem wrap_id (n : Int) (h0 : -9223372036854775808 ≤ n) (h1 : n ≤ 9223372036854775807) : IntKind.i64.wrap n = n := by
  unfold IntKind.wrap; simp [IntKind.bits, IntKind.signed]; omega

set_option maxRecDepth 20000 in
theorem ncheck (k v : ByteArray) (hk : k.size < 16384) (hv : v.size < 16384) (w : World) : Calls Tryd.prog 39 #[.agg #[.string k, .string v]] w fun e w' => e = .returned (.int .i64 (needleE k v)) ∧ Kp [] w w' := by
  go_enter Tryd.func39, Tryd.ntmps39
  obtain ⟨w0, hw0⟩ : ∃ w0, w0 = (w.alloc (Obj.cells #[Value.string k, Value.string v] 76)) := ⟨_, rfl⟩
  have kw0 : Kp [] w w0 := hw0 ▸ (Kp.refl _ _).alloc _
  have c2 := Kp.cellAt (X := []) (w0 := w0) (p := ⟨w.heap.size, 0, none⟩) (v := .string k) (by rw [hw0]; exact cell_of_cells (block_new _ _) rfl) (by simp)
  have c3 := Kp.cellAt (X := []) (w0 := w0) (p := ⟨w.heap.size, 1, none⟩) (v := .string v) (by rw [hw0]; exact cell_of_cells (block_new _ _) rfl) (by simp)
  have Hw0 := Lib.hid hw0
  clear hw0
  go_wp2_with fail
  rw [← Hw0.out]
  have hK := Kp.refl [] w0
  refine (Tryd.strings_IndexFunc_runes 56 #[] (fun _ _ => rfl) badR k _ (check1_runes _)).mono ?_
  rintro e w1 ⟨rfl, hb1⟩
  have hK := Kp.of_below hb1 []
  clear hb1
  obtain ⟨q, hq⟩ : ∃ q, q = Lib.idxFunc badR true k := ⟨_, rfl⟩
  rw [← hq]
  have hpl : decide (q < 0) = k.data.toList.all plainB := by rw [hq]; exact idx_plain k
  have hko := keyOk_eq k
  rw [← hpl] at hko
  have HKO := Lib.hid hko
  clear hq hpl hko
  by_cases h1 : k.toList.isEmpty = true
  · have hE : needleE k v = 11 := by unfold needleE; rw [HKO.out, h1]; rfl
    have HE := Lib.hid hE
    clear hE
    go_wp2_with fail
    go_ret
    exact ⟨by rw [HE.out]; rfl, kw0.trans hK⟩
  have h1' : k.toList.isEmpty = false := by simpa using h1
  clear h1
  cases h2 : decide (32 < (k.size : Int)) with
  | true =>
    have hE : needleE k v = 11 := by unfold needleE; rw [HKO.out, h1', h2]; rfl
    have HE := Lib.hid hE
    clear hE
    go_wp2_with fail
    go_ret
    exact ⟨by rw [HE.out]; rfl, kw0.trans hK⟩
  | false =>
    cases h3 : decide (q < 0) with
    | false =>
      have hE : needleE k v = 11 := by unfold needleE; rw [HKO.out, h3]; simp
      have HE := Lib.hid hE
      clear hE
      go_wp2_with fail
      go_ret
      exact ⟨by rw [HE.out]; rfl, kw0.trans hK⟩
    | true =>
      obtain ⟨a, ha⟩ : ∃ a, a = numLen k.size + k.size := ⟨_, rfl⟩
      obtain ⟨c, hc⟩ : ∃ c, c = numLen v.size + v.size := ⟨_, rfl⟩
      have hE : needleE k v = if decide (384 < (a : Int) + (c : Int) + 32) then 12 else 0 := by
        unfold needleE; rw [HKO.out, h1', h2, h3, ← ha, ← hc]
        by_cases h : 384 < a + c + 32
        · rw [decide_eq_true (by omega)]; simp [h]
        · rw [decide_eq_false (by omega)]; simp [h]
      have HE := Lib.hid hE
      have l1 := numLen_le k.size
      have l2 := numLen_le v.size
      have wa := wrap_id ((a : Int) + (c : Int)) (by omega) (by omega)
      have wb := wrap_id ((a : Int) + (c : Int) + 32) (by omega) (by omega)
      have HA := Lib.hid ha
      have HC := Lib.hid hc
      clear hE HKO ha hc l1 l2
      go_wp2_with fail
      refine wpB_begin 999 (Kp [] w0) (by kernel_rfl) (by first | exact hK.drew | exact Kp.drew (Kp.refl _ _)) (fun hHeld => ?_)
      refine wpB_take 0 _ ?_ rfl (by kernel_rfl) (fun _ _ _ h => h) rfl hHeld ?_ ?_
      rotate_left
      · (intro W hW; go_simp; try with_reducible rfl)
      try simp only [Act.put, List.setIfInBounds_toArray, List.set_cons_zero, List.set_cons_succ]
      refine wpB_take 1 _ ?_ rfl (by kernel_rfl) (fun _ _ _ h => h) rfl hHeld ?_ ?_
      rotate_left
      · (intro W hW; go_simp; try with_reducible rfl)
      try simp only [Act.put, List.setIfInBounds_toArray, List.set_cons_zero, List.set_cons_succ]
      refine wpB_take 4 _ ?_ rfl (by kernel_rfl) (fun _ _ _ h => h) rfl hHeld ?_ ?_
      rotate_left
      · (intro W hW; go_simp; try with_reducible rfl)
      try simp only [Act.put, List.setIfInBounds_toArray, List.set_cons_zero, List.set_cons_succ]
      refine wpB_take 5 _ ?_ rfl (by kernel_rfl) (fun _ _ _ h => h) rfl hHeld ?_ ?_
      rotate_left
      · (intro W hW; go_simp; try with_reducible rfl)
      try simp only [Act.put, List.setIfInBounds_toArray, List.set_cons_zero, List.set_cons_succ]
      refine wpB_step 2 _ rfl (by kernel_rfl) rfl rfl (fun K hK_ => ?_)
      go_simp
      refine (ptext k hk _).mono ?_
      rintro e w2 ⟨t2, rfl, ht2, k2⟩
      rw [← HA.out] at ht2
      refine hK_.out _ _ (by first | exact hHeld | exact hHeld.call ‹_› | exact hHeld.alloc _) (fun hHeld => ?_)
      clear hK_ K
      try simp only [Act.put, List.setIfInBounds_toArray, List.set_cons_zero, List.set_cons_succ]
      refine wpB_take 3 _ ?_ rfl (by kernel_rfl) (fun _ _ _ h => h) rfl hHeld ?_ ?_
      rotate_left
      · (intro W hW; go_simp; try with_reducible rfl)
      try simp only [Act.put, List.setIfInBounds_toArray, List.set_cons_zero, List.set_cons_succ]
      refine wpB_step 6 _ rfl (by kernel_rfl) rfl rfl (fun K hK_ => ?_)
      go_simp
      refine (ptext v hv _).mono ?_
      rintro e w3 ⟨t3, rfl, ht3, k3⟩
      rw [← HC.out] at ht3
      refine hK_.out _ _ (by first | exact hHeld | exact hHeld.call ‹_› | exact hHeld.alloc _) (fun hHeld => ?_)
      clear hK_ K
      try simp only [Act.put, List.setIfInBounds_toArray, List.set_cons_zero, List.set_cons_succ]
      refine wpB_take 7 _ ?_ rfl (by kernel_rfl) (fun _ _ _ h => h) rfl hHeld ?_ ?_
      rotate_left
      · (intro W hW; go_simp; try with_reducible rfl)
      try simp only [Act.put, List.setIfInBounds_toArray, List.set_cons_zero, List.set_cons_succ]
      refine wpB_take 8 _ ?_ rfl (by kernel_rfl) (fun _ _ _ h => h) rfl hHeld ?_ ?_
      rotate_left
      · (intro W hW; go_simp; try with_reducible rfl)
      try simp only [Act.put, List.setIfInBounds_toArray, List.set_cons_zero, List.set_cons_succ]
      refine wpB_take 9 _ ?_ rfl (by kernel_rfl) (fun _ _ _ h => h) rfl hHeld ?_ ?_
      rotate_left
      · (intro W hW; go_simp; try with_reducible rfl)
      try simp only [Act.put, List.setIfInBounds_toArray, List.set_cons_zero, List.set_cons_succ]
      refine wpB_take 10 _ ?_ rfl (by kernel_rfl) (fun _ _ _ h => h) rfl hHeld ?_ ?_
      rotate_left
      · (intro W hW; go_simp; try with_reducible rfl)
      try simp only [Act.put, List.setIfInBounds_toArray, List.set_cons_zero, List.set_cons_succ]
      refine wpB_take 11 _ ?_ rfl (by kernel_rfl) (fun _ _ _ h => h) rfl hHeld ?_ ?_
      rotate_left
      · (intro W hW; go_simp; try with_reducible rfl)
      try simp only [Act.put, List.setIfInBounds_toArray, List.set_cons_zero, List.set_cons_succ]
      refine wpB_done (by kernel_rfl) ?_ _
      cases hb : decide (384 < (a : Int) + (c : Int) + 32) with
      | true =>
        have he : needleE k v = 12 := by rw [HE.out, hb]; rfl
        have HE2 := Lib.hid he
        clear he
        go_wp2_with fail
        go_ret
        exact ⟨by rw [HE2.out]; rfl, kw0.trans hHeld⟩
      | false =>
        have he : needleE k v = 0 := by rw [HE.out, hb]; rfl
        have HE2 := Lib.hid he
        clear he
        go_wp2_with fail
        go_ret
        exact ⟨by rw [HE2.out]; rfl, kw0.trans hHeld⟩

set_option maxRecDepth 20000 in
theorem n8check (k v : ByteArray) (hk : k.size < 16384) (hv : v.size < 16384) (w : World) : Calls Tryd.prog 46 #[.agg #[.string k, .string v]] w fun e w' => e = .returned (.int .i64 (needleE k v)) ∧ Kp [] w w' := by
  go_enter Tryd.func46, Tryd.ntmps46
  obtain ⟨w0, hw0⟩ : ∃ w0, w0 = (w.alloc (Obj.cells #[Value.string k, Value.string v] 81)) := ⟨_, rfl⟩
  have kw0 : Kp [] w w0 := hw0 ▸ (Kp.refl _ _).alloc _
  have c2 := Kp.cellAt (X := []) (w0 := w0) (p := ⟨w.heap.size, 0, none⟩) (v := .string k) (by rw [hw0]; exact cell_of_cells (block_new _ _) rfl) (by simp)
  have c3 := Kp.cellAt (X := []) (w0 := w0) (p := ⟨w.heap.size, 1, none⟩) (v := .string v) (by rw [hw0]; exact cell_of_cells (block_new _ _) rfl) (by simp)
  have Hw0 := Lib.hid hw0
  clear hw0
  go_wp2_with fail
  rw [← Hw0.out]
  have hK := Kp.refl [] w0
  go_wp2_with fail
  refine (r8key k hk _).mono ?_
  rintro e w1 ⟨rfl, h1⟩
  have hK := h1
  cases hko : keyOk k with
  | false =>
    have hE : needleE k v = 11 := by unfold needleE; rw [hko]; rfl
    have HE := Lib.hid hE
    clear hE
    go_wp2_with fail
    go_ret
    exact ⟨by rw [HE.out]; rfl, kw0.trans hK⟩
  | true =>
    obtain ⟨a, ha⟩ : ∃ a, a = numLen k.size + k.size := ⟨_, rfl⟩
    obtain ⟨c, hc⟩ : ∃ c, c = numLen v.size + v.size := ⟨_, rfl⟩
    have hE : needleE k v = if decide (384 < (a : Int) + (c : Int) + 32) then 12 else 0 := by
      unfold needleE; rw [hko, ← ha, ← hc]
      by_cases h : 384 < a + c + 32
      · rw [decide_eq_true (by omega)]; simp [h]
      · rw [decide_eq_false (by omega)]; simp [h]
    have HE := Lib.hid hE
    have l1 := numLen_le k.size
    have l2 := numLen_le v.size
    have wa := wrap_id ((a : Int) + (c : Int)) (by omega) (by omega)
    have wb := wrap_id ((a : Int) + (c : Int) + 32) (by omega) (by omega)
    have HA := Lib.hid ha
    have HC := Lib.hid hc
    clear hE ha hc l1 l2
    go_wp2_with fail
    refine wpB_begin 999 (Kp [] w0) (by kernel_rfl) (by first | exact hK.drew | exact Kp.drew (Kp.refl _ _)) (fun hHeld => ?_)
    refine wpB_take 0 _ ?_ rfl (by kernel_rfl) (fun _ _ _ h => h) rfl hHeld ?_ ?_
    rotate_left
    · (intro W hW; go_simp; try with_reducible rfl)
    try simp only [Act.put, List.setIfInBounds_toArray, List.set_cons_zero, List.set_cons_succ]
    refine wpB_take 1 _ ?_ rfl (by kernel_rfl) (fun _ _ _ h => h) rfl hHeld ?_ ?_
    rotate_left
    · (intro W hW; go_simp; try with_reducible rfl)
    try simp only [Act.put, List.setIfInBounds_toArray, List.set_cons_zero, List.set_cons_succ]
    refine wpB_take 4 _ ?_ rfl (by kernel_rfl) (fun _ _ _ h => h) rfl hHeld ?_ ?_
    rotate_left
    · (intro W hW; go_simp; try with_reducible rfl)
    try simp only [Act.put, List.setIfInBounds_toArray, List.set_cons_zero, List.set_cons_succ]
    refine wpB_take 5 _ ?_ rfl (by kernel_rfl) (fun _ _ _ h => h) rfl hHeld ?_ ?_
    rotate_left
    · (intro W hW; go_simp; try with_reducible rfl)
    try simp only [Act.put, List.setIfInBounds_toArray, List.set_cons_zero, List.set_cons_succ]
    refine wpB_step 2 _ rfl (by kernel_rfl) rfl rfl (fun K hK_ => ?_)
    go_simp
    refine (r5text k hk _).mono ?_
    rintro e w2 ⟨t2, rfl, ht2, k2⟩
    rw [← HA.out] at ht2
    refine hK_.out _ _ (by first | exact hHeld | exact hHeld.call ‹_› | exact hHeld.alloc _) (fun hHeld => ?_)
    clear hK_ K
    try simp only [Act.put, List.setIfInBounds_toArray, List.set_cons_zero, List.set_cons_succ]
    refine wpB_take 3 _ ?_ rfl (by kernel_rfl) (fun _ _ _ h => h) rfl hHeld ?_ ?_
    rotate_left
    · (intro W hW; go_simp; try with_reducible rfl)
    try simp only [Act.put, List.setIfInBounds_toArray, List.set_cons_zero, List.set_cons_succ]
    refine wpB_step 6 _ rfl (by kernel_rfl) rfl rfl (fun K hK_ => ?_)
    go_simp
    refine (r5text v hv _).mono ?_
    rintro e w3 ⟨t3, rfl, ht3, k3⟩
    rw [← HC.out] at ht3
    refine hK_.out _ _ (by first | exact hHeld | exact hHeld.call ‹_› | exact hHeld.alloc _) (fun hHeld => ?_)
    clear hK_ K
    try simp only [Act.put, List.setIfInBounds_toArray, List.set_cons_zero, List.set_cons_succ]
    refine wpB_take 7 _ ?_ rfl (by kernel_rfl) (fun _ _ _ h => h) rfl hHeld ?_ ?_
    rotate_left
    · (intro W hW; go_simp; try with_reducible rfl)
    try simp only [Act.put, List.setIfInBounds_toArray, List.set_cons_zero, List.set_cons_succ]
    refine wpB_take 8 _ ?_ rfl (by kernel_rfl) (fun _ _ _ h => h) rfl hHeld ?_ ?_
    rotate_left
    · (intro W hW; go_simp; try with_reducible rfl)
    try simp only [Act.put, List.setIfInBounds_toArray, List.set_cons_zero, List.set_cons_succ]
    refine wpB_take 9 _ ?_ rfl (by kernel_rfl) (fun _ _ _ h => h) rfl hHeld ?_ ?_
    rotate_left
    · (intro W hW; go_simp; try with_reducible rfl)
    try simp only [Act.put, List.setIfInBounds_toArray, List.set_cons_zero, List.set_cons_succ]
    refine wpB_take 10 _ ?_ rfl (by kernel_rfl) (fun _ _ _ h => h) rfl hHeld ?_ ?_
    rotate_left
    · (intro W hW; go_simp; try with_reducible rfl)
    try simp only [Act.put, List.setIfInBounds_toArray, List.set_cons_zero, List.set_cons_succ]
    refine wpB_done (by kernel_rfl) ?_ _
    cases hb : decide (384 < (a : Int) + (c : Int) + 32) with
    | true =>
      have he : needleE k v = 12 := by rw [HE.out, hb]; rfl
      have HE2 := Lib.hid he
      clear he
      go_wp2_with fail
      go_ret
      exact ⟨by rw [HE2.out]; rfl, kw0.trans hHeld⟩
    | false =>
      have he : needleE k v = 0 := by rw [HE.out, hb]; rfl
      have HE2 := Lib.hid he
      clear he
      go_wp2_with fail
      go_ret
      exact ⟨by rw [HE2.out]; rfl, kw0.trans hHeld⟩
end Go.Proofs.YtlomniffpjndfaaDoor
