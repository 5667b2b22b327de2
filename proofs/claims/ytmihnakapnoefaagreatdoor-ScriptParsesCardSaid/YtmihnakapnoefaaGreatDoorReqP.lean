/-
  A request's line: Print, the program's and the document's.
-/
import Derived.Test.YtmihnakapnoefaaGreatDoorReqC
import Derived.Test.YtmihnakapnoefaaGreatDoorReqH
namespace Go.Proofs.YtmihnakapnoefaaGreatDoor
open Go.RowKit Go.WideShapes

abbrev SB (l : List UInt8) : ByteArray := ⟨l.toArray⟩
def wordList : List (List UInt8) := [[112, 117, 116], [103, 101, 116], [100, 101, 108], [115, 116, 97, 116], [108, 105, 115, 116]]
def wordL (n : Nat) : List UInt8 := wordList.getD n []
theorem SB_data (s : ByteArray) : SB s.data.toList = s := bytes_inj (by simp)
theorem SB_size (l : List UInt8) : (SB l).size = l.length := List.size_toArray
theorem word_len (n : Nat) : (wordL n).length ≤ 4 := by
  unfold wordL wordList
  match n with
  | 0 => decide
  | 1 => decide
  | 2 => decide
  | 3 => decide
  | 4 => decide
  | n + 5 => simp

theorem qwords (w : World) : Calls Tryz.prog 41 #[] w fun e w' => e = .returned (.slice (some ⟨w.heap.size, 0, none⟩) 5 5) ∧ Kp [] w w' ∧ w.heap.size < w'.heap.size ∧ ∀ n, n < 5 → w'.cell? ⟨w.heap.size, n, none⟩ = some (.string (SB (wordL n))) := by
  go_enter Tryz.func41, Tryz.ntmps41
  go_wp2_with fail
  go_ret
  refine ⟨rfl, (Kp.refl _ _).alloc _, by simp, fun n hn => ?_⟩
  refine cell_of_cells (block_new _ _) ?_
  match n, hn with
  | 0, _ => rfl
  | 1, _ => rfl
  | 2, _ => rfl
  | 3, _ => rfl
  | 4, _ => rfl
theorem rword (n : Nat) (hn : n < 5) (w : World) : Calls Tryz.prog 49 #[.int .i64 n] w fun e w' => e = .returned (.string (SB (wordL n))) ∧ Kp [] w w' := by
  have hnI : (n : Int) < 5 := by omega
  have hc : ∀ t, (w.alloc (.cells #[.string ⟨#[112, 117, 116]⟩, .string ⟨#[103, 101, 116]⟩, .string ⟨#[100, 101, 108]⟩, .string ⟨#[115, 116, 97, 116]⟩, .string ⟨#[108, 105, 115, 116]⟩] t)).cell? ⟨w.heap.size, n, none⟩ = some (.string (SB (wordL n))) := by
    intro t
    refine cell_of_cells (block_new _ _) ?_
    match n, hn with
    | 0, _ => rfl
    | 1, _ => rfl
    | 2, _ => rfl
    | 3, _ => rfl
    | 4, _ => rfl
  go_enter Tryz.func49, Tryz.ntmps49
  go_wp2_with fail
  go_ret
  exact ⟨rfl, (Kp.refl _ _).alloc _⟩

/-- a request's line -/
def partsL (kind : Int) (k v : List UInt8) : List (List UInt8) := [wordL kind.toNat] ++ (if k = [] then [] else [k]) ++ (if kind = 0 then [digitsL v] else [])
def printL (kind : Int) (k v : List UInt8) : List UInt8 := Lib.join (partsL kind k v) [32]
def printR (kind : Int) (k v : ByteArray) : ByteArray × Int :=
  if checkE kind k v = 0 then (SB (printL kind k.data.toList v.data.toList), 0) else (⟨#[]⟩, checkE kind k v)
theorem check_kind {kind : Int} {k v : ByteArray} (h : checkE kind k v = 0) : 0 ≤ kind ∧ kind ≤ 4 := by
  unfold checkE at h
  by_cases h1 : kind < 0
  · rw [if_pos h1] at h; cases h
  · rw [if_neg h1] at h
    by_cases h2 : 4 < kind
    · rw [if_pos h2] at h; cases h
    · omega
theorem strs_own {w : World} {base b : Nat} {cur : Array Value} (h : w.heap[b]? = some (.cells cur 9 (0, 0))) (hb : base ≤ b) (n : Nat) (hn : cur.size = n) (hm : n ≤ maxLen) :
    w.ownsRow base 9 1 (.slice (some ⟨b, 0, none⟩) n n) n cur.toList := by
  refine ⟨by simp [hn], .inr ⟨b, n, cur, rfl, hb, h, Nat.le_refl _, hm, by omega, ?_⟩⟩
  rw [List.take_of_length_le (by simp [hn])]
theorem Tryz.info9 : (Tryz.prog.info? 9).map (fun i => (i.zero, i.size, i.bytes)) = some (some (.string ByteArray.empty), 1, 16) := by kernel_rfl
theorem join_own {w : World} {base : Nat} {v : Value} {xs : List ByteArray} (h : w.ownsRow base 9 1 v xs.length (xs.map Value.string)) (h0 : xs ≠ []) (hl : (Lib.join (xs.map (·.data.toList)) [32]).length ≤ 1000000) (hx : xs.length ≤ 1000) :
    Calls Tryz.prog 20 #[v, .string ⟨#[32]⟩] w fun e w' => e = .returned (.string (SB (Lib.join (xs.map (·.data.toList)) [32]))) ∧ Kp [] w w' := by
  obtain ⟨hl1, ⟨hv, hn⟩ | ⟨g, cap, cur, hv, hg, hb', hc, hm, hs, ht⟩⟩ := h
  · exact absurd (List.eq_nil_of_length_eq_zero hn) h0
  · rw [hv]
    refine (Tryz.strings_Join g 0 cap xs ⟨#[32]⟩ w (fun j x hj => ?_) (lt_of_block hb') (by omega) hc (by show (Lib.join _ [32]).length ≤ _; omega)).mono ?_
    · refine cell_of_cells hb' ?_
      rw [← Array.getElem?_toList, Nat.zero_add]
      have h2 : (cur.toList.take (xs.length * 1))[j]? = some (.string x) := by rw [ht, List.getElem?_map, hj]; rfl
      rw [List.getElem?_take] at h2
      split at h2
      · exact h2
      · cases h2
    · rintro e w' ⟨rfl, hb⟩
      exact ⟨rfl, Kp.of_below hb []⟩

theorem join_two (a b : List UInt8) : Lib.join [a, b] [32] = a ++ ([32] ++ b) := by simp [Lib.join, List.intercalate]
theorem join_three (a b c : List UInt8) : Lib.join [a, b, c] [32] = a ++ ([32] ++ (b ++ ([32] ++ c))) := by simp [Lib.join, List.intercalate]
theorem digits_len (l : List UInt8) : (digitsL l).length ≤ 2 * l.length + 1 := by
  unfold digitsL
  split
  · simp
  · rw [hexL_len]; omega
set_option maxHeartbeats 1000000 in
set_option maxRecDepth 20000 in
theorem qprint (kind : Int) (k v : ByteArray) (hk : k.size < 16384) (hv : v.size < 16384) (w : World) :
    Calls Tryz.prog 17 #[.agg #[.int .i64 kind, .string k, .string v]] w fun e w' => e = .returned (.tuple #[.string (printR kind k v).1, .int .i64 (printR kind k v).2]) ∧ Kp [] w w' := by
  obtain ⟨ce, hce⟩ : ∃ ce, ce = checkE kind k v := ⟨_, rfl⟩
  go_enter Tryz.func17, Tryz.ntmps17
  obtain ⟨w0, hw0⟩ : ∃ w0, w0 = (w.alloc (Obj.cells #[Value.int IntKind.i64 kind, Value.string k, Value.string v] 23)) := ⟨_, rfl⟩
  have kw0 : Kp [] w w0 := hw0 ▸ (Kp.refl _ _).alloc _
  have c1 := Kp.cellAt (X := []) (w0 := w0) (p := ⟨w.heap.size, 0, none⟩) (v := .int .i64 kind) (by rw [hw0]; exact cell_of_cells (block_new _ _) rfl) (by simp)
  have c2 := Kp.cellAt (X := []) (w0 := w0) (p := ⟨w.heap.size, 1, none⟩) (v := .string k) (by rw [hw0]; exact cell_of_cells (block_new _ _) rfl) (by simp)
  have c3 := Kp.cellAt (X := []) (w0 := w0) (p := ⟨w.heap.size, 2, none⟩) (v := .string v) (by rw [hw0]; exact cell_of_cells (block_new _ _) rfl) (by simp)
  have Hw0 := Lib.hid hw0
  clear hw0
  go_wp2_with fail
  rw [← Hw0.out]
  have hK := Kp.refl [] w0
  go_wp2_with fail
  refine (qcheck kind k v hk hv _).mono ?_
  rintro e w1 ⟨rfl, h1⟩
  have hK := hK.trans h1
  rw [← hce]
  have HCE := Lib.hid hce
  by_cases h0 : ce = 0
  · subst h0
    have hR : printR kind k v = (SB (printL kind k.data.toList v.data.toList), 0) := by unfold printR; rw [if_pos hce.symm]
    have HR := Lib.hid hR
    obtain ⟨n, hn⟩ : ∃ n : Nat, kind = n := ⟨kind.toNat, by have := (check_kind hce.symm).1; omega⟩
    have hn5 : n < 5 := by have := (check_kind hce.symm).2; omega
    subst hn
    have hnI : (n : Int) < 5 := by omega
    have h1s := Lib.hid h1.size
    clear hce hR h1
    go_wp2_with fail
    refine wpB_begin 999 (Kp [] w0) (by kernel_rfl) (by first | exact hK.drew | exact Kp.drew (Kp.refl _ _)) (fun hHeld => ?_)
    refine wpB_take 1 _ ?_ rfl (by kernel_rfl) (fun _ _ _ h => h) rfl hHeld ?_ ?_
    rotate_left
    · (intro W hW; go_simp; try with_reducible rfl)
    try simp only [Act.put, List.setIfInBounds_toArray, List.set_cons_zero, List.set_cons_succ]
    refine wpB_take 2 _ ?_ rfl (by kernel_rfl) (fun _ _ _ h => h) rfl hHeld ?_ ?_
    rotate_left
    · (intro W hW; go_simp; try with_reducible rfl)
    try simp only [Act.put, List.setIfInBounds_toArray, List.set_cons_zero, List.set_cons_succ]
    refine wpB_step 0 _ rfl (by kernel_rfl) rfl rfl (fun K hK_ => ?_)
    go_simp
    refine (qwords _).mono ?_
    rintro e w2 ⟨rfl, k2, z2, hc2⟩
    have hw2 : w2.cell? ⟨w1.heap.size, n, none⟩ = some (.string (SB (wordL n))) := hc2 n hn5
    refine hK_.out _ _ (by first | exact hHeld | exact hHeld.call ‹_› | exact hHeld.alloc _) (fun hHeld => ?_)
    clear hK_ K
    try simp only [Act.put, List.setIfInBounds_toArray, List.set_cons_zero, List.set_cons_succ]
    refine wpB_take 3 _ ?_ rfl (by kernel_rfl) (fun _ _ _ h => h) rfl hHeld ?_ ?_
    rotate_left
    · (intro W hW; go_simp; try with_reducible rfl)
    try simp only [Act.put, List.setIfInBounds_toArray, List.set_cons_zero, List.set_cons_succ]
    refine wpB_step 4 _ rfl (by kernel_rfl) rfl rfl (fun K hK_ => ?_)
    go_simp
    refine hK_.out _ _ (by first | exact hHeld | exact hHeld.call ‹_› | exact hHeld.alloc _) (fun hHeld => ?_)
    clear hK_ K
    try simp only [Act.put, List.setIfInBounds_toArray, List.set_cons_zero, List.set_cons_succ]
    refine wpB_step 5 _ rfl (by kernel_rfl) rfl rfl (fun K hK_ => ?_)
    go_simp
    first | refine with_new (K := K) fun hc5 => ?_ | refine with_new_drew (K := K) fun hc5 => ?_
    refine hK_.out _ _ (by first | exact hHeld | exact hHeld.call ‹_› | exact hHeld.alloc _) (fun hHeld => ?_)
    clear hK_ K
    try simp only [Act.put, List.setIfInBounds_toArray, List.set_cons_zero, List.set_cons_succ]
    refine wpB_take 6 _ ?_ rfl (by kernel_rfl) (fun _ _ _ h => h) rfl hHeld ?_ ?_
    rotate_left
    · (intro W hW; go_simp; try with_reducible rfl)
    try simp only [Act.put, List.setIfInBounds_toArray, List.set_cons_zero, List.set_cons_succ]
    refine wpB_done (by kernel_rfl) ?_ _
    have hown := strs_own (base := w0.heap.size) hc5 (by have := hHeld.size; have := k2.size; have := h1s.out; simp at *; omega) 1 rfl (by unfold maxLen; omega)
    obtain ⟨w3, hw3⟩ : ∃ w3, w3 = w2.alloc (.cells #[.string (SB (wordL n))] 9) := ⟨_, rfl⟩
    rw [← hw3] at hHeld hown ⊢
    have hwl := word_len n
    have HWL := Lib.hid hwl
    clear hw3 hc5 hw2 hc2 z2 k2 h1s hK hwl
    obtain ⟨i0, hi, hz0, hz1, hz2⟩ := info_parts Tryz.info9
    have hsz3 := hHeld.size
    have hdl := digits_len v.data.toList
    have hdl2 : (digitsL v.data.toList).length ≤ 40000 := by simp at hdl; omega
    have HDL := Lib.hid hdl2
    clear hdl hdl2
    cases hb : ((n : Int) == 0) with
    | false =>
      cases he : k.toList.isEmpty with
      | true =>
        have hP : printL n k.data.toList v.data.toList = Lib.join ([SB (wordL n)].map (·.data.toList)) [32] := by
          unfold printL partsL; rw [if_pos (nil_of_empty he), if_neg (by simpa using hb)]; rfl
        have HP := Lib.hid hP
        clear hP
        go_wp2_with fail
        refine (join_own (xs := [SB (wordL n)]) hown (by simp) (by rw [List.map_cons, List.map_nil, Lib.join_one]; have := HWL.out; simp; omega) (by simp)).mono ?_
        rintro e w9 ⟨rfl, k9⟩
        have hH9 := (hHeld).trans k9
        clear k9
        go_wp2_with fail
        go_ret2
        exact ⟨by rw [HR.out, HP.out]; rfl, kw0.trans hH9⟩
      | false =>
        have hP : printL n k.data.toList v.data.toList = Lib.join ([SB (wordL n), k].map (·.data.toList)) [32] := by
          unfold printL partsL; rw [if_neg (ne_of_empty he), if_neg (by simpa using hb)]; rfl
        have HP := Lib.hid hP
        clear hP
        have hge := own_block_ge hown
        go_wp2_with (first | (at_builtin; refine wpList_append_mine _ rfl (.tmp 20) (.tmp 23) 49 rfl w0.heap.size 9 i0 (.string ByteArray.empty) 1 16 Tryz.underlying49 hi hz0 hz1 hz2 rfl (by decide) _ 1 [.string (SB (wordL n))] rfl (ownsRow_keep (X := []) hown ((Kp.refl _ w3).alloc _) (fun _ _ => by simp)) ⟨(w3).heap.size, 0, none⟩ 1 1 [.string k] rfl rfl (new_cells w3 _ _) (fun u hu => by simp only [List.mem_singleton] at hu; subst hu; rfl) (by unfold maxLen; omega) (by omega) (by simp; omega) ?_))
        intro v' w4 hown4 hkp _ _
        obtain ⟨av', cv', rfl⟩ := ownsRow_ex hown4
        have hH4 : Kp [] w0 w4 := hHeld.step (((Kp.refl _ w3).alloc _).trans hkp) (fun i hi hm => by
          simp only [Option.mem_toList] at hm
          have := hge _ hm; omega)
        clear hge hkp
        go_wp2_with fail
        refine (join_own (xs := [SB (wordL n), k]) hown4 (by simp) (by rw [List.map_cons, List.map_cons, List.map_nil, join_two]; have := HWL.out; simp; omega) (by simp)).mono ?_
        rintro e w9 ⟨rfl, k9⟩
        have hH9 := (hH4).trans k9
        clear k9
        go_wp2_with fail
        go_ret2
        exact ⟨by rw [HR.out, HP.out]; rfl, kw0.trans hH9⟩
    | true =>
      obtain rfl : n = 0 := by simpa using hb
      cases he : k.toList.isEmpty with
      | true =>
        have hP : printL ((0 : Nat) : Int) k.data.toList v.data.toList = Lib.join ([SB (wordL 0), SB (digitsL v.data.toList)].map (·.data.toList)) [32] := by
          unfold printL partsL; rw [if_pos (nil_of_empty he)]; rfl
        have HP := Lib.hid hP
        clear hP
        go_wp2_with fail
        refine (qdigits v hv _).mono ?_
        rintro e w5 ⟨rfl, k5⟩
        have hown5 := ownsRow_keep hown k5 (fun _ _ => by simp)
        have hH5 := hHeld.trans k5
        have hsz5 := hH5.size
        clear hown hHeld k5 hsz3
        have hge := own_block_ge hown5
        go_wp2_with (first | (at_builtin; refine wpList_append_mine _ rfl (.tmp 28) (.tmp 32) 49 rfl w0.heap.size 9 i0 (.string ByteArray.empty) 1 16 Tryz.underlying49 hi hz0 hz1 hz2 rfl (by decide) _ 1 [.string (SB (wordL 0))] rfl (ownsRow_keep (X := []) hown5 ((Kp.refl _ w5).alloc _) (fun _ _ => by simp)) ⟨(w5).heap.size, 0, none⟩ 1 1 [.string (SB (digitsL v.data.toList))] rfl rfl (new_cells w5 _ _) (fun u hu => by simp only [List.mem_singleton] at hu; subst hu; rfl) (by unfold maxLen; omega) (by omega) (by simp; omega) ?_))
        intro v' w6 hown6 hkp _ _
        obtain ⟨av', cv', rfl⟩ := ownsRow_ex hown6
        have hH6 : Kp [] w0 w6 := hH5.step (((Kp.refl _ w5).alloc _).trans hkp) (fun i hi hm => by
          simp only [Option.mem_toList] at hm
          have := hge _ hm; omega)
        clear hge hkp
        go_wp2_with fail
        refine (join_own (xs := [SB (wordL 0), SB (digitsL v.data.toList)]) hown6 (by simp) (by rw [List.map_cons, List.map_cons, List.map_nil, join_two]; have := HWL.out; have := HDL.out; simp; omega) (by simp)).mono ?_
        rintro e w9 ⟨rfl, k9⟩
        have hH9 := (hH6).trans k9
        clear k9
        go_wp2_with fail
        go_ret2
        exact ⟨by rw [HR.out, HP.out]; rfl, kw0.trans hH9⟩
      | false =>
        have hP : printL ((0 : Nat) : Int) k.data.toList v.data.toList = Lib.join ([SB (wordL 0), k, SB (digitsL v.data.toList)].map (·.data.toList)) [32] := by
          unfold printL partsL; rw [if_neg (ne_of_empty he)]; rfl
        have HP := Lib.hid hP
        clear hP
        have hge := own_block_ge hown
        go_wp2_with (first | (at_builtin; refine wpList_append_mine _ rfl (.tmp 20) (.tmp 23) 49 rfl w0.heap.size 9 i0 (.string ByteArray.empty) 1 16 Tryz.underlying49 hi hz0 hz1 hz2 rfl (by decide) _ 1 [.string (SB (wordL 0))] rfl (ownsRow_keep (X := []) hown ((Kp.refl _ w3).alloc _) (fun _ _ => by simp)) ⟨(w3).heap.size, 0, none⟩ 1 1 [.string k] rfl rfl (new_cells w3 _ _) (fun u hu => by simp only [List.mem_singleton] at hu; subst hu; rfl) (by unfold maxLen; omega) (by omega) (by simp; omega) ?_))
        intro v' w4 hown4 hkp _ _
        obtain ⟨av', cv', rfl⟩ := ownsRow_ex hown4
        have hH4 : Kp [] w0 w4 := hHeld.step (((Kp.refl _ w3).alloc _).trans hkp) (fun i hi hm => by
          simp only [Option.mem_toList] at hm
          have := hge _ hm; omega)
        clear hge hkp
        go_wp2_with fail
        refine (qdigits v hv _).mono ?_
        rintro e w5 ⟨rfl, k5⟩
        have hown5 := ownsRow_keep hown4 k5 (fun _ _ => by simp)
        have hH5 := hH4.trans k5
        have hsz5 := hH5.size
        clear hown4 hH4 k5 hsz3
        have hge := own_block_ge hown5
        go_wp2_with (first | (at_builtin; refine wpList_append_mine _ rfl (.tmp 28) (.tmp 32) 49 rfl w0.heap.size 9 i0 (.string ByteArray.empty) 1 16 Tryz.underlying49 hi hz0 hz1 hz2 rfl (by decide) _ 2 ([.string (SB (wordL 0))] ++ [.string k]) rfl (ownsRow_keep (X := []) hown5 ((Kp.refl _ w5).alloc _) (fun _ _ => by simp)) ⟨(w5).heap.size, 0, none⟩ 1 1 [.string (SB (digitsL v.data.toList))] rfl rfl (new_cells w5 _ _) (fun u hu => by simp only [List.mem_singleton] at hu; subst hu; rfl) (by unfold maxLen; omega) (by omega) (by simp; omega) ?_))
        intro v' w6 hown6 hkp _ _
        obtain ⟨av', cv', rfl⟩ := ownsRow_ex hown6
        have hH6 : Kp [] w0 w6 := hH5.step (((Kp.refl _ w5).alloc _).trans hkp) (fun i hi hm => by
          simp only [Option.mem_toList] at hm
          have := hge _ hm; omega)
        clear hge hkp
        go_wp2_with fail
        refine (join_own (xs := [SB (wordL 0), k, SB (digitsL v.data.toList)]) hown6 (by simp) (by rw [List.map_cons, List.map_cons, List.map_cons, List.map_nil, join_three]; have := HWL.out; have := HDL.out; simp; omega) (by simp)).mono ?_
        rintro e w9 ⟨rfl, k9⟩
        have hH9 := (hH6).trans k9
        clear k9
        go_wp2_with fail
        go_ret2
        exact ⟨by rw [HR.out, HP.out]; rfl, kw0.trans hH9⟩
  · have hne : (ce != 0) = true := by simpa using h0
    have hR : printR kind k v = (⟨#[]⟩, ce) := by unfold printR; rw [if_neg (by rw [← hce]; exact h0), hce]
    have HR := Lib.hid hR
    clear hce hR h0
    go_wp2_with fail
    go_ret2
    exact ⟨by rw [HR.out]; rfl, kw0.trans hK⟩

set_option maxHeartbeats 1000000 in
set_option maxRecDepth 20000 in
theorem rprint (kind : Int) (k v : ByteArray) (hk : k.size < 16384) (hv : v.size < 16384) (w : World) :
    Calls Tryz.prog 22 #[.agg #[.int .i64 kind, .string k, .string v]] w fun e w' => e = .returned (.tuple #[.string (printR kind k v).1, .int .i64 (printR kind k v).2]) ∧ Kp [] w w' := by
  obtain ⟨ce, hce⟩ : ∃ ce, ce = checkE kind k v := ⟨_, rfl⟩
  go_enter Tryz.func22, Tryz.ntmps22
  obtain ⟨w0, hw0⟩ : ∃ w0, w0 = (w.alloc (Obj.cells #[Value.int IntKind.i64 kind, Value.string k, Value.string v] 23)) := ⟨_, rfl⟩
  have kw0 : Kp [] w w0 := hw0 ▸ (Kp.refl _ _).alloc _
  have c1 := Kp.cellAt (X := []) (w0 := w0) (p := ⟨w.heap.size, 0, none⟩) (v := .int .i64 kind) (by rw [hw0]; exact cell_of_cells (block_new _ _) rfl) (by simp)
  have c2 := Kp.cellAt (X := []) (w0 := w0) (p := ⟨w.heap.size, 1, none⟩) (v := .string k) (by rw [hw0]; exact cell_of_cells (block_new _ _) rfl) (by simp)
  have c3 := Kp.cellAt (X := []) (w0 := w0) (p := ⟨w.heap.size, 2, none⟩) (v := .string v) (by rw [hw0]; exact cell_of_cells (block_new _ _) rfl) (by simp)
  have Hw0 := Lib.hid hw0
  clear hw0
  go_wp2_with fail
  rw [← Hw0.out]
  have hK := Kp.refl [] w0
  go_wp2_with fail
  refine (rcheck kind k v hk hv _).mono ?_
  rintro e w1 ⟨rfl, h1⟩
  have hK := hK.trans h1
  rw [← hce]
  have HCE := Lib.hid hce
  by_cases h0 : ce = 0
  · subst h0
    have hR : printR kind k v = (SB (printL kind k.data.toList v.data.toList), 0) := by unfold printR; rw [if_pos hce.symm]
    have HR := Lib.hid hR
    obtain ⟨n, hn⟩ : ∃ n : Nat, kind = n := ⟨kind.toNat, by have := (check_kind hce.symm).1; omega⟩
    have hn5 : n < 5 := by have := (check_kind hce.symm).2; omega
    subst hn
    have hnI : (n : Int) < 5 := by omega
    have HN5 := Lib.hid hn5
    clear hce hR h1 hn5
    go_wp2_with fail
    refine (rword n HN5.out _).mono ?_
    rintro e w2 ⟨rfl, k2⟩
    have hK := hK.trans k2
    have hdl := digits_len v.data.toList
    have hdl2 : (digitsL v.data.toList).length ≤ 40000 := by simp at hdl; omega
    obtain ⟨S1, hS1⟩ : ∃ S1, S1 = SB (wordL n) := ⟨_, rfl⟩
    obtain ⟨S3, hS3⟩ : ∃ S3, S3 = SB (digitsL v.data.toList) := ⟨_, rfl⟩
    have z1 : S1.size ≤ 4 := by rw [hS1, SB_size]; exact word_len n
    have z3 : S3.size ≤ 40000 := by rw [hS3, SB_size]; exact hdl2
    have m1 : S1.size + 1 ≤ 9223372036854775807 := by omega
    have m2 : S1.size + 1 + k.size ≤ 9223372036854775807 := by omega
    have m3 : S1.size + 1 + k.size + 1 ≤ 9223372036854775807 := by omega
    have m4 : S1.size + 1 + k.size + 1 + S3.size ≤ 9223372036854775807 := by omega
    have m5 : S1.size + 1 + S3.size ≤ 9223372036854775807 := by omega
    rw [← hS1]
    have HS1 := Lib.hid hS1
    have HS3 := Lib.hid hS3
    clear hdl hdl2 hS1 hS3 k2
    cases hb : ((n : Int) == 0) with
    | false =>
      cases he : k.toList.isEmpty with
      | true =>
        have hP : SB (printL n k.data.toList v.data.toList) = S1 := by
          unfold printL partsL; rw [if_pos (nil_of_empty he), if_neg (by simpa using hb), HS1.out]
          exact congrArg SB (Lib.join_one _ _)
        have HP := Lib.hid hP
        clear hP
        go_wp2_with fail
        go_ret2
        exact ⟨by rw [HR.out, HP.out]; rfl, kw0.trans hK⟩
      | false =>
        have hP : SB (printL n k.data.toList v.data.toList) = S1 ++ ⟨#[32]⟩ ++ k := by
          unfold printL partsL; rw [if_neg (ne_of_empty he), if_neg (by simpa using hb), HS1.out]
          refine bytes_inj ?_
          show Lib.join [wordL n, k.data.toList] [32] = _
          rw [join_two]; simp [ByteArray.data_append]
        have HP := Lib.hid hP
        clear hP
        go_wp2_with fail
        go_ret2
        exact ⟨by rw [HR.out, HP.out]; rfl, kw0.trans hK⟩
    | true =>
      obtain rfl : n = 0 := by simpa using hb
      cases he : k.toList.isEmpty with
      | true =>
        have hP : SB (printL ((0 : Nat) : Int) k.data.toList v.data.toList) = S1 ++ ⟨#[32]⟩ ++ S3 := by
          unfold printL partsL; rw [if_pos (nil_of_empty he), HS1.out, HS3.out]
          refine bytes_inj ?_
          show Lib.join [wordL 0, digitsL v.data.toList] [32] = _
          rw [join_two]; simp [ByteArray.data_append]
        have HP := Lib.hid hP
        clear hP
        go_wp2_with fail
        refine (rdigits v hv _).mono ?_
        rintro e w5 ⟨rfl, k5⟩
        have hK := hK.trans k5
        rw [show (⟨(digitsL v.data.toList).toArray⟩ : ByteArray) = S3 from HS3.out.symm]
        go_wp2_with fail
        go_ret2
        exact ⟨by rw [HR.out, HP.out]; rfl, kw0.trans hK⟩
      | false =>
        have hP : SB (printL ((0 : Nat) : Int) k.data.toList v.data.toList) = S1 ++ ⟨#[32]⟩ ++ k ++ ⟨#[32]⟩ ++ S3 := by
          unfold printL partsL; rw [if_neg (ne_of_empty he), HS1.out, HS3.out]
          refine bytes_inj ?_
          show Lib.join [wordL 0, k.data.toList, digitsL v.data.toList] [32] = _
          rw [join_three]; simp [ByteArray.data_append]
        have HP := Lib.hid hP
        clear hP
        go_wp2_with fail
        refine (rdigits v hv _).mono ?_
        rintro e w5 ⟨rfl, k5⟩
        have hK := hK.trans k5
        rw [show (⟨(digitsL v.data.toList).toArray⟩ : ByteArray) = S3 from HS3.out.symm]
        go_wp2_with fail
        go_ret2
        exact ⟨by rw [HR.out, HP.out]; rfl, kw0.trans hK⟩
  · have hne : (ce != 0) = true := by simpa using h0
    have hR : printR kind k v = (⟨#[]⟩, ce) := by unfold printR; rw [if_neg (by rw [← hce]; exact h0), hce]
    have HR := Lib.hid hR
    clear hce hR h0
    go_wp2_with fail
    go_ret2
    exact ⟨by rw [HR.out]; rfl, kw0.trans hK⟩
end Go.Proofs.YtmihnakapnoefaaGreatDoor
