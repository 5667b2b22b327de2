/-
  The request of a line: Parse, the program's.
-/
import Derived.Test.YtmihnakapnoefaaGreatDoorReqS
import Derived.Handy
namespace Go.Proofs.YtmihnakapnoefaaGreatDoor
open Go.RowKit Go.WideShapes

theorem region_then {P : Program} {c : Code} {K K' : Act → World → Prop} {Q : Exit → Act → World → Prop} {a : Act} {w : World} (h : c.wp P (Exit.then K' Q) a w) (hk : ∀ a w, K' a w → K a w) : c.wp P (Exit.then K Q) a w :=
  wp_mono h (fun e a w hq => by cases e <;> first | exact hk _ _ hq | exact hq)
def wordsB : List ByteArray := [SB (wordL 0), SB (wordL 1), SB (wordL 2), SB (wordL 3), SB (wordL 4)]
/-- which kind a word is; below 0: none -/
def kindOf (x : ByteArray) : Int := Lib.idxOfS wordsB x
theorem kind_range (x : ByteArray) : -1 ≤ kindOf x ∧ kindOf x ≤ 4 := by
  unfold kindOf Lib.idxOfS wordsB
  simp only [Lib.idxFromS]
  repeat' split
  all_goals omega
abbrev ReqD := Int × ByteArray × ByteArray
def zeroReq : ReqD := (0, ⟨#[]⟩, ⟨#[]⟩)
def chkR (kd : Int) (k v : ByteArray) : ReqD × Int := if checkE kd k v = 0 then ((kd, k, v), 0) else (zeroReq, checkE kd k v)
/-- the request of a line -/
def parseR (s : ByteArray) : ReqD × Int :=
  match piecesOf s with
  | [x0] => if kindOf x0 = 4 then ((4, ⟨#[]⟩, ⟨#[]⟩), 0) else (zeroReq, 14)
  | [x0, x1] => if kindOf x0 < 0 then (zeroReq, 14) else if kindOf x0 = 0 then (zeroReq, 14) else if kindOf x0 = 4 ∧ x1.size = 0 then (zeroReq, 14) else chkR (kindOf x0) x1 ⟨#[]⟩
  | [x0, x1, x2] => if kindOf x0 = 0 then (match undigR x2.data.toList with | some u => chkR 0 x1 (SB u) | none => (zeroReq, 14)) else (zeroReq, 14)
  | _ => (zeroReq, 14)
def reqV (r : ReqD) : Value := .agg #[.int .i64 r.1, .string r.2.1, .string r.2.2]

theorem sindex (g' g : Nat) (x : ByteArray) (w : World) (hc : ∀ n, n < 5 → w.cell? ⟨g', n, none⟩ = some (.string (SB (wordL n)))) (hg : g' = g) :
    Calls Tryz.prog 55 #[.slice (some ⟨g, 0, none⟩) 5 5, .string x] w fun e w' => e = .returned (.int .i64 (kindOf x)) ∧ w' = w := by
  subst hg
  refine (Tryz.slices_Index_string g' 0 5 5 wordsB x w (by decide) (by decide) (fun j hj => ?_)).mono ?_
  · rw [Nat.zero_add, hc j hj]
    match j, hj with
    | 0, _ => rfl
    | 1, _ => rfl
    | 2, _ => rfl
    | 3, _ => rfl
    | 4, _ => rfl
  · rintro e w' ⟨rfl, rfl⟩
    exact ⟨rfl, rfl⟩
theorem box3At {w : World} {b : Nat} {a0 a1 a2 : Value} {t : TypeId} (h : w.heap[b]? = some (.cells #[a0, a1, a2] t (0, 0))) :
    (∀ W, Kp [] w W → W.cell? ⟨b, 0, none⟩ = some a0) ∧ (∀ W, Kp [] w W → W.cell? ⟨b, 1, none⟩ = some a1) ∧ (∀ W, Kp [] w W → W.cell? ⟨b, 2, none⟩ = some a2) ∧
      (∀ W, Kp [] w W → ∀ o, W.frozen? ⟨b, o, none⟩ = false) ∧ (∀ W, Kp [] w W → W.heap[b]? = some (.cells #[a0, a1, a2] t (0, 0))) ∧ Kp [] w w :=
  ⟨fun W k => cell_of_cells (Kp.blockAt h (by simp) W k) rfl, fun W k => cell_of_cells (Kp.blockAt h (by simp) W k) rfl, fun W k => cell_of_cells (Kp.blockAt h (by simp) W k) rfl,
    fun W k o => frozen_of_cells (Kp.blockAt h (by simp) W k) o, fun W k => Kp.blockAt h (by simp) W k, Kp.refl _ _⟩
theorem box3Put {W : World} {R : Nat} {a0 a1 a2 : Value} {t : TypeId} (h : W.heap[R]? = some (.cells #[a0, a1, a2] t (0, 0))) (v0 v1 v2 : Value) :
    (((W.setCell ⟨R, 0, none⟩ v0).setCell ⟨R, 1, none⟩ v1).setCell ⟨R, 2, none⟩ v2).cell? ⟨R, 0, none⟩ = some v0 ∧ (((W.setCell ⟨R, 0, none⟩ v0).setCell ⟨R, 1, none⟩ v1).setCell ⟨R, 2, none⟩ v2).cell? ⟨R, 1, none⟩ = some v1 ∧
      (((W.setCell ⟨R, 0, none⟩ v0).setCell ⟨R, 1, none⟩ v1).setCell ⟨R, 2, none⟩ v2).cell? ⟨R, 2, none⟩ = some v2 := by
  have hz := block_setCell (block_setCell (block_setCell h 0 v0) 1 v1) 2 v2
  exact ⟨cell_of_cells hz rfl, cell_of_cells hz rfl, cell_of_cells hz rfl⟩
theorem words_le : ∀ (l : List UInt8), ∀ x ∈ wordsOf l, x.length ≤ l.length
  | [], x, h => by simp [wordsOf] at h; simp [h]
  | b :: l, x, h => by
    have ih := words_le l
    unfold wordsOf at h
    split at h
    · rcases List.mem_cons.1 h with rfl | h
      · simp
      · have := ih x h; simp; omega
    · split at h
      · rename_i y r hy
        rcases List.mem_cons.1 h with rfl | h
        · have := ih y (by rw [hy]; exact List.mem_cons_self ..); simp; omega
        · have := ih x (by rw [hy]; exact List.mem_cons_of_mem _ h); simp; omega
      · simp only [List.mem_singleton] at h; subst h; simp
theorem pieces_le (s : ByteArray) : ∀ x ∈ piecesOf s, x.size ≤ s.size := by
  intro x hx
  have h : x.data.toList ∈ wordsOf s.data.toList := by rw [← pieces_words]; exact List.mem_map_of_mem hx
  have := words_le _ _ h
  simpa using this
theorem undig_len {l u : List UInt8} (h : undigR l = some u) : u.length ≤ l.length := by
  unfold undigR at h
  split at h
  · cases h; simp
  · split at h
    · cases h
    · split at h
      · cases h
      · have := pairs_len h; omega
set_option maxHeartbeats 4000000 in
set_option maxRecDepth 20000 in
theorem qparse (s : ByteArray) (hs : s.size < 16384) (w : World) (hsh : w.ShapedOpen Tryz.prog) :
    Calls Tryz.prog 31 #[.string s] w fun e w' => e = .returned (.tuple #[reqV (parseR s).1, .int .i64 (parseR s).2]) ∧ Kp [] w w' := by
  obtain ⟨w0, hw0⟩ : ∃ w0, w0 = w.alloc (.cells #[.int .i64 0, .string ⟨#[]⟩, .string ⟨#[]⟩] 23) := ⟨_, rfl⟩
  have kw0 : Kp [] w w0 := hw0 ▸ (Kp.refl _ _).alloc _
  have hrb : w0.heap[w.heap.size]? = some (.cells #[.int .i64 0, .string ⟨#[]⟩, .string ⟨#[]⟩] 23 (0, 0)) := by rw [hw0]; exact block_new _ _
  obtain ⟨xs, hxs⟩ : ∃ xs, xs = piecesOf s := ⟨_, rfl⟩
  have hxl : Lib.countB s ⟨#[32]⟩ + 1 = xs.length := by rw [hxs, pieces_len]
  have hsh0 := shaped_keep hsh kw0
  go_enter Tryz.func31, Tryz.ntmps31
  go_wp2_with fail
  rw [← hw0]
  refine (Tryz.strings_Split_shaped s ⟨#[32]⟩ w0 hsh0 (by omega) (by decide)).mono ?_
  rintro e w1 ⟨rfl, hw1⟩
  rw [hxl]
  rw [show Lib.splitB ⟨#[32]⟩ 0 (Lib.countB s ⟨#[32]⟩) s = xs from hxs.symm] at hw1
  have k1 : Kp [] w0 w1 := by rw [hw1]; exact (Kp.refl _ _).alloc _
  have hb1 : w1.heap[w0.heap.size]? = some (.cells (xs.map Value.string).toArray 9 (0, 0)) := by rw [hw1]; exact block_new _ _
  have hrb1 := Kp.blockAt (X := []) hrb (by simp) _ k1
  have hne : w0.heap.size ≠ w.heap.size := by have := lt_of_block hrb; omega
  have hz1 : w1.heap.size = w0.heap.size + 1 := by rw [hw1]; simp
  obtain ⟨B, hB⟩ : ∃ B, B = w0.heap.size := ⟨_, rfl⟩
  obtain ⟨R, hR⟩ : ∃ R, R = w.heap.size := ⟨_, rfl⟩
  rw [← hB] at hb1 hne hz1
  rw [← hR] at hrb1 hne
  have hrlt : R < B := by have := lt_of_block hrb; omega
  rw [← hB, ← hR]
  have hKw := kw0.trans k1
  have HXS := Lib.hid hxs
  have HR := Lib.hid hR
  clear hw1 hw0 hrb hxl hsh hsh0 k1 kw0 hB hxs hR
  obtain ⟨x0, rest, rfl⟩ : ∃ x0 rest, xs = x0 :: rest := by
    match xs, HXS.out with
    | [], h => exact absurd (congrArg List.length h) (by rw [pieces_len]; simp)
    | x0 :: rest, _ => exact ⟨x0, rest, rfl⟩
  have d0 : ∀ W, Kp [] w1 W → W.cell? ⟨B, 0, none⟩ = some (.string x0) := Kp.cellAt (X := []) (cell_of_cells hb1 rfl) (by simp)
  have hl0 : (0 : Int) < ((x0 :: rest).length : Int) := by simp
  have hK := Kp.refl [] w1
  obtain ⟨kd, hkd⟩ : ∃ kd, kd = kindOf x0 := ⟨_, rfl⟩
  have hw5 : ∀ j, j < wordsB.length → wordsB.getD j ByteArray.empty = SB (wordL j) := by
    intro j hj
    match j, hj with
    | 0, _ => rfl
    | 1, _ => rfl
    | 2, _ => rfl
    | 3, _ => rfl
    | 4, _ => rfl
  have HW5 := Lib.hid hw5
  have HKD := Lib.hid hkd
  clear hw5 hz1 hkd
  go_wp2_with fail
  refine region_then (K' := fun a W => ∃ b g : Nat, a = ⟨#[.string s, undef, .pointer (some ⟨R, 0, none⟩), .int .i64 0, .slice (some ⟨B, 0, none⟩) (rest.length + 1) (rest.length + 1), .pointer (some ⟨b, 0, none⟩), undef, undef, .string s, .slice (some ⟨B, 0, none⟩) (rest.length + 1) (rest.length + 1), .slice (some ⟨g, 0, none⟩) 5 5, .slice (some ⟨B, 0, none⟩) (rest.length + 1) (rest.length + 1), .pointer (some ⟨B, 0, none⟩), .string x0, .int .i64 kd, .agg #[.int .i64 kd, .string ⟨#[]⟩, .string ⟨#[]⟩], undef, undef, undef, undef, undef, undef, undef, undef, undef, undef, undef, undef, undef, undef, undef, undef, undef, undef, undef, undef, undef, undef, undef, undef, undef, undef, undef, undef, undef, undef, undef, undef, undef, undef, undef, undef, undef, undef, undef, undef, undef, undef, undef, undef, undef, undef, undef, undef, undef, undef, undef, undef, undef, undef, undef, undef, undef, undef, undef, undef, undef, undef, undef, undef, undef], []⟩ ∧ Kp [] w1 W ∧ w1.heap.size ≤ b ∧ W.heap[b]? = some (.cells #[.int .i64 kd, .string ⟨#[]⟩, .string ⟨#[]⟩] 23 (0, 0))) ?_ ?_
  · refine wpB_begin 999 (Kp [] w1) (by kernel_rfl) (by first | exact hK.drew | exact Kp.drew (Kp.refl _ _)) (fun hHeld => ?_)
    refine wpB_take 1 _ ?_ rfl (by kernel_rfl) (fun _ _ _ h => h) rfl hHeld ?_ ?_
    rotate_left
    · (intro W hW; go_simp; try with_reducible rfl)
    try simp only [Act.put, List.setIfInBounds_toArray, List.set_cons_zero, List.set_cons_succ]
    refine wpB_take 2 _ ?_ rfl (by kernel_rfl) (fun _ _ _ h => h) rfl hHeld ?_ ?_
    rotate_left
    · (intro W hW; go_simp; try with_reducible rfl)
    try simp only [Act.put, List.setIfInBounds_toArray, List.set_cons_zero, List.set_cons_succ]
    refine wpB_take 3 _ ?_ rfl (by kernel_rfl) (fun _ _ _ h => h) rfl hHeld ?_ ?_
    rotate_left
    · (intro W hW; go_simp; try with_reducible rfl)
    try simp only [Act.put, List.setIfInBounds_toArray, List.set_cons_zero, List.set_cons_succ]
    refine wpB_fork 0 6 _ _ rfl rfl (by kernel_rfl) rfl rfl rfl (fun K hK_ => ?_) (fun K hK_ => ?_)
    · go_simp
      refine (qwords _).mono ?_
      rintro e w4 ⟨rfl, k4, z4, hc4⟩
      refine hK_.out _ _ (by first | exact hHeld | exact hHeld.call ‹_› | exact hHeld.alloc _) (fun hHeld => ?_)
      clear hK_ K
      try simp only [Act.put, List.setIfInBounds_toArray, List.set_cons_zero, List.set_cons_succ]
      refine wpB_fork 4 6 _ _ rfl rfl (by kernel_rfl) rfl rfl rfl (fun K hK_ => ?_) (fun K hK_ => ?_)
      · go_simp
        first | refine (sindex _ _ x0 _ hc4 (by simp)).mono ?_ | refine (sindex _ _ x0 _ (fun n hn => (((Kp.refl [] w4).alloc _).cell (lt_of_cell (hc4 n hn)) (by simp)).trans (hc4 n hn)) (by simp)).mono ?_
        rintro e w5 ⟨rfl, rfl⟩
        rw [← HKD.out]
        refine hK_.out _ _ (by first | exact hHeld | exact hHeld.call ‹_› | exact hHeld.alloc _) (fun hHeld => ?_)
        clear hK_ K
        try simp only [Act.put, List.setIfInBounds_toArray, List.set_cons_zero, List.set_cons_succ]
        refine wpB_take 5 _ ?_ rfl (by kernel_rfl) (fun _ _ _ h => h) rfl hHeld ?_ ?_
        rotate_left
        · (intro W hW; go_simp; try with_reducible rfl)
        try simp only [Act.put, List.setIfInBounds_toArray, List.set_cons_zero, List.set_cons_succ]
        refine wpB_step 6 _ rfl (by kernel_rfl) rfl rfl (fun K hK_ => ?_)
        have hz6 := hHeld.size
        have hpre := hHeld
        go_simp
        first | refine with_new (K := K) fun hc6 => ?_ | refine with_new_drew (K := K) fun hc6 => ?_
        obtain ⟨b0, b1, b2, b3, b4, b5⟩ := box3At hc6
        refine hK_.out _ _ (by first | exact hHeld | exact hHeld.call ‹_› | exact hHeld.alloc _) (fun hHeld => ?_)
        clear hK_ K
        try simp only [Act.put, List.setIfInBounds_toArray, List.set_cons_zero, List.set_cons_succ]
        refine wpB_step 7 _ rfl (by kernel_rfl) rfl rfl (fun K hK_ => ?_)
        go_simp
        refine hK_.out _ _ (by first | exact hpre.alloc _ | exact ((hHeld.setCell (.inr (by simp)) _).setCell (.inr (by simp)) _).setCell (.inr (by simp)) _) (fun hHeld => ?_)
        clear hK_ K
        try simp only [Act.put, List.setIfInBounds_toArray, List.set_cons_zero, List.set_cons_succ]
        refine wpB_done (by kernel_rfl) ?_ _
        refine ⟨_, _, rfl, hHeld, ?_, ?_⟩
        · first | exact hz6 | exact Nat.le_refl _ | (simp at hz6 ⊢; omega)
        · first | exact block_new _ _ | exact block_setCell (block_setCell (block_setCell (b4 _ k4) 0 _) 1 _) 2 _
      · have hz6 := hHeld.size
        have hpre := hHeld
        go_simp
        first | refine with_new (K := K) fun hc6 => ?_ | refine with_new_drew (K := K) fun hc6 => ?_
        obtain ⟨b0, b1, b2, b3, b4, b5⟩ := box3At hc6
        refine hK_.out _ _ (by first | exact hHeld | exact hHeld.call ‹_› | exact hHeld.alloc _) (fun hHeld => ?_)
        clear hK_ K
        try simp only [Act.put, List.setIfInBounds_toArray, List.set_cons_zero, List.set_cons_succ]
        refine wpB_step 4 _ rfl (by kernel_rfl) rfl rfl (fun K hK_ => ?_)
        go_simp
        first | refine (sindex _ _ x0 _ hc4 (by simp)).mono ?_ | refine (sindex _ _ x0 _ (fun n hn => (((Kp.refl [] w4).alloc _).cell (lt_of_cell (hc4 n hn)) (by simp)).trans (hc4 n hn)) (by simp)).mono ?_
        rintro e w5 ⟨rfl, rfl⟩
        rw [← HKD.out]
        refine hK_.out _ _ (by first | exact hHeld | exact hHeld.call ‹_› | exact hHeld.alloc _) (fun hHeld => ?_)
        clear hK_ K
        try simp only [Act.put, List.setIfInBounds_toArray, List.set_cons_zero, List.set_cons_succ]
        refine wpB_take 5 _ ?_ rfl (by kernel_rfl) (fun _ _ _ h => h) rfl hHeld ?_ ?_
        rotate_left
        · (intro W hW; go_simp; try with_reducible rfl)
        try simp only [Act.put, List.setIfInBounds_toArray, List.set_cons_zero, List.set_cons_succ]
        refine wpB_step 7 _ rfl (by kernel_rfl) rfl rfl (fun K hK_ => ?_)
        go_simp
        refine hK_.out _ _ (by first | exact hpre.alloc _ | exact ((hHeld.setCell (.inr (by simp)) _).setCell (.inr (by simp)) _).setCell (.inr (by simp)) _) (fun hHeld => ?_)
        clear hK_ K
        try simp only [Act.put, List.setIfInBounds_toArray, List.set_cons_zero, List.set_cons_succ]
        refine wpB_done (by kernel_rfl) ?_ _
        refine ⟨_, _, rfl, hHeld, ?_, ?_⟩
        · first | exact hz6 | exact Nat.le_refl _ | (simp at hz6 ⊢; omega)
        · first | exact block_new _ _ | exact block_setCell (block_setCell (block_setCell (b4 _ k4) 0 _) 1 _) 2 _
    · have hz6 := hHeld.size
      have hpre := hHeld
      go_simp
      first | refine with_new (K := K) fun hc6 => ?_ | refine with_new_drew (K := K) fun hc6 => ?_
      obtain ⟨b0, b1, b2, b3, b4, b5⟩ := box3At hc6
      refine hK_.out _ _ (by first | exact hHeld | exact hHeld.call ‹_› | exact hHeld.alloc _) (fun hHeld => ?_)
      clear hK_ K
      try simp only [Act.put, List.setIfInBounds_toArray, List.set_cons_zero, List.set_cons_succ]
      refine wpB_step 0 _ rfl (by kernel_rfl) rfl rfl (fun K hK_ => ?_)
      go_simp
      refine (qwords _).mono ?_
      rintro e w4 ⟨rfl, k4, z4, hc4⟩
      refine hK_.out _ _ (by first | exact hHeld | exact hHeld.call ‹_› | exact hHeld.alloc _) (fun hHeld => ?_)
      clear hK_ K
      try simp only [Act.put, List.setIfInBounds_toArray, List.set_cons_zero, List.set_cons_succ]
      refine wpB_step 4 _ rfl (by kernel_rfl) rfl rfl (fun K hK_ => ?_)
      go_simp
      first | refine (sindex _ _ x0 _ hc4 (by simp)).mono ?_ | refine (sindex _ _ x0 _ (fun n hn => (((Kp.refl [] w4).alloc _).cell (lt_of_cell (hc4 n hn)) (by simp)).trans (hc4 n hn)) (by simp)).mono ?_
      rintro e w5 ⟨rfl, rfl⟩
      rw [← HKD.out]
      refine hK_.out _ _ (by first | exact hHeld | exact hHeld.call ‹_› | exact hHeld.alloc _) (fun hHeld => ?_)
      clear hK_ K
      try simp only [Act.put, List.setIfInBounds_toArray, List.set_cons_zero, List.set_cons_succ]
      refine wpB_take 5 _ ?_ rfl (by kernel_rfl) (fun _ _ _ h => h) rfl hHeld ?_ ?_
      rotate_left
      · (intro W hW; go_simp; try with_reducible rfl)
      try simp only [Act.put, List.setIfInBounds_toArray, List.set_cons_zero, List.set_cons_succ]
      refine wpB_step 7 _ rfl (by kernel_rfl) rfl rfl (fun K hK_ => ?_)
      go_simp
      refine hK_.out _ _ (by first | exact hpre.alloc _ | exact ((hHeld.setCell (.inr (by simp)) _).setCell (.inr (by simp)) _).setCell (.inr (by simp)) _) (fun hHeld => ?_)
      clear hK_ K
      try simp only [Act.put, List.setIfInBounds_toArray, List.set_cons_zero, List.set_cons_succ]
      refine wpB_done (by kernel_rfl) ?_ _
      refine ⟨_, _, rfl, hHeld, ?_, ?_⟩
      · first | exact hz6 | exact Nat.le_refl _ | (simp at hz6 ⊢; omega)
      · first | exact block_new _ _ | exact block_setCell (block_setCell (block_setCell (b4 _ k4) 0 _) 1 _) 2 _
  · rintro a W ⟨b, g, rfl, hKW, hbge, hblk⟩
    dsimp only
    have hRw := Kp.blockAt (X := []) hrb1 (by simp) _ hKW
    have hBw := Kp.blockAt (X := []) hb1 (by simp) _ hKW
    have hBlt := lt_of_block hb1
    have hbB : b ≠ B := by omega
    have hbR : b ≠ R := by omega
    have hBb : B ≠ b := by omega
    have hRb : R ≠ b := by omega
    have hRB : R ≠ B := by omega
    have p0 : W.cell? ⟨b, 0, none⟩ = some (.int .i64 kd) := cell_of_cells hblk rfl
    have p1 : W.cell? ⟨b, 1, none⟩ = some (.string ⟨#[]⟩) := cell_of_cells hblk rfl
    have p2 : W.cell? ⟨b, 2, none⟩ = some (.string ⟨#[]⟩) := cell_of_cells hblk rfl
    have f1 : W.frozen? ⟨b, 1, none⟩ = false := frozen_of_cells hblk _
    have f2 : W.frozen? ⟨b, 2, none⟩ = false := frozen_of_cells hblk _
    have r0 : W.cell? ⟨R, 0, none⟩ = some (.int .i64 0) := cell_of_cells hRw rfl
    have r1 : W.cell? ⟨R, 1, none⟩ = some (.string ⟨#[]⟩) := cell_of_cells hRw rfl
    have r2 : W.cell? ⟨R, 2, none⟩ = some (.string ⟨#[]⟩) := cell_of_cells hRw rfl
    have s0 : W.frozen? ⟨R, 0, none⟩ = false := frozen_of_cells hRw _
    have s1 : W.frozen? ⟨R, 1, none⟩ = false := frozen_of_cells hRw _
    have s2 : W.frozen? ⟨R, 2, none⟩ = false := frozen_of_cells hRw _
    have hKK := hKw.trans hKW
    have HRW := Lib.hid hRw
    have HBL := Lib.hid hblk
    have HBW := Lib.hid hBw
    have hpz : ∀ x ∈ x0 :: rest, x.size ≤ s.size := by rw [HXS.out]; exact pieces_le s
    have HPZ := Lib.hid hpz
    clear hRw hBw hblk hb1 hrb1 d0 hpz
    match rest, HXS, HPZ with
    | [], HXS, HPZ =>
      by_cases hk4 : kd = 4
      · subst hk4
        have hPC : parseR s = chkR 4 ⟨#[]⟩ ⟨#[]⟩ := by
          unfold parseR; rw [← HXS.out]
          show (if kindOf x0 = 4 then _ else _) = _
          rw [← HKD.out, if_pos rfl]; rfl
        have HPC := Lib.hid hPC
        clear hPC
        go_wp2_with fail
        refine (qcheck 4 (⟨#[]⟩ : ByteArray) (⟨#[]⟩ : ByteArray) (by decide) (by decide) _).mono ?_
        rintro e w9 ⟨rfl, k9⟩
        have hb9 := Kp.blockAt (X := []) (HBL.out) (by simp) _ k9
        have hR9 := Kp.blockAt (X := []) (HRW.out) (by simp) _ k9
        have q0 : w9.cell? ⟨b, 0, none⟩ = some (.int .i64 4) := cell_of_cells hb9 rfl
        have q1 : w9.cell? ⟨b, 1, none⟩ = some (.string (⟨#[]⟩ : ByteArray)) := cell_of_cells hb9 rfl
        have q2 : w9.cell? ⟨b, 2, none⟩ = some (.string (⟨#[]⟩ : ByteArray)) := cell_of_cells hb9 rfl
        have u0 : w9.cell? ⟨R, 0, none⟩ = some (.int .i64 0) := cell_of_cells hR9 rfl
        have u1 : w9.cell? ⟨R, 1, none⟩ = some (.string ⟨#[]⟩) := cell_of_cells hR9 rfl
        have u2 : w9.cell? ⟨R, 2, none⟩ = some (.string ⟨#[]⟩) := cell_of_cells hR9 rfl
        have t0 : w9.frozen? ⟨R, 0, none⟩ = false := frozen_of_cells hR9 _
        have t1 : w9.frozen? ⟨R, 1, none⟩ = false := frozen_of_cells hR9 _
        have t2 : w9.frozen? ⟨R, 2, none⟩ = false := frozen_of_cells hR9 _
        have hK9 := (hKK).trans k9
        have HR9 := Lib.hid hR9
        obtain ⟨ce, hce⟩ : ∃ ce, ce = checkE 4 (⟨#[]⟩ : ByteArray) (⟨#[]⟩ : ByteArray) := ⟨_, rfl⟩
        rw [← hce]
        by_cases h0 : ce = 0
        · subst h0
          have hP : parseR s = ((4, (⟨#[]⟩ : ByteArray), (⟨#[]⟩ : ByteArray)), 0) := by rw [HPC.out]; unfold chkR; rw [if_pos hce.symm]
          have HP := Lib.hid hP
          clear hP hce hb9 hR9
          go_wp2_with fail
          have hz := box3Put (HR9.out) (Value.int IntKind.i64 4) (Value.string (⟨#[]⟩ : ByteArray)) (Value.string (⟨#[]⟩ : ByteArray))
          obtain ⟨Z, hZ⟩ : ∃ Z, Z = (((w9).setCell ⟨R, 0, none⟩ (Value.int IntKind.i64 4)).setCell ⟨R, 1, none⟩ (Value.string (⟨#[]⟩ : ByteArray))).setCell ⟨R, 2, none⟩ (Value.string (⟨#[]⟩ : ByteArray)) := ⟨_, rfl⟩
          rw [← hZ] at hz ⊢
          obtain ⟨hz0, hz1, hz2⟩ := hz
          refine bodyPost_ret (by simp [results, Tryz.results31, go_sem, hz0, hz1, hz2]; try rfl) rfl ?_
          subst hZ
          exact ⟨by rw [HP.out]; rfl, ((hK9.setCell (.inr (by have := HR.out; simp; omega)) _).setCell (.inr (by have := HR.out; simp; omega)) _).setCell (.inr (by have := HR.out; simp; omega)) _⟩
        · have hne : (ce != 0) = true := by simpa using h0
          have hP : parseR s = (zeroReq, ce) := by rw [HPC.out]; unfold chkR; rw [if_neg (by rw [← hce]; exact h0), hce]
          have HP := Lib.hid hP
          clear hP hce hb9 hR9 h0
          go_wp2_with fail
          have hz := box3Put (HR9.out) (Value.int IntKind.i64 0) (Value.string ⟨#[]⟩) (Value.string ⟨#[]⟩)
          obtain ⟨Z, hZ⟩ : ∃ Z, Z = (((w9).setCell ⟨R, 0, none⟩ (Value.int IntKind.i64 0)).setCell ⟨R, 1, none⟩ (Value.string ⟨#[]⟩)).setCell ⟨R, 2, none⟩ (Value.string ⟨#[]⟩) := ⟨_, rfl⟩
          rw [← hZ] at hz ⊢
          obtain ⟨hz0, hz1, hz2⟩ := hz
          refine bodyPost_ret (by simp [results, Tryz.results31, go_sem, hz0, hz1, hz2]; try rfl) rfl ?_
          subst hZ
          exact ⟨by rw [HP.out]; rfl, ((hK9.setCell (.inr (by have := HR.out; simp; omega)) _).setCell (.inr (by have := HR.out; simp; omega)) _).setCell (.inr (by have := HR.out; simp; omega)) _⟩
      · have b4 : (kd == 4) = false := by simpa using hk4
        have hP : parseR s = (zeroReq, 14) := by
          unfold parseR; rw [← HXS.out]
          show (if kindOf x0 = 4 then _ else _) = _
          rw [← HKD.out, if_neg hk4]
        have HP := Lib.hid hP
        clear hP hk4
        by_cases hk0 : kd < 0
        · go_wp2_with fail
          have hz := box3Put (HRW.out) (Value.int IntKind.i64 0) (Value.string ⟨#[]⟩) (Value.string ⟨#[]⟩)
          obtain ⟨Z, hZ⟩ : ∃ Z, Z = (((W).setCell ⟨R, 0, none⟩ (Value.int IntKind.i64 0)).setCell ⟨R, 1, none⟩ (Value.string ⟨#[]⟩)).setCell ⟨R, 2, none⟩ (Value.string ⟨#[]⟩) := ⟨_, rfl⟩
          rw [← hZ] at hz ⊢
          obtain ⟨hz0, hz1, hz2⟩ := hz
          refine bodyPost_ret (by simp [results, Tryz.results31, go_sem, hz0, hz1, hz2]; try rfl) rfl ?_
          subst hZ
          exact ⟨by rw [HP.out]; rfl, ((hKK.setCell (.inr (by have := HR.out; simp; omega)) _).setCell (.inr (by have := HR.out; simp; omega)) _).setCell (.inr (by have := HR.out; simp; omega)) _⟩
        · cases b0 : (kd == 0) with
          | true =>
            go_wp2_with fail
            have hz := box3Put (HRW.out) (Value.int IntKind.i64 0) (Value.string ⟨#[]⟩) (Value.string ⟨#[]⟩)
            obtain ⟨Z, hZ⟩ : ∃ Z, Z = (((W).setCell ⟨R, 0, none⟩ (Value.int IntKind.i64 0)).setCell ⟨R, 1, none⟩ (Value.string ⟨#[]⟩)).setCell ⟨R, 2, none⟩ (Value.string ⟨#[]⟩) := ⟨_, rfl⟩
            rw [← hZ] at hz ⊢
            obtain ⟨hz0, hz1, hz2⟩ := hz
            refine bodyPost_ret (by simp [results, Tryz.results31, go_sem, hz0, hz1, hz2]; try rfl) rfl ?_
            subst hZ
            exact ⟨by rw [HP.out]; rfl, ((hKK.setCell (.inr (by have := HR.out; simp; omega)) _).setCell (.inr (by have := HR.out; simp; omega)) _).setCell (.inr (by have := HR.out; simp; omega)) _⟩
          | false =>
            go_wp2_with fail
            have hz := box3Put (HRW.out) (Value.int IntKind.i64 0) (Value.string ⟨#[]⟩) (Value.string ⟨#[]⟩)
            obtain ⟨Z, hZ⟩ : ∃ Z, Z = (((W).setCell ⟨R, 0, none⟩ (Value.int IntKind.i64 0)).setCell ⟨R, 1, none⟩ (Value.string ⟨#[]⟩)).setCell ⟨R, 2, none⟩ (Value.string ⟨#[]⟩) := ⟨_, rfl⟩
            rw [← hZ] at hz ⊢
            obtain ⟨hz0, hz1, hz2⟩ := hz
            refine bodyPost_ret (by simp [results, Tryz.results31, go_sem, hz0, hz1, hz2]; try rfl) rfl ?_
            subst hZ
            exact ⟨by rw [HP.out]; rfl, ((hKK.setCell (.inr (by have := HR.out; simp; omega)) _).setCell (.inr (by have := HR.out; simp; omega)) _).setCell (.inr (by have := HR.out; simp; omega)) _⟩
    | [x1], HXS, HPZ =>
      have hBW := HBW.out
      have e1 : W.cell? ⟨B, 1, none⟩ = some (.string x1) := cell_of_cells hBW rfl
      have hz1 : x1.size < 16384 := by have := HPZ.out x1 (by simp); omega
      clear hBW
      by_cases hk0 : kd < 0
      · have hP : parseR s = (zeroReq, 14) := by
          unfold parseR; rw [← HXS.out]
          show (if kindOf x0 < 0 then _ else _) = _
          rw [← HKD.out, if_pos hk0]
        have HP := Lib.hid hP
        clear hP
        have b4 : (kd == 4) = false := by simp; omega
        have b0 : (kd == 0) = false := by simp; omega
        cases he : x1.toList.isEmpty with
        | true =>
          go_wp2_with fail
          have hz := box3Put (HRW.out) (Value.int IntKind.i64 0) (Value.string ⟨#[]⟩) (Value.string ⟨#[]⟩)
          obtain ⟨Z, hZ⟩ : ∃ Z, Z = (((W).setCell ⟨R, 0, none⟩ (Value.int IntKind.i64 0)).setCell ⟨R, 1, none⟩ (Value.string ⟨#[]⟩)).setCell ⟨R, 2, none⟩ (Value.string ⟨#[]⟩) := ⟨_, rfl⟩
          rw [← hZ] at hz ⊢
          obtain ⟨hz0, hz1, hz2⟩ := hz
          refine bodyPost_ret (by simp [results, Tryz.results31, go_sem, hz0, hz1, hz2]; try rfl) rfl ?_
          subst hZ
          exact ⟨by rw [HP.out]; rfl, ((hKK.setCell (.inr (by have := HR.out; simp; omega)) _).setCell (.inr (by have := HR.out; simp; omega)) _).setCell (.inr (by have := HR.out; simp; omega)) _⟩
        | false =>
          go_wp2_with fail
          have hz := box3Put (HRW.out) (Value.int IntKind.i64 0) (Value.string ⟨#[]⟩) (Value.string ⟨#[]⟩)
          obtain ⟨Z, hZ⟩ : ∃ Z, Z = (((W).setCell ⟨R, 0, none⟩ (Value.int IntKind.i64 0)).setCell ⟨R, 1, none⟩ (Value.string ⟨#[]⟩)).setCell ⟨R, 2, none⟩ (Value.string ⟨#[]⟩) := ⟨_, rfl⟩
          rw [← hZ] at hz ⊢
          obtain ⟨hz0, hz1, hz2⟩ := hz
          refine bodyPost_ret (by simp [results, Tryz.results31, go_sem, hz0, hz1, hz2]; try rfl) rfl ?_
          subst hZ
          exact ⟨by rw [HP.out]; rfl, ((hKK.setCell (.inr (by have := HR.out; simp; omega)) _).setCell (.inr (by have := HR.out; simp; omega)) _).setCell (.inr (by have := HR.out; simp; omega)) _⟩
      · have hP0 : parseR s = if kd = 0 then (zeroReq, 14) else if kd = 4 ∧ x1.size = 0 then (zeroReq, 14) else chkR kd x1 ⟨#[]⟩ := by
          unfold parseR; rw [← HXS.out]
          show (if kindOf x0 < 0 then _ else _) = _
          rw [← HKD.out, if_neg hk0]
        cases b0 : (kd == 0) with
        | true =>
          have b4 : (kd == 4) = false := by simp at b0 ⊢; omega
          have hP : parseR s = (zeroReq, 14) := by rw [hP0, if_pos (by simpa using b0)]
          have HP := Lib.hid hP
          clear hP hP0
          cases he : x1.toList.isEmpty with
          | true =>
            go_wp2_with fail
            have hz := box3Put (HRW.out) (Value.int IntKind.i64 0) (Value.string ⟨#[]⟩) (Value.string ⟨#[]⟩)
            obtain ⟨Z, hZ⟩ : ∃ Z, Z = (((W).setCell ⟨R, 0, none⟩ (Value.int IntKind.i64 0)).setCell ⟨R, 1, none⟩ (Value.string ⟨#[]⟩)).setCell ⟨R, 2, none⟩ (Value.string ⟨#[]⟩) := ⟨_, rfl⟩
            rw [← hZ] at hz ⊢
            obtain ⟨hz0, hz1, hz2⟩ := hz
            refine bodyPost_ret (by simp [results, Tryz.results31, go_sem, hz0, hz1, hz2]; try rfl) rfl ?_
            subst hZ
            exact ⟨by rw [HP.out]; rfl, ((hKK.setCell (.inr (by have := HR.out; simp; omega)) _).setCell (.inr (by have := HR.out; simp; omega)) _).setCell (.inr (by have := HR.out; simp; omega)) _⟩
          | false =>
            go_wp2_with fail
            have hz := box3Put (HRW.out) (Value.int IntKind.i64 0) (Value.string ⟨#[]⟩) (Value.string ⟨#[]⟩)
            obtain ⟨Z, hZ⟩ : ∃ Z, Z = (((W).setCell ⟨R, 0, none⟩ (Value.int IntKind.i64 0)).setCell ⟨R, 1, none⟩ (Value.string ⟨#[]⟩)).setCell ⟨R, 2, none⟩ (Value.string ⟨#[]⟩) := ⟨_, rfl⟩
            rw [← hZ] at hz ⊢
            obtain ⟨hz0, hz1, hz2⟩ := hz
            refine bodyPost_ret (by simp [results, Tryz.results31, go_sem, hz0, hz1, hz2]; try rfl) rfl ?_
            subst hZ
            exact ⟨by rw [HP.out]; rfl, ((hKK.setCell (.inr (by have := HR.out; simp; omega)) _).setCell (.inr (by have := HR.out; simp; omega)) _).setCell (.inr (by have := HR.out; simp; omega)) _⟩
        | false =>
          have hn0 : ¬ kd = 0 := by simpa using b0
          cases b4 : (kd == 4) with
          | true =>
            obtain rfl : kd = 4 := by simpa using b4
            cases he : x1.toList.isEmpty with
            | true =>
              have hP : parseR s = (zeroReq, 14) := by rw [hP0, if_neg hn0, if_pos ⟨rfl, by rw [empty_of he]⟩]
              have HP := Lib.hid hP
              clear hP hP0 hn0
              go_wp2_with fail
              have hz := box3Put (HRW.out) (Value.int IntKind.i64 0) (Value.string ⟨#[]⟩) (Value.string ⟨#[]⟩)
              obtain ⟨Z, hZ⟩ : ∃ Z, Z = (((W).setCell ⟨R, 0, none⟩ (Value.int IntKind.i64 0)).setCell ⟨R, 1, none⟩ (Value.string ⟨#[]⟩)).setCell ⟨R, 2, none⟩ (Value.string ⟨#[]⟩) := ⟨_, rfl⟩
              rw [← hZ] at hz ⊢
              obtain ⟨hz0, hz1, hz2⟩ := hz
              refine bodyPost_ret (by simp [results, Tryz.results31, go_sem, hz0, hz1, hz2]; try rfl) rfl ?_
              subst hZ
              exact ⟨by rw [HP.out]; rfl, ((hKK.setCell (.inr (by have := HR.out; simp; omega)) _).setCell (.inr (by have := HR.out; simp; omega)) _).setCell (.inr (by have := HR.out; simp; omega)) _⟩
            | false =>
              have hPC : parseR s = chkR 4 x1 ⟨#[]⟩ := by rw [hP0, if_neg hn0, if_neg (by rw [empty_of he]; simp)]
              have HPC := Lib.hid hPC
              clear hPC hP0 hn0
              go_wp2_with fail
              refine (qcheck 4 x1 (⟨#[]⟩ : ByteArray) (hz1) (by decide) _).mono ?_
              rintro e w9 ⟨rfl, k9⟩
              have hb9 := Kp.blockAt (X := []) (block_setCell HBL.out 1 (.string x1)) (by simp) _ k9
              have hR9 := Kp.blockAt (X := []) (Kp.blockAt (X := [b]) HRW.out (by simp; omega) _ ((Kp.refl [b] W).setCell (.inl (by simp)) _)) (by simp) _ k9
              have q0 : w9.cell? ⟨b, 0, none⟩ = some (.int .i64 4) := cell_of_cells hb9 rfl
              have q1 : w9.cell? ⟨b, 1, none⟩ = some (.string x1) := cell_of_cells hb9 rfl
              have q2 : w9.cell? ⟨b, 2, none⟩ = some (.string (⟨#[]⟩ : ByteArray)) := cell_of_cells hb9 rfl
              have u0 : w9.cell? ⟨R, 0, none⟩ = some (.int .i64 0) := cell_of_cells hR9 rfl
              have u1 : w9.cell? ⟨R, 1, none⟩ = some (.string ⟨#[]⟩) := cell_of_cells hR9 rfl
              have u2 : w9.cell? ⟨R, 2, none⟩ = some (.string ⟨#[]⟩) := cell_of_cells hR9 rfl
              have t0 : w9.frozen? ⟨R, 0, none⟩ = false := frozen_of_cells hR9 _
              have t1 : w9.frozen? ⟨R, 1, none⟩ = false := frozen_of_cells hR9 _
              have t2 : w9.frozen? ⟨R, 2, none⟩ = false := frozen_of_cells hR9 _
              have hK9 := (hKK.setCell (.inr (by have := HR.out; simp; omega)) _).trans k9
              have HR9 := Lib.hid hR9
              obtain ⟨ce, hce⟩ : ∃ ce, ce = checkE 4 x1 (⟨#[]⟩ : ByteArray) := ⟨_, rfl⟩
              rw [← hce]
              by_cases h0 : ce = 0
              · subst h0
                have hP : parseR s = ((4, x1, (⟨#[]⟩ : ByteArray)), 0) := by rw [HPC.out]; unfold chkR; rw [if_pos hce.symm]
                have HP := Lib.hid hP
                clear hP hce hb9 hR9
                go_wp2_with fail
                have hz := box3Put (HR9.out) (Value.int IntKind.i64 4) (Value.string x1) (Value.string (⟨#[]⟩ : ByteArray))
                obtain ⟨Z, hZ⟩ : ∃ Z, Z = (((w9).setCell ⟨R, 0, none⟩ (Value.int IntKind.i64 4)).setCell ⟨R, 1, none⟩ (Value.string x1)).setCell ⟨R, 2, none⟩ (Value.string (⟨#[]⟩ : ByteArray)) := ⟨_, rfl⟩
                rw [← hZ] at hz ⊢
                obtain ⟨hz0, hz1, hz2⟩ := hz
                refine bodyPost_ret (by simp [results, Tryz.results31, go_sem, hz0, hz1, hz2]; try rfl) rfl ?_
                subst hZ
                exact ⟨by rw [HP.out]; rfl, ((hK9.setCell (.inr (by have := HR.out; simp; omega)) _).setCell (.inr (by have := HR.out; simp; omega)) _).setCell (.inr (by have := HR.out; simp; omega)) _⟩
              · have hne : (ce != 0) = true := by simpa using h0
                have hP : parseR s = (zeroReq, ce) := by rw [HPC.out]; unfold chkR; rw [if_neg (by rw [← hce]; exact h0), hce]
                have HP := Lib.hid hP
                clear hP hce hb9 hR9 h0
                go_wp2_with fail
                have hz := box3Put (HR9.out) (Value.int IntKind.i64 0) (Value.string ⟨#[]⟩) (Value.string ⟨#[]⟩)
                obtain ⟨Z, hZ⟩ : ∃ Z, Z = (((w9).setCell ⟨R, 0, none⟩ (Value.int IntKind.i64 0)).setCell ⟨R, 1, none⟩ (Value.string ⟨#[]⟩)).setCell ⟨R, 2, none⟩ (Value.string ⟨#[]⟩) := ⟨_, rfl⟩
                rw [← hZ] at hz ⊢
                obtain ⟨hz0, hz1, hz2⟩ := hz
                refine bodyPost_ret (by simp [results, Tryz.results31, go_sem, hz0, hz1, hz2]; try rfl) rfl ?_
                subst hZ
                exact ⟨by rw [HP.out]; rfl, ((hK9.setCell (.inr (by have := HR.out; simp; omega)) _).setCell (.inr (by have := HR.out; simp; omega)) _).setCell (.inr (by have := HR.out; simp; omega)) _⟩
          | false =>
            have hn4 : ¬ kd = 4 := by simpa using b4
            have b4n : (kd != 4) = true := by simpa using hn4
            have hPC : parseR s = chkR kd x1 ⟨#[]⟩ := by rw [hP0, if_neg hn0, if_neg (fun h => hn4 h.1)]
            have HPC := Lib.hid hPC
            clear hPC hP0 hn0 hn4
            cases he : x1.toList.isEmpty with
            | true =>
              go_wp2_with fail
              refine (qcheck kd x1 (⟨#[]⟩ : ByteArray) (hz1) (by decide) _).mono ?_
              rintro e w9 ⟨rfl, k9⟩
              have hb9 := Kp.blockAt (X := []) (block_setCell HBL.out 1 (.string x1)) (by simp) _ k9
              have hR9 := Kp.blockAt (X := []) (Kp.blockAt (X := [b]) HRW.out (by simp; omega) _ ((Kp.refl [b] W).setCell (.inl (by simp)) _)) (by simp) _ k9
              have q0 : w9.cell? ⟨b, 0, none⟩ = some (.int .i64 kd) := cell_of_cells hb9 rfl
              have q1 : w9.cell? ⟨b, 1, none⟩ = some (.string x1) := cell_of_cells hb9 rfl
              have q2 : w9.cell? ⟨b, 2, none⟩ = some (.string (⟨#[]⟩ : ByteArray)) := cell_of_cells hb9 rfl
              have u0 : w9.cell? ⟨R, 0, none⟩ = some (.int .i64 0) := cell_of_cells hR9 rfl
              have u1 : w9.cell? ⟨R, 1, none⟩ = some (.string ⟨#[]⟩) := cell_of_cells hR9 rfl
              have u2 : w9.cell? ⟨R, 2, none⟩ = some (.string ⟨#[]⟩) := cell_of_cells hR9 rfl
              have t0 : w9.frozen? ⟨R, 0, none⟩ = false := frozen_of_cells hR9 _
              have t1 : w9.frozen? ⟨R, 1, none⟩ = false := frozen_of_cells hR9 _
              have t2 : w9.frozen? ⟨R, 2, none⟩ = false := frozen_of_cells hR9 _
              have hK9 := (hKK.setCell (.inr (by have := HR.out; simp; omega)) _).trans k9
              have HR9 := Lib.hid hR9
              obtain ⟨ce, hce⟩ : ∃ ce, ce = checkE kd x1 (⟨#[]⟩ : ByteArray) := ⟨_, rfl⟩
              rw [← hce]
              by_cases h0 : ce = 0
              · subst h0
                have hP : parseR s = ((kd, x1, (⟨#[]⟩ : ByteArray)), 0) := by rw [HPC.out]; unfold chkR; rw [if_pos hce.symm]
                have HP := Lib.hid hP
                clear hP hce hb9 hR9
                go_wp2_with fail
                have hz := box3Put (HR9.out) (Value.int IntKind.i64 kd) (Value.string x1) (Value.string (⟨#[]⟩ : ByteArray))
                obtain ⟨Z, hZ⟩ : ∃ Z, Z = (((w9).setCell ⟨R, 0, none⟩ (Value.int IntKind.i64 kd)).setCell ⟨R, 1, none⟩ (Value.string x1)).setCell ⟨R, 2, none⟩ (Value.string (⟨#[]⟩ : ByteArray)) := ⟨_, rfl⟩
                rw [← hZ] at hz ⊢
                obtain ⟨hz0, hz1, hz2⟩ := hz
                refine bodyPost_ret (by simp [results, Tryz.results31, go_sem, hz0, hz1, hz2]; try rfl) rfl ?_
                subst hZ
                exact ⟨by rw [HP.out]; rfl, ((hK9.setCell (.inr (by have := HR.out; simp; omega)) _).setCell (.inr (by have := HR.out; simp; omega)) _).setCell (.inr (by have := HR.out; simp; omega)) _⟩
              · have hne : (ce != 0) = true := by simpa using h0
                have hP : parseR s = (zeroReq, ce) := by rw [HPC.out]; unfold chkR; rw [if_neg (by rw [← hce]; exact h0), hce]
                have HP := Lib.hid hP
                clear hP hce hb9 hR9 h0
                go_wp2_with fail
                have hz := box3Put (HR9.out) (Value.int IntKind.i64 0) (Value.string ⟨#[]⟩) (Value.string ⟨#[]⟩)
                obtain ⟨Z, hZ⟩ : ∃ Z, Z = (((w9).setCell ⟨R, 0, none⟩ (Value.int IntKind.i64 0)).setCell ⟨R, 1, none⟩ (Value.string ⟨#[]⟩)).setCell ⟨R, 2, none⟩ (Value.string ⟨#[]⟩) := ⟨_, rfl⟩
                rw [← hZ] at hz ⊢
                obtain ⟨hz0, hz1, hz2⟩ := hz
                refine bodyPost_ret (by simp [results, Tryz.results31, go_sem, hz0, hz1, hz2]; try rfl) rfl ?_
                subst hZ
                exact ⟨by rw [HP.out]; rfl, ((hK9.setCell (.inr (by have := HR.out; simp; omega)) _).setCell (.inr (by have := HR.out; simp; omega)) _).setCell (.inr (by have := HR.out; simp; omega)) _⟩
            | false =>
              go_wp2_with fail
              refine (qcheck kd x1 (⟨#[]⟩ : ByteArray) (hz1) (by decide) _).mono ?_
              rintro e w9 ⟨rfl, k9⟩
              have hb9 := Kp.blockAt (X := []) (block_setCell HBL.out 1 (.string x1)) (by simp) _ k9
              have hR9 := Kp.blockAt (X := []) (Kp.blockAt (X := [b]) HRW.out (by simp; omega) _ ((Kp.refl [b] W).setCell (.inl (by simp)) _)) (by simp) _ k9
              have q0 : w9.cell? ⟨b, 0, none⟩ = some (.int .i64 kd) := cell_of_cells hb9 rfl
              have q1 : w9.cell? ⟨b, 1, none⟩ = some (.string x1) := cell_of_cells hb9 rfl
              have q2 : w9.cell? ⟨b, 2, none⟩ = some (.string (⟨#[]⟩ : ByteArray)) := cell_of_cells hb9 rfl
              have u0 : w9.cell? ⟨R, 0, none⟩ = some (.int .i64 0) := cell_of_cells hR9 rfl
              have u1 : w9.cell? ⟨R, 1, none⟩ = some (.string ⟨#[]⟩) := cell_of_cells hR9 rfl
              have u2 : w9.cell? ⟨R, 2, none⟩ = some (.string ⟨#[]⟩) := cell_of_cells hR9 rfl
              have t0 : w9.frozen? ⟨R, 0, none⟩ = false := frozen_of_cells hR9 _
              have t1 : w9.frozen? ⟨R, 1, none⟩ = false := frozen_of_cells hR9 _
              have t2 : w9.frozen? ⟨R, 2, none⟩ = false := frozen_of_cells hR9 _
              have hK9 := (hKK.setCell (.inr (by have := HR.out; simp; omega)) _).trans k9
              have HR9 := Lib.hid hR9
              obtain ⟨ce, hce⟩ : ∃ ce, ce = checkE kd x1 (⟨#[]⟩ : ByteArray) := ⟨_, rfl⟩
              rw [← hce]
              by_cases h0 : ce = 0
              · subst h0
                have hP : parseR s = ((kd, x1, (⟨#[]⟩ : ByteArray)), 0) := by rw [HPC.out]; unfold chkR; rw [if_pos hce.symm]
                have HP := Lib.hid hP
                clear hP hce hb9 hR9
                go_wp2_with fail
                have hz := box3Put (HR9.out) (Value.int IntKind.i64 kd) (Value.string x1) (Value.string (⟨#[]⟩ : ByteArray))
                obtain ⟨Z, hZ⟩ : ∃ Z, Z = (((w9).setCell ⟨R, 0, none⟩ (Value.int IntKind.i64 kd)).setCell ⟨R, 1, none⟩ (Value.string x1)).setCell ⟨R, 2, none⟩ (Value.string (⟨#[]⟩ : ByteArray)) := ⟨_, rfl⟩
                rw [← hZ] at hz ⊢
                obtain ⟨hz0, hz1, hz2⟩ := hz
                refine bodyPost_ret (by simp [results, Tryz.results31, go_sem, hz0, hz1, hz2]; try rfl) rfl ?_
                subst hZ
                exact ⟨by rw [HP.out]; rfl, ((hK9.setCell (.inr (by have := HR.out; simp; omega)) _).setCell (.inr (by have := HR.out; simp; omega)) _).setCell (.inr (by have := HR.out; simp; omega)) _⟩
              · have hne : (ce != 0) = true := by simpa using h0
                have hP : parseR s = (zeroReq, ce) := by rw [HPC.out]; unfold chkR; rw [if_neg (by rw [← hce]; exact h0), hce]
                have HP := Lib.hid hP
                clear hP hce hb9 hR9 h0
                go_wp2_with fail
                have hz := box3Put (HR9.out) (Value.int IntKind.i64 0) (Value.string ⟨#[]⟩) (Value.string ⟨#[]⟩)
                obtain ⟨Z, hZ⟩ : ∃ Z, Z = (((w9).setCell ⟨R, 0, none⟩ (Value.int IntKind.i64 0)).setCell ⟨R, 1, none⟩ (Value.string ⟨#[]⟩)).setCell ⟨R, 2, none⟩ (Value.string ⟨#[]⟩) := ⟨_, rfl⟩
                rw [← hZ] at hz ⊢
                obtain ⟨hz0, hz1, hz2⟩ := hz
                refine bodyPost_ret (by simp [results, Tryz.results31, go_sem, hz0, hz1, hz2]; try rfl) rfl ?_
                subst hZ
                exact ⟨by rw [HP.out]; rfl, ((hK9.setCell (.inr (by have := HR.out; simp; omega)) _).setCell (.inr (by have := HR.out; simp; omega)) _).setCell (.inr (by have := HR.out; simp; omega)) _⟩
    | [x1, x2], HXS, HPZ =>
      have hBW := HBW.out
      have e1 : W.cell? ⟨B, 1, none⟩ = some (.string x1) := cell_of_cells hBW rfl
      have e2 : W.cell? ⟨B, 2, none⟩ = some (.string x2) := cell_of_cells hBW rfl
      have hz1 : x1.size < 16384 := by have := HPZ.out x1 (by simp); omega
      have hz2 : x2.size < 16384 := by have := HPZ.out x2 (by simp); omega
      clear hBW
      have hP0 : parseR s = if kd = 0 then (match undigR x2.data.toList with | some u => chkR 0 x1 (SB u) | none => (zeroReq, 14)) else (zeroReq, 14) := by
        unfold parseR; rw [← HXS.out]
        show (if kindOf x0 = 0 then _ else _) = _
        rw [← HKD.out]
      by_cases hn0 : kd = 0
      · subst hn0
        rw [if_pos rfl] at hP0
        have HP0 := Lib.hid hP0
        clear hP0
        go_wp2_with fail
        refine (qtext x2 hz2 _).mono ?_
        rintro e w8 ⟨t, rfl, ht, k8⟩
        have hb8 := Kp.blockAt (X := []) HBL.out (by simp) _ k8
        have hR8 := Kp.blockAt (X := []) HRW.out (by simp) _ k8
        have hB8 := Kp.blockAt (X := []) HBW.out (by simp) _ k8
        have hK8 := hKK.trans k8
        have HT := Lib.hid ht
        have HB8 := Lib.hid hb8
        have HR8 := Lib.hid hR8
        have p0 : w8.cell? ⟨b, 0, none⟩ = some (.int .i64 0) := cell_of_cells hb8 rfl
        have p1 : w8.cell? ⟨b, 1, none⟩ = some (.string ⟨#[]⟩) := cell_of_cells hb8 rfl
        have p2 : w8.cell? ⟨b, 2, none⟩ = some (.string ⟨#[]⟩) := cell_of_cells hb8 rfl
        have f1 : w8.frozen? ⟨b, 1, none⟩ = false := frozen_of_cells hb8 _
        have f2 : w8.frozen? ⟨b, 2, none⟩ = false := frozen_of_cells hb8 _
        have r0 : w8.cell? ⟨R, 0, none⟩ = some (.int .i64 0) := cell_of_cells hR8 rfl
        have r1 : w8.cell? ⟨R, 1, none⟩ = some (.string ⟨#[]⟩) := cell_of_cells hR8 rfl
        have r2 : w8.cell? ⟨R, 2, none⟩ = some (.string ⟨#[]⟩) := cell_of_cells hR8 rfl
        have s0 : w8.frozen? ⟨R, 0, none⟩ = false := frozen_of_cells hR8 _
        have s1 : w8.frozen? ⟨R, 1, none⟩ = false := frozen_of_cells hR8 _
        have s2 : w8.frozen? ⟨R, 2, none⟩ = false := frozen_of_cells hR8 _
        have e1 : w8.cell? ⟨B, 1, none⟩ = some (.string x1) := cell_of_cells hB8 rfl
        clear hb8 hR8 hB8 ht k8
        cases hu : undigR x2.data.toList with
        | none =>
          have hP : parseR s = (zeroReq, 14) := by rw [HP0.out, hu]
          have HP := Lib.hid hP
          clear hP hu
          go_wp2_with fail
          have hz := box3Put (Kp.blockAt (X := [b]) HR8.out (by simp; omega) _ ((Kp.refl [b] w8).setCell (p := ⟨b, 2, none⟩) (.inl (by simp)) (.string t))) (Value.int IntKind.i64 0) (Value.string ⟨#[]⟩) (Value.string ⟨#[]⟩)
          obtain ⟨Z, hZ⟩ : ∃ Z, Z = ((((w8.setCell ⟨b, 2, none⟩ (.string t))).setCell ⟨R, 0, none⟩ (Value.int IntKind.i64 0)).setCell ⟨R, 1, none⟩ (Value.string ⟨#[]⟩)).setCell ⟨R, 2, none⟩ (Value.string ⟨#[]⟩) := ⟨_, rfl⟩
          rw [← hZ] at hz ⊢
          obtain ⟨hz0, hz1, hz2⟩ := hz
          refine bodyPost_ret (by simp [results, Tryz.results31, go_sem, hz0, hz1, hz2]; try rfl) rfl ?_
          subst hZ
          exact ⟨by rw [HP.out]; rfl, (((hK8.setCell (.inr (by have := HR.out; simp; omega)) _).setCell (.inr (by have := HR.out; simp; omega)) _).setCell (.inr (by have := HR.out; simp; omega)) _).setCell (.inr (by have := HR.out; simp; omega)) _⟩
        | some u =>
          obtain rfl := HT.out u hu
          have hPC : parseR s = chkR 0 x1 (SB u) := by rw [HP0.out, hu]
          have HPC := Lib.hid hPC
          have hzu : (SB u).size < 16384 := by have := undig_len hu; rw [SB_size]; simp at this; omega
          clear hPC hu
          go_wp2_with fail
          refine (qcheck 0 x1 (SB u) (hz1) (hzu) _).mono ?_
          rintro e w9 ⟨rfl, k9⟩
          have hb9 := Kp.blockAt (X := []) (block_setCell (block_setCell HB8.out 2 (.string (SB u))) 1 (.string x1)) (by simp) _ k9
          have hR9 := Kp.blockAt (X := []) (Kp.blockAt (X := [b]) HR8.out (by simp; omega) _ (((Kp.refl [b] w8).setCell (.inl (by simp)) _).setCell (.inl (by simp)) _)) (by simp) _ k9
          have q0 : w9.cell? ⟨b, 0, none⟩ = some (.int .i64 0) := cell_of_cells hb9 rfl
          have q1 : w9.cell? ⟨b, 1, none⟩ = some (.string x1) := cell_of_cells hb9 rfl
          have q2 : w9.cell? ⟨b, 2, none⟩ = some (.string (SB u)) := cell_of_cells hb9 rfl
          have u0 : w9.cell? ⟨R, 0, none⟩ = some (.int .i64 0) := cell_of_cells hR9 rfl
          have u1 : w9.cell? ⟨R, 1, none⟩ = some (.string ⟨#[]⟩) := cell_of_cells hR9 rfl
          have u2 : w9.cell? ⟨R, 2, none⟩ = some (.string ⟨#[]⟩) := cell_of_cells hR9 rfl
          have t0 : w9.frozen? ⟨R, 0, none⟩ = false := frozen_of_cells hR9 _
          have t1 : w9.frozen? ⟨R, 1, none⟩ = false := frozen_of_cells hR9 _
          have t2 : w9.frozen? ⟨R, 2, none⟩ = false := frozen_of_cells hR9 _
          have hK9 := ((hK8.setCell (.inr (by have := HR.out; simp; omega)) _).setCell (.inr (by have := HR.out; simp; omega)) _).trans k9
          have HR9 := Lib.hid hR9
          obtain ⟨ce, hce⟩ : ∃ ce, ce = checkE 0 x1 (SB u) := ⟨_, rfl⟩
          rw [← hce]
          by_cases h0 : ce = 0
          · subst h0
            have hP : parseR s = ((0, x1, (SB u)), 0) := by rw [HPC.out]; unfold chkR; rw [if_pos hce.symm]
            have HP := Lib.hid hP
            clear hP hce hb9 hR9
            go_wp2_with fail
            have hz := box3Put (HR9.out) (Value.int IntKind.i64 0) (Value.string x1) (Value.string (SB u))
            obtain ⟨Z, hZ⟩ : ∃ Z, Z = (((w9).setCell ⟨R, 0, none⟩ (Value.int IntKind.i64 0)).setCell ⟨R, 1, none⟩ (Value.string x1)).setCell ⟨R, 2, none⟩ (Value.string (SB u)) := ⟨_, rfl⟩
            rw [← hZ] at hz ⊢
            obtain ⟨hz0, hz1, hz2⟩ := hz
            refine bodyPost_ret (by simp [results, Tryz.results31, go_sem, hz0, hz1, hz2]; try rfl) rfl ?_
            subst hZ
            exact ⟨by rw [HP.out]; rfl, ((hK9.setCell (.inr (by have := HR.out; simp; omega)) _).setCell (.inr (by have := HR.out; simp; omega)) _).setCell (.inr (by have := HR.out; simp; omega)) _⟩
          · have hne : (ce != 0) = true := by simpa using h0
            have hP : parseR s = (zeroReq, ce) := by rw [HPC.out]; unfold chkR; rw [if_neg (by rw [← hce]; exact h0), hce]
            have HP := Lib.hid hP
            clear hP hce hb9 hR9 h0
            go_wp2_with fail
            have hz := box3Put (HR9.out) (Value.int IntKind.i64 0) (Value.string ⟨#[]⟩) (Value.string ⟨#[]⟩)
            obtain ⟨Z, hZ⟩ : ∃ Z, Z = (((w9).setCell ⟨R, 0, none⟩ (Value.int IntKind.i64 0)).setCell ⟨R, 1, none⟩ (Value.string ⟨#[]⟩)).setCell ⟨R, 2, none⟩ (Value.string ⟨#[]⟩) := ⟨_, rfl⟩
            rw [← hZ] at hz ⊢
            obtain ⟨hz0, hz1, hz2⟩ := hz
            refine bodyPost_ret (by simp [results, Tryz.results31, go_sem, hz0, hz1, hz2]; try rfl) rfl ?_
            subst hZ
            exact ⟨by rw [HP.out]; rfl, ((hK9.setCell (.inr (by have := HR.out; simp; omega)) _).setCell (.inr (by have := HR.out; simp; omega)) _).setCell (.inr (by have := HR.out; simp; omega)) _⟩
      · have hP : parseR s = (zeroReq, 14) := by rw [hP0, if_neg hn0]
        have HP := Lib.hid hP
        have b0 : (kd == 0) = false := by simpa using hn0
        clear hP hP0 hn0
        cases b4 : (kd == 4) with
        | true =>
          obtain rfl : kd = 4 := by simpa using b4
          go_wp2_with fail
          have hz := box3Put (HRW.out) (Value.int IntKind.i64 0) (Value.string ⟨#[]⟩) (Value.string ⟨#[]⟩)
          obtain ⟨Z, hZ⟩ : ∃ Z, Z = (((W).setCell ⟨R, 0, none⟩ (Value.int IntKind.i64 0)).setCell ⟨R, 1, none⟩ (Value.string ⟨#[]⟩)).setCell ⟨R, 2, none⟩ (Value.string ⟨#[]⟩) := ⟨_, rfl⟩
          rw [← hZ] at hz ⊢
          obtain ⟨hz0, hz1, hz2⟩ := hz
          refine bodyPost_ret (by simp [results, Tryz.results31, go_sem, hz0, hz1, hz2]; try rfl) rfl ?_
          subst hZ
          exact ⟨by rw [HP.out]; rfl, ((hKK.setCell (.inr (by have := HR.out; simp; omega)) _).setCell (.inr (by have := HR.out; simp; omega)) _).setCell (.inr (by have := HR.out; simp; omega)) _⟩
        | false =>
          by_cases hk0 : kd < 0
          · go_wp2_with fail
            have hz := box3Put (HRW.out) (Value.int IntKind.i64 0) (Value.string ⟨#[]⟩) (Value.string ⟨#[]⟩)
            obtain ⟨Z, hZ⟩ : ∃ Z, Z = (((W).setCell ⟨R, 0, none⟩ (Value.int IntKind.i64 0)).setCell ⟨R, 1, none⟩ (Value.string ⟨#[]⟩)).setCell ⟨R, 2, none⟩ (Value.string ⟨#[]⟩) := ⟨_, rfl⟩
            rw [← hZ] at hz ⊢
            obtain ⟨hz0, hz1, hz2⟩ := hz
            refine bodyPost_ret (by simp [results, Tryz.results31, go_sem, hz0, hz1, hz2]; try rfl) rfl ?_
            subst hZ
            exact ⟨by rw [HP.out]; rfl, ((hKK.setCell (.inr (by have := HR.out; simp; omega)) _).setCell (.inr (by have := HR.out; simp; omega)) _).setCell (.inr (by have := HR.out; simp; omega)) _⟩
          · go_wp2_with fail
            have hz := box3Put (HRW.out) (Value.int IntKind.i64 0) (Value.string ⟨#[]⟩) (Value.string ⟨#[]⟩)
            obtain ⟨Z, hZ⟩ : ∃ Z, Z = (((W).setCell ⟨R, 0, none⟩ (Value.int IntKind.i64 0)).setCell ⟨R, 1, none⟩ (Value.string ⟨#[]⟩)).setCell ⟨R, 2, none⟩ (Value.string ⟨#[]⟩) := ⟨_, rfl⟩
            rw [← hZ] at hz ⊢
            obtain ⟨hz0, hz1, hz2⟩ := hz
            refine bodyPost_ret (by simp [results, Tryz.results31, go_sem, hz0, hz1, hz2]; try rfl) rfl ?_
            subst hZ
            exact ⟨by rw [HP.out]; rfl, ((hKK.setCell (.inr (by have := HR.out; simp; omega)) _).setCell (.inr (by have := HR.out; simp; omega)) _).setCell (.inr (by have := HR.out; simp; omega)) _⟩
    | x1 :: x2 :: x3 :: r, HXS, HPZ =>
      have hP : parseR s = (zeroReq, 14) := by unfold parseR; rw [← HXS.out]
      have HP := Lib.hid hP
      obtain ⟨ln, hln⟩ : ∃ ln, ln = (x1 :: x2 :: x3 :: r).length + 1 := ⟨_, rfl⟩
      rw [← hln]
      have l4 : 4 ≤ ln := by rw [hln]; simp
      have l1 : ((ln : Int) == 1) = false := by simp; omega
      have l2 : ((ln : Int) == 2) = false := by simp; omega
      have l3 : ((ln : Int) == 3) = false := by simp; omega
      clear hP hln
      cases b4 : (kd == 4) with
      | true =>
        obtain rfl : kd = 4 := by simpa using b4
        go_wp2_with fail
        have hz := box3Put (HRW.out) (Value.int IntKind.i64 0) (Value.string ⟨#[]⟩) (Value.string ⟨#[]⟩)
        obtain ⟨Z, hZ⟩ : ∃ Z, Z = (((W).setCell ⟨R, 0, none⟩ (Value.int IntKind.i64 0)).setCell ⟨R, 1, none⟩ (Value.string ⟨#[]⟩)).setCell ⟨R, 2, none⟩ (Value.string ⟨#[]⟩) := ⟨_, rfl⟩
        rw [← hZ] at hz ⊢
        obtain ⟨hz0, hz1, hz2⟩ := hz
        refine bodyPost_ret (by simp [results, Tryz.results31, go_sem, hz0, hz1, hz2]; try rfl) rfl ?_
        subst hZ
        exact ⟨by rw [HP.out]; rfl, ((hKK.setCell (.inr (by have := HR.out; simp; omega)) _).setCell (.inr (by have := HR.out; simp; omega)) _).setCell (.inr (by have := HR.out; simp; omega)) _⟩
      | false =>
        by_cases hk0 : kd < 0
        · go_wp2_with fail
          have hz := box3Put (HRW.out) (Value.int IntKind.i64 0) (Value.string ⟨#[]⟩) (Value.string ⟨#[]⟩)
          obtain ⟨Z, hZ⟩ : ∃ Z, Z = (((W).setCell ⟨R, 0, none⟩ (Value.int IntKind.i64 0)).setCell ⟨R, 1, none⟩ (Value.string ⟨#[]⟩)).setCell ⟨R, 2, none⟩ (Value.string ⟨#[]⟩) := ⟨_, rfl⟩
          rw [← hZ] at hz ⊢
          obtain ⟨hz0, hz1, hz2⟩ := hz
          refine bodyPost_ret (by simp [results, Tryz.results31, go_sem, hz0, hz1, hz2]; try rfl) rfl ?_
          subst hZ
          exact ⟨by rw [HP.out]; rfl, ((hKK.setCell (.inr (by have := HR.out; simp; omega)) _).setCell (.inr (by have := HR.out; simp; omega)) _).setCell (.inr (by have := HR.out; simp; omega)) _⟩
        · cases b0 : (kd == 0) with
          | true =>
            go_wp2_with fail
            have hz := box3Put (HRW.out) (Value.int IntKind.i64 0) (Value.string ⟨#[]⟩) (Value.string ⟨#[]⟩)
            obtain ⟨Z, hZ⟩ : ∃ Z, Z = (((W).setCell ⟨R, 0, none⟩ (Value.int IntKind.i64 0)).setCell ⟨R, 1, none⟩ (Value.string ⟨#[]⟩)).setCell ⟨R, 2, none⟩ (Value.string ⟨#[]⟩) := ⟨_, rfl⟩
            rw [← hZ] at hz ⊢
            obtain ⟨hz0, hz1, hz2⟩ := hz
            refine bodyPost_ret (by simp [results, Tryz.results31, go_sem, hz0, hz1, hz2]; try rfl) rfl ?_
            subst hZ
            exact ⟨by rw [HP.out]; rfl, ((hKK.setCell (.inr (by have := HR.out; simp; omega)) _).setCell (.inr (by have := HR.out; simp; omega)) _).setCell (.inr (by have := HR.out; simp; omega)) _⟩
          | false =>
            go_wp2_with fail
            have hz := box3Put (HRW.out) (Value.int IntKind.i64 0) (Value.string ⟨#[]⟩) (Value.string ⟨#[]⟩)
            obtain ⟨Z, hZ⟩ : ∃ Z, Z = (((W).setCell ⟨R, 0, none⟩ (Value.int IntKind.i64 0)).setCell ⟨R, 1, none⟩ (Value.string ⟨#[]⟩)).setCell ⟨R, 2, none⟩ (Value.string ⟨#[]⟩) := ⟨_, rfl⟩
            rw [← hZ] at hz ⊢
            obtain ⟨hz0, hz1, hz2⟩ := hz
            refine bodyPost_ret (by simp [results, Tryz.results31, go_sem, hz0, hz1, hz2]; try rfl) rfl ?_
            subst hZ
            exact ⟨by rw [HP.out]; rfl, ((hKK.setCell (.inr (by have := HR.out; simp; omega)) _).setCell (.inr (by have := HR.out; simp; omega)) _).setCell (.inr (by have := HR.out; simp; omega)) _⟩
end Go.Proofs.YtmihnakapnoefaaGreatDoor
