/-
  Numbers and texts as packed (only how long they are); what a key may be.
-/
import Derived.Test.YtlomniffpjndfaaDoorApp
import Derived.Test.YtlomniffpjndfaaDoorReg
import Derived.Test.YtlomniffpjndfaaDoorP1
import Derived.Test.YtlomniffpjndfaaDoorShelf
import Derived.Laws.IdiomStrings
import Derived.WalkLawsBesides
import Derived.Laws.Closers25b
import Derived.Lib.BufferRead
namespace Go.Proofs.YtlomniffpjndfaaDoor
open Go.RowKit

def numLen (n : Nat) : Nat := if n < 128 then 1 else 2

/-- a byte, as the model holds it -/
abbrev BV (b : UInt8) : Value := .int .u8 (b.toNat : Int)
theorem byte_of (x : Int) (h0 : 0 ≤ x) (h1 : x < 256) : ∃ b : UInt8, (b.toNat : Int) = x := by
  refine ⟨UInt8.ofNat x.toNat, ?_⟩
  rw [UInt8.toNat_ofNat']
  omega
theorem byte_bits (op : BinOp) (x y : Int) : ∃ b : UInt8, (b.toNat : Int) = bits op IntKind.u8 x y := by
  have h := bits_within op .u8 x y
  exact byte_of _ h.1 (by have : IntKind.max .u8 = 255 := rfl; omega)
/-- string(b), of bytes that the call itself made -/
theorem conv_own {w : World} {base : Nat} {v : Value} {l : List UInt8} (h : w.ownsRow base 5 1 v l.length (Lib.byteCells l)) :
    (convert 60 9 v).run Tryd.prog w = .ok (.string ⟨l.toArray⟩) w := by
  obtain ⟨hl, ⟨hv, hn⟩ | ⟨g, cap, cur, hv, hg, hb', hc, hm, hs, ht⟩⟩ := h
  · obtain rfl : l = [] := List.eq_nil_of_length_eq_zero hn
    rw [hv]
    exact Lib.run_convert_nil_bytes w _ _ _ 0 Tryd.underlying60 Tryd.underlying5 Tryd.underlying9
  · rw [hv]
    exact run_convert_bytes_back w _ _ _ ⟨g, 0, none⟩ cap l Tryd.underlying60 Tryd.underlying5 Tryd.underlying9 (Lib.bytes_of_row hb' (by rw [← ht, Nat.mul_one]))

theorem Tryd.info5 : (Tryd.prog.info? 5).map (fun i => (i.zero, i.size, i.bytes)) = some (some (.int .u8 0), 1, 1) := by kernel_rfl

set_option maxHeartbeats 400000 in
set_option maxRecDepth 20000 in
theorem pnum (n : Nat) (hn : n < 16384) (w : World) : Calls Tryd.prog 72 #[.int .i64 n] w fun e w' => ∃ s : ByteArray, e = .returned (.string s) ∧ s.size = numLen n ∧ Kp [] w w' := by
  have g1 : ¬ (n : Int) < 0 := by omega
  have g2 : ¬ (n : Int) > 72057594037927935 := by omega
  go_enter Tryd.func72, Tryd.ntmps72
  go_wp2_with fail
  go_loopg [0, 3] (numLen n - 1) (fun g m v wr => ∃ (k : Nat) (l : List UInt8), m = .int .i64 k ∧ k < 16384 ∧ g + 1 = numLen k ∧ l.length + numLen k = numLen n ∧ wr.ownsRow w.heap.size 5 1 v l.length (Lib.byteCells l) ∧ Kp [] w wr)
  case atStart => exact ⟨n, [], rfl, hn, by unfold numLen; split <;> rfl, by simp, World.ownsRow_nil _ _ _ _, Kp.refl _ _⟩
  case round =>
    obtain ⟨k, l, rfl, hk, hg, hl, hown, hK⟩ := hrel
    obtain ⟨av, cv, rfl⟩ := ownsRow_ex hown
    obtain ⟨i0, hi, hz0, hz1, hz2⟩ := info_parts Tryd.info5
    have hl2 : l.length ≤ 2 := by unfold numLen at hl; split at hl <;> split at hl <;> omega
    have hsz := hK.size
    by_cases h : k < 128
    · have h3 : ¬ (k : Int) ≥ 128 := by omega
      go_wp2_with (first | (at_builtin; refine wpList_append_mine _ rfl (.tmp 20) (.tmp 23) 60 rfl w.heap.size 5 i0 (.int .u8 0) 1 1 Tryd.underlying60 hi hz0 hz1 hz2 rfl (by decide) (.slice av l.length cv) l.length (Lib.byteCells l) rfl (ownsRow_keep (X := []) hown ((Kp.refl _ wr).alloc _) (fun _ _ => by simp)) ⟨wr.heap.size, 0, none⟩ 1 1 [.int .u8 k] rfl rfl (new_cells wr _ _) (fun u hu => by simp only [List.mem_singleton] at hu; subst hu; rfl) (by unfold maxLen; omega) (by omega) (by simp; omega) ?_))
      intro v' w3 hown' hkp _ hgrow
      obtain ⟨av', cv', rfl⟩ := ownsRow_ex hown'
      go_wp2_with fail
      have hx : l.length + 1 = (l ++ [UInt8.ofNat k]).length := by simp
      have hb : Lib.byteCells l ++ [Value.int .u8 (k : Int)] = Lib.byteCells (l ++ [UInt8.ofNat k]) := by
        simp only [Lib.byteCells, List.map_append, List.map_cons, List.map_nil]
        rw [UInt8.toNat_ofNat']
        congr 4
        omega
      rw [hb, hx] at hown'
      rw [hx]
      have hcv := conv_own hown'
      rw [hcv]
      obtain ⟨S, hS⟩ : ∃ S : ByteArray, S = ⟨(l ++ [UInt8.ofNat k]).toArray⟩ := ⟨_, rfl⟩
      rw [← hS]
      clear hcv hb hx
      have HS := Lib.hid hS
      clear hS
      go_wp2_with fail
      go_ret
      refine ⟨_, rfl, ?_, hK.step (((Kp.refl _ wr).alloc _).trans hkp) (fun i hi hm => ?_)⟩
      · rw [HS.out]
        show (l ++ [UInt8.ofNat k]).toArray.size = numLen n
        have : numLen k = 1 := by unfold numLen; rw [if_pos h]
        simp; omega
      · simp only [Option.mem_toList] at hm
        have := own_block_ge hown _ hm
        omega
    · have h3 : (k : Int) ≥ 128 := by omega
      go_wp2_with (first | (at_builtin; refine wpList_append_mine _ rfl (.tmp 14) (.tmp 18) 60 rfl w.heap.size 5 i0 (.int .u8 0) 1 1 Tryd.underlying60 hi hz0 hz1 hz2 rfl (by decide) (.slice av l.length cv) l.length (Lib.byteCells l) rfl (ownsRow_keep (X := []) hown ((Kp.refl _ wr).alloc _) (fun _ _ => by simp)) ⟨wr.heap.size, 0, none⟩ 1 1 [_] rfl rfl (new_cells wr _ _) (fun u hu => by simp only [List.mem_singleton] at hu; subst hu; rfl) (by unfold maxLen; omega) (by omega) (by simp; omega) ?_))
      intro v' w3 hown' hkp _ hgrow
      obtain ⟨av', cv', rfl⟩ := ownsRow_ex hown'
      go_wp2_with fail
      obtain ⟨x, hx⟩ := byte_bits .or ((k : Int) % 256) 128
      rw [← hx] at hown'
      have hb : Lib.byteCells l ++ [Value.int .u8 (x.toNat : Int)] = Lib.byteCells (l ++ [x]) := by simp [Lib.byteCells]
      have hn1 : numLen k = 2 := by unfold numLen; rw [if_neg h]
      have hn2 : numLen (k / 128) = 1 := by unfold numLen; rw [if_pos (by omega)]
      have hL : l.length + 1 = (l ++ [x]).length := by simp
      rw [hb, hL] at hown'
      rw [hL]
      go_roundg 0
      case rel =>
        refine ⟨k / 128, l ++ [x], by go_num, by omega, by omega, by simp; omega, hown', hK.step (((Kp.refl _ wr).alloc _).trans hkp) (fun i hi hm => ?_)⟩
        simp only [Option.mem_toList] at hm
        have := own_block_ge hown _ hm
        omega
      case measure => omega

theorem numLen_le (n : Nat) : 1 ≤ numLen n ∧ numLen n ≤ 2 := by unfold numLen; split <;> omega
theorem ptext (s : ByteArray) (hs : s.size < 16384) (w : World) : Calls Tryd.prog 57 #[.string s] w fun e w' => ∃ t : ByteArray, e = .returned (.string t) ∧ t.size = numLen s.size + s.size ∧ Kp [] w w' := by
  go_enter Tryd.func57, Tryd.ntmps57
  go_wp2_with fail
  refine (pnum s.size hs _).mono ?_
  rintro e w1 ⟨t, rfl, ht, h1⟩
  have htl : t.size ≤ 2 := by have := numLen_le s.size; omega
  have hsum : t.size + s.size ≤ maxLen := by unfold maxLen; omega
  go_wp2_with fail
  go_ret
  exact ⟨_, rfl, by rw [ByteArray.size_append, ht], h1⟩

theorem conv1 {w : World} {b : Nat} {x : Int} (h : w.heap[b]? = some (.cells #[.int .u8 x] 5 (0, 0))) (h0 : 0 ≤ x) (h1 : x < 256) :
    ∃ s : ByteArray, s.size = 1 ∧ (∀ W, Kp [] w W → (convert 60 9 (.slice (some ⟨b, 0, none⟩) 1 1)).run Tryd.prog W = .ok (.string s) W) ∧ Kp [] w w := by
  obtain ⟨y, hy⟩ := byte_of x h0 h1
  refine ⟨⟨#[y]⟩, rfl, fun W hW => ?_, Kp.refl _ _⟩
  refine run_convert_bytes_back W _ _ _ ⟨b, 0, none⟩ 1 [y] Tryd.underlying60 Tryd.underlying5 Tryd.underlying9 (fun j hj => ?_)
  obtain rfl : j = 0 := by simp at hj; omega
  rw [show W.cell? ((⟨b, 0, none⟩ : Addr).add 0) = some (.int .u8 x) from cell_of_cells (Kp.blockAt h (by simp) W hW) rfl, ← hy]
  rfl
theorem most (w : World) : Calls Tryd.prog 95 #[] w fun e w' => e = .returned (.int .i64 72057594037927935) ∧ w' = w := by
  go_enter Tryd.func95, Tryd.ntmps95
  go_wp2_with fail
  go_ret
  exact ⟨rfl, rfl⟩
set_option maxRecDepth 20000 in
theorem r5num_small (n : Nat) (hn : n < 128) (w : World) : Calls Tryd.prog 77 #[.int .i64 n] w fun e w' => ∃ s : ByteArray, e = .returned (.string s) ∧ s.size = 1 ∧ Kp [] w w' := by
  have g1 : ¬ (n : Int) < 0 := by omega
  have g2 : ¬ (n : Int) > 72057594037927935 := by omega
  have g3 : (n : Int) < 128 := by omega
  go_enter Tryd.func77, Tryd.ntmps77
  go_wp2_with fail
  refine (most _).mono ?_
  rintro e w1 ⟨rfl, rfl⟩
  obtain ⟨S, hS, hcv, hr⟩ := conv1 (w := w1.alloc (.cells #[.int .u8 (n : Int)] 5)) (block_new _ _) (by omega) (by omega)
  go_wp2_with fail
  go_ret
  exact ⟨_, rfl, hS, (Kp.refl _ _).alloc _⟩
set_option maxRecDepth 20000 in
theorem r5num (n : Nat) (hn : n < 16384) (w : World) : Calls Tryd.prog 77 #[.int .i64 n] w fun e w' => ∃ s : ByteArray, e = .returned (.string s) ∧ s.size = numLen n ∧ Kp [] w w' := by
  by_cases h : n < 128
  · have := r5num_small n h w
    refine this.mono ?_
    rintro e w1 ⟨s, rfl, hs, h1⟩
    exact ⟨s, rfl, by rw [hs]; unfold numLen; rw [if_pos h], h1⟩
  have g1 : ¬ (n : Int) < 0 := by omega
  have g2 : ¬ (n : Int) > 72057594037927935 := by omega
  have g3 : ¬ (n : Int) < 128 := by omega
  go_enter Tryd.func77, Tryd.ntmps77
  go_wp2_with fail
  refine (most _).mono ?_
  rintro e w1 ⟨rfl, rfl⟩
  go_wp2_with fail
  have hK := Kp.refl [] w1
  obtain ⟨x, hx, hx0, hx1⟩ : ∃ x : Int, IntKind.u8.wrap (IntKind.i64.wrap (128 + (n : Int).tmod 128)) = x ∧ 0 ≤ x ∧ x < 256 := by
    have := wrap_within .u8 (IntKind.i64.wrap (128 + (n : Int).tmod 128))
    have h1 : IntKind.max .u8 = 255 := rfl
    have h2 : IntKind.min .u8 = 0 := rfl
    exact ⟨_, rfl, by omega, by omega⟩
  obtain ⟨m, hm, hm128⟩ : ∃ m : Nat, (n : Int) / 128 = m ∧ m < 128 := ⟨n / 128, by omega, by omega⟩
  have hq : IntKind.i64.wrap (m : Int) = (m : Int) := by unfold IntKind.wrap; simp [IntKind.bits, IntKind.signed]; omega
  have HM := Lib.hid hm128
  clear hm128
  have HX0 := Lib.hid hx0
  have HX1 := Lib.hid hx1
  clear hx0 hx1
  refine wpB_begin 999 (Kp [] w1) (by kernel_rfl) (by first | exact hK.drew | exact Kp.drew (Kp.refl _ _)) (fun hHeld => ?_)
  refine wpB_take 0 _ ?_ rfl (by kernel_rfl) (fun _ _ _ h => h) rfl hHeld ?_ ?_
  rotate_left
  · (intro W hW; go_simp; try with_reducible rfl)
  try simp only [Act.put, List.setIfInBounds_toArray, List.set_cons_zero, List.set_cons_succ]
  refine wpB_take 1 _ ?_ rfl (by kernel_rfl) (fun _ _ _ h => h) rfl hHeld ?_ ?_
  rotate_left
  · (intro W hW; go_simp; try with_reducible rfl)
  try simp only [Act.put, List.setIfInBounds_toArray, List.set_cons_zero, List.set_cons_succ]
  refine wpB_take 2 _ ?_ rfl (by kernel_rfl) (fun _ _ _ h => h) rfl hHeld ?_ ?_
  rotate_left
  · (intro W hW; go_simp; try with_reducible rfl)
  try simp only [Act.put, List.setIfInBounds_toArray, List.set_cons_zero, List.set_cons_succ]
  refine wpB_take 3 _ ?_ rfl (by kernel_rfl) (fun _ _ _ h => h) rfl hHeld ?_ ?_
  rotate_left
  · (intro W hW; go_simp; try with_reducible rfl)
  try simp only [Act.put, List.setIfInBounds_toArray, List.set_cons_zero, List.set_cons_succ]
  refine wpB_take 6 _ ?_ rfl (by kernel_rfl) (fun _ _ _ h => h) rfl hHeld ?_ ?_
  rotate_left
  · (intro W hW; go_simp; try with_reducible rfl)
  try simp only [Act.put, List.setIfInBounds_toArray, List.set_cons_zero, List.set_cons_succ]
  refine wpB_take 7 _ ?_ rfl (by kernel_rfl) (fun _ _ _ h => h) rfl hHeld ?_ ?_
  rotate_left
  · (intro W hW; go_simp; try with_reducible rfl)
  try simp only [Act.put, List.setIfInBounds_toArray, List.set_cons_zero, List.set_cons_succ]
  refine wpB_fork 4 8 _ _ rfl rfl (by kernel_rfl) rfl rfl rfl (fun K hK_ => ?_) (fun K hK_ => ?_)
  · go_simp
    first | refine with_new (K := K) fun hc4 => ?_ | refine with_new_drew (K := K) fun hc4 => ?_
    obtain ⟨S5, hS5, hcv, hr4⟩ := conv1 hc4 HX0.out HX1.out
    refine hK_.out _ _ (by first | exact hHeld | exact hHeld.call ‹_› | exact hHeld.alloc _) (fun hHeld => ?_)
    clear hK_ K
    try simp only [Act.put, List.setIfInBounds_toArray, List.set_cons_zero, List.set_cons_succ]
    refine wpB_fork 5 8 _ _ rfl rfl (by kernel_rfl) rfl rfl rfl (fun K hK_ => ?_) (fun K hK_ => ?_)
    · go_simp
      refine hK_.out _ _ (by first | exact hHeld | exact hHeld.call ‹_› | exact hHeld.alloc _) (fun hHeld => ?_)
      clear hK_ K
      try simp only [Act.put, List.setIfInBounds_toArray, List.set_cons_zero, List.set_cons_succ]
      refine wpB_step 8 _ rfl (by kernel_rfl) rfl rfl (fun K hK_ => ?_)
      go_simp
      refine (r5num_small m HM.out _).mono ?_
      rintro e w8 ⟨s8, rfl, hs8, h8⟩
      refine hK_.out _ _ (by first | exact hHeld | exact hHeld.call ‹_› | exact hHeld.alloc _) (fun hHeld => ?_)
      clear hK_ K
      try simp only [Act.put, List.setIfInBounds_toArray, List.set_cons_zero, List.set_cons_succ]
      refine wpB_take 9 _ ?_ rfl (by kernel_rfl) (fun _ _ _ h => h) rfl hHeld ?_ ?_
      rotate_left
      · (intro W hW; go_simp; try with_reducible rfl)
      try simp only [Act.put, List.setIfInBounds_toArray, List.set_cons_zero, List.set_cons_succ]
      refine wpB_take 10 _ ?_ rfl (by kernel_rfl) (fun _ _ _ h => h) rfl hHeld ?_ ?_
      rotate_left
      · (intro W hW; go_simp; try with_reducible rfl)
      try simp only [Act.put, List.setIfInBounds_toArray, List.set_cons_zero, List.set_cons_succ]
      refine wpB_done (by kernel_rfl) ?_ _
      go_wp2_with fail
      go_ret
      exact ⟨_, rfl, by rw [ByteArray.size_append, hS5, hs8]; unfold numLen; rw [if_neg h], hHeld⟩
    · go_simp
      refine (r5num_small m HM.out _).mono ?_
      rintro e w8 ⟨s8, rfl, hs8, h8⟩
      refine hK_.out _ _ (by first | exact hHeld | exact hHeld.call ‹_› | exact hHeld.alloc _) (fun hHeld => ?_)
      clear hK_ K
      try simp only [Act.put, List.setIfInBounds_toArray, List.set_cons_zero, List.set_cons_succ]
      refine wpB_step 5 _ rfl (by kernel_rfl) rfl rfl (fun K hK_ => ?_)
      go_simp
      refine hK_.out _ _ (by first | exact hHeld | exact hHeld.call ‹_› | exact hHeld.alloc _) (fun hHeld => ?_)
      clear hK_ K
      try simp only [Act.put, List.setIfInBounds_toArray, List.set_cons_zero, List.set_cons_succ]
      refine wpB_take 9 _ ?_ rfl (by kernel_rfl) (fun _ _ _ h => h) rfl hHeld ?_ ?_
      rotate_left
      · (intro W hW; go_simp; try with_reducible rfl)
      try simp only [Act.put, List.setIfInBounds_toArray, List.set_cons_zero, List.set_cons_succ]
      refine wpB_take 10 _ ?_ rfl (by kernel_rfl) (fun _ _ _ h => h) rfl hHeld ?_ ?_
      rotate_left
      · (intro W hW; go_simp; try with_reducible rfl)
      try simp only [Act.put, List.setIfInBounds_toArray, List.set_cons_zero, List.set_cons_succ]
      refine wpB_done (by kernel_rfl) ?_ _
      go_wp2_with fail
      go_ret
      exact ⟨_, rfl, by rw [ByteArray.size_append, hS5, hs8]; unfold numLen; rw [if_neg h], hHeld⟩
  · go_simp
    refine (r5num_small m HM.out _).mono ?_
    rintro e w8 ⟨s8, rfl, hs8, h8⟩
    refine hK_.out _ _ (by first | exact hHeld | exact hHeld.call ‹_› | exact hHeld.alloc _) (fun hHeld => ?_)
    clear hK_ K
    try simp only [Act.put, List.setIfInBounds_toArray, List.set_cons_zero, List.set_cons_succ]
    refine wpB_step 4 _ rfl (by kernel_rfl) rfl rfl (fun K hK_ => ?_)
    go_simp
    first | refine with_new (K := K) fun hc4 => ?_ | refine with_new_drew (K := K) fun hc4 => ?_
    obtain ⟨S5, hS5, hcv, hr4⟩ := conv1 hc4 HX0.out HX1.out
    refine hK_.out _ _ (by first | exact hHeld | exact hHeld.call ‹_› | exact hHeld.alloc _) (fun hHeld => ?_)
    clear hK_ K
    try simp only [Act.put, List.setIfInBounds_toArray, List.set_cons_zero, List.set_cons_succ]
    refine wpB_step 5 _ rfl (by kernel_rfl) rfl rfl (fun K hK_ => ?_)
    go_simp
    refine hK_.out _ _ (by first | exact hHeld | exact hHeld.call ‹_› | exact hHeld.alloc _) (fun hHeld => ?_)
    clear hK_ K
    try simp only [Act.put, List.setIfInBounds_toArray, List.set_cons_zero, List.set_cons_succ]
    refine wpB_take 9 _ ?_ rfl (by kernel_rfl) (fun _ _ _ h => h) rfl hHeld ?_ ?_
    rotate_left
    · (intro W hW; go_simp; try with_reducible rfl)
    try simp only [Act.put, List.setIfInBounds_toArray, List.set_cons_zero, List.set_cons_succ]
    refine wpB_take 10 _ ?_ rfl (by kernel_rfl) (fun _ _ _ h => h) rfl hHeld ?_ ?_
    rotate_left
    · (intro W hW; go_simp; try with_reducible rfl)
    try simp only [Act.put, List.setIfInBounds_toArray, List.set_cons_zero, List.set_cons_succ]
    refine wpB_done (by kernel_rfl) ?_ _
    go_wp2_with fail
    go_ret
    exact ⟨_, rfl, by rw [ByteArray.size_append, hS5, hs8]; unfold numLen; rw [if_neg h], hHeld⟩
theorem r5text (s : ByteArray) (hs : s.size < 16384) (w : World) : Calls Tryd.prog 63 #[.string s] w fun e w' => ∃ t : ByteArray, e = .returned (.string t) ∧ t.size = numLen s.size + s.size ∧ Kp [] w w' := by
  go_enter Tryd.func63, Tryd.ntmps63
  go_wp2_with fail
  refine (r5num s.size hs _).mono ?_
  rintro e w1 ⟨t, rfl, ht, h1⟩
  have htl : t.size ≤ 2 := by have := numLen_le s.size; omega
  have hsum : t.size + s.size ≤ maxLen := by unfold maxLen; omega
  go_wp2_with fail
  go_ret
  exact ⟨_, rfl, by rw [ByteArray.size_append, ht], h1⟩

theorem all_false {α : Type} (l : List α) (p : α → Bool) (n : Nat) (x : α) (h : l[n]? = some x) (hp : p x = false) : l.all p = false := by
  rw [List.all_eq_false]
  exact ⟨x, List.mem_of_getElem? h, by simp [hp]⟩
/-- may a byte stand in a key? -/
def plainB (b : UInt8) : Bool := decide (33 ≤ b.toNat ∧ b.toNat ≤ 126)
def keyOk (s : ByteArray) : Bool := s.data.toList.all plainB && decide (1 ≤ s.size ∧ s.size ≤ 32)
set_option maxRecDepth 20000 in
theorem r8key (s : ByteArray) (hs : s.size < 16384) (w : World) : Calls Tryd.prog 62 #[.string s] w fun e w' => e = .returned (.bool (keyOk s)) ∧ Kp [] w w' := by
  go_enter Tryd.func62, Tryd.ntmps62
  go_wp2_with fail
  go_loopg [3] s.size (fun g i wr => ∃ n : Nat, n + g = s.size ∧ i = .int .i64 n ∧ wr = w ∧ (s.data.toList.take n).all plainB = true)
  case atStart => exact ⟨0, by omega, rfl, rfl, rfl⟩
  case round =>
    obtain ⟨n, hn, rfl, rfl, hall⟩ := hrel
    have HN := Lib.hid hn
    have HA := Lib.hid hall
    clear hall
    by_cases hlt : n < s.size
    · obtain ⟨g', rfl⟩ : ∃ g', gk = g' + 1 := ⟨gk - 1, by omega⟩
      clear hn
      have hltI : (n : Int) < (s.size : Int) := by omega
      have hget : s.data.toList[n]? = some s[n] := by
        rw [List.getElem?_eq_getElem (by simpa using hlt)]
        rfl
      have HG := Lib.hid hget
      clear hget
      by_cases h1 : (s[n].toNat : Int) < 33
      · have hbad : keyOk s = false := by
          unfold keyOk
          rw [all_false _ _ n s[n] HG.out (by simp [plainB]; omega)]; rfl
        have HBAD := Lib.hid hbad
        clear hbad
        go_wp2_with fail
        go_ret
        exact ⟨by rw [HBAD.out]; rfl, Kp.refl _ _⟩
      · by_cases h2 : (s[n].toNat : Int) > 126
        · have hbad : keyOk s = false := by
            unfold keyOk
            rw [all_false _ _ n s[n] HG.out (by simp [plainB]; omega)]; rfl
          have HBAD := Lib.hid hbad
          clear hbad
          go_wp2_with fail
          go_ret
          exact ⟨by rw [HBAD.out]; rfl, Kp.refl _ _⟩
        · have hnext : (s.data.toList.take (n + 1)).all plainB = true := by
            rw [List.take_add_one, HG.out]
            simp only [Option.toList, List.all_append, HA.out, List.all_cons, List.all_nil, Bool.true_and, Bool.and_true, plainB]
            simp; omega
          have HNX := Lib.hid hnext
          clear hnext
          go_wp2_with fail
          go_roundg g'
          case rel =>
            have hn := HN.out
            exact ⟨n + 1, by omega, by go_num, rfl, HNX.out⟩
          case measure => omega
    · obtain rfl : n = s.size := by omega
      obtain rfl : gk = 0 := by omega
      clear hn
      have hk : keyOk s = (decide (1 ≤ (s.size : Int)) && decide ((s.size : Int) ≤ 32)) := by
        have h1 := HA.out
        rw [List.take_of_length_le (by simp)] at h1
        unfold keyOk
        rw [h1, Bool.true_and, Bool.eq_iff_iff]
        simp
        omega
      have HKK := Lib.hid hk
      clear hk
      by_cases h1 : (1 : Int) ≤ (s.size : Int)
      · go_wp2_with fail
        go_ret
        exact ⟨by rw [HKK.out]; simp [h1], Kp.refl _ _⟩
      · go_wp2_with fail
        go_ret
        exact ⟨by rw [HKK.out]; simp; omega, Kp.refl _ _⟩
end Go.Proofs.YtlomniffpjndfaaDoor
