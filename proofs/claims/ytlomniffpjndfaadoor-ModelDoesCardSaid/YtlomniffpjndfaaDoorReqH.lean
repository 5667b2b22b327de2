/-
  Sixteen digits: Hex, the program's and the document's; digits.
-/
import Derived.Test.YtlomniffpjndfaaDoorBld
import Derived.Test.YtlomniffpjndfaaDoorReqB
import Derived.WideShapes
namespace Go.Proofs.YtlomniffpjndfaaDoor
open Go.RowKit Go.WideShapes

def sixteen : ByteArray := ⟨#[48, 49, 50, 51, 52, 53, 54, 55, 56, 57, 97, 98, 99, 100, 101, 102]⟩
theorem sixteen_size : sixteen.size = 16 := rfl
def hexD (q : Nat) : UInt8 := sixteen.data.toList.getD q 0
theorem hexD_get (q : Nat) (h : q < sixteen.size) : sixteen[q] = hexD q := by
  unfold hexD
  rw [List.getD_eq_getElem?_getD, List.getElem?_eq_getElem (by simpa using h)]
  exact (get_list sixteen q h).symm
theorem hexD_get' (q : Nat) (h : q < (⟨#[48, 49, 50, 51, 52, 53, 54, 55, 56, 57, 97, 98, 99, 100, 101, 102]⟩ : ByteArray).size) : (⟨#[48, 49, 50, 51, 52, 53, 54, 55, 56, 57, 97, 98, 99, 100, 101, 102]⟩ : ByteArray)[q] = hexD q := hexD_get q h
def hexL (l : List UInt8) : List UInt8 := l.flatMap fun b => [hexD (b.toNat / 16), hexD (b.toNat % 16)]
theorem and15_all : ∀ x : Fin 256, bits .and .u8 (x.val : Int) 15 = ((x.val % 16 : Nat) : Int) := by decide +kernel
theorem and15 (x : UInt8) : bits .and .u8 (x.toNat : Int) 15 = ((x.toNat % 16 : Nat) : Int) := and15_all ⟨x.toNat, x.toNat_lt⟩
theorem hexL_snoc (l : List UInt8) (n : Nat) (x : UInt8) (h : l[n]? = some x) : hexL (l.take (n + 1)) = hexL (l.take n) ++ [hexD (x.toNat / 16)] ++ [hexD (x.toNat % 16)] := by
  unfold hexL
  rw [List.take_add_one, h, List.flatMap_append]
  simp
theorem hexL_len (l : List UInt8) : (hexL l).length = 2 * l.length := by
  unfold hexL
  induction l with
  | nil => rfl
  | cons a l ih => rw [List.flatMap_cons, List.length_append, ih]; simp; omega

set_option maxHeartbeats 1000000 in
set_option maxRecDepth 20000 in
theorem hex (s : ByteArray) (hs : s.size < 16384) (w : World) : Calls Tryd.prog 36 #[.string s] w fun e w' => e = .returned (.string ⟨(hexL s.data.toList).toArray⟩) ∧ Kp [] w w' := by
  obtain ⟨W1, hW1⟩ : ∃ W1, W1 = w.alloc (.cells #[.pointer none, .slice none 0 0] 62) := ⟨_, rfl⟩
  obtain ⟨b, hb⟩ : ∃ b, b = w.heap.size := ⟨_, rfl⟩
  have hb0 : Bld W1 b (.slice none 0 0) [] := by rw [hW1, hb]; exact bld_new w
  have k1 : Kp [] w W1 := by rw [hW1]; exact (Kp.refl _ _).alloc _
  have hs1 : W1.heap.size = b + 1 := by rw [hW1, hb]; simp
  go_enter Tryd.func36, Tryd.ntmps36
  go_wp2_with fail
  rw [← hW1, ← hb, run_bytes_of_string _ _ _ _ _ Tryd.underlying9 Tryd.underlying60 Tryd.underlying5]
  obtain ⟨W2, hW2⟩ : ∃ W2, W2 = (W1.drew.alloc (.cells (bytesRow s (grownCap W1 s.size 0 5)) 5 ((bytesRow s (grownCap W1 s.size 0 5)).size, (bytesRow s (grownCap W1 s.size 0 5)).size + 1))) := ⟨_, rfl⟩
  have k2 : Kp [] W1 W2 := by rw [hW2]; exact ((Kp.refl _ _).drew).alloc _
  have hcell : ∀ (i : Nat) (h : i < s.size), W2.cell? ⟨W1.heap.size, i, none⟩ = some (BV s[i]) := by
    intro i h
    rw [hW2, show W1.heap.size = W1.drew.heap.size from rfl, World.cell?_alloc_mark]
    exact bytesRow_at s _ i h
  have hs2 : W2.heap.size = b + 2 := by rw [hW2]; simp [hs1]
  rw [← hW2]
  have hb2 := hb0.keep k2 (by simp) (by simp)
  rw [hs1] at hcell ⊢
  have hKw := k1.trans k2
  generalize grownCap W1 s.size 0 5 = cap
  have HB := Lib.hid hb
  have HS2 := Lib.hid hs2
  have HC := Lib.hid hcell
  clear hW1 hW2 hb hb0 k1 k2 hs1 hs2 hcell
  go_wp2_with fail
  go_loopg [9] s.size (fun g i wr => ∃ (n : Nat) (v : Value), n + g = s.size ∧ i = .int .i64 n ∧ Bld wr b v (hexL (s.data.toList.take n)) ∧ (∀ g, v.ownBlock = some g → b + 2 ≤ g) ∧ Kp [] w wr ∧ (∀ (i : Nat) (h : i < s.size), wr.cell? ⟨b + 1, i, none⟩ = some (BV s[i])) ∧ b + 2 ≤ wr.heap.size)
  case atStart => exact ⟨0, _, by omega, rfl, hb2, (fun g h => by cases h), hKw, HC.out, by rw [HS2.out]; omega⟩
  case round =>
    clear hb2 hKw HC
    obtain ⟨n, v, hn, rfl, hB, hv, hK, hcell, hsz⟩ := hrel
    have HN := Lib.hid hn
    have HV := Lib.hid hv
    have HC := Lib.hid hcell
    by_cases hlt : n < s.size
    · obtain ⟨g', rfl⟩ : ∃ g', gk = g' + 1 := ⟨gk - 1, by omega⟩
      clear hn
      have hltI : (n : Int) < (s.size : Int) := by omega
      obtain ⟨x, hx⟩ : ∃ x, x = s[n] := ⟨_, rfl⟩
      have hc := hcell n hlt
      rw [← hx] at hc
      have hget : s.data.toList[n]? = some x := by
        rw [List.getElem?_eq_getElem (by simpa using hlt), get_list s n hlt, hx]
      have hsn := hexL_snoc _ n x hget
      have HSN := Lib.hid hsn
      have hlen : (hexL (s.data.toList.take n)).length ≤ 40000 := by rw [hexL_len]; have := List.length_take_le' n s.data.toList; simp at this ⊢; omega
      have HLEN := Lib.hid hlen
      obtain ⟨q, hq⟩ : ∃ q : Nat, q = x.toNat / 16 := ⟨_, rfl⟩
      obtain ⟨r, hr⟩ : ∃ r : Nat, r = x.toNat % 16 := ⟨_, rfl⟩
      have hqI : (x.toNat : Int) / 16 = (q : Int) := by omega
      have hrI : bits .and .u8 (x.toNat : Int) 15 = (r : Int) := by rw [and15, hr]
      have hq16 : (q : Int) < 16 := by have := x.toNat_lt; omega
      have hr16 : (r : Int) < 16 := by omega
      rw [← hq, ← hr] at hsn
      have HSQ := Lib.hid hsn
      clear hcell hget hsn hlen hx hq hr hv HSN
      go_wp2_with fail
      simp only [hexD_get']
      refine (wbyte b v _ (hexD q) wr hB (by have := HLEN.out; omega)).mono ?_
      rintro e w3 ⟨v3, rfl, hW3⟩
      have hk3 := hW3.keep
      have hB3 := hW3.bld
      have hv3 : ∀ g, v3.ownBlock = some g → b + 2 ≤ g := fun g hg => by
        rcases hW3.grow g hg with h | h
        · exact HV.out g h
        · omega
      have hx3 : ∀ i, i < b + 2 → i ≠ b → i ∉ b :: v.ownBlock.toList := fun i hi hne hm => by
        simp only [List.mem_cons, Option.mem_toList] at hm
        rcases hm with hm | hm
        · exact hne hm
        · have := HV.out i hm; omega
      have hK3 : Kp [] w w3 := hK.step hk3 (fun i hi hm => absurd hm (hx3 i (by have := HB.out; omega) (by have := HB.out; omega)))
      have HV3 := Lib.hid hv3
      have HX3 := Lib.hid hx3
      have hsz3 := Nat.le_trans hsz hk3.size
      clear hW3 hB hK hv3 hx3 hc
      go_wp2_with fail
      simp only [hexD_get']
      refine (wbyte b v3 _ (hexD r) w3 hB3 (by have := HLEN.out; simp; omega)).mono ?_
      rintro e w4 ⟨v4, rfl, hW4⟩
      have hk4 := hW4.keep
      have hB4 := hW4.bld
      have hv4 : ∀ g, v4.ownBlock = some g → b + 2 ≤ g := fun g hg => by
        rcases hW4.grow g hg with h | h
        · exact HV3.out g h
        · omega
      have hx4 : ∀ i, i < b + 2 → i ≠ b → i ∉ b :: v3.ownBlock.toList := fun i hi hne hm => by
        simp only [List.mem_cons, Option.mem_toList] at hm
        rcases hm with hm | hm
        · exact hne hm
        · have := HV3.out i hm; omega
      have hK4 : Kp [] w w4 := hK3.step hk4 (fun i hi hm => absurd hm (hx4 i (by have := HB.out; omega) (by have := HB.out; omega)))
      have HV4 := Lib.hid hv4
      have HX4 := Lib.hid hx4
      have hsz4 := Nat.le_trans hsz3 hk4.size
      clear hW4 hB3 hK3 hv4 hx4
      go_wp2_with fail
      go_roundg g'
      case rel =>
        have hn := HN.out
        refine ⟨n + 1, v4, by omega, by go_num, HSQ.out ▸ hB4, HV4.out, hK4, fun i h => ?_, hsz4⟩
        have h1 := HC.out i h
        have h2 := (hk3.cell (lt_of_cell h1) (HX3.out _ (by simp) (by simp))).trans h1
        exact (hk4.cell (lt_of_cell h2) (HX4.out _ (by simp) (by simp))).trans h2
      case measure => omega
    · obtain rfl : n = s.size := by omega
      obtain rfl : gk = 0 := by omega
      clear hn hcell hv HC
      have htake : s.data.toList.take s.size = s.data.toList := List.take_of_length_le (by simp)
      rw [htake] at hB
      have hbs := hB.is
      have hlt := hB.lt
      go_wp2_with fail
      refine (Tryd.Builder_String_any b b _ _ hbs (by omega)).mono ?_
      rintro e w3 ⟨rfl, h3⟩
      go_wp2_with fail
      go_ret
      exact ⟨rfl, hK.down h3 (by have := HB.out; omega)⟩

theorem u8id (x : Int) (h0 : 0 ≤ x) (h1 : x < 256) : IntKind.u8.wrap x = x := by
  unfold IntKind.wrap; simp [IntKind.bits, IntKind.signed]; omega
theorem hexD_cut : ∀ q : Fin 16, ((⟨#[48, 49, 50, 51, 52, 53, 54, 55, 56, 57, 97, 98, 99, 100, 101, 102]⟩ : ByteArray).extract q.val (q.val + 1)).data.toList = [hexD q.val] := by decide +kernel
theorem hexD_ext (q q1 : Nat) (h : q < 16) (h1 : q1 = q + 1) : (⟨#[48, 49, 50, 51, 52, 53, 54, 55, 56, 57, 97, 98, 99, 100, 101, 102]⟩ : ByteArray).extract q q1 = ⟨#[hexD q]⟩ := by
  subst h1
  exact bytes_inj (hexD_cut ⟨q, h⟩)
set_option maxHeartbeats 1000000 in
set_option maxRecDepth 20000 in
theorem rhex (s : ByteArray) (hs : s.size < 16384) (w : World) : Calls Tryd.prog 31 #[.string s] w fun e w' => e = .returned (.string ⟨(hexL s.data.toList).toArray⟩) ∧ Kp [] w w' := by
  go_enter Tryd.func31, Tryd.ntmps31
  go_wp2_with fail
  go_loopg [4, 5] s.size (fun g o i wr => ∃ n : Nat, n + g = s.size ∧ i = .int .i64 n ∧ o = .string ⟨(hexL (s.data.toList.take n)).toArray⟩ ∧ Kp [] w wr)
  case atStart => exact ⟨0, by omega, rfl, rfl, Kp.refl _ _⟩
  case round =>
    obtain ⟨n, hn, rfl, rfl, hK⟩ := hrel
    have HN := Lib.hid hn
    by_cases hlt : n < s.size
    · obtain ⟨g', rfl⟩ : ∃ g', gk = g' + 1 := ⟨gk - 1, by omega⟩
      clear hn
      have hltI : (n : Int) < (s.size : Int) := by omega
      have hget : s.data.toList[n]? = some s[n] := by
        rw [List.getElem?_eq_getElem (by simpa using hlt), get_list s n hlt]
      have hsn := hexL_snoc _ n _ hget
      obtain ⟨S0, hS0⟩ : ∃ S0 : ByteArray, S0 = ⟨(hexL (s.data.toList.take n)).toArray⟩ := ⟨_, rfl⟩
      have hlen : S0.size ≤ 40000 := by
        have h1 : S0.size = (hexL (s.data.toList.take n)).length := by rw [hS0]; exact List.size_toArray
        rw [h1, hexL_len]; have := List.length_take_le' n s.data.toList; simp at this ⊢; omega
      have hxl := (s[n]).toNat_lt
      obtain ⟨q, hq⟩ : ∃ q : Nat, q = (s[n]).toNat / 16 := ⟨_, rfl⟩
      obtain ⟨r, hr⟩ : ∃ r : Nat, r = (s[n]).toNat % 16 := ⟨_, rfl⟩
      obtain ⟨q1, hq1⟩ : ∃ q1 : Nat, q1 = q + 1 := ⟨_, rfl⟩
      obtain ⟨r1, hr1⟩ : ∃ r1 : Nat, r1 = r + 1 := ⟨_, rfl⟩
      have f1 : IntKind.u8.wrap (((s[n]).toNat : Int) / 16) = (q : Int) := by rw [u8id _ (by omega) (by omega)]; omega
      have f2 : IntKind.u8.wrap ((q : Int) + 1) = (q1 : Int) := by rw [u8id _ (by omega) (by omega)]; omega
      have f3 : ((s[n]).toNat : Int).tmod 16 = (r : Int) := by rw [Int.tmod_eq_emod_of_nonneg (by omega)]; omega
      have f4 : IntKind.u8.wrap ((r : Int) + 1) = (r1 : Int) := by rw [u8id _ (by omega) (by omega)]; omega
      have g1 : (q1 : Int) ≤ 16 := by omega
      have g2 : (q : Int) ≤ (q1 : Int) := by omega
      have g3 : (r1 : Int) ≤ 16 := by omega
      have g4 : (r : Int) ≤ (r1 : Int) := by omega
      obtain ⟨D1, hD1⟩ : ∃ D1 : ByteArray, D1 = ⟨#[hexD q]⟩ := ⟨_, rfl⟩
      obtain ⟨D2, hD2⟩ : ∃ D2 : ByteArray, D2 = ⟨#[hexD r]⟩ := ⟨_, rfl⟩
      have x1 := hexD_ext q q1 (by omega) hq1
      have x2 := hexD_ext r r1 (by omega) hr1
      have z1 : D1.size = 1 := by rw [hD1]; rfl
      have z2 : D2.size = 1 := by rw [hD2]; rfl
      have m1 : S0.size + D1.size ≤ 9223372036854775807 := by omega
      have m2 : S0.size + D1.size + D2.size ≤ 9223372036854775807 := by omega
      rw [← hD1] at x1
      rw [← hD2] at x2
      rw [← hq, ← hr] at hsn
      have hnew : S0 ++ D1 ++ D2 = ⟨(hexL (s.data.toList.take (n + 1))).toArray⟩ := by
        apply bytes_inj
        rw [hsn, hS0, hD1, hD2]
        simp [ByteArray.data_append]
      rw [← hS0]
      have HNEW := Lib.hid hnew
      clear hS0 hget hsn hlen hxl hq hr hq1 hr1 hD1 hD2 hnew z1 z2
      go_wp2_with fail
      refine wpB_begin 999 (Kp [] w) (by kernel_rfl) (by first | exact hK.drew | exact Kp.drew (Kp.refl _ _)) (fun hHeld => ?_)
      refine wpB_take 0 _ ?_ rfl (by kernel_rfl) (fun _ _ _ h => h) rfl hHeld ?_ ?_
      rotate_left
      · (intro W hW; go_simp; try with_reducible rfl)
      try simp only [Act.put, List.setIfInBounds_toArray, List.set_cons_zero, List.set_cons_succ]
      refine wpB_take 1 _ ?_ rfl (by kernel_rfl) (fun _ _ _ h => h) rfl hHeld ?_ ?_
      rotate_left
      · (intro W hW; go_simp; try with_reducible rfl)
      try simp only [Act.put, List.setIfInBounds_toArray, List.set_cons_zero, List.set_cons_succ]
      refine wpB_take 2 _ ?_ rfl (by kernel_rfl) (fun _ _ _ h => h) rfl hHeld ?_ ?_
      rotate_left
      · (intro W hW; go_simp; try with_reducible rfl)
      try simp only [Act.put, List.setIfInBounds_toArray, List.set_cons_zero, List.set_cons_succ]
      refine wpB_take 3 _ ?_ rfl (by kernel_rfl) (fun _ _ _ h => h) rfl hHeld ?_ ?_
      rotate_left
      · (intro W hW; go_simp; try with_reducible rfl)
      try simp only [Act.put, List.setIfInBounds_toArray, List.set_cons_zero, List.set_cons_succ]
      refine wpB_take 4 _ ?_ rfl (by kernel_rfl) (fun _ _ _ h => h) rfl hHeld ?_ ?_
      rotate_left
      · (intro W hW; go_simp; try with_reducible rfl)
      try simp only [Act.put, List.setIfInBounds_toArray, List.set_cons_zero, List.set_cons_succ]
      refine wpB_take 5 _ ?_ rfl (by kernel_rfl) (fun _ _ _ h => h) rfl hHeld ?_ ?_
      rotate_left
      · (intro W hW; go_simp; try with_reducible rfl)
      try simp only [Act.put, List.setIfInBounds_toArray, List.set_cons_zero, List.set_cons_succ]
      refine wpB_take 6 _ ?_ rfl (by kernel_rfl) (fun _ _ _ h => h) rfl hHeld ?_ ?_
      rotate_left
      · (intro W hW; go_simp; try with_reducible rfl)
      try simp only [Act.put, List.setIfInBounds_toArray, List.set_cons_zero, List.set_cons_succ]
      refine wpB_take 7 _ ?_ rfl (by kernel_rfl) (fun _ _ _ h => h) rfl hHeld ?_ ?_
      rotate_left
      · (intro W hW; go_simp; try with_reducible rfl)
      try simp only [Act.put, List.setIfInBounds_toArray, List.set_cons_zero, List.set_cons_succ]
      refine wpB_take 8 _ ?_ rfl (by kernel_rfl) (fun _ _ _ h => h) rfl hHeld ?_ ?_
      rotate_left
      · (intro W hW; go_simp; try with_reducible rfl)
      try simp only [Act.put, List.setIfInBounds_toArray, List.set_cons_zero, List.set_cons_succ]
      refine wpB_take 9 _ ?_ rfl (by kernel_rfl) (fun _ _ _ h => h) rfl hHeld ?_ ?_
      rotate_left
      · (intro W hW; go_simp; try with_reducible rfl)
      try simp only [Act.put, List.setIfInBounds_toArray, List.set_cons_zero, List.set_cons_succ]
      refine wpB_take 10 _ ?_ rfl (by kernel_rfl) (fun _ _ _ h => h) rfl hHeld ?_ ?_
      rotate_left
      · (intro W hW; go_simp; try with_reducible rfl)
      try simp only [Act.put, List.setIfInBounds_toArray, List.set_cons_zero, List.set_cons_succ]
      refine wpB_take 11 _ ?_ rfl (by kernel_rfl) (fun _ _ _ h => h) rfl hHeld ?_ ?_
      rotate_left
      · (intro W hW; go_simp; try with_reducible rfl)
      try simp only [Act.put, List.setIfInBounds_toArray, List.set_cons_zero, List.set_cons_succ]
      refine wpB_take 12 _ ?_ rfl (by kernel_rfl) (fun _ _ _ h => h) rfl hHeld ?_ ?_
      rotate_left
      · (intro W hW; go_simp; rw [if_neg (by omega)])
      try simp only [Act.put, List.setIfInBounds_toArray, List.set_cons_zero, List.set_cons_succ]
      refine wpB_take 13 _ ?_ rfl (by kernel_rfl) (fun _ _ _ h => h) rfl hHeld ?_ ?_
      rotate_left
      · (intro W hW; go_simp; try with_reducible rfl)
      try simp only [Act.put, List.setIfInBounds_toArray, List.set_cons_zero, List.set_cons_succ]
      refine wpB_take 14 _ ?_ rfl (by kernel_rfl) (fun _ _ _ h => h) rfl hHeld ?_ ?_
      rotate_left
      · (intro W hW; go_simp; try with_reducible rfl)
      try simp only [Act.put, List.setIfInBounds_toArray, List.set_cons_zero, List.set_cons_succ]
      refine wpB_take 15 _ ?_ rfl (by kernel_rfl) (fun _ _ _ h => h) rfl hHeld ?_ ?_
      rotate_left
      · (intro W hW; go_simp; try with_reducible rfl)
      try simp only [Act.put, List.setIfInBounds_toArray, List.set_cons_zero, List.set_cons_succ]
      refine wpB_take 16 _ ?_ rfl (by kernel_rfl) (fun _ _ _ h => h) rfl hHeld ?_ ?_
      rotate_left
      · (intro W hW; go_simp; try with_reducible rfl)
      try simp only [Act.put, List.setIfInBounds_toArray, List.set_cons_zero, List.set_cons_succ]
      refine wpB_take 17 _ ?_ rfl (by kernel_rfl) (fun _ _ _ h => h) rfl hHeld ?_ ?_
      rotate_left
      · (intro W hW; go_simp; try with_reducible rfl)
      try simp only [Act.put, List.setIfInBounds_toArray, List.set_cons_zero, List.set_cons_succ]
      refine wpB_take 18 _ ?_ rfl (by kernel_rfl) (fun _ _ _ h => h) rfl hHeld ?_ ?_
      rotate_left
      · (intro W hW; go_simp; try with_reducible rfl)
      try simp only [Act.put, List.setIfInBounds_toArray, List.set_cons_zero, List.set_cons_succ]
      refine wpB_take 19 _ ?_ rfl (by kernel_rfl) (fun _ _ _ h => h) rfl hHeld ?_ ?_
      rotate_left
      · (intro W hW; go_simp; try with_reducible rfl)
      try simp only [Act.put, List.setIfInBounds_toArray, List.set_cons_zero, List.set_cons_succ]
      refine wpB_take 20 _ ?_ rfl (by kernel_rfl) (fun _ _ _ h => h) rfl hHeld ?_ ?_
      rotate_left
      · (intro W hW; go_simp; try with_reducible rfl)
      try simp only [Act.put, List.setIfInBounds_toArray, List.set_cons_zero, List.set_cons_succ]
      refine wpB_take 21 _ ?_ rfl (by kernel_rfl) (fun _ _ _ h => h) rfl hHeld ?_ ?_
      rotate_left
      · (intro W hW; go_simp; try with_reducible rfl)
      try simp only [Act.put, List.setIfInBounds_toArray, List.set_cons_zero, List.set_cons_succ]
      refine wpB_take 22 _ ?_ rfl (by kernel_rfl) (fun _ _ _ h => h) rfl hHeld ?_ ?_
      rotate_left
      · (intro W hW; go_simp; try with_reducible rfl)
      try simp only [Act.put, List.setIfInBounds_toArray, List.set_cons_zero, List.set_cons_succ]
      refine wpB_take 23 _ ?_ rfl (by kernel_rfl) (fun _ _ _ h => h) rfl hHeld ?_ ?_
      rotate_left
      · (intro W hW; go_simp; try with_reducible rfl)
      try simp only [Act.put, List.setIfInBounds_toArray, List.set_cons_zero, List.set_cons_succ]
      refine wpB_take 24 _ ?_ rfl (by kernel_rfl) (fun _ _ _ h => h) rfl hHeld ?_ ?_
      rotate_left
      · (intro W hW; go_simp; rw [if_neg (by omega)])
      try simp only [Act.put, List.setIfInBounds_toArray, List.set_cons_zero, List.set_cons_succ]
      refine wpB_take 25 _ ?_ rfl (by kernel_rfl) (fun _ _ _ h => h) rfl hHeld ?_ ?_
      rotate_left
      · (intro W hW; go_simp; try with_reducible rfl)
      try simp only [Act.put, List.setIfInBounds_toArray, List.set_cons_zero, List.set_cons_succ]
      refine wpB_done (by kernel_rfl) ?_ _
      go_wp2_with fail
      go_roundg g'
      case rel =>
        have hn := HN.out
        exact ⟨n + 1, by omega, by go_num, by rw [HNEW.out], hHeld⟩
      case measure => omega
    · obtain rfl : n = s.size := by omega
      obtain rfl : gk = 0 := by omega
      clear hn
      have htake : s.data.toList.take s.size = s.data.toList := List.take_of_length_le (by simp)
      rw [htake]
      go_wp2_with fail
      go_ret
      exact ⟨rfl, hK⟩

/-- a text in digits -/
def digitsL (l : List UInt8) : List UInt8 := if l = [] then [45] else hexL l
theorem nil_of_empty {s : ByteArray} (h : s.toList.isEmpty = true) : s.data.toList = [] := by
  rw [ByteArray.toList_eq, List.isEmpty_iff] at h; exact h
theorem ne_of_empty {s : ByteArray} (h : s.toList.isEmpty = false) : s.data.toList ≠ [] := by
  rw [ByteArray.toList_eq] at h; intro e; rw [e] at h; cases h
end Go.Proofs.YtlomniffpjndfaaDoor
