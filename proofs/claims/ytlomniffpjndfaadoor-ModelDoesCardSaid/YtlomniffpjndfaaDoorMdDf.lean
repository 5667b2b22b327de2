/-
  The document's digest: Sum, and that it is the program's.
-/
import Derived.Test.YtlomniffpjndfaaDoorMdDe
namespace Go.Proofs.YtlomniffpjndfaaDoor
open Go.RowKit Go.WideShapes

theorem stL_app (A T : List UInt8) (a : Nat) (hA : A.length = 64 * a) (s : List Int) : ∀ t, stL (A ++ T) s (a + t) = stL T (stL (A ++ T) s a) t
  | 0 => rfl
  | t + 1 => by
    have e : chunkL (A ++ T) (a + t) = chunkL T t := by
      unfold chunkL
      rw [List.drop_append, List.drop_eq_nil_of_le (by omega), List.nil_append, show 64 * (a + t) - A.length = 64 * t by omega]
    rw [show a + (t + 1) = (a + t) + 1 by omega, stL, stL_app A T a hA s t, e]
    rfl
theorem chunk_eq (m : ByteArray) (T : List UInt8) (i : Nat) (h : 64 * i + 64 ≤ m.size) (k : Nat) (hk : 64 * i + 64 ≤ k) : chunkL (m.data.toList.take k ++ T) i = chunk m i := by
  unfold chunkL chunk
  have h1 : ((m.data.toList.take k ++ T).drop (64 * i)).take 64 = (m.data.toList.drop (64 * i)).take 64 := by
    have hl : m.data.toList.length = m.size := by simp
    rw [List.drop_append_of_le_length (by rw [List.length_take]; omega), List.take_append_of_le_length (by rw [List.length_drop, List.length_take]; omega), List.drop_take, List.take_take]
    congr 1
    omega
  rw [h1]
  apply ByteArray.ext
  show ((m.data.toList.drop (64 * i)).take 64).toArray = (m.extract (64 * i) (64 * i + 64)).data
  rw [ByteArray.data_extract]
  apply Array.toList_inj.1
  simp [List.drop_take]
theorem stN_eq (m : ByteArray) (T : List UInt8) (k : Nat) : ∀ i, 64 * i ≤ m.size → 64 * i ≤ k → stL (m.data.toList.take k ++ T) beginL i = stN m i
  | 0, _, _ => rfl
  | i + 1, h, hk => by
    rw [stL, stN, stN_eq m T k i (by omega) (by omega), chunk_eq m T i (by omega) k (by omega)]
theorem filled_eq (m : ByteArray) : filledL m = m.data.toList.take (64 * (m.size / 64)) ++ tailB m := by
  have hl : m.data.toList.length = m.size := by simp
  have hr : (m.extract (64 * (m.size / 64)) m.size).data.toList = m.data.toList.drop (64 * (m.size / 64)) := by
    rw [ByteArray.data_extract]
    simp
    exact List.take_of_length_le (by simp)
  have hz : zeros (m.data.toList ++ [128]).length = zeros ((m.extract (64 * (m.size / 64)) m.size).data.toList ++ [128]).length := by
    rw [hr]
    simp only [List.length_append, List.length_drop, hl, List.length_singleton]
    unfold zeros
    have : (m.size - 64 * (m.size / 64) + 1) % 64 = (m.size + 1) % 64 := by omega
    rw [this]
  unfold filledL tailB
  simp only
  rw [hz, hr]
  simp only [← List.append_assoc]
  rw [List.take_append_drop]
theorem filled_len (m : ByteArray) : (filledL m).length % 64 = 0 ∧ (filledL m).length = m.size + 1 + zeros (m.size + 1) + 8 := by
  have hl : (m.data.toList ++ [128]).length = m.size + 1 := by simp
  have e : (filledL m).length = m.size + 1 + zeros (m.size + 1) + 8 := by
    unfold filledL
    rw [List.length_append, List.length_append, List.length_replicate, szList_len, hl]
  have := zeros_eq (m.size + 1)
  exact ⟨by rw [e]; omega, e⟩
theorem sum_eq (m : ByteArray) : sumF m = ⟨((stL (filledL m) beginL ((filledL m).length / 64)).flatMap w4).toArray⟩ := by
  have hl : m.data.toList.length = m.size := by simp
  have hA : (m.data.toList.take (64 * (m.size / 64))).length = 64 * (m.size / 64) := by rw [List.length_take]; omega
  have hL : (filledL m).length / 64 = m.size / 64 + (tailB m).length / 64 := by
    rw [filled_eq, List.length_append, hA]
    omega
  unfold sumF
  rw [hL, filled_eq, stL_app _ _ _ hA, stN_eq m _ _ _ (by omega) (Nat.le_refl _)]
theorem bytes_w4 (l : List Int) (y : Int) : Lib.byteCells (l.flatMap w4) ++ [Value.int .u8 (y / 16777216 % 256), .int .u8 (y / 65536 % 256), .int .u8 (y / 256 % 256), .int .u8 (y % 256)] = Lib.byteCells ((l ++ [y]).flatMap w4) := by
  rw [List.flatMap_append]
  simp only [List.flatMap_cons, List.flatMap_nil, List.append_nil, w4]
  simp only [Lib.byteCells, List.map_append, List.map_cons, List.map_nil]
  have e := fun z => bv_mod z
  simp only [BV] at e
  simp only [e]
theorem byteI_chunk (F : List UInt8) (q j : Nat) (hj : j < 64) (h : 64 * q + 64 ≤ F.length) : Value.int .u8 (byteI (chunkL F q) j) = BV (F[64 * q + j]'(by omega)) := by
  unfold byteI chunkL
  show Value.int .u8 ((((F.drop (64 * q)).take 64).toArray.toList.getD j 0).toNat : Int) = Value.int .u8 _
  rw [List.toList_toArray, List.getD_eq_getElem?_getD, List.getElem?_take_of_lt hj, List.getElem?_drop, List.getElem?_eq_getElem (by omega)]
  rfl
theorem one_bytes (l : List UInt8) : ∀ u, u ∈ Lib.byteCells l → u.oneCell' = true := by
  intro u hu
  obtain ⟨x, -, rfl⟩ := List.mem_map.1 hu
  rfl
theorem new_begin : uV beginL = #[.int .u32 1779033703, .int .u32 3144134277, .int .u32 1013904242, .int .u32 2773480762, .int .u32 1359893119, .int .u32 2600822924, .int .u32 528734635, .int .u32 1541459225] := begin_lit
theorem one_four (a b c d : Int) : ∀ u, u ∈ [Value.int .u8 a, .int .u8 b, .int .u8 c, .int .u8 d] → u.oneCell' = true := by
  intro u hu
  simp only [List.mem_cons, List.not_mem_nil, or_false] at hu
  rcases hu with rfl | rfl | rfl | rfl <;> rfl
set_option maxHeartbeats 4000000 in
set_option maxRecDepth 20000 in
theorem rsum (s : ByteArray) (hs : s.size ≤ 1000) (w : World) : Calls Tryd.prog 32 #[.string s] w fun e w' => e = .returned (.string (sumF s)) ∧ Kp [] w w' := by
  obtain ⟨i0, hi, hz0, hz1, hz2⟩ := info_parts Tryd.info5
  obtain ⟨w1, hw1⟩ : ∃ w1, w1 = w.alloc (.cells (uV beginL) 82) := ⟨_, rfl⟩
  have k1 : Kp [] w w1 := hw1 ▸ (Kp.refl _ _).alloc _
  have b1 : w1.heap[w.heap.size]? = some (.cells (uV beginL) 82 (0, 0)) := by rw [hw1]; exact block_new _ _
  have hrf := rfilled s hs w1
  obtain ⟨F, hF⟩ : ∃ F, F = filledL s := ⟨_, rfl⟩
  obtain ⟨hF64, hFl⟩ := filled_len s
  have hsum := sum_eq s
  rw [← hF] at hrf hF64 hFl hsum
  have hFb : F.length ≤ 1200 := by
    have : zeros (s.size + 1) < 64 := by unfold zeros; omega
    omega
  rw [new_begin] at hw1
  have HW1 := Lib.hid hw1
  have HSUM := Lib.hid hsum
  have HFL := Lib.hid hFl
  clear hF hFl hw1 hsum
  obtain ⟨m, hm⟩ : ∃ m, m = F.length := ⟨_, rfl⟩
  obtain ⟨gs0, hgs0⟩ : ∃ g, g = w.heap.size := ⟨_, rfl⟩
  have HGS0 := Lib.hid hgs0
  rw [← hgs0] at b1
  clear hgs0
  go_enter Tryd.func32, Tryd.ntmps32
  go_wp2_with fail
  rw [← HW1.out, ← HGS0.out]
  refine hrf.mono ?_
  rintro e w2 ⟨v, rfl, hM, k2⟩
  clear hrf
  have b2 := (k2.block _ (lt_of_block b1) (by simp)).trans b1
  obtain ⟨gb, capb, cur, z, rfl, hgb, hcur, hcc, hlc, hfz, hat⟩ := hM
  have hbX : ∀ W, Kp [] w2 W → ∀ j (hj : j < F.length), W.cell? ⟨gb, j, none⟩ = some (BV F[j]) := fun W k j hj => Kp.cellAt (X := []) (cell_of_cells hcur (hat j hj)) (by simp) W k
  have HBX := Lib.hid hbX
  have hK := k1.trans k2
  rw [← hm] at hlc hFb hF64 ⊢
  have HM := Lib.hid hm
  have HF64 := Lib.hid hF64
  have hK2 := Kp.refl [] w2
  clear hcur hcc hfz hat hbX hgb k1 k2 b1 hm hF64
  go_wp2_with fail
  go_loopg [3, 5] (m / 64) (fun g' o i wr => ∃ (q gs : Nat), q + g' = m / 64 ∧ o = .slice (some ⟨gs, 0, none⟩) 8 8 ∧ i = .int .i64 ((64 * q : Nat) : Int) ∧ Kp [] w2 wr ∧ wr.heap[gs]? = some (.cells (uV (stL F beginL q)) 82 (0, 0)) ∧ (stL F beginL q).length = 8)
  case atStart => exact ⟨0, gs0, by omega, rfl, rfl, hK2, b2, rfl⟩
  case round =>
    clear hK2 b2
    obtain ⟨q, gs, hq, rfl, rfl, hKr, hb, hl8⟩ := hrel
    have HQ := Lib.hid hq
    by_cases hlt : q < m / 64
    · obtain ⟨g', rfl⟩ : ∃ g', gk = g' + 1 := ⟨gk - 1, by omega⟩
      clear hq
      obtain ⟨p, hp⟩ : ∃ p, p = 64 * q := ⟨_, rfl⟩
      rw [← hp]
      have hpm : p + 64 ≤ m := by omega
      have hpI : (p : Int) < (m : Int) := by omega
      have hpI2 : (p : Int) + 64 ≤ (m : Int) := by omega
      have hp64 : ((p : Int) + 64).toNat = p + 64 := by omega
      have hpw := wrap_id ((p : Int) + 64) (by omega) (by omega)
      have hpc : (p : Int) + 64 ≤ (capb : Int) := by omega
      have hp0 : (0 : Int) ≤ (p : Int) := by omega
      have hp1 : (p : Int) ≤ (p : Int) + 64 := by omega
      have hpe : p + 64 - p = 64 := by omega
      have hne : ¬ capb - p = 0 := by omega
      have hrb := rblock (stL F beginL q) hl8 (chunkL F q) gb p (capb - p) gs 0 8 wr (fun j hj => by
        have hjF : p + j < F.length := by have := HM.out; omega
        rw [HBX.out wr hKr (p + j) hjF, byteI_chunk F q j hj (by have := HM.out; omega)]
        simp only [hp]) (fun j hj => by
        rw [Nat.zero_add]
        refine uV_cell' hb j _ ?_
        rw [List.getD_eq_getElem?_getD, List.getElem?_eq_getElem (by omega)]; rfl)
      have HP := Lib.hid hp
      clear hp
      go_wp2_with fail
      refine hrb.mono ?_
      rintro e w3 ⟨g3, rfl, hb3, hl3, -, k3⟩
      have hK3 := hKr.trans k3
      have HB3 := Lib.hid hb3
      have HL3 := Lib.hid hl3
      clear hrb hb3 hl3 k3 hb hl8
      go_wp2_with fail
      go_roundg g'
      case rel => exact ⟨q + 1, g3, by have := HQ.out; omega, rfl, by have := HP.out; congr 1; omega, hK3, HB3.out, HL3.out⟩
      case measure => omega
    · obtain rfl : q = m / 64 := by omega
      obtain rfl : gk = 0 := by omega
      have hp : 64 * (m / 64) = m := by have := HF64.out; omega
      rw [hp]
      obtain ⟨ST, hST⟩ : ∃ ST, ST = stL F beginL (m / 64) := ⟨_, rfl⟩
      have hfin : sumF s = ⟨(ST.flatMap w4).toArray⟩ := by rw [HSUM.out, ← HM.out, hST]
      rw [← hST] at hb hl8
      have HFIN := Lib.hid hfin
      have hKw : Kp [] w wr := hK.trans hKr
      have hO : wr.ownsRow wr.heap.size 5 1 (.slice none 0 0) (4 * 0) (Lib.byteCells ((ST.take 0).flatMap w4)) := World.ownsRow_nil _ _ _ _
      have hcS : ∀ W, Kp [] wr W → ∀ n, n < 8 → W.cell? ⟨gs, n, none⟩ = some (.int .u32 (ST.getD n 0)) := fun W k n hn => by
        refine Kp.cellAt (X := []) (uV_cell' hb n _ ?_) (by simp) W k
        rw [List.getD_eq_getElem?_getD, List.getElem?_eq_getElem (by omega)]; rfl
      have HCS := Lib.hid hcS
      have hK0 := Kp.refl [] wr
      obtain ⟨we, hwe⟩ : ∃ we, we = wr := ⟨_, rfl⟩
      rw [← hwe] at hO hKw HCS hK0 ⊢
      clear hq hp hST hfin hcS hb hwe
      go_wp2_with fail
      go_loopg [6, 7] 8 (fun g' o i wr => ∃ (n : Nat) (av : Option Addr) (cv : Nat), n + g' = 8 ∧ o = .slice av (4 * n) cv ∧ i = .int .i64 n ∧ Kp [] we wr ∧ wr.ownsRow we.heap.size 5 1 (.slice av (4 * n) cv) (4 * n) (Lib.byteCells ((ST.take n).flatMap w4)))
      case atStart => exact ⟨0, none, 0, rfl, rfl, rfl, hK0, hO⟩
      case round =>
        clear hK0 hO
        obtain ⟨n, av, cv, hn, rfl, rfl, hKs, hO⟩ := hrel
        have HN := Lib.hid hn
        by_cases hlt : n < 8
        · obtain ⟨g', rfl⟩ : ∃ g', gk = g' + 1 := ⟨gk - 1, by omega⟩
          clear hn
          have hltI : (n : Int) < 8 := by omega
          have ps := fun W (k : Kp [] wr W) => HCS.out W (hKs.trans k) n hlt
          obtain ⟨x, hx⟩ : ∃ x, x = ST.getD n 0 := ⟨_, rfl⟩
          have hnx : Lib.byteCells ((ST.take n).flatMap w4) ++ [Value.int .u8 (x / 16777216 % 256), .int .u8 (x / 65536 % 256), .int .u8 (x / 256 % 256), .int .u8 (x % 256)] = Lib.byteCells ((ST.take (n + 1)).flatMap w4) := by
            rw [bytes_w4, List.take_add_one, List.getElem?_eq_getElem (by omega), hx, List.getD_eq_getElem?_getD, List.getElem?_eq_getElem (by omega)]
            rfl
          rw [← hx] at ps
          obtain ⟨OWN, hOWN⟩ : ∃ OWN, OWN = (Value.slice av (4 * n) cv).ownBlock.toList := ⟨_, rfl⟩
          obtain ⟨n4, hn4⟩ : ∃ n4, n4 = 4 * n := ⟨_, rfl⟩
          have h32 : n4 ≤ 32 := by omega
          have hge := own_block_ge hO
          have hBs : we.heap.size ≤ wr.heap.size := hKs.size
          rw [← hn4] at hO hOWN hge ⊢
          have HOWN := Lib.hid hOWN
          have HNX := Lib.hid hnx
          have HN4 := Lib.hid hn4
          clear hx hnx hOWN hn4
          go_wp2_with fail
          refine wpB_begin 25 (Kp [] wr) (by kernel_rfl) (by exact (Kp.refl _ _).drew) (fun hHeld => ?_)
          refine wpB_take 0 _ ?_ rfl (by kernel_rfl) (fun _ _ _ h => h) rfl hHeld ?_ ?_
          rotate_left
          · (intro W hW; go_simp; try with_reducible rfl)
          try simp only [Act.put, List.setIfInBounds_toArray, List.set_cons_zero, List.set_cons_succ]
          refine wpB_take 1 _ ?_ rfl (by kernel_rfl) (fun _ _ _ h => h) rfl hHeld ?_ ?_
          rotate_left
          · (intro W hW; go_simp; try with_reducible rfl)
          try simp only [Act.put, List.setIfInBounds_toArray, List.set_cons_zero, List.set_cons_succ]
          refine wpB_take 2 _ ?_ rfl (by kernel_rfl) (fun _ _ _ h => h) rfl hHeld ?_ ?_
          rotate_left
          · (intro W hW; go_simp; try with_reducible rfl)
          try simp only [Act.put, List.setIfInBounds_toArray, List.set_cons_zero, List.set_cons_succ]
          refine wpB_take 3 _ ?_ rfl (by kernel_rfl) (fun _ _ _ h => h) rfl hHeld ?_ ?_
          rotate_left
          · (intro W hW; go_simp; try with_reducible rfl)
          try simp only [Act.put, List.setIfInBounds_toArray, List.set_cons_zero, List.set_cons_succ]
          refine wpB_take 4 _ ?_ rfl (by kernel_rfl) (fun _ _ _ h => h) rfl hHeld ?_ ?_
          rotate_left
          · (intro W hW; go_simp; try with_reducible rfl)
          try simp only [Act.put, List.setIfInBounds_toArray, List.set_cons_zero, List.set_cons_succ]
          refine wpB_take 5 _ ?_ rfl (by kernel_rfl) (fun _ _ _ h => h) rfl hHeld ?_ ?_
          rotate_left
          · (intro W hW; go_simp; try with_reducible rfl)
          try simp only [Act.put, List.setIfInBounds_toArray, List.set_cons_zero, List.set_cons_succ]
          refine wpB_take 6 _ ?_ rfl (by kernel_rfl) (fun _ _ _ h => h) rfl hHeld ?_ ?_
          rotate_left
          · (intro W hW; go_simp; try with_reducible rfl)
          try simp only [Act.put, List.setIfInBounds_toArray, List.set_cons_zero, List.set_cons_succ]
          refine wpB_take 7 _ ?_ rfl (by kernel_rfl) (fun _ _ _ h => h) rfl hHeld ?_ ?_
          rotate_left
          · (intro W hW; go_simp; try with_reducible rfl)
          try simp only [Act.put, List.setIfInBounds_toArray, List.set_cons_zero, List.set_cons_succ]
          refine wpB_take 8 _ ?_ rfl (by kernel_rfl) (fun _ _ _ h => h) rfl hHeld ?_ ?_
          rotate_left
          · (intro W hW; go_simp; try with_reducible rfl)
          try simp only [Act.put, List.setIfInBounds_toArray, List.set_cons_zero, List.set_cons_succ]
          refine wpB_take 9 _ ?_ rfl (by kernel_rfl) (fun _ _ _ h => h) rfl hHeld ?_ ?_
          rotate_left
          · (intro W hW; go_simp; try with_reducible rfl)
          try simp only [Act.put, List.setIfInBounds_toArray, List.set_cons_zero, List.set_cons_succ]
          refine wpB_take 10 _ ?_ rfl (by kernel_rfl) (fun _ _ _ h => h) rfl hHeld ?_ ?_
          rotate_left
          · (intro W hW; go_simp; try with_reducible rfl)
          try simp only [Act.put, List.setIfInBounds_toArray, List.set_cons_zero, List.set_cons_succ]
          refine wpB_take 11 _ ?_ rfl (by kernel_rfl) (fun _ _ _ h => h) rfl hHeld ?_ ?_
          rotate_left
          · (intro W hW; go_simp; try with_reducible rfl)
          try simp only [Act.put, List.setIfInBounds_toArray, List.set_cons_zero, List.set_cons_succ]
          refine wpB_take 12 _ ?_ rfl (by kernel_rfl) (fun _ _ _ h => h) rfl hHeld ?_ ?_
          rotate_left
          · (intro W hW; go_simp; try with_reducible rfl)
          try simp only [Act.put, List.setIfInBounds_toArray, List.set_cons_zero, List.set_cons_succ]
          refine wpB_take 13 _ ?_ rfl (by kernel_rfl) (fun _ _ _ h => h) rfl hHeld ?_ ?_
          rotate_left
          · (intro W hW; go_simp; try with_reducible rfl)
          try simp only [Act.put, List.setIfInBounds_toArray, List.set_cons_zero, List.set_cons_succ]
          refine wpB_take 14 _ ?_ rfl (by kernel_rfl) (fun _ _ _ h => h) rfl hHeld ?_ ?_
          rotate_left
          · (intro W hW; go_simp; try with_reducible rfl)
          try simp only [Act.put, List.setIfInBounds_toArray, List.set_cons_zero, List.set_cons_succ]
          refine wpB_take 15 _ ?_ rfl (by kernel_rfl) (fun _ _ _ h => h) rfl hHeld ?_ ?_
          rotate_left
          · (intro W hW; go_simp; try with_reducible rfl)
          try simp only [Act.put, List.setIfInBounds_toArray, List.set_cons_zero, List.set_cons_succ]
          refine wpB_take 16 _ ?_ rfl (by kernel_rfl) (fun _ _ _ h => h) rfl hHeld ?_ ?_
          rotate_left
          · (intro W hW; go_simp; try with_reducible rfl)
          try simp only [Act.put, List.setIfInBounds_toArray, List.set_cons_zero, List.set_cons_succ]
          refine wpB_take 17 _ ?_ rfl (by kernel_rfl) (fun _ _ _ h => h) rfl hHeld ?_ ?_
          rotate_left
          · (intro W hW; go_simp; try with_reducible rfl)
          try simp only [Act.put, List.setIfInBounds_toArray, List.set_cons_zero, List.set_cons_succ]
          refine wpB_take 18 _ ?_ rfl (by kernel_rfl) (fun _ _ _ h => h) rfl hHeld ?_ ?_
          rotate_left
          · (intro W hW; go_simp; try with_reducible rfl)
          try simp only [Act.put, List.setIfInBounds_toArray, List.set_cons_zero, List.set_cons_succ]
          refine wpB_take 19 _ ?_ rfl (by kernel_rfl) (fun _ _ _ h => h) rfl hHeld ?_ ?_
          rotate_left
          · (intro W hW; go_simp; try with_reducible rfl)
          try simp only [Act.put, List.setIfInBounds_toArray, List.set_cons_zero, List.set_cons_succ]
          refine wpB_take 20 _ ?_ rfl (by kernel_rfl) (fun _ _ _ h => h) rfl hHeld ?_ ?_
          rotate_left
          · (intro W hW; go_simp; try with_reducible rfl)
          try simp only [Act.put, List.setIfInBounds_toArray, List.set_cons_zero, List.set_cons_succ]
          refine wpB_take 21 _ ?_ rfl (by kernel_rfl) (fun _ _ _ h => h) rfl hHeld ?_ ?_
          rotate_left
          · (intro W hW; go_simp; try with_reducible rfl)
          try simp only [Act.put, List.setIfInBounds_toArray, List.set_cons_zero, List.set_cons_succ]
          refine wpB_take 22 _ ?_ rfl (by kernel_rfl) (fun _ _ _ h => h) rfl hHeld ?_ ?_
          rotate_left
          · (intro W hW; go_simp; try with_reducible rfl)
          try simp only [Act.put, List.setIfInBounds_toArray, List.set_cons_zero, List.set_cons_succ]
          refine wpB_take 23 _ ?_ rfl (by kernel_rfl) (fun _ _ _ h => h) rfl hHeld ?_ ?_
          rotate_left
          · (intro W hW; go_simp; try with_reducible rfl)
          try simp only [Act.put, List.setIfInBounds_toArray, List.set_cons_zero, List.set_cons_succ]
          refine wpB_step 24 _ rfl (by kernel_rfl) rfl rfl (fun K hK_ => ?_)
          go_simp
          refine hK_.out _ _ (by first | exact hHeld | exact hHeld.call ‹_› | exact hHeld.alloc _) (fun hHeld => ?_)
          clear hK_ K
          try simp only [Act.put, List.setIfInBounds_toArray, List.set_cons_zero, List.set_cons_succ]
          refine wpB_bar (Kp OWN wr) 999 _ rfl (by kernel_rfl) rfl (fun K hK_ => ?_)
          refine wp_append_mine _ (.tmp 28) (.tmp 52) 60 rfl we.heap.size 5 i0 (.int .u8 0) 1 1 Tryd.underlying60 hi hz0 hz1 hz2 rfl (by decide) (.slice av n4 cv) n4 (Lib.byteCells ((ST.take n).flatMap w4)) rfl (owns_other hO hHeld (fun _ _ => by simp)) ⟨_, 0, none⟩ 4 4 [.int .u8 (x / 16777216 % 256), .int .u8 (x / 65536 % 256), .int .u8 (x / 256 % 256), .int .u8 (x % 256)] rfl rfl (new_cells _ _ _) (one_four _ _ _ _) (by unfold maxLen; omega) (by omega) (by have := hHeld.size; omega) ?_
          intro v' w7 hown' hkp _ _
          refine hK_.out _ _ (by exact (hHeld.weaken (fun _ _ h => by cases h)).trans (HOWN.out ▸ hkp)) (fun hHeld => ?_)
          clear hK_ K
          try simp only [Act.put, List.setIfInBounds_toArray, List.set_cons_zero, List.set_cons_succ]
          refine wpB_take 26 _ ?_ rfl (by kernel_rfl) (fun _ _ _ h => h) rfl hHeld ?_ ?_
          rotate_left
          · (intro W hW; go_simp; try with_reducible rfl)
          try simp only [Act.put, List.setIfInBounds_toArray, List.set_cons_zero, List.set_cons_succ]
          refine wpB_done (by kernel_rfl) ?_ _
          obtain ⟨a7, c7, rfl⟩ := ownsRow_ex hown'
          have hK7 : Kp [] we w7 := hKs.step hHeld (fun i hi hm => by
            rw [HOWN.out, Option.mem_toList] at hm
            have := hge i hm
            omega)
          rw [HNX.out] at hown'
          have HO7 := Lib.hid hown'
          clear hHeld hown' hkp ps
          go_wp2_with fail
          go_roundg g'
          case rel => exact ⟨n + 1, a7, c7, by have := HN.out; omega, by have := HN4.out; congr 1; omega, by go_num, hK7, by have := HO7.out; rw [HN4.out] at this; exact this⟩
          case measure => omega
        · obtain rfl : n = 8 := by omega
          obtain rfl : gk = 0 := by omega
          clear hn
          rw [List.take_of_length_le (by omega)] at hO
          obtain ⟨L, hL⟩ : ∃ L, L = ST.flatMap w4 := ⟨_, rfl⟩
          have hLl : L.length = 32 := by rw [hL, w4_len, hl8]
          rw [← hL] at hO
          have hO' : wr.ownsRow we.heap.size 5 1 (.slice av 32 cv) 32 (Lib.byteCells L) := hO
          obtain ⟨g, o, rfl, -, -, -, hcl⟩ := (SliceAt.of_owns hO').cells (by decide)
          have hcv := run_convert_bytes_back (P := Tryd.prog) wr 60 9 5 ⟨g, o, none⟩ cv L Tryd.underlying60 Tryd.underlying5 Tryd.underlying9 (fun j hj => by
            rw [Addr.add_mid]
            refine hcl j _ ?_
            rw [Lib.byteCells, List.getElem?_map, List.getElem?_eq_getElem hj]; rfl)
          rw [hLl] at hcv
          have hKf : Kp [] w wr := hKw.trans hKs
          have HL := Lib.hid hL
          clear hL hLl hO hO' hcl
          go_wp2_with fail
          go_ret
          exact ⟨by rw [HFIN.out, ← HL.out]; rfl, hKf⟩
end Go.Proofs.YtlomniffpjndfaaDoor
