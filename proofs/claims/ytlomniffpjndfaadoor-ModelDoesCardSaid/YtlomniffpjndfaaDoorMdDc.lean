/-
  The document's digest: the words of a block.
-/
import Derived.Test.YtlomniffpjndfaaDoorP7
namespace Go.Proofs.YtlomniffpjndfaaDoor
open Go.RowKit Go.WideShapes

theorem Tryd.info82' : (Tryd.prog.info? 82).map (fun i => (i.zero, i.size, i.bytes)) = some (some (.int .u32 0), 1, 4) := by kernel_rfl
theorem Tryd.underlying83' : Tryd.prog.underlying 83 = some (.slice 82) := by kernel_rfl
theorem one_u32 (y : Int) : ∀ u, u ∈ [Value.int .u32 y] → u.oneCell' = true := by
  intro u hu
  simp only [List.mem_singleton] at hu
  subst hu; rfl
abbrev uL (l : List Int) : List Value := l.map (Value.int .u32)
theorem sched_next (b : ByteArray) (n : Nat) (y : Int) (h : y = if n < 16 then part b n 4 else schedN (sched b n) n) : uL (sched b (n + 1)) = uL (sched b n) ++ [.int .u32 y] := by
  rw [uL, sched, List.map_append, ← h]; rfl
theorem uL_cell {W : World} {g o : Nat} {l : List Int} (h : ∀ j u, (uL l)[j]? = some u → W.cell? ⟨g, o + j, none⟩ = some u) (i : Nat) (hi : i < l.length) : W.cell? ⟨g, o + i, none⟩ = some (.int .u32 (l.getD i 0)) :=
  h i _ (by rw [uL, List.getElem?_map, List.getElem?_eq_getElem hi, List.getD_eq_getElem?_getD, List.getElem?_eq_getElem hi]; rfl)
theorem sched_sum (a b c d : Int) : IntKind.u32.wrap (IntKind.u32.wrap (IntKind.u32.wrap (a + b) + c) + d) = IntKind.u32.wrap (IntKind.u32.wrap (IntKind.u32.wrap (a + c) + b) + d) := by
  simp only [wrap32]; omega
set_option maxHeartbeats 8000000 in
set_option maxRecDepth 20000 in
theorem rwords (b : ByteArray) (gb ob cap : Nat) (w : World) (hcell : ∀ j, j < 64 → w.cell? ⟨gb, ob + j, none⟩ = some (.int .u8 (byteI b j))) :
    Calls Tryd.prog 64 #[.slice (some ⟨gb, ob, none⟩) 64 cap] w fun e w' => ∃ av cv, e = .returned (.slice av 64 cv) ∧ w'.ownsRow w.heap.size 82 1 (.slice av 64 cv) 64 (uL (sched b 64)) ∧ Kp [] w w' := by
  obtain ⟨j0, hj, hy0, hy1, hy2⟩ := info_parts Tryd.info82'
  have hK := Kp.refl [] w
  have hO : w.ownsRow w.heap.size 82 1 (.slice none 0 0) 0 (uL (sched b 0)) := ⟨rfl, .inl ⟨rfl, rfl⟩⟩
  go_enter Tryd.func64, Tryd.ntmps64
  go_wp2_with fail
  go_loopg [3, 4] 16 (fun g o i wr => ∃ (n : Nat) (av : Option Addr) (cv : Nat), n + g = 16 ∧ o = .slice av n cv ∧ i = .int .i64 n ∧ Kp [] w wr ∧ wr.ownsRow w.heap.size 82 1 (.slice av n cv) n (uL (sched b n)))
  case atStart => exact ⟨0, none, 0, rfl, rfl, rfl, hK, hO⟩
  case round =>
    clear hK hO
    obtain ⟨n, av, cv, hn, rfl, rfl, hK, hO⟩ := hrel
    have HN := Lib.hid hn
    have hBs := hK.size
    by_cases hlt : n < 16
    · obtain ⟨g', rfl⟩ : ∃ g', gk = g' + 1 := ⟨gk - 1, by omega⟩
      clear hn
      have hltI : (n : Int) < 16 := by omega
      have hc := fun j hj' => Kp.cellAt (X := []) (hcell j hj') (by simp)
      have c0 := fun W (k : Kp [] wr W) => hc (4 * n) (by omega) W (hK.trans k)
      have c1 := fun W (k : Kp [] wr W) => hc (4 * n + 1) (by omega) W (hK.trans k)
      have c2 := fun W (k : Kp [] wr W) => hc (4 * n + 2) (by omega) W (hK.trans k)
      have c3 := fun W (k : Kp [] wr W) => hc (4 * n + 3) (by omega) W (hK.trans k)
      have hpe := part_eq b n
      have b0 := byte_wrap b (4 * n)
      have b1 := byte_wrap b (4 * n + 1)
      have b2 := byte_wrap b (4 * n + 2)
      have b3 := byte_wrap b (4 * n + 3)
      obtain ⟨B0, hB0⟩ : ∃ x, x = byteI b (4 * n) := ⟨_, rfl⟩
      obtain ⟨B1, hB1⟩ : ∃ x, x = byteI b (4 * n + 1) := ⟨_, rfl⟩
      obtain ⟨B2, hB2⟩ : ∃ x, x = byteI b (4 * n + 2) := ⟨_, rfl⟩
      obtain ⟨B3, hB3⟩ : ∃ x, x = byteI b (4 * n + 3) := ⟨_, rfl⟩
      rw [← hB0] at c0 hpe b0
      rw [← hB1] at c1 hpe b1
      rw [← hB2] at c2 hpe b2
      rw [← hB3] at c3 hpe b3
      have w0 := wrap_id (4 * (n : Int)) (by omega) (by omega)
      have w1 := wrap_id (4 * (n : Int) + 1) (by omega) (by omega)
      have w2 := wrap_id (4 * (n : Int) + 2) (by omega) (by omega)
      have w3 := wrap_id (4 * (n : Int) + 3) (by omega) (by omega)
      have t0 : (4 * (n : Int)).toNat = 4 * n := by omega
      have t1 : (4 * (n : Int) + 1).toNat = 4 * n + 1 := by omega
      have t2 : (4 * (n : Int) + 2).toNat = 4 * n + 2 := by omega
      have t3 : (4 * (n : Int) + 3).toNat = 4 * n + 3 := by omega
      have i0 : 0 ≤ 4 * (n : Int) ∧ 4 * (n : Int) < 64 := by omega
      have i1 : 0 ≤ 4 * (n : Int) + 1 ∧ 4 * (n : Int) + 1 < 64 := by omega
      have i2 : 0 ≤ 4 * (n : Int) + 2 ∧ 4 * (n : Int) + 2 < 64 := by omega
      have i3 : 0 ≤ 4 * (n : Int) + 3 ∧ 4 * (n : Int) + 3 < 64 := by omega
      obtain ⟨OWN, hOWN⟩ : ∃ OWN, OWN = (Value.slice av n cv).ownBlock.toList := ⟨_, rfl⟩
      have HOWN := Lib.hid hOWN
      have HPE := Lib.hid hpe
      clear hc hB0 hB1 hB2 hB3 hpe hOWN
      go_wp2_with fail
      refine wpB_begin 35 (Kp [] wr) (by kernel_rfl) (by exact (Kp.refl _ _).drew) (fun hHeld => ?_)
      refine wpB_take 0 _ ?_ rfl (by kernel_rfl) (fun _ _ _ h => h) rfl hHeld ?_ ?_
      rotate_left
      · (intro W hW; go_simp; try with_reducible rfl)
      try simp only [Act.put, List.setIfInBounds_toArray, List.set_cons_zero, List.set_cons_succ]
      refine wpB_take 1 _ ?_ rfl (by kernel_rfl) (fun _ _ _ h => h) rfl hHeld ?_ ?_
      rotate_left
      · (intro W hW; go_simp; try with_reducible rfl)
      try simp only [Act.put, List.setIfInBounds_toArray, List.set_cons_zero, List.set_cons_succ]
      refine wpB_take 2 _ ?_ rfl (by kernel_rfl) (fun _ _ _ h => h) rfl hHeld ?_ ?_
      rotate_left
      · (intro W hW; go_simp; try with_reducible rfl)
      try simp only [Act.put, List.setIfInBounds_toArray, List.set_cons_zero, List.set_cons_succ]
      refine wpB_take 3 _ ?_ rfl (by kernel_rfl) (fun _ _ _ h => h) rfl hHeld ?_ ?_
      rotate_left
      · (intro W hW; go_simp; try with_reducible rfl)
      try simp only [Act.put, List.setIfInBounds_toArray, List.set_cons_zero, List.set_cons_succ]
      refine wpB_take 4 _ ?_ rfl (by kernel_rfl) (fun _ _ _ h => h) rfl hHeld ?_ ?_
      rotate_left
      · (intro W hW; go_simp; try with_reducible rfl)
      try simp only [Act.put, List.setIfInBounds_toArray, List.set_cons_zero, List.set_cons_succ]
      refine wpB_take 5 _ ?_ rfl (by kernel_rfl) (fun _ _ _ h => h) rfl hHeld ?_ ?_
      rotate_left
      · (intro W hW; go_simp; try with_reducible rfl)
      try simp only [Act.put, List.setIfInBounds_toArray, List.set_cons_zero, List.set_cons_succ]
      refine wpB_take 6 _ ?_ rfl (by kernel_rfl) (fun _ _ _ h => h) rfl hHeld ?_ ?_
      rotate_left
      · (intro W hW; go_simp; try with_reducible rfl)
      try simp only [Act.put, List.setIfInBounds_toArray, List.set_cons_zero, List.set_cons_succ]
      refine wpB_take 7 _ ?_ rfl (by kernel_rfl) (fun _ _ _ h => h) rfl hHeld ?_ ?_
      rotate_left
      · (intro W hW; go_simp; try with_reducible rfl)
      try simp only [Act.put, List.setIfInBounds_toArray, List.set_cons_zero, List.set_cons_succ]
      refine wpB_take 8 _ ?_ rfl (by kernel_rfl) (fun _ _ _ h => h) rfl hHeld ?_ ?_
      rotate_left
      · (intro W hW; go_simp; try with_reducible rfl)
      try simp only [Act.put, List.setIfInBounds_toArray, List.set_cons_zero, List.set_cons_succ]
      refine wpB_take 9 _ ?_ rfl (by kernel_rfl) (fun _ _ _ h => h) rfl hHeld ?_ ?_
      rotate_left
      · (intro W hW; go_simp; try with_reducible rfl)
      try simp only [Act.put, List.setIfInBounds_toArray, List.set_cons_zero, List.set_cons_succ]
      refine wpB_take 10 _ ?_ rfl (by kernel_rfl) (fun _ _ _ h => h) rfl hHeld ?_ ?_
      rotate_left
      · (intro W hW; go_simp; try with_reducible rfl)
      try simp only [Act.put, List.setIfInBounds_toArray, List.set_cons_zero, List.set_cons_succ]
      refine wpB_take 11 _ ?_ rfl (by kernel_rfl) (fun _ _ _ h => h) rfl hHeld ?_ ?_
      rotate_left
      · (intro W hW; go_simp; try with_reducible rfl)
      try simp only [Act.put, List.setIfInBounds_toArray, List.set_cons_zero, List.set_cons_succ]
      refine wpB_take 12 _ ?_ rfl (by kernel_rfl) (fun _ _ _ h => h) rfl hHeld ?_ ?_
      rotate_left
      · (intro W hW; go_simp; try with_reducible rfl)
      try simp only [Act.put, List.setIfInBounds_toArray, List.set_cons_zero, List.set_cons_succ]
      refine wpB_take 13 _ ?_ rfl (by kernel_rfl) (fun _ _ _ h => h) rfl hHeld ?_ ?_
      rotate_left
      · (intro W hW; go_simp; try with_reducible rfl)
      try simp only [Act.put, List.setIfInBounds_toArray, List.set_cons_zero, List.set_cons_succ]
      refine wpB_take 14 _ ?_ rfl (by kernel_rfl) (fun _ _ _ h => h) rfl hHeld ?_ ?_
      rotate_left
      · (intro W hW; go_simp; try with_reducible rfl)
      try simp only [Act.put, List.setIfInBounds_toArray, List.set_cons_zero, List.set_cons_succ]
      refine wpB_take 15 _ ?_ rfl (by kernel_rfl) (fun _ _ _ h => h) rfl hHeld ?_ ?_
      rotate_left
      · (intro W hW; go_simp; try with_reducible rfl)
      try simp only [Act.put, List.setIfInBounds_toArray, List.set_cons_zero, List.set_cons_succ]
      refine wpB_take 16 _ ?_ rfl (by kernel_rfl) (fun _ _ _ h => h) rfl hHeld ?_ ?_
      rotate_left
      · (intro W hW; go_simp; try with_reducible rfl)
      try simp only [Act.put, List.setIfInBounds_toArray, List.set_cons_zero, List.set_cons_succ]
      refine wpB_take 17 _ ?_ rfl (by kernel_rfl) (fun _ _ _ h => h) rfl hHeld ?_ ?_
      rotate_left
      · (intro W hW; go_simp; try with_reducible rfl)
      try simp only [Act.put, List.setIfInBounds_toArray, List.set_cons_zero, List.set_cons_succ]
      refine wpB_take 18 _ ?_ rfl (by kernel_rfl) (fun _ _ _ h => h) rfl hHeld ?_ ?_
      rotate_left
      · (intro W hW; go_simp; try with_reducible rfl)
      try simp only [Act.put, List.setIfInBounds_toArray, List.set_cons_zero, List.set_cons_succ]
      refine wpB_take 19 _ ?_ rfl (by kernel_rfl) (fun _ _ _ h => h) rfl hHeld ?_ ?_
      rotate_left
      · (intro W hW; go_simp; try with_reducible rfl)
      try simp only [Act.put, List.setIfInBounds_toArray, List.set_cons_zero, List.set_cons_succ]
      refine wpB_take 20 _ ?_ rfl (by kernel_rfl) (fun _ _ _ h => h) rfl hHeld ?_ ?_
      rotate_left
      · (intro W hW; go_simp; try with_reducible rfl)
      try simp only [Act.put, List.setIfInBounds_toArray, List.set_cons_zero, List.set_cons_succ]
      refine wpB_take 21 _ ?_ rfl (by kernel_rfl) (fun _ _ _ h => h) rfl hHeld ?_ ?_
      rotate_left
      · (intro W hW; go_simp; try with_reducible rfl)
      try simp only [Act.put, List.setIfInBounds_toArray, List.set_cons_zero, List.set_cons_succ]
      refine wpB_take 22 _ ?_ rfl (by kernel_rfl) (fun _ _ _ h => h) rfl hHeld ?_ ?_
      rotate_left
      · (intro W hW; go_simp; try with_reducible rfl)
      try simp only [Act.put, List.setIfInBounds_toArray, List.set_cons_zero, List.set_cons_succ]
      refine wpB_take 23 _ ?_ rfl (by kernel_rfl) (fun _ _ _ h => h) rfl hHeld ?_ ?_
      rotate_left
      · (intro W hW; go_simp; try with_reducible rfl)
      try simp only [Act.put, List.setIfInBounds_toArray, List.set_cons_zero, List.set_cons_succ]
      refine wpB_take 24 _ ?_ rfl (by kernel_rfl) (fun _ _ _ h => h) rfl hHeld ?_ ?_
      rotate_left
      · (intro W hW; go_simp; try with_reducible rfl)
      try simp only [Act.put, List.setIfInBounds_toArray, List.set_cons_zero, List.set_cons_succ]
      refine wpB_take 25 _ ?_ rfl (by kernel_rfl) (fun _ _ _ h => h) rfl hHeld ?_ ?_
      rotate_left
      · (intro W hW; go_simp; try with_reducible rfl)
      try simp only [Act.put, List.setIfInBounds_toArray, List.set_cons_zero, List.set_cons_succ]
      refine wpB_take 26 _ ?_ rfl (by kernel_rfl) (fun _ _ _ h => h) rfl hHeld ?_ ?_
      rotate_left
      · (intro W hW; go_simp; try with_reducible rfl)
      try simp only [Act.put, List.setIfInBounds_toArray, List.set_cons_zero, List.set_cons_succ]
      refine wpB_take 27 _ ?_ rfl (by kernel_rfl) (fun _ _ _ h => h) rfl hHeld ?_ ?_
      rotate_left
      · (intro W hW; go_simp; try with_reducible rfl)
      try simp only [Act.put, List.setIfInBounds_toArray, List.set_cons_zero, List.set_cons_succ]
      refine wpB_take 28 _ ?_ rfl (by kernel_rfl) (fun _ _ _ h => h) rfl hHeld ?_ ?_
      rotate_left
      · (intro W hW; go_simp; try with_reducible rfl)
      try simp only [Act.put, List.setIfInBounds_toArray, List.set_cons_zero, List.set_cons_succ]
      refine wpB_take 29 _ ?_ rfl (by kernel_rfl) (fun _ _ _ h => h) rfl hHeld ?_ ?_
      rotate_left
      · (intro W hW; go_simp; try with_reducible rfl)
      try simp only [Act.put, List.setIfInBounds_toArray, List.set_cons_zero, List.set_cons_succ]
      refine wpB_take 30 _ ?_ rfl (by kernel_rfl) (fun _ _ _ h => h) rfl hHeld ?_ ?_
      rotate_left
      · (intro W hW; go_simp; try with_reducible rfl)
      try simp only [Act.put, List.setIfInBounds_toArray, List.set_cons_zero, List.set_cons_succ]
      refine wpB_take 31 _ ?_ rfl (by kernel_rfl) (fun _ _ _ h => h) rfl hHeld ?_ ?_
      rotate_left
      · (intro W hW; go_simp; try with_reducible rfl)
      try simp only [Act.put, List.setIfInBounds_toArray, List.set_cons_zero, List.set_cons_succ]
      refine wpB_take 32 _ ?_ rfl (by kernel_rfl) (fun _ _ _ h => h) rfl hHeld ?_ ?_
      rotate_left
      · (intro W hW; go_simp; try with_reducible rfl)
      try simp only [Act.put, List.setIfInBounds_toArray, List.set_cons_zero, List.set_cons_succ]
      refine wpB_take 33 _ ?_ rfl (by kernel_rfl) (fun _ _ _ h => h) rfl hHeld ?_ ?_
      rotate_left
      · (intro W hW; go_simp; try with_reducible rfl)
      try simp only [Act.put, List.setIfInBounds_toArray, List.set_cons_zero, List.set_cons_succ]
      refine wpB_step 34 _ rfl (by kernel_rfl) rfl rfl (fun K hK_ => ?_)
      go_simp
      refine hK_.out _ _ (by first | exact hHeld | exact hHeld.call ‹_› | exact hHeld.alloc _) (fun hHeld => ?_)
      clear hK_ K
      try simp only [Act.put, List.setIfInBounds_toArray, List.set_cons_zero, List.set_cons_succ]
      refine wpB_bar (Kp OWN wr) 999 _ rfl (by kernel_rfl) rfl (fun K hK_ => ?_)
      refine wp_append_mine _ (.tmp 12) (.tmp 46) 83 rfl w.heap.size 82 j0 (.int .u32 0) 1 4 Tryd.underlying83' hj hy0 hy1 hy2 rfl (by decide) (.slice av n cv) n (uL (sched b n)) rfl (owns_other hO hHeld (fun _ _ => by simp)) ⟨wr.heap.size, 0, none⟩ 1 1 [.int .u32 _] rfl rfl (new_cells wr _ _) (one_u32 _) (by unfold maxLen; omega) (by omega) (by have := hHeld.size; omega) ?_
      intro v' w7 hown' hkp _ _
      refine hK_.out _ _ (by exact (hHeld.weaken (fun _ _ h => by cases h)).trans (HOWN.out ▸ hkp)) (fun hHeld => ?_)
      clear hK_ K
      try simp only [Act.put, List.setIfInBounds_toArray, List.set_cons_zero, List.set_cons_succ]
      refine wpB_take 36 _ ?_ rfl (by kernel_rfl) (fun _ _ _ h => h) rfl hHeld ?_ ?_
      rotate_left
      · (intro W hW; go_simp; try with_reducible rfl)
      try simp only [Act.put, List.setIfInBounds_toArray, List.set_cons_zero, List.set_cons_succ]
      refine wpB_done (by kernel_rfl) ?_ _
      obtain ⟨a7, c7, rfl⟩ := ownsRow_ex hown'
      have hge := own_block_ge hO
      have hK7 : Kp [] w w7 := hK.step hHeld (fun i hi hm => by
        rw [HOWN.out, Option.mem_toList] at hm
        have := hge i hm
        omega)
      rw [HPE.out, ← sched_next b n _ (by rw [if_pos hlt])] at hown'
      have HO7 := Lib.hid hown'
      clear hHeld hown' hkp c0 c1 c2 c3
      go_wp2_with fail
      go_roundg g'
      case rel => exact ⟨n + 1, a7, c7, by have := HN.out; omega, rfl, by go_num, hK7, HO7.out⟩
      case measure => omega
    · obtain rfl : n = 16 := by omega
      obtain rfl : gk = 0 := by omega
      clear hn
      go_wp2_with fail
      go_loopg [3, 5] 48 (fun g o i wr => ∃ (n : Nat) (av : Option Addr) (cv : Nat), 16 ≤ n ∧ n + g = 64 ∧ o = .slice av n cv ∧ i = .int .i64 n ∧ Kp [] w wr ∧ wr.ownsRow w.heap.size 82 1 (.slice av n cv) n (uL (sched b n)))
      case atStart => exact ⟨16, av, cv, Nat.le_refl _, rfl, rfl, rfl, hK, hO⟩
      case round =>
        clear hK hO hBs
        obtain ⟨n, av, cv, hn16, hn, rfl, rfl, hK, hO⟩ := hrel
        have HN := Lib.hid hn
        have hBs := hK.size
        by_cases hlt : n < 64
        · obtain ⟨g', rfl⟩ : ∃ g', gk = g' + 1 := ⟨gk - 1, by omega⟩
          clear hn
          have hltI : (n : Int) < 64 := by omega
          have hsl := SliceAt.of_owns hO
          rw [show n = n from rfl] at hsl
          obtain ⟨g, o, rfl, -, -, -, hcell2⟩ := hsl.cells (by omega)
          have hlen := sched_len b n
          have hge := own_block_ge hO
          obtain ⟨OWN, hOWN⟩ : ∃ OWN, OWN = (Value.slice (some ⟨g, o, none⟩) n cv).ownBlock.toList := ⟨_, rfl⟩
          have HOWN := Lib.hid hOWN
          have a15 := wrap_id ((n : Int) - 15) (by omega) (by omega)
          have a2 := wrap_id ((n : Int) - 2) (by omega) (by omega)
          have a16 := wrap_id ((n : Int) - 16) (by omega) (by omega)
          have a7 := wrap_id ((n : Int) - 7) (by omega) (by omega)
          have g15 : (15 : Int) ≤ n := by omega
          have g2 : (2 : Int) ≤ n := by omega
          have g16 : (16 : Int) ≤ n := by omega
          have g7 : (7 : Int) ≤ n := by omega
          have i15 : ((n : Int) - 15).toNat = n - 15 := by omega
          have i2 : ((n : Int) - 2).toNat = n - 2 := by omega
          have i16 : ((n : Int) - 16).toNat = n - 16 := by omega
          have i7 : ((n : Int) - 7).toNat = n - 7 := by omega
          have b15 : 0 ≤ (n : Int) - 15 ∧ (n : Int) - 15 < (n : Int) := by omega
          have b2 : 0 ≤ (n : Int) - 2 ∧ (n : Int) - 2 < (n : Int) := by omega
          have b16 : 0 ≤ (n : Int) - 16 ∧ (n : Int) - 16 < (n : Int) := by omega
          have b7 : 0 ≤ (n : Int) - 7 ∧ (n : Int) - 7 < (n : Int) := by omega
          have c15 := Kp.cellAt (X := []) (uL_cell hcell2 (n - 15) (by omega)) (by simp)
          have c2 := Kp.cellAt (X := []) (uL_cell hcell2 (n - 2) (by omega)) (by simp)
          have c16 := Kp.cellAt (X := []) (uL_cell hcell2 (n - 16) (by omega)) (by simp)
          have c7 := Kp.cellAt (X := []) (uL_cell hcell2 (n - 7) (by omega)) (by simp)
          obtain ⟨x15, hx15⟩ : ∃ x, x = (sched b n).getD (n - 15) 0 := ⟨_, rfl⟩
          obtain ⟨x2, hx2⟩ : ∃ x, x = (sched b n).getD (n - 2) 0 := ⟨_, rfl⟩
          obtain ⟨x16, hx16⟩ : ∃ x, x = (sched b n).getD (n - 16) 0 := ⟨_, rfl⟩
          obtain ⟨x7, hx7⟩ : ∃ x, x = (sched b n).getD (n - 7) 0 := ⟨_, rfl⟩
          have hsN : IntKind.u32.wrap (IntKind.u32.wrap (IntKind.u32.wrap (x16 + sg0 x15) + x7) + sg1 x2) = schedN (sched b n) n := by rw [hx15, hx2, hx16, hx7, sched_sum]; rfl
          rw [← hx15] at c15
          rw [← hx2] at c2
          rw [← hx16] at c16
          rw [← hx7] at c7
          have HSN := Lib.hid hsN
          have hkr := Kp.refl [] wr
          have H16 := Lib.hid hn16
          clear hx15 hx2 hx16 hx7 hsN hlen hOWN hsl hcell2
          go_wp2_with fail
          refine wpB_begin 999 (Kp [] wr) (by kernel_rfl) (by exact hkr.drew) (fun hHeld => ?_)
          refine wpB_take 0 _ ?_ rfl (by kernel_rfl) (fun _ _ _ h => h) rfl hHeld ?_ ?_
          rotate_left
          · (intro W hW; go_simp; try with_reducible rfl)
          try simp only [Act.put, List.setIfInBounds_toArray, List.set_cons_zero, List.set_cons_succ]
          refine wpB_take 1 _ ?_ rfl (by kernel_rfl) (fun _ _ _ h => h) rfl hHeld ?_ ?_
          rotate_left
          · (intro W hW; go_simp; try with_reducible rfl)
          try simp only [Act.put, List.setIfInBounds_toArray, List.set_cons_zero, List.set_cons_succ]
          refine wpB_take 2 _ ?_ rfl (by kernel_rfl) (fun _ _ _ h => h) rfl hHeld ?_ ?_
          rotate_left
          · (intro W hW; go_simp; try with_reducible rfl)
          try simp only [Act.put, List.setIfInBounds_toArray, List.set_cons_zero, List.set_cons_succ]
          refine wpB_take 3 _ ?_ rfl (by kernel_rfl) (fun _ _ _ h => h) rfl hHeld ?_ ?_
          rotate_left
          · (intro W hW; go_simp; try with_reducible rfl)
          try simp only [Act.put, List.setIfInBounds_toArray, List.set_cons_zero, List.set_cons_succ]
          refine wpB_take 4 _ ?_ rfl (by kernel_rfl) (fun _ _ _ h => h) rfl hHeld ?_ ?_
          rotate_left
          · (intro W hW; go_simp; try with_reducible rfl)
          try simp only [Act.put, List.setIfInBounds_toArray, List.set_cons_zero, List.set_cons_succ]
          refine wpB_take 6 _ ?_ rfl (by kernel_rfl) (fun _ _ _ h => h) rfl hHeld ?_ ?_
          rotate_left
          · (intro W hW; go_simp; try with_reducible rfl)
          try simp only [Act.put, List.setIfInBounds_toArray, List.set_cons_zero, List.set_cons_succ]
          refine wpB_take 7 _ ?_ rfl (by kernel_rfl) (fun _ _ _ h => h) rfl hHeld ?_ ?_
          rotate_left
          · (intro W hW; go_simp; try with_reducible rfl)
          try simp only [Act.put, List.setIfInBounds_toArray, List.set_cons_zero, List.set_cons_succ]
          refine wpB_take 8 _ ?_ rfl (by kernel_rfl) (fun _ _ _ h => h) rfl hHeld ?_ ?_
          rotate_left
          · (intro W hW; go_simp; try with_reducible rfl)
          try simp only [Act.put, List.setIfInBounds_toArray, List.set_cons_zero, List.set_cons_succ]
          refine wpB_take 9 _ ?_ rfl (by kernel_rfl) (fun _ _ _ h => h) rfl hHeld ?_ ?_
          rotate_left
          · (intro W hW; go_simp; try with_reducible rfl)
          try simp only [Act.put, List.setIfInBounds_toArray, List.set_cons_zero, List.set_cons_succ]
          refine wpB_take 10 _ ?_ rfl (by kernel_rfl) (fun _ _ _ h => h) rfl hHeld ?_ ?_
          rotate_left
          · (intro W hW; go_simp; try with_reducible rfl)
          try simp only [Act.put, List.setIfInBounds_toArray, List.set_cons_zero, List.set_cons_succ]
          refine wpB_take 13 _ ?_ rfl (by kernel_rfl) (fun _ _ _ h => h) rfl hHeld ?_ ?_
          rotate_left
          · (intro W hW; go_simp; try with_reducible rfl)
          try simp only [Act.put, List.setIfInBounds_toArray, List.set_cons_zero, List.set_cons_succ]
          refine wpB_take 14 _ ?_ rfl (by kernel_rfl) (fun _ _ _ h => h) rfl hHeld ?_ ?_
          rotate_left
          · (intro W hW; go_simp; try with_reducible rfl)
          try simp only [Act.put, List.setIfInBounds_toArray, List.set_cons_zero, List.set_cons_succ]
          refine wpB_take 15 _ ?_ rfl (by kernel_rfl) (fun _ _ _ h => h) rfl hHeld ?_ ?_
          rotate_left
          · (intro W hW; go_simp; try with_reducible rfl)
          try simp only [Act.put, List.setIfInBounds_toArray, List.set_cons_zero, List.set_cons_succ]
          refine wpB_take 16 _ ?_ rfl (by kernel_rfl) (fun _ _ _ h => h) rfl hHeld ?_ ?_
          rotate_left
          · (intro W hW; go_simp; try with_reducible rfl)
          try simp only [Act.put, List.setIfInBounds_toArray, List.set_cons_zero, List.set_cons_succ]
          refine wpB_take 17 _ ?_ rfl (by kernel_rfl) (fun _ _ _ h => h) rfl hHeld ?_ ?_
          rotate_left
          · (intro W hW; go_simp; try with_reducible rfl)
          try simp only [Act.put, List.setIfInBounds_toArray, List.set_cons_zero, List.set_cons_succ]
          refine wpB_take 18 _ ?_ rfl (by kernel_rfl) (fun _ _ _ h => h) rfl hHeld ?_ ?_
          rotate_left
          · (intro W hW; go_simp; try with_reducible rfl)
          try simp only [Act.put, List.setIfInBounds_toArray, List.set_cons_zero, List.set_cons_succ]
          refine wpB_step 5 _ rfl (by kernel_rfl) rfl rfl (fun K hK_ => ?_)
          go_simp
          refine (rrot _ _ (by decide) (by decide) _).mono ?_
          rintro e wq ⟨rfl, kq⟩
          refine hK_.out _ _ (by exact hHeld.trans kq) (fun hHeld => ?_)
          clear hK_ K
          try simp only [Act.put, List.setIfInBounds_toArray, List.set_cons_zero, List.set_cons_succ]
          refine wpB_step 11 _ rfl (by kernel_rfl) rfl rfl (fun K hK_ => ?_)
          go_simp
          refine (rrot _ _ (by decide) (by decide) _).mono ?_
          rintro e wq ⟨rfl, kq⟩
          refine hK_.out _ _ (by exact hHeld.trans kq) (fun hHeld => ?_)
          clear hK_ K
          try simp only [Act.put, List.setIfInBounds_toArray, List.set_cons_zero, List.set_cons_succ]
          refine wpB_take 12 _ ?_ rfl (by kernel_rfl) (fun _ _ _ h => h) rfl hHeld ?_ ?_
          rotate_left
          · (intro W hW; go_simp; try with_reducible rfl)
          try simp only [Act.put, List.setIfInBounds_toArray, List.set_cons_zero, List.set_cons_succ]
          refine wpB_take 19 _ ?_ rfl (by kernel_rfl) (fun _ _ _ h => h) rfl hHeld ?_ ?_
          rotate_left
          · (intro W hW; go_simp; try with_reducible rfl)
          try simp only [Act.put, List.setIfInBounds_toArray, List.set_cons_zero, List.set_cons_succ]
          refine wpB_take 20 _ ?_ rfl (by kernel_rfl) (fun _ _ _ h => h) rfl hHeld ?_ ?_
          rotate_left
          · (intro W hW; go_simp; try with_reducible rfl)
          try simp only [Act.put, List.setIfInBounds_toArray, List.set_cons_zero, List.set_cons_succ]
          refine wpB_done (by kernel_rfl) ?_ _
          go_wp2_with fail
          refine wpB_begin 999 (Kp [] wr) (by kernel_rfl) (by exact hHeld.drew) (fun hHeld => ?_)
          refine wpB_take 0 _ ?_ rfl (by kernel_rfl) (fun _ _ _ h => h) rfl hHeld ?_ ?_
          rotate_left
          · (intro W hW; go_simp; try with_reducible rfl)
          try simp only [Act.put, List.setIfInBounds_toArray, List.set_cons_zero, List.set_cons_succ]
          refine wpB_take 1 _ ?_ rfl (by kernel_rfl) (fun _ _ _ h => h) rfl hHeld ?_ ?_
          rotate_left
          · (intro W hW; go_simp; try with_reducible rfl)
          try simp only [Act.put, List.setIfInBounds_toArray, List.set_cons_zero, List.set_cons_succ]
          refine wpB_take 2 _ ?_ rfl (by kernel_rfl) (fun _ _ _ h => h) rfl hHeld ?_ ?_
          rotate_left
          · (intro W hW; go_simp; try with_reducible rfl)
          try simp only [Act.put, List.setIfInBounds_toArray, List.set_cons_zero, List.set_cons_succ]
          refine wpB_take 3 _ ?_ rfl (by kernel_rfl) (fun _ _ _ h => h) rfl hHeld ?_ ?_
          rotate_left
          · (intro W hW; go_simp; try with_reducible rfl)
          try simp only [Act.put, List.setIfInBounds_toArray, List.set_cons_zero, List.set_cons_succ]
          refine wpB_take 4 _ ?_ rfl (by kernel_rfl) (fun _ _ _ h => h) rfl hHeld ?_ ?_
          rotate_left
          · (intro W hW; go_simp; try with_reducible rfl)
          try simp only [Act.put, List.setIfInBounds_toArray, List.set_cons_zero, List.set_cons_succ]
          refine wpB_take 6 _ ?_ rfl (by kernel_rfl) (fun _ _ _ h => h) rfl hHeld ?_ ?_
          rotate_left
          · (intro W hW; go_simp; try with_reducible rfl)
          try simp only [Act.put, List.setIfInBounds_toArray, List.set_cons_zero, List.set_cons_succ]
          refine wpB_take 7 _ ?_ rfl (by kernel_rfl) (fun _ _ _ h => h) rfl hHeld ?_ ?_
          rotate_left
          · (intro W hW; go_simp; try with_reducible rfl)
          try simp only [Act.put, List.setIfInBounds_toArray, List.set_cons_zero, List.set_cons_succ]
          refine wpB_take 8 _ ?_ rfl (by kernel_rfl) (fun _ _ _ h => h) rfl hHeld ?_ ?_
          rotate_left
          · (intro W hW; go_simp; try with_reducible rfl)
          try simp only [Act.put, List.setIfInBounds_toArray, List.set_cons_zero, List.set_cons_succ]
          refine wpB_take 9 _ ?_ rfl (by kernel_rfl) (fun _ _ _ h => h) rfl hHeld ?_ ?_
          rotate_left
          · (intro W hW; go_simp; try with_reducible rfl)
          try simp only [Act.put, List.setIfInBounds_toArray, List.set_cons_zero, List.set_cons_succ]
          refine wpB_take 10 _ ?_ rfl (by kernel_rfl) (fun _ _ _ h => h) rfl hHeld ?_ ?_
          rotate_left
          · (intro W hW; go_simp; try with_reducible rfl)
          try simp only [Act.put, List.setIfInBounds_toArray, List.set_cons_zero, List.set_cons_succ]
          refine wpB_take 13 _ ?_ rfl (by kernel_rfl) (fun _ _ _ h => h) rfl hHeld ?_ ?_
          rotate_left
          · (intro W hW; go_simp; try with_reducible rfl)
          try simp only [Act.put, List.setIfInBounds_toArray, List.set_cons_zero, List.set_cons_succ]
          refine wpB_take 14 _ ?_ rfl (by kernel_rfl) (fun _ _ _ h => h) rfl hHeld ?_ ?_
          rotate_left
          · (intro W hW; go_simp; try with_reducible rfl)
          try simp only [Act.put, List.setIfInBounds_toArray, List.set_cons_zero, List.set_cons_succ]
          refine wpB_take 15 _ ?_ rfl (by kernel_rfl) (fun _ _ _ h => h) rfl hHeld ?_ ?_
          rotate_left
          · (intro W hW; go_simp; try with_reducible rfl)
          try simp only [Act.put, List.setIfInBounds_toArray, List.set_cons_zero, List.set_cons_succ]
          refine wpB_take 16 _ ?_ rfl (by kernel_rfl) (fun _ _ _ h => h) rfl hHeld ?_ ?_
          rotate_left
          · (intro W hW; go_simp; try with_reducible rfl)
          try simp only [Act.put, List.setIfInBounds_toArray, List.set_cons_zero, List.set_cons_succ]
          refine wpB_take 17 _ ?_ rfl (by kernel_rfl) (fun _ _ _ h => h) rfl hHeld ?_ ?_
          rotate_left
          · (intro W hW; go_simp; try with_reducible rfl)
          try simp only [Act.put, List.setIfInBounds_toArray, List.set_cons_zero, List.set_cons_succ]
          refine wpB_take 18 _ ?_ rfl (by kernel_rfl) (fun _ _ _ h => h) rfl hHeld ?_ ?_
          rotate_left
          · (intro W hW; go_simp; try with_reducible rfl)
          try simp only [Act.put, List.setIfInBounds_toArray, List.set_cons_zero, List.set_cons_succ]
          refine wpB_step 5 _ rfl (by kernel_rfl) rfl rfl (fun K hK_ => ?_)
          go_simp
          refine (rrot _ _ (by decide) (by decide) _).mono ?_
          rintro e wq ⟨rfl, kq⟩
          refine hK_.out _ _ (by exact hHeld.trans kq) (fun hHeld => ?_)
          clear hK_ K
          try simp only [Act.put, List.setIfInBounds_toArray, List.set_cons_zero, List.set_cons_succ]
          refine wpB_step 11 _ rfl (by kernel_rfl) rfl rfl (fun K hK_ => ?_)
          go_simp
          refine (rrot _ _ (by decide) (by decide) _).mono ?_
          rintro e wq ⟨rfl, kq⟩
          refine hK_.out _ _ (by exact hHeld.trans kq) (fun hHeld => ?_)
          clear hK_ K
          try simp only [Act.put, List.setIfInBounds_toArray, List.set_cons_zero, List.set_cons_succ]
          refine wpB_take 12 _ ?_ rfl (by kernel_rfl) (fun _ _ _ h => h) rfl hHeld ?_ ?_
          rotate_left
          · (intro W hW; go_simp; try with_reducible rfl)
          try simp only [Act.put, List.setIfInBounds_toArray, List.set_cons_zero, List.set_cons_succ]
          refine wpB_take 19 _ ?_ rfl (by kernel_rfl) (fun _ _ _ h => h) rfl hHeld ?_ ?_
          rotate_left
          · (intro W hW; go_simp; try with_reducible rfl)
          try simp only [Act.put, List.setIfInBounds_toArray, List.set_cons_zero, List.set_cons_succ]
          refine wpB_take 20 _ ?_ rfl (by kernel_rfl) (fun _ _ _ h => h) rfl hHeld ?_ ?_
          rotate_left
          · (intro W hW; go_simp; try with_reducible rfl)
          try simp only [Act.put, List.setIfInBounds_toArray, List.set_cons_zero, List.set_cons_succ]
          refine wpB_done (by kernel_rfl) ?_ _
          have hHeld2 := hHeld
          go_wp2_with fail
          refine wpB_begin 17 (Kp [] wr) (by kernel_rfl) (by exact hHeld2.drew) (fun hHeld => ?_)
          refine wpB_take 0 _ ?_ rfl (by kernel_rfl) (fun _ _ _ h => h) rfl hHeld ?_ ?_
          rotate_left
          · (intro W hW; go_simp; try with_reducible rfl)
          try simp only [Act.put, List.setIfInBounds_toArray, List.set_cons_zero, List.set_cons_succ]
          refine wpB_take 1 _ ?_ rfl (by kernel_rfl) (fun _ _ _ h => h) rfl hHeld ?_ ?_
          rotate_left
          · (intro W hW; go_simp; try with_reducible rfl)
          try simp only [Act.put, List.setIfInBounds_toArray, List.set_cons_zero, List.set_cons_succ]
          refine wpB_take 2 _ ?_ rfl (by kernel_rfl) (fun _ _ _ h => h) rfl hHeld ?_ ?_
          rotate_left
          · (intro W hW; go_simp; try with_reducible rfl)
          try simp only [Act.put, List.setIfInBounds_toArray, List.set_cons_zero, List.set_cons_succ]
          refine wpB_take 3 _ ?_ rfl (by kernel_rfl) (fun _ _ _ h => h) rfl hHeld ?_ ?_
          rotate_left
          · (intro W hW; go_simp; try with_reducible rfl)
          try simp only [Act.put, List.setIfInBounds_toArray, List.set_cons_zero, List.set_cons_succ]
          refine wpB_take 4 _ ?_ rfl (by kernel_rfl) (fun _ _ _ h => h) rfl hHeld ?_ ?_
          rotate_left
          · (intro W hW; go_simp; try with_reducible rfl)
          try simp only [Act.put, List.setIfInBounds_toArray, List.set_cons_zero, List.set_cons_succ]
          refine wpB_take 5 _ ?_ rfl (by kernel_rfl) (fun _ _ _ h => h) rfl hHeld ?_ ?_
          rotate_left
          · (intro W hW; go_simp; try with_reducible rfl)
          try simp only [Act.put, List.setIfInBounds_toArray, List.set_cons_zero, List.set_cons_succ]
          refine wpB_take 6 _ ?_ rfl (by kernel_rfl) (fun _ _ _ h => h) rfl hHeld ?_ ?_
          rotate_left
          · (intro W hW; go_simp; try with_reducible rfl)
          try simp only [Act.put, List.setIfInBounds_toArray, List.set_cons_zero, List.set_cons_succ]
          refine wpB_take 7 _ ?_ rfl (by kernel_rfl) (fun _ _ _ h => h) rfl hHeld ?_ ?_
          rotate_left
          · (intro W hW; go_simp; try with_reducible rfl)
          try simp only [Act.put, List.setIfInBounds_toArray, List.set_cons_zero, List.set_cons_succ]
          refine wpB_take 8 _ ?_ rfl (by kernel_rfl) (fun _ _ _ h => h) rfl hHeld ?_ ?_
          rotate_left
          · (intro W hW; go_simp; try with_reducible rfl)
          try simp only [Act.put, List.setIfInBounds_toArray, List.set_cons_zero, List.set_cons_succ]
          refine wpB_take 9 _ ?_ rfl (by kernel_rfl) (fun _ _ _ h => h) rfl hHeld ?_ ?_
          rotate_left
          · (intro W hW; go_simp; try with_reducible rfl)
          try simp only [Act.put, List.setIfInBounds_toArray, List.set_cons_zero, List.set_cons_succ]
          refine wpB_take 10 _ ?_ rfl (by kernel_rfl) (fun _ _ _ h => h) rfl hHeld ?_ ?_
          rotate_left
          · (intro W hW; go_simp; try with_reducible rfl)
          try simp only [Act.put, List.setIfInBounds_toArray, List.set_cons_zero, List.set_cons_succ]
          refine wpB_take 11 _ ?_ rfl (by kernel_rfl) (fun _ _ _ h => h) rfl hHeld ?_ ?_
          rotate_left
          · (intro W hW; go_simp; try with_reducible rfl)
          try simp only [Act.put, List.setIfInBounds_toArray, List.set_cons_zero, List.set_cons_succ]
          refine wpB_take 12 _ ?_ rfl (by kernel_rfl) (fun _ _ _ h => h) rfl hHeld ?_ ?_
          rotate_left
          · (intro W hW; go_simp; try with_reducible rfl)
          try simp only [Act.put, List.setIfInBounds_toArray, List.set_cons_zero, List.set_cons_succ]
          refine wpB_take 13 _ ?_ rfl (by kernel_rfl) (fun _ _ _ h => h) rfl hHeld ?_ ?_
          rotate_left
          · (intro W hW; go_simp; try with_reducible rfl)
          try simp only [Act.put, List.setIfInBounds_toArray, List.set_cons_zero, List.set_cons_succ]
          refine wpB_take 14 _ ?_ rfl (by kernel_rfl) (fun _ _ _ h => h) rfl hHeld ?_ ?_
          rotate_left
          · (intro W hW; go_simp; try with_reducible rfl)
          try simp only [Act.put, List.setIfInBounds_toArray, List.set_cons_zero, List.set_cons_succ]
          refine wpB_take 15 _ ?_ rfl (by kernel_rfl) (fun _ _ _ h => h) rfl hHeld ?_ ?_
          rotate_left
          · (intro W hW; go_simp; try with_reducible rfl)
          try simp only [Act.put, List.setIfInBounds_toArray, List.set_cons_zero, List.set_cons_succ]
          refine wpB_step 16 _ rfl (by kernel_rfl) rfl rfl (fun K hK_ => ?_)
          go_simp
          refine hK_.out _ _ (by first | exact hHeld | exact hHeld.call ‹_› | exact hHeld.alloc _) (fun hHeld => ?_)
          clear hK_ K
          try simp only [Act.put, List.setIfInBounds_toArray, List.set_cons_zero, List.set_cons_succ]
          refine wpB_bar (Kp OWN wr) 999 _ rfl (by kernel_rfl) rfl (fun K hK_ => ?_)
          refine wp_append_mine _ (.tmp 92) (.tmp 108) 83 rfl w.heap.size 82 j0 (.int .u32 0) 1 4 Tryd.underlying83' hj hy0 hy1 hy2 rfl (by decide) (.slice (some ⟨g, o, none⟩) n cv) n (uL (sched b n)) rfl (owns_other hO hHeld (fun _ _ => by simp)) ⟨_, 0, none⟩ 1 1 [.int .u32 _] rfl rfl (new_cells _ _ _) (one_u32 _) (by unfold maxLen; omega) (by omega) (by have := hHeld.size; omega) ?_
          intro v' w7 hown' hkp _ _
          refine hK_.out _ _ (by exact (hHeld.weaken (fun _ _ h => by cases h)).trans (HOWN.out ▸ hkp)) (fun hHeld => ?_)
          clear hK_ K
          try simp only [Act.put, List.setIfInBounds_toArray, List.set_cons_zero, List.set_cons_succ]
          refine wpB_take 18 _ ?_ rfl (by kernel_rfl) (fun _ _ _ h => h) rfl hHeld ?_ ?_
          rotate_left
          · (intro W hW; go_simp; try with_reducible rfl)
          try simp only [Act.put, List.setIfInBounds_toArray, List.set_cons_zero, List.set_cons_succ]
          refine wpB_done (by kernel_rfl) ?_ _
          obtain ⟨a7', c7', rfl⟩ := ownsRow_ex hown'
          have hK7 : Kp [] w w7 := hK.step hHeld (fun i hi hm => by
            rw [HOWN.out, Option.mem_toList] at hm
            have := hge i hm
            omega)
          replace hown' : w7.ownsRow w.heap.size 82 1 (.slice a7' (n + 1) c7') (n + 1) (uL (sched b n) ++ [.int .u32 (IntKind.u32.wrap (IntKind.u32.wrap (IntKind.u32.wrap (x16 + sg0 x15) + x7) + sg1 x2))]) := hown'
          rw [HSN.out, ← sched_next b n _ (by rw [if_neg (by have := H16.out; omega)])] at hown'
          have HO7 := Lib.hid hown'
          clear hHeld hown' hkp c15 c2 c16 c7 hHeld2 hge hO
          go_wp2_with fail
          go_roundg g'
          case rel => exact ⟨n + 1, a7', c7', by have := H16.out; omega, by have := HN.out; omega, rfl, by go_num, hK7, HO7.out⟩
          case measure => omega
        · obtain rfl : n = 64 := by omega
          obtain rfl : gk = 0 := by omega
          clear hn
          go_wp2_with fail
          go_ret
          exact ⟨av, cv, rfl, hO, hK⟩
end Go.Proofs.YtlomniffpjndfaaDoor
