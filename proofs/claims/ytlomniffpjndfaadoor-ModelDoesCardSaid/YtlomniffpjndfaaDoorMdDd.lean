/-
  The document's digest: the state behind a block.
-/
import Derived.Test.YtlomniffpjndfaaDoorMdDc
namespace Go.Proofs.YtlomniffpjndfaaDoor
open Go.RowKit Go.WideShapes

theorem ones32 : B32 (if IntKind.u32.signed = true then -1 else IntKind.u32.max) = BitVec.allOnes 32 := by decide
set_option maxRecDepth 100000 in
theorem ch_eq' (e f g : Int) : bits BinOp.xor .u32 (bits BinOp.and .u32 e f) (bits BinOp.and .u32 (bits BinOp.xor .u32 (if IntKind.u32.signed = true then -1 else IntKind.u32.max) e) g) = chF e f g := by
  unfold chF
  simp only [bits_xor, bits_and, nat32, ones32]
  congr 2
  ext i hi
  simp only [BitVec.getElem_xor, BitVec.getElem_and, BitVec.getElem_allOnes]
  cases (B32 e)[i] <;> cases (B32 f)[i] <;> cases (B32 g)[i] <;> rfl
theorem addL_comm {s V : List Int} (hs : s.length = 8) (hV : V.length = 8) : addL V s 8 = addL s V 8 := by
  obtain ⟨a, b, c, d, e, f, g, j, rfl⟩ := eight hs
  obtain ⟨a', b', c', d', e', f', g', j', rfl⟩ := eight hV
  simp [addL, Int.add_comm]
theorem rounds_len' (b : ByteArray) {s : List Int} (hs : s.length = 8) : ∀ n, (rounds b s n).length = 8 := rounds_len b hs
theorem uL_mem (l : List Int) : ∀ u, u ∈ uL l → u.oneCell' = true := by
  intro u hu
  obtain ⟨x, -, rfl⟩ := List.mem_map.1 hu
  rfl
/-- eight words in a row -/
def VAt (W : World) (g o : Nat) (l : List Int) : Prop := ∀ j, j < 8 → W.cell? ⟨g, o + j, none⟩ = some (.int .u32 (l.getD j 0))
set_option maxHeartbeats 8000000 in
set_option maxRecDepth 20000 in
theorem rblock (s : List Int) (hs : s.length = 8) (b : ByteArray) (gb ob cap gs os cs : Nat) (w : World) (hcell : ∀ j, j < 64 → w.cell? ⟨gb, ob + j, none⟩ = some (.int .u8 (byteI b j))) (hst : VAt w gs os s) :
    Calls Tryd.prog 48 #[.slice (some ⟨gs, os, none⟩) 8 cs, .slice (some ⟨gb, ob, none⟩) 64 cap] w fun e w' => ∃ g, e = .returned (.slice (some ⟨g, 0, none⟩) 8 8) ∧ w'.heap[g]? = some (.cells (uV (blockF b s)) 82 (0, 0)) ∧ (blockF b s).length = 8 ∧ w.heap.size ≤ g ∧ Kp [] w w' := by
  obtain ⟨j0, hj, hy0, hy1, hy2⟩ := info_parts Tryd.info82'
  have hgs := lt_of_cell (hst 0 (by decide))
  have hwd := rwords b gb ob cap w hcell
  go_enter Tryd.func48, Tryd.ntmps48
  go_wp2_with fail
  refine hwd.mono ?_
  rintro e w1 ⟨aw, cw, rfl, hW, k1⟩
  have hz1 := k1.size
  obtain ⟨gw, ow, rfl, -, -, -, hwc⟩ := (SliceAt.of_owns hW).cells (by decide)
  have hst1 : VAt w1 gs os s := fun j hj => (k1.cell (lt_of_cell (hst j hj)) (by simp)).trans (hst j hj)
  have hnews : ∀ (j : Nat) (u : Value), (uL s)[j]? = some u → w1.cell? ((⟨gs, os, none⟩ : Addr).add j) = some u := fun j u hu => by
    rw [Addr.add_mid]
    have hjl : j < s.length := by have := (List.getElem?_eq_some_iff.1 hu).1; simpa [uL] using this
    have h1 := hst1 j (by omega)
    rw [uL, List.getElem?_map, List.getElem?_eq_getElem hjl] at hu
    rw [h1, List.getD_eq_getElem?_getD, List.getElem?_eq_getElem hjl]
    exact hu
  clear hwd
  go_wp2_with (first | (at_builtin; refine wpList_append_mine _ rfl (.const (.slice none 0 0)) (.tmp 13) 83 rfl w.heap.size 82 j0 (.int .u32 0) 1 4 Tryd.underlying83' hj hy0 hy1 hy2 rfl (by decide) (.slice none 0 0) 0 [] rfl (World.ownsRow_nil _ _ _ _) ⟨gs, os, none⟩ 8 cs (uL s) rfl (by simp [uL, hs]) hnews (uL_mem s) (by decide) (by decide) hz1 ?_))
  intro v' w2 hO2 hkp _ _
  obtain ⟨a2, c2, rfl⟩ := ownsRow_ex hO2
  have k2 : Kp [] w1 w2 := hkp
  have hO3 : w2.ownsRow w.heap.size 82 1 (.slice a2 8 c2) 8 (uL s) := by simpa using hO2
  obtain ⟨gv, ov, rfl, -, -, -, hvc⟩ := (SliceAt.of_owns hO3).cells (by decide)
  have hv0 : VAt w2 gv ov (rounds b s 0) := fun j hj => by
    refine hvc j _ ?_
    rw [uL, List.getElem?_map, rounds, List.getD_eq_getElem?_getD, List.getElem?_eq_getElem (by omega)]; rfl
  have hW2 : ∀ W, Kp [] w2 W → ∀ n, n < 64 → W.cell? ⟨gw, ow + n, none⟩ = some (.int .u32 ((sched b 64).getD n 0)) := fun W k n hn => by
    refine Kp.cellAt (X := []) ?_ (by simp) W (k2.trans k)
    exact uL_cell hwc n (by rw [sched_len]; exact hn)
  have hK := Kp.refl [] w2
  have HST1 := Lib.hid hst1
  have HW2 := Lib.hid hW2
  clear hnews hO2 hkp hO3 hvc hwc hW hst1 hW2
  go_wp2_with fail
  go_loopg [6, 7] 64 (fun g' v i wr => ∃ (n g o c : Nat), n + g' = 64 ∧ v = .slice (some ⟨g, o, none⟩) 8 c ∧ i = .int .i64 n ∧ Kp [] w2 wr ∧ VAt wr g o (rounds b s n) ∧ (0 < n → o = 0 ∧ c = 8 ∧ w2.heap.size ≤ g ∧ wr.heap[g]? = some (.cells (uV (rounds b s n)) 82 (0, 0))))
  case atStart => exact ⟨0, gv, ov, _, rfl, rfl, rfl, hK, hv0, fun h => absurd h (by decide)⟩
  case round =>
    clear hK hv0
    obtain ⟨n, g, o, c, hn, rfl, rfl, hK, hV, hblk⟩ := hrel
    have HN := Lib.hid hn
    have HBK := Lib.hid hblk
    clear hblk
    by_cases hlt : n < 64
    · obtain ⟨g', rfl⟩ : ∃ g', gk = g' + 1 := ⟨gk - 1, by omega⟩
      clear hn
      have hltI : (n : Int) < 64 := by omega
      obtain ⟨x0, x1, x2, x3, x4, x5, x6, x7, hx⟩ := eight (rounds_len b hs n)
      rw [hx] at hV
      have v0 := Kp.cellAt (X := []) (hV 0 (by decide)) (by simp)
      have v1 := Kp.cellAt (X := []) (hV 1 (by decide)) (by simp)
      have v2 := Kp.cellAt (X := []) (hV 2 (by decide)) (by simp)
      have v3 := Kp.cellAt (X := []) (hV 3 (by decide)) (by simp)
      have v4 := Kp.cellAt (X := []) (hV 4 (by decide)) (by simp)
      have v5 := Kp.cellAt (X := []) (hV 5 (by decide)) (by simp)
      have v6 := Kp.cellAt (X := []) (hV 6 (by decide)) (by simp)
      have v7 := Kp.cellAt (X := []) (hV 7 (by decide)) (by simp)
      simp only [List.getD_cons_zero, List.getD_cons_succ, Nat.add_zero] at v0 v1 v2 v3 v4 v5 v6 v7
      have hwn := fun W (k : Kp [] wr W) => HW2.out W (hK.trans k) n hlt
      have hkn := fun W => rK n hlt W
      obtain ⟨kn, hkn'⟩ : ∃ k, k = kList.getD n 0 := ⟨_, rfl⟩
      obtain ⟨wn, hwn'⟩ : ∃ k, k = (sched b 64).getD n 0 := ⟨_, rfl⟩
      rw [← hkn'] at hkn
      rw [← hwn'] at hwn
      have hnext : rounds b s (n + 1) = rnd [x0, x1, x2, x3, x4, x5, x6, x7] kn wn := by rw [rounds, hx, hkn', hwn']
      have HNX := Lib.hid hnext
      have hkr := Kp.refl [] wr
      clear hkn' hwn' hx hV hnext
      go_wp2_with fail
      refine wpB_begin 999 (Kp [] wr) (by kernel_rfl) (by exact hkr.drew) (fun hHeld => ?_)
      refine wpB_take 0 _ ?_ rfl (by kernel_rfl) (fun _ _ _ h => h) rfl hHeld ?_ ?_
      rotate_left
      · (intro W hW; go_simp; try with_reducible rfl)
      try simp only [Act.put, List.setIfInBounds_toArray, List.set_cons_zero, List.set_cons_succ]
      refine wpB_take 1 _ ?_ rfl (by kernel_rfl) (fun _ _ _ h => h) rfl hHeld ?_ ?_
      rotate_left
      · (intro W hW; go_simp; try with_reducible rfl)
      try simp only [Act.put, List.setIfInBounds_toArray, List.set_cons_zero, List.set_cons_succ]
      refine wpB_take 2 _ ?_ rfl (by kernel_rfl) (fun _ _ _ h => h) rfl hHeld ?_ ?_
      rotate_left
      · (intro W hW; go_simp; try with_reducible rfl)
      try simp only [Act.put, List.setIfInBounds_toArray, List.set_cons_zero, List.set_cons_succ]
      refine wpB_take 3 _ ?_ rfl (by kernel_rfl) (fun _ _ _ h => h) rfl hHeld ?_ ?_
      rotate_left
      · (intro W hW; go_simp; try with_reducible rfl)
      try simp only [Act.put, List.setIfInBounds_toArray, List.set_cons_zero, List.set_cons_succ]
      refine wpB_take 4 _ ?_ rfl (by kernel_rfl) (fun _ _ _ h => h) rfl hHeld ?_ ?_
      rotate_left
      · (intro W hW; go_simp; try with_reducible rfl)
      try simp only [Act.put, List.setIfInBounds_toArray, List.set_cons_zero, List.set_cons_succ]
      refine wpB_take 5 _ ?_ rfl (by kernel_rfl) (fun _ _ _ h => h) rfl hHeld ?_ ?_
      rotate_left
      · (intro W hW; go_simp; try with_reducible rfl)
      try simp only [Act.put, List.setIfInBounds_toArray, List.set_cons_zero, List.set_cons_succ]
      refine wpB_take 7 _ ?_ rfl (by kernel_rfl) (fun _ _ _ h => h) rfl hHeld ?_ ?_
      rotate_left
      · (intro W hW; go_simp; try with_reducible rfl)
      try simp only [Act.put, List.setIfInBounds_toArray, List.set_cons_zero, List.set_cons_succ]
      refine wpB_take 8 _ ?_ rfl (by kernel_rfl) (fun _ _ _ h => h) rfl hHeld ?_ ?_
      rotate_left
      · (intro W hW; go_simp; try with_reducible rfl)
      try simp only [Act.put, List.setIfInBounds_toArray, List.set_cons_zero, List.set_cons_succ]
      refine wpB_take 9 _ ?_ rfl (by kernel_rfl) (fun _ _ _ h => h) rfl hHeld ?_ ?_
      rotate_left
      · (intro W hW; go_simp; try with_reducible rfl)
      try simp only [Act.put, List.setIfInBounds_toArray, List.set_cons_zero, List.set_cons_succ]
      refine wpB_take 12 _ ?_ rfl (by kernel_rfl) (fun _ _ _ h => h) rfl hHeld ?_ ?_
      rotate_left
      · (intro W hW; go_simp; try with_reducible rfl)
      try simp only [Act.put, List.setIfInBounds_toArray, List.set_cons_zero, List.set_cons_succ]
      refine wpB_take 13 _ ?_ rfl (by kernel_rfl) (fun _ _ _ h => h) rfl hHeld ?_ ?_
      rotate_left
      · (intro W hW; go_simp; try with_reducible rfl)
      try simp only [Act.put, List.setIfInBounds_toArray, List.set_cons_zero, List.set_cons_succ]
      refine wpB_take 14 _ ?_ rfl (by kernel_rfl) (fun _ _ _ h => h) rfl hHeld ?_ ?_
      rotate_left
      · (intro W hW; go_simp; try with_reducible rfl)
      try simp only [Act.put, List.setIfInBounds_toArray, List.set_cons_zero, List.set_cons_succ]
      refine wpB_take 18 _ ?_ rfl (by kernel_rfl) (fun _ _ _ h => h) rfl hHeld ?_ ?_
      rotate_left
      · (intro W hW; go_simp; try with_reducible rfl)
      try simp only [Act.put, List.setIfInBounds_toArray, List.set_cons_zero, List.set_cons_succ]
      refine wpB_take 19 _ ?_ rfl (by kernel_rfl) (fun _ _ _ h => h) rfl hHeld ?_ ?_
      rotate_left
      · (intro W hW; go_simp; try with_reducible rfl)
      try simp only [Act.put, List.setIfInBounds_toArray, List.set_cons_zero, List.set_cons_succ]
      refine wpB_take 20 _ ?_ rfl (by kernel_rfl) (fun _ _ _ h => h) rfl hHeld ?_ ?_
      rotate_left
      · (intro W hW; go_simp; try with_reducible rfl)
      try simp only [Act.put, List.setIfInBounds_toArray, List.set_cons_zero, List.set_cons_succ]
      refine wpB_take 21 _ ?_ rfl (by kernel_rfl) (fun _ _ _ h => h) rfl hHeld ?_ ?_
      rotate_left
      · (intro W hW; go_simp; try with_reducible rfl)
      try simp only [Act.put, List.setIfInBounds_toArray, List.set_cons_zero, List.set_cons_succ]
      refine wpB_take 22 _ ?_ rfl (by kernel_rfl) (fun _ _ _ h => h) rfl hHeld ?_ ?_
      rotate_left
      · (intro W hW; go_simp; try with_reducible rfl)
      try simp only [Act.put, List.setIfInBounds_toArray, List.set_cons_zero, List.set_cons_succ]
      refine wpB_take 23 _ ?_ rfl (by kernel_rfl) (fun _ _ _ h => h) rfl hHeld ?_ ?_
      rotate_left
      · (intro W hW; go_simp; try with_reducible rfl)
      try simp only [Act.put, List.setIfInBounds_toArray, List.set_cons_zero, List.set_cons_succ]
      refine wpB_take 24 _ ?_ rfl (by kernel_rfl) (fun _ _ _ h => h) rfl hHeld ?_ ?_
      rotate_left
      · (intro W hW; go_simp; try with_reducible rfl)
      try simp only [Act.put, List.setIfInBounds_toArray, List.set_cons_zero, List.set_cons_succ]
      refine wpB_take 25 _ ?_ rfl (by kernel_rfl) (fun _ _ _ h => h) rfl hHeld ?_ ?_
      rotate_left
      · (intro W hW; go_simp; try with_reducible rfl)
      try simp only [Act.put, List.setIfInBounds_toArray, List.set_cons_zero, List.set_cons_succ]
      refine wpB_take 26 _ ?_ rfl (by kernel_rfl) (fun _ _ _ h => h) rfl hHeld ?_ ?_
      rotate_left
      · (intro W hW; go_simp; try with_reducible rfl)
      try simp only [Act.put, List.setIfInBounds_toArray, List.set_cons_zero, List.set_cons_succ]
      refine wpB_take 27 _ ?_ rfl (by kernel_rfl) (fun _ _ _ h => h) rfl hHeld ?_ ?_
      rotate_left
      · (intro W hW; go_simp; try with_reducible rfl)
      try simp only [Act.put, List.setIfInBounds_toArray, List.set_cons_zero, List.set_cons_succ]
      refine wpB_take 28 _ ?_ rfl (by kernel_rfl) (fun _ _ _ h => h) rfl hHeld ?_ ?_
      rotate_left
      · (intro W hW; go_simp; try with_reducible rfl)
      try simp only [Act.put, List.setIfInBounds_toArray, List.set_cons_zero, List.set_cons_succ]
      refine wpB_take 29 _ ?_ rfl (by kernel_rfl) (fun _ _ _ h => h) rfl hHeld ?_ ?_
      rotate_left
      · (intro W hW; go_simp; try with_reducible rfl)
      try simp only [Act.put, List.setIfInBounds_toArray, List.set_cons_zero, List.set_cons_succ]
      refine wpB_take 30 _ ?_ rfl (by kernel_rfl) (fun _ _ _ h => h) rfl hHeld ?_ ?_
      rotate_left
      · (intro W hW; go_simp; try with_reducible rfl)
      try simp only [Act.put, List.setIfInBounds_toArray, List.set_cons_zero, List.set_cons_succ]
      refine wpB_take 31 _ ?_ rfl (by kernel_rfl) (fun _ _ _ h => h) rfl hHeld ?_ ?_
      rotate_left
      · (intro W hW; go_simp; try with_reducible rfl)
      try simp only [Act.put, List.setIfInBounds_toArray, List.set_cons_zero, List.set_cons_succ]
      refine wpB_take 32 _ ?_ rfl (by kernel_rfl) (fun _ _ _ h => h) rfl hHeld ?_ ?_
      rotate_left
      · (intro W hW; go_simp; try with_reducible rfl)
      try simp only [Act.put, List.setIfInBounds_toArray, List.set_cons_zero, List.set_cons_succ]
      refine wpB_take 33 _ ?_ rfl (by kernel_rfl) (fun _ _ _ h => h) rfl hHeld ?_ ?_
      rotate_left
      · (intro W hW; go_simp; try with_reducible rfl)
      try simp only [Act.put, List.setIfInBounds_toArray, List.set_cons_zero, List.set_cons_succ]
      refine wpB_take 35 _ ?_ rfl (by kernel_rfl) (fun _ _ _ h => h) rfl hHeld ?_ ?_
      rotate_left
      · (intro W hW; go_simp; try with_reducible rfl)
      try simp only [Act.put, List.setIfInBounds_toArray, List.set_cons_zero, List.set_cons_succ]
      refine wpB_take 38 _ ?_ rfl (by kernel_rfl) (fun _ _ _ h => h) rfl hHeld ?_ ?_
      rotate_left
      · (intro W hW; go_simp; try with_reducible rfl)
      try simp only [Act.put, List.setIfInBounds_toArray, List.set_cons_zero, List.set_cons_succ]
      refine wpB_take 39 _ ?_ rfl (by kernel_rfl) (fun _ _ _ h => h) rfl hHeld ?_ ?_
      rotate_left
      · (intro W hW; go_simp; try with_reducible rfl)
      try simp only [Act.put, List.setIfInBounds_toArray, List.set_cons_zero, List.set_cons_succ]
      refine wpB_take 40 _ ?_ rfl (by kernel_rfl) (fun _ _ _ h => h) rfl hHeld ?_ ?_
      rotate_left
      · (intro W hW; go_simp; try with_reducible rfl)
      try simp only [Act.put, List.setIfInBounds_toArray, List.set_cons_zero, List.set_cons_succ]
      refine wpB_take 41 _ ?_ rfl (by kernel_rfl) (fun _ _ _ h => h) rfl hHeld ?_ ?_
      rotate_left
      · (intro W hW; go_simp; try with_reducible rfl)
      try simp only [Act.put, List.setIfInBounds_toArray, List.set_cons_zero, List.set_cons_succ]
      refine wpB_step 6 _ rfl (by kernel_rfl) rfl rfl (fun K hK_ => ?_)
      go_simp
      refine (rrot _ _ (by decide) (by decide) _).mono ?_
      rintro e wq ⟨rfl, kq⟩
      refine hK_.out _ _ (by exact hHeld.trans kq) (fun hHeld => ?_)
      clear hK_ K
      try simp only [Act.put, List.setIfInBounds_toArray, List.set_cons_zero, List.set_cons_succ]
      refine wpB_step 10 _ rfl (by kernel_rfl) rfl rfl (fun K hK_ => ?_)
      go_simp
      refine (rrot _ _ (by decide) (by decide) _).mono ?_
      rintro e wq ⟨rfl, kq⟩
      refine hK_.out _ _ (by exact hHeld.trans kq) (fun hHeld => ?_)
      clear hK_ K
      try simp only [Act.put, List.setIfInBounds_toArray, List.set_cons_zero, List.set_cons_succ]
      refine wpB_take 11 _ ?_ rfl (by kernel_rfl) (fun _ _ _ h => h) rfl hHeld ?_ ?_
      rotate_left
      · (intro W hW; go_simp; try with_reducible rfl)
      try simp only [Act.put, List.setIfInBounds_toArray, List.set_cons_zero, List.set_cons_succ]
      refine wpB_step 15 _ rfl (by kernel_rfl) rfl rfl (fun K hK_ => ?_)
      go_simp
      refine (rrot _ _ (by decide) (by decide) _).mono ?_
      rintro e wq ⟨rfl, kq⟩
      refine hK_.out _ _ (by exact hHeld.trans kq) (fun hHeld => ?_)
      clear hK_ K
      try simp only [Act.put, List.setIfInBounds_toArray, List.set_cons_zero, List.set_cons_succ]
      refine wpB_take 16 _ ?_ rfl (by kernel_rfl) (fun _ _ _ h => h) rfl hHeld ?_ ?_
      rotate_left
      · (intro W hW; go_simp; try with_reducible rfl)
      try simp only [Act.put, List.setIfInBounds_toArray, List.set_cons_zero, List.set_cons_succ]
      refine wpB_take 17 _ ?_ rfl (by kernel_rfl) (fun _ _ _ h => h) rfl hHeld ?_ ?_
      rotate_left
      · (intro W hW; go_simp; try with_reducible rfl)
      try simp only [Act.put, List.setIfInBounds_toArray, List.set_cons_zero, List.set_cons_succ]
      refine wpB_take 34 _ ?_ rfl (by kernel_rfl) (fun _ _ _ h => h) rfl hHeld ?_ ?_
      rotate_left
      · (intro W hW; go_simp; try with_reducible rfl)
      try simp only [Act.put, List.setIfInBounds_toArray, List.set_cons_zero, List.set_cons_succ]
      refine wpB_step 36 _ rfl (by kernel_rfl) rfl rfl (fun K hK_ => ?_)
      go_simp
      refine (hkn _).mono ?_
      rintro e wq ⟨rfl, kq⟩
      refine hK_.out _ _ (by exact hHeld.trans kq) (fun hHeld => ?_)
      clear hK_ K
      try simp only [Act.put, List.setIfInBounds_toArray, List.set_cons_zero, List.set_cons_succ]
      refine wpB_take 37 _ ?_ rfl (by kernel_rfl) (fun _ _ _ h => h) rfl hHeld ?_ ?_
      rotate_left
      · (intro W hW; go_simp; try with_reducible rfl)
      try simp only [Act.put, List.setIfInBounds_toArray, List.set_cons_zero, List.set_cons_succ]
      refine wpB_take 42 _ ?_ rfl (by kernel_rfl) (fun _ _ _ h => h) rfl hHeld ?_ ?_
      rotate_left
      · (intro W hW; go_simp; try with_reducible rfl)
      try simp only [Act.put, List.setIfInBounds_toArray, List.set_cons_zero, List.set_cons_succ]
      refine wpB_take 43 _ ?_ rfl (by kernel_rfl) (fun _ _ _ h => h) rfl hHeld ?_ ?_
      rotate_left
      · (intro W hW; go_simp; try with_reducible rfl)
      try simp only [Act.put, List.setIfInBounds_toArray, List.set_cons_zero, List.set_cons_succ]
      refine wpB_done (by kernel_rfl) ?_ _
      obtain ⟨T, hT⟩ : ∃ T, T = tF x4 x5 x6 x7 kn wn := ⟨_, rfl⟩
      have hT2 : IntKind.u32.wrap (IntKind.u32.wrap (IntKind.u32.wrap (IntKind.u32.wrap (x7 + bits BinOp.xor .u32 (bits BinOp.xor .u32 (rotr x4 6) (rotr x4 11)) (rotr x4 25)) + chF x4 x5 x6) + kn) + wn) = T := hT.symm
      rw [ch_eq', hT2]
      generalize bits BinOp.xor .u32 (if IntKind.u32.signed = true then -1 else IntKind.u32.max) x4 = NT
      have HT := Lib.hid hT
      have hHeld2 := hHeld
      clear hT hT2 kq
      go_wp2_with fail
      refine wpB_begin 999 (Kp [] wr) (by kernel_rfl) (by exact hHeld2.drew) (fun hHeld => ?_)
      refine wpB_take 0 _ ?_ rfl (by kernel_rfl) (fun _ _ _ h => h) rfl hHeld ?_ ?_
      rotate_left
      · (intro W hW; go_simp; try with_reducible rfl)
      try simp only [Act.put, List.setIfInBounds_toArray, List.set_cons_zero, List.set_cons_succ]
      refine wpB_take 1 _ ?_ rfl (by kernel_rfl) (fun _ _ _ h => h) rfl hHeld ?_ ?_
      rotate_left
      · (intro W hW; go_simp; try with_reducible rfl)
      try simp only [Act.put, List.setIfInBounds_toArray, List.set_cons_zero, List.set_cons_succ]
      refine wpB_take 2 _ ?_ rfl (by kernel_rfl) (fun _ _ _ h => h) rfl hHeld ?_ ?_
      rotate_left
      · (intro W hW; go_simp; try with_reducible rfl)
      try simp only [Act.put, List.setIfInBounds_toArray, List.set_cons_zero, List.set_cons_succ]
      refine wpB_take 4 _ ?_ rfl (by kernel_rfl) (fun _ _ _ h => h) rfl hHeld ?_ ?_
      rotate_left
      · (intro W hW; go_simp; try with_reducible rfl)
      try simp only [Act.put, List.setIfInBounds_toArray, List.set_cons_zero, List.set_cons_succ]
      refine wpB_take 5 _ ?_ rfl (by kernel_rfl) (fun _ _ _ h => h) rfl hHeld ?_ ?_
      rotate_left
      · (intro W hW; go_simp; try with_reducible rfl)
      try simp only [Act.put, List.setIfInBounds_toArray, List.set_cons_zero, List.set_cons_succ]
      refine wpB_take 6 _ ?_ rfl (by kernel_rfl) (fun _ _ _ h => h) rfl hHeld ?_ ?_
      rotate_left
      · (intro W hW; go_simp; try with_reducible rfl)
      try simp only [Act.put, List.setIfInBounds_toArray, List.set_cons_zero, List.set_cons_succ]
      refine wpB_take 9 _ ?_ rfl (by kernel_rfl) (fun _ _ _ h => h) rfl hHeld ?_ ?_
      rotate_left
      · (intro W hW; go_simp; try with_reducible rfl)
      try simp only [Act.put, List.setIfInBounds_toArray, List.set_cons_zero, List.set_cons_succ]
      refine wpB_take 10 _ ?_ rfl (by kernel_rfl) (fun _ _ _ h => h) rfl hHeld ?_ ?_
      rotate_left
      · (intro W hW; go_simp; try with_reducible rfl)
      try simp only [Act.put, List.setIfInBounds_toArray, List.set_cons_zero, List.set_cons_succ]
      refine wpB_take 11 _ ?_ rfl (by kernel_rfl) (fun _ _ _ h => h) rfl hHeld ?_ ?_
      rotate_left
      · (intro W hW; go_simp; try with_reducible rfl)
      try simp only [Act.put, List.setIfInBounds_toArray, List.set_cons_zero, List.set_cons_succ]
      refine wpB_take 14 _ ?_ rfl (by kernel_rfl) (fun _ _ _ h => h) rfl hHeld ?_ ?_
      rotate_left
      · (intro W hW; go_simp; try with_reducible rfl)
      try simp only [Act.put, List.setIfInBounds_toArray, List.set_cons_zero, List.set_cons_succ]
      refine wpB_take 15 _ ?_ rfl (by kernel_rfl) (fun _ _ _ h => h) rfl hHeld ?_ ?_
      rotate_left
      · (intro W hW; go_simp; try with_reducible rfl)
      try simp only [Act.put, List.setIfInBounds_toArray, List.set_cons_zero, List.set_cons_succ]
      refine wpB_take 16 _ ?_ rfl (by kernel_rfl) (fun _ _ _ h => h) rfl hHeld ?_ ?_
      rotate_left
      · (intro W hW; go_simp; try with_reducible rfl)
      try simp only [Act.put, List.setIfInBounds_toArray, List.set_cons_zero, List.set_cons_succ]
      refine wpB_take 17 _ ?_ rfl (by kernel_rfl) (fun _ _ _ h => h) rfl hHeld ?_ ?_
      rotate_left
      · (intro W hW; go_simp; try with_reducible rfl)
      try simp only [Act.put, List.setIfInBounds_toArray, List.set_cons_zero, List.set_cons_succ]
      refine wpB_take 18 _ ?_ rfl (by kernel_rfl) (fun _ _ _ h => h) rfl hHeld ?_ ?_
      rotate_left
      · (intro W hW; go_simp; try with_reducible rfl)
      try simp only [Act.put, List.setIfInBounds_toArray, List.set_cons_zero, List.set_cons_succ]
      refine wpB_take 19 _ ?_ rfl (by kernel_rfl) (fun _ _ _ h => h) rfl hHeld ?_ ?_
      rotate_left
      · (intro W hW; go_simp; try with_reducible rfl)
      try simp only [Act.put, List.setIfInBounds_toArray, List.set_cons_zero, List.set_cons_succ]
      refine wpB_take 20 _ ?_ rfl (by kernel_rfl) (fun _ _ _ h => h) rfl hHeld ?_ ?_
      rotate_left
      · (intro W hW; go_simp; try with_reducible rfl)
      try simp only [Act.put, List.setIfInBounds_toArray, List.set_cons_zero, List.set_cons_succ]
      refine wpB_take 21 _ ?_ rfl (by kernel_rfl) (fun _ _ _ h => h) rfl hHeld ?_ ?_
      rotate_left
      · (intro W hW; go_simp; try with_reducible rfl)
      try simp only [Act.put, List.setIfInBounds_toArray, List.set_cons_zero, List.set_cons_succ]
      refine wpB_take 22 _ ?_ rfl (by kernel_rfl) (fun _ _ _ h => h) rfl hHeld ?_ ?_
      rotate_left
      · (intro W hW; go_simp; try with_reducible rfl)
      try simp only [Act.put, List.setIfInBounds_toArray, List.set_cons_zero, List.set_cons_succ]
      refine wpB_take 23 _ ?_ rfl (by kernel_rfl) (fun _ _ _ h => h) rfl hHeld ?_ ?_
      rotate_left
      · (intro W hW; go_simp; try with_reducible rfl)
      try simp only [Act.put, List.setIfInBounds_toArray, List.set_cons_zero, List.set_cons_succ]
      refine wpB_take 24 _ ?_ rfl (by kernel_rfl) (fun _ _ _ h => h) rfl hHeld ?_ ?_
      rotate_left
      · (intro W hW; go_simp; try with_reducible rfl)
      try simp only [Act.put, List.setIfInBounds_toArray, List.set_cons_zero, List.set_cons_succ]
      refine wpB_take 25 _ ?_ rfl (by kernel_rfl) (fun _ _ _ h => h) rfl hHeld ?_ ?_
      rotate_left
      · (intro W hW; go_simp; try with_reducible rfl)
      try simp only [Act.put, List.setIfInBounds_toArray, List.set_cons_zero, List.set_cons_succ]
      refine wpB_take 26 _ ?_ rfl (by kernel_rfl) (fun _ _ _ h => h) rfl hHeld ?_ ?_
      rotate_left
      · (intro W hW; go_simp; try with_reducible rfl)
      try simp only [Act.put, List.setIfInBounds_toArray, List.set_cons_zero, List.set_cons_succ]
      refine wpB_take 27 _ ?_ rfl (by kernel_rfl) (fun _ _ _ h => h) rfl hHeld ?_ ?_
      rotate_left
      · (intro W hW; go_simp; try with_reducible rfl)
      try simp only [Act.put, List.setIfInBounds_toArray, List.set_cons_zero, List.set_cons_succ]
      refine wpB_take 28 _ ?_ rfl (by kernel_rfl) (fun _ _ _ h => h) rfl hHeld ?_ ?_
      rotate_left
      · (intro W hW; go_simp; try with_reducible rfl)
      try simp only [Act.put, List.setIfInBounds_toArray, List.set_cons_zero, List.set_cons_succ]
      refine wpB_take 29 _ ?_ rfl (by kernel_rfl) (fun _ _ _ h => h) rfl hHeld ?_ ?_
      rotate_left
      · (intro W hW; go_simp; try with_reducible rfl)
      try simp only [Act.put, List.setIfInBounds_toArray, List.set_cons_zero, List.set_cons_succ]
      refine wpB_take 30 _ ?_ rfl (by kernel_rfl) (fun _ _ _ h => h) rfl hHeld ?_ ?_
      rotate_left
      · (intro W hW; go_simp; try with_reducible rfl)
      try simp only [Act.put, List.setIfInBounds_toArray, List.set_cons_zero, List.set_cons_succ]
      refine wpB_take 31 _ ?_ rfl (by kernel_rfl) (fun _ _ _ h => h) rfl hHeld ?_ ?_
      rotate_left
      · (intro W hW; go_simp; try with_reducible rfl)
      try simp only [Act.put, List.setIfInBounds_toArray, List.set_cons_zero, List.set_cons_succ]
      refine wpB_take 32 _ ?_ rfl (by kernel_rfl) (fun _ _ _ h => h) rfl hHeld ?_ ?_
      rotate_left
      · (intro W hW; go_simp; try with_reducible rfl)
      try simp only [Act.put, List.setIfInBounds_toArray, List.set_cons_zero, List.set_cons_succ]
      refine wpB_take 33 _ ?_ rfl (by kernel_rfl) (fun _ _ _ h => h) rfl hHeld ?_ ?_
      rotate_left
      · (intro W hW; go_simp; try with_reducible rfl)
      try simp only [Act.put, List.setIfInBounds_toArray, List.set_cons_zero, List.set_cons_succ]
      refine wpB_take 34 _ ?_ rfl (by kernel_rfl) (fun _ _ _ h => h) rfl hHeld ?_ ?_
      rotate_left
      · (intro W hW; go_simp; try with_reducible rfl)
      try simp only [Act.put, List.setIfInBounds_toArray, List.set_cons_zero, List.set_cons_succ]
      refine wpB_take 35 _ ?_ rfl (by kernel_rfl) (fun _ _ _ h => h) rfl hHeld ?_ ?_
      rotate_left
      · (intro W hW; go_simp; try with_reducible rfl)
      try simp only [Act.put, List.setIfInBounds_toArray, List.set_cons_zero, List.set_cons_succ]
      refine wpB_take 36 _ ?_ rfl (by kernel_rfl) (fun _ _ _ h => h) rfl hHeld ?_ ?_
      rotate_left
      · (intro W hW; go_simp; try with_reducible rfl)
      try simp only [Act.put, List.setIfInBounds_toArray, List.set_cons_zero, List.set_cons_succ]
      refine wpB_step 3 _ rfl (by kernel_rfl) rfl rfl (fun K hK_ => ?_)
      go_simp
      refine (rrot _ _ (by decide) (by decide) _).mono ?_
      rintro e wq ⟨rfl, kq⟩
      refine hK_.out _ _ (by exact hHeld.trans kq) (fun hHeld => ?_)
      clear hK_ K
      try simp only [Act.put, List.setIfInBounds_toArray, List.set_cons_zero, List.set_cons_succ]
      refine wpB_step 7 _ rfl (by kernel_rfl) rfl rfl (fun K hK_ => ?_)
      go_simp
      refine (rrot _ _ (by decide) (by decide) _).mono ?_
      rintro e wq ⟨rfl, kq⟩
      refine hK_.out _ _ (by exact hHeld.trans kq) (fun hHeld => ?_)
      clear hK_ K
      try simp only [Act.put, List.setIfInBounds_toArray, List.set_cons_zero, List.set_cons_succ]
      refine wpB_take 8 _ ?_ rfl (by kernel_rfl) (fun _ _ _ h => h) rfl hHeld ?_ ?_
      rotate_left
      · (intro W hW; go_simp; try with_reducible rfl)
      try simp only [Act.put, List.setIfInBounds_toArray, List.set_cons_zero, List.set_cons_succ]
      refine wpB_step 12 _ rfl (by kernel_rfl) rfl rfl (fun K hK_ => ?_)
      go_simp
      refine (rrot _ _ (by decide) (by decide) _).mono ?_
      rintro e wq ⟨rfl, kq⟩
      refine hK_.out _ _ (by exact hHeld.trans kq) (fun hHeld => ?_)
      clear hK_ K
      try simp only [Act.put, List.setIfInBounds_toArray, List.set_cons_zero, List.set_cons_succ]
      refine wpB_take 13 _ ?_ rfl (by kernel_rfl) (fun _ _ _ h => h) rfl hHeld ?_ ?_
      rotate_left
      · (intro W hW; go_simp; try with_reducible rfl)
      try simp only [Act.put, List.setIfInBounds_toArray, List.set_cons_zero, List.set_cons_succ]
      refine wpB_take 37 _ ?_ rfl (by kernel_rfl) (fun _ _ _ h => h) rfl hHeld ?_ ?_
      rotate_left
      · (intro W hW; go_simp; try with_reducible rfl)
      try simp only [Act.put, List.setIfInBounds_toArray, List.set_cons_zero, List.set_cons_succ]
      refine wpB_take 38 _ ?_ rfl (by kernel_rfl) (fun _ _ _ h => h) rfl hHeld ?_ ?_
      rotate_left
      · (intro W hW; go_simp; try with_reducible rfl)
      try simp only [Act.put, List.setIfInBounds_toArray, List.set_cons_zero, List.set_cons_succ]
      refine wpB_done (by kernel_rfl) ?_ _
      obtain ⟨U, hU⟩ : ∃ U, U = uF x0 x1 x2 := ⟨_, rfl⟩
      have hU2 : IntKind.u32.wrap (bits BinOp.xor .u32 (bits BinOp.xor .u32 (rotr x0 2) (rotr x0 13)) (rotr x0 22) + majF x0 x1 x2) = U := hU.symm
      rw [maj_eq, hU2]
      have HU := Lib.hid hU
      have hHeld3 := hHeld
      clear hU hU2 kq hHeld2
      go_wp2_with fail
      refine wpB_begin 999 (Kp [] wr) (by kernel_rfl) (by exact hHeld3.drew) (fun hHeld => ?_)
      refine wpB_take 0 _ ?_ rfl (by kernel_rfl) (fun _ _ _ h => h) rfl hHeld ?_ ?_
      rotate_left
      · (intro W hW; go_simp; try with_reducible rfl)
      try simp only [Act.put, List.setIfInBounds_toArray, List.set_cons_zero, List.set_cons_succ]
      refine wpB_take 1 _ ?_ rfl (by kernel_rfl) (fun _ _ _ h => h) rfl hHeld ?_ ?_
      rotate_left
      · (intro W hW; go_simp; try with_reducible rfl)
      try simp only [Act.put, List.setIfInBounds_toArray, List.set_cons_zero, List.set_cons_succ]
      refine wpB_take 2 _ ?_ rfl (by kernel_rfl) (fun _ _ _ h => h) rfl hHeld ?_ ?_
      rotate_left
      · (intro W hW; go_simp; try with_reducible rfl)
      try simp only [Act.put, List.setIfInBounds_toArray, List.set_cons_zero, List.set_cons_succ]
      refine wpB_take 3 _ ?_ rfl (by kernel_rfl) (fun _ _ _ h => h) rfl hHeld ?_ ?_
      rotate_left
      · (intro W hW; go_simp; try with_reducible rfl)
      try simp only [Act.put, List.setIfInBounds_toArray, List.set_cons_zero, List.set_cons_succ]
      refine wpB_take 4 _ ?_ rfl (by kernel_rfl) (fun _ _ _ h => h) rfl hHeld ?_ ?_
      rotate_left
      · (intro W hW; go_simp; try with_reducible rfl)
      try simp only [Act.put, List.setIfInBounds_toArray, List.set_cons_zero, List.set_cons_succ]
      refine wpB_take 5 _ ?_ rfl (by kernel_rfl) (fun _ _ _ h => h) rfl hHeld ?_ ?_
      rotate_left
      · (intro W hW; go_simp; try with_reducible rfl)
      try simp only [Act.put, List.setIfInBounds_toArray, List.set_cons_zero, List.set_cons_succ]
      refine wpB_take 6 _ ?_ rfl (by kernel_rfl) (fun _ _ _ h => h) rfl hHeld ?_ ?_
      rotate_left
      · (intro W hW; go_simp; try with_reducible rfl)
      try simp only [Act.put, List.setIfInBounds_toArray, List.set_cons_zero, List.set_cons_succ]
      refine wpB_take 7 _ ?_ rfl (by kernel_rfl) (fun _ _ _ h => h) rfl hHeld ?_ ?_
      rotate_left
      · (intro W hW; go_simp; try with_reducible rfl)
      try simp only [Act.put, List.setIfInBounds_toArray, List.set_cons_zero, List.set_cons_succ]
      refine wpB_take 8 _ ?_ rfl (by kernel_rfl) (fun _ _ _ h => h) rfl hHeld ?_ ?_
      rotate_left
      · (intro W hW; go_simp; try with_reducible rfl)
      try simp only [Act.put, List.setIfInBounds_toArray, List.set_cons_zero, List.set_cons_succ]
      refine wpB_take 9 _ ?_ rfl (by kernel_rfl) (fun _ _ _ h => h) rfl hHeld ?_ ?_
      rotate_left
      · (intro W hW; go_simp; try with_reducible rfl)
      try simp only [Act.put, List.setIfInBounds_toArray, List.set_cons_zero, List.set_cons_succ]
      refine wpB_take 10 _ ?_ rfl (by kernel_rfl) (fun _ _ _ h => h) rfl hHeld ?_ ?_
      rotate_left
      · (intro W hW; go_simp; try with_reducible rfl)
      try simp only [Act.put, List.setIfInBounds_toArray, List.set_cons_zero, List.set_cons_succ]
      refine wpB_take 11 _ ?_ rfl (by kernel_rfl) (fun _ _ _ h => h) rfl hHeld ?_ ?_
      rotate_left
      · (intro W hW; go_simp; try with_reducible rfl)
      try simp only [Act.put, List.setIfInBounds_toArray, List.set_cons_zero, List.set_cons_succ]
      refine wpB_take 12 _ ?_ rfl (by kernel_rfl) (fun _ _ _ h => h) rfl hHeld ?_ ?_
      rotate_left
      · (intro W hW; go_simp; try with_reducible rfl)
      try simp only [Act.put, List.setIfInBounds_toArray, List.set_cons_zero, List.set_cons_succ]
      refine wpB_take 13 _ ?_ rfl (by kernel_rfl) (fun _ _ _ h => h) rfl hHeld ?_ ?_
      rotate_left
      · (intro W hW; go_simp; try with_reducible rfl)
      try simp only [Act.put, List.setIfInBounds_toArray, List.set_cons_zero, List.set_cons_succ]
      refine wpB_take 14 _ ?_ rfl (by kernel_rfl) (fun _ _ _ h => h) rfl hHeld ?_ ?_
      rotate_left
      · (intro W hW; go_simp; try with_reducible rfl)
      try simp only [Act.put, List.setIfInBounds_toArray, List.set_cons_zero, List.set_cons_succ]
      refine wpB_take 15 _ ?_ rfl (by kernel_rfl) (fun _ _ _ h => h) rfl hHeld ?_ ?_
      rotate_left
      · (intro W hW; go_simp; try with_reducible rfl)
      try simp only [Act.put, List.setIfInBounds_toArray, List.set_cons_zero, List.set_cons_succ]
      refine wpB_take 16 _ ?_ rfl (by kernel_rfl) (fun _ _ _ h => h) rfl hHeld ?_ ?_
      rotate_left
      · (intro W hW; go_simp; try with_reducible rfl)
      try simp only [Act.put, List.setIfInBounds_toArray, List.set_cons_zero, List.set_cons_succ]
      refine wpB_take 17 _ ?_ rfl (by kernel_rfl) (fun _ _ _ h => h) rfl hHeld ?_ ?_
      rotate_left
      · (intro W hW; go_simp; try with_reducible rfl)
      try simp only [Act.put, List.setIfInBounds_toArray, List.set_cons_zero, List.set_cons_succ]
      refine wpB_take 18 _ ?_ rfl (by kernel_rfl) (fun _ _ _ h => h) rfl hHeld ?_ ?_
      rotate_left
      · (intro W hW; go_simp; try with_reducible rfl)
      try simp only [Act.put, List.setIfInBounds_toArray, List.set_cons_zero, List.set_cons_succ]
      refine wpB_take 19 _ ?_ rfl (by kernel_rfl) (fun _ _ _ h => h) rfl hHeld ?_ ?_
      rotate_left
      · (intro W hW; go_simp; try with_reducible rfl)
      try simp only [Act.put, List.setIfInBounds_toArray, List.set_cons_zero, List.set_cons_succ]
      refine wpB_take 20 _ ?_ rfl (by kernel_rfl) (fun _ _ _ h => h) rfl hHeld ?_ ?_
      rotate_left
      · (intro W hW; go_simp; try with_reducible rfl)
      try simp only [Act.put, List.setIfInBounds_toArray, List.set_cons_zero, List.set_cons_succ]
      refine wpB_take 21 _ ?_ rfl (by kernel_rfl) (fun _ _ _ h => h) rfl hHeld ?_ ?_
      rotate_left
      · (intro W hW; go_simp; try with_reducible rfl)
      try simp only [Act.put, List.setIfInBounds_toArray, List.set_cons_zero, List.set_cons_succ]
      refine wpB_take 22 _ ?_ rfl (by kernel_rfl) (fun _ _ _ h => h) rfl hHeld ?_ ?_
      rotate_left
      · (intro W hW; go_simp; try with_reducible rfl)
      try simp only [Act.put, List.setIfInBounds_toArray, List.set_cons_zero, List.set_cons_succ]
      refine wpB_take 23 _ ?_ rfl (by kernel_rfl) (fun _ _ _ h => h) rfl hHeld ?_ ?_
      rotate_left
      · (intro W hW; go_simp; try with_reducible rfl)
      try simp only [Act.put, List.setIfInBounds_toArray, List.set_cons_zero, List.set_cons_succ]
      refine wpB_take 24 _ ?_ rfl (by kernel_rfl) (fun _ _ _ h => h) rfl hHeld ?_ ?_
      rotate_left
      · (intro W hW; go_simp; try with_reducible rfl)
      try simp only [Act.put, List.setIfInBounds_toArray, List.set_cons_zero, List.set_cons_succ]
      refine wpB_take 25 _ ?_ rfl (by kernel_rfl) (fun _ _ _ h => h) rfl hHeld ?_ ?_
      rotate_left
      · (intro W hW; go_simp; try with_reducible rfl)
      try simp only [Act.put, List.setIfInBounds_toArray, List.set_cons_zero, List.set_cons_succ]
      refine wpB_step 26 _ rfl (by kernel_rfl) rfl rfl (fun K hK_ => ?_)
      go_simp
      refine hK_.out _ _ (by first | exact hHeld | exact hHeld.call ‹_› | exact hHeld.alloc _) (fun hHeld => ?_)
      clear hK_ K
      try simp only [Act.put, List.setIfInBounds_toArray, List.set_cons_zero, List.set_cons_succ]
      refine wpB_take 27 _ ?_ rfl (by kernel_rfl) (fun _ _ _ h => h) rfl hHeld ?_ ?_
      rotate_left
      · (intro W hW; go_simp; try with_reducible rfl)
      try simp only [Act.put, List.setIfInBounds_toArray, List.set_cons_zero, List.set_cons_succ]
      refine wpB_done (by kernel_rfl) ?_ _
      obtain ⟨wn', hwn'⟩ : ∃ W, W = (wq.alloc (.cells #[.int .u32 (IntKind.u32.wrap (T + U)), .int .u32 x0, .int .u32 x1, .int .u32 x2, .int .u32 (IntKind.u32.wrap (x3 + T)), .int .u32 x4, .int .u32 x5, .int .u32 x6] 82)).drew := ⟨_, rfl⟩
      have hkn' : Kp [] wq wn' := hwn' ▸ ((Kp.refl _ _).alloc _).drew
      have hbn : wn'.heap[wq.heap.size]? = some (.cells (uV (rounds b s (n + 1))) 82 (0, 0)) := by
        rw [HNX.out, hwn']
        have e : rnd [x0, x1, x2, x3, x4, x5, x6, x7] kn wn = [IntKind.u32.wrap (T + U), x0, x1, x2, IntKind.u32.wrap (x3 + T), x4, x5, x6] := by rw [HT.out, HU.out]; rfl
        rw [e]
        exact block_new _ _
      have hKn : Kp [] w2 wn' := (hK.trans hHeld3).trans hkn'
      have hgn : w2.heap.size ≤ wq.heap.size := (hK.trans hHeld3).size
      have hVn : VAt wn' wq.heap.size 0 (rounds b s (n + 1)) := fun j hj => by
        rw [Nat.zero_add]
        refine uV_cell' hbn j _ ?_
        rw [List.getD_eq_getElem?_getD, List.getElem?_eq_getElem (by rw [rounds_len b hs]; exact hj)]; rfl
      obtain ⟨gn, hgn'⟩ : ∃ g, g = wq.heap.size := ⟨_, rfl⟩
      rw [← hgn'] at hVn hgn hbn
      rw [← hwn', ← hgn']
      have HV := Lib.hid hVn
      have HBN := Lib.hid hbn
      clear hwn' hkn' hbn hVn hHeld hHeld3 v0 v1 v2 v3 v4 v5 v6 v7 hwn hkn hgn' kq
      go_wp2_with fail
      go_roundg g'
      case rel => exact ⟨n + 1, gn, 0, 8, by have := HN.out; omega, rfl, by go_num, hKn, HV.out, fun _ => ⟨rfl, rfl, hgn, HBN.out⟩⟩
      case measure => omega
    · obtain rfl : n = 64 := by omega
      obtain rfl : gk = 0 := by omega
      obtain ⟨rfl, rfl, hgw2, hB⟩ := HBK.out (by decide)
      have hz2 := k2.size
      have hVl := rounds_len b hs 64
      obtain ⟨V, hVV⟩ : ∃ V, V = rounds b s 64 := ⟨_, rfl⟩
      rw [← hVV] at hB hVl hV
      have hST : VAt wr gs os s := fun j hj => ((k2.trans hK).cell (lt_of_cell (HST1.out j hj)) (by simp)).trans (HST1.out j hj)
      have hKr := Kp.refl [g] wr
      have hB0 : wr.heap[g]? = some (.cells (uV (addL V s 0)) 82 (0, 0)) := by
        have e : addL V s 0 = V := by unfold addL; simp
        rw [e]; exact hB
      have hgsg : gs ≠ g := by omega
      have HVV := Lib.hid hVV
      obtain ⟨we, hwe⟩ : ∃ we, we = wr := ⟨_, rfl⟩
      rw [← hwe] at hST hKr hB0 hB hK ⊢
      have HSTe := Lib.hid hST
      clear hn hVV hwe hV hB hST
      go_wp2_with fail
      go_loopg [10] 8 (fun g' i wr => ∃ n : Nat, n + g' = 8 ∧ i = .int .i64 n ∧ Kp [g] we wr ∧ wr.heap[g]? = some (.cells (uV (addL V s n)) 82 (0, 0)))
      case atStart => exact ⟨0, rfl, rfl, hKr, hB0⟩
      case round =>
        clear hKr hB0
        obtain ⟨n, hn, rfl, hKs, hSs⟩ := hrel
        have HN8 := Lib.hid hn
        by_cases hlt : n < 8
        · obtain ⟨g', rfl⟩ : ∃ g', gk = g' + 1 := ⟨gk - 1, by omega⟩
          clear hn
          have hltI : (n : Int) < 8 := by omega
          have hbn : 0 ≤ (n : Int) ∧ (n : Int) < 8 := by omega
          obtain ⟨a1, a2, a3⟩ := addL_at hVl hs n hlt
          have ps := Kp.cellAt (X := []) (uV_cell' hSs n _ a1) (by simp)
          have pf : ∀ W, Kp [] wr W → W.frozen? ⟨g, n, none⟩ = false := Kp.frozenAt (uV_cell' hSs n _ a1) (frozen_of_cells hSs _) (by simp)
          have pv := Kp.cellAt (X := []) ((hKs.cell (lt_of_cell (HSTe.out n hlt)) (by simpa using hgsg)).trans (HSTe.out n hlt)) (by simp)
          obtain ⟨x, hx⟩ : ∃ x, x = V.getD n 0 := ⟨_, rfl⟩
          obtain ⟨y, hy⟩ : ∃ y, y = s.getD n 0 := ⟨_, rfl⟩
          rw [← hx] at ps a3
          rw [← hy] at pv a3
          have hset := uV_set hSs n (IntKind.u32.wrap (x + y))
          rw [a3] at hset
          have HSET := Lib.hid hset
          clear hx hy hset a1 a2 a3
          go_wp2_with fail
          refine wpB_begin 12 (Kp [] wr) (by kernel_rfl) (by exact (Kp.refl _ _).drew) (fun hHeld => ?_)
          refine wpB_take 0 _ ?_ rfl (by kernel_rfl) (fun _ _ _ h => h) rfl hHeld ?_ ?_
          rotate_left
          · (intro W hW; go_simp; try with_reducible rfl)
          try simp only [Act.put, List.setIfInBounds_toArray, List.set_cons_zero, List.set_cons_succ]
          refine wpB_take 1 _ ?_ rfl (by kernel_rfl) (fun _ _ _ h => h) rfl hHeld ?_ ?_
          rotate_left
          · (intro W hW; go_simp; try with_reducible rfl)
          try simp only [Act.put, List.setIfInBounds_toArray, List.set_cons_zero, List.set_cons_succ]
          refine wpB_take 2 _ ?_ rfl (by kernel_rfl) (fun _ _ _ h => h) rfl hHeld ?_ ?_
          rotate_left
          · (intro W hW; go_simp; try with_reducible rfl)
          try simp only [Act.put, List.setIfInBounds_toArray, List.set_cons_zero, List.set_cons_succ]
          refine wpB_take 3 _ ?_ rfl (by kernel_rfl) (fun _ _ _ h => h) rfl hHeld ?_ ?_
          rotate_left
          · (intro W hW; go_simp; try with_reducible rfl)
          try simp only [Act.put, List.setIfInBounds_toArray, List.set_cons_zero, List.set_cons_succ]
          refine wpB_take 4 _ ?_ rfl (by kernel_rfl) (fun _ _ _ h => h) rfl hHeld ?_ ?_
          rotate_left
          · (intro W hW; go_simp; try with_reducible rfl)
          try simp only [Act.put, List.setIfInBounds_toArray, List.set_cons_zero, List.set_cons_succ]
          refine wpB_take 5 _ ?_ rfl (by kernel_rfl) (fun _ _ _ h => h) rfl hHeld ?_ ?_
          rotate_left
          · (intro W hW; go_simp; try with_reducible rfl)
          try simp only [Act.put, List.setIfInBounds_toArray, List.set_cons_zero, List.set_cons_succ]
          refine wpB_take 6 _ ?_ rfl (by kernel_rfl) (fun _ _ _ h => h) rfl hHeld ?_ ?_
          rotate_left
          · (intro W hW; go_simp; try with_reducible rfl)
          try simp only [Act.put, List.setIfInBounds_toArray, List.set_cons_zero, List.set_cons_succ]
          refine wpB_take 7 _ ?_ rfl (by kernel_rfl) (fun _ _ _ h => h) rfl hHeld ?_ ?_
          rotate_left
          · (intro W hW; go_simp; try with_reducible rfl)
          try simp only [Act.put, List.setIfInBounds_toArray, List.set_cons_zero, List.set_cons_succ]
          refine wpB_take 8 _ ?_ rfl (by kernel_rfl) (fun _ _ _ h => h) rfl hHeld ?_ ?_
          rotate_left
          · (intro W hW; go_simp; try with_reducible rfl)
          try simp only [Act.put, List.setIfInBounds_toArray, List.set_cons_zero, List.set_cons_succ]
          refine wpB_take 9 _ ?_ rfl (by kernel_rfl) (fun _ _ _ h => h) rfl hHeld ?_ ?_
          rotate_left
          · (intro W hW; go_simp; try with_reducible rfl)
          try simp only [Act.put, List.setIfInBounds_toArray, List.set_cons_zero, List.set_cons_succ]
          refine wpB_take 10 _ ?_ rfl (by kernel_rfl) (fun _ _ _ h => h) rfl hHeld ?_ ?_
          rotate_left
          · (intro W hW; go_simp; try with_reducible rfl)
          try simp only [Act.put, List.setIfInBounds_toArray, List.set_cons_zero, List.set_cons_succ]
          refine wpB_take 11 _ ?_ rfl (by kernel_rfl) (fun _ _ _ h => h) rfl hHeld ?_ ?_
          rotate_left
          · (intro W hW; go_simp; try with_reducible rfl)
          try simp only [Act.put, List.setIfInBounds_toArray, List.set_cons_zero, List.set_cons_succ]
          refine wpB_bar (Kp [g] wr) 999 _ rfl (by kernel_rfl) rfl (fun K hK_ => ?_)
          go_simp
          refine hK_.out _ _ (by exact (hHeld.weaken (fun _ _ h => by cases h)).setCell (.inl (by simp)) _) (fun hHeld => ?_)
          clear hK_ K
          try simp only [Act.put, List.setIfInBounds_toArray, List.set_cons_zero, List.set_cons_succ]
          refine wpB_done (by kernel_rfl) ?_ _
          have hKx : Kp [g] we ((wr.setCell ⟨g, n, none⟩ (.int .u32 (IntKind.u32.wrap (x + y)))).drew) := hKs.trans hHeld
          clear hHeld ps pf pv
          go_wp2_with fail
          go_roundg g'
          case rel => exact ⟨n + 1, by have := HN8.out; omega, by go_num, hKx, HSET.out⟩
          case measure => omega
        · obtain rfl : n = 8 := by omega
          obtain rfl : gk = 0 := by omega
          clear hn
          rw [addL_comm hs hVl] at hSs
          have hF : blockF b s = addL s V 8 := by rw [HVV.out]; rfl
          rw [← hF] at hSs
          have hgle : w.heap.size ≤ g := by have := k1.size; omega
          have hKf : Kp [] w wr := ((k1.trans k2).trans hK).step hKs (fun i hi hm => by rw [List.mem_singleton] at hm; omega)
          clear hF
          go_wp2_with fail
          go_ret
          exact ⟨g, rfl, hSs, blockF_len b hs, hgle, hKf⟩
end Go.Proofs.YtlomniffpjndfaaDoor
