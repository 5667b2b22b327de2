/-
  Commands in memory; whether two lists, two commands are the same.
-/
import Derived.Test.YtmihnakapnoefaaGreatDoorScrK
import Derived.Test.YtmihnakapnoefaaGreatDoorReqS
namespace Go.Proofs.YtmihnakapnoefaaGreatDoor
open Go.RowKit Go.WideShapes

/-- a command's cells, its lists' slices given -/
def CmdV (c : Cmd) (kv tv : Value) : Array Value := #[.int .i64 c.act, .int .i64 c.rk, .string c.rs, .string c.rv, .int .i64 c.n, .int .i64 c.a, .int .i64 c.b, .string c.text, kv, tv]
/-- a list of bools in memory -/
abbrev BoolsAt (B : Nat) (w : World) (v : Value) (l : List Bool) : Prop := SliceAt B w v 1 l.length (l.map Value.bool)
theorem bool_at {B : Nat} {w : World} {v : Value} {xs : List Bool} (h : BoolsAt B w v xs) (i : Nat) (hi : i < xs.length) :
    ∃ g o c, v = .slice (some ⟨g, o, none⟩) xs.length c ∧ w.cell? ⟨g, o + i, none⟩ = some (.bool xs[i]) := by
  obtain ⟨av, cap, rfl⟩ := slice_ex h
  obtain ⟨g, o, rfl, hc, -, hb, hcell⟩ := h.cells (by omega)
  exact ⟨g, o, cap, rfl, hcell i _ (by rw [List.getElem?_map, List.getElem?_eq_getElem hi]; rfl)⟩
/-- a block's cells in later worlds -/
theorem boxAt {w : World} {b : Nat} {cs : Array Value} {t : TypeId} (h : w.heap[b]? = some (.cells cs t (0, 0))) {X : List Nat} (hx : b ∉ X) (o : Nat) (v : Value) (hv : cs[o]? = some v) : ∀ W, Kp X w W → W.cell? ⟨b, o, none⟩ = some v :=
  fun W k => cell_of_cells (Kp.blockAt h hx W k) hv
set_option maxHeartbeats 1000000 in
set_option maxRecDepth 20000 in
theorem seq_any (xs ys : List Bool) (vx vy : Value) (B : Nat) (w : World) (hx : BoolsAt B w vx xs) (hy : BoolsAt B w vy ys) (hz : xs.length ≤ 9223372036854775807) :
    Calls Tryz.prog 40 #[vx, vy] w fun e w' => e = .returned (.bool (decide (xs = ys))) ∧ Kp [] w w' := by
  obtain ⟨ax, cx, rfl⟩ := slice_ex hx
  obtain ⟨ay, cy, rfl⟩ := slice_ex hy
  have hK := Kp.refl [] w
  by_cases hl : xs.length = ys.length
  · have HL := Lib.hid hl
    have hlb : ((xs.length : Int) != (ys.length : Int)) = false := by simp; omega
    clear hl
    go_enter Tryz.func40, Tryz.ntmps40
    go_wp2_with fail
    go_loopg [13] xs.length (fun g i wr => ∃ n : Nat, n + g = xs.length ∧ i = .int .i64 n ∧ Kp [] w wr ∧ xs.take n = ys.take n)
    case atStart => exact ⟨0, by omega, rfl, hK, rfl⟩
    case round =>
      clear hK
      obtain ⟨n, hn, rfl, hK, htk⟩ := hrel
      have HN := Lib.hid hn
      have HT := Lib.hid htk
      clear htk
      by_cases hlt : n < xs.length
      · obtain ⟨g', rfl⟩ : ∃ g', gk = g' + 1 := ⟨gk - 1, by omega⟩
        clear hn
        have hltI : (n : Int) < (xs.length : Int) := by omega
        have hlty : n < ys.length := by have := HL.out; omega
        have hltyI : (n : Int) < (ys.length : Int) := by omega
        obtain ⟨g, o, c, hv', e1⟩ := bool_at hx n hlt
        simp only [Value.slice.injEq] at hv'
        obtain ⟨rfl, -, rfl⟩ := hv'
        obtain ⟨g2, o2, c2, hv', e2⟩ := bool_at hy n hlty
        simp only [Value.slice.injEq] at hv'
        obtain ⟨rfl, -, rfl⟩ := hv'
        have d1 := Kp.cellAt (X := []) (w0 := w) e1 (by simp)
        have d2 := Kp.cellAt (X := []) (w0 := w) e2 (by simp)
        have hsx : xs.take (n + 1) = xs.take n ++ [xs[n]] := by rw [List.take_add_one, List.getElem?_eq_getElem hlt]; rfl
        have hsy : ys.take (n + 1) = ys.take n ++ [ys[n]] := by rw [List.take_add_one, List.getElem?_eq_getElem hlty]; rfl
        obtain ⟨p, hp⟩ : ∃ p, p = xs[n] := ⟨_, rfl⟩
        obtain ⟨q, hq⟩ : ∃ q, q = ys[n] := ⟨_, rfl⟩
        rw [← hp] at d1 hsx
        rw [← hq] at d2 hsy
        have HSX := Lib.hid hsx
        have HSY := Lib.hid hsy
        have HP := Lib.hid hp
        have HQ := Lib.hid hq
        clear hsx hsy e1 e2 hp hq
        go_wp2_with fail
        refine wpB_begin 999 (Kp [] w) (by kernel_rfl) (by first | exact hK.drew | exact Kp.drew (Kp.refl _ _)) (fun hHeld => ?_)
        refine wpB_take 0 _ ?_ rfl (by kernel_rfl) (fun _ _ _ h => h) rfl hHeld ?_ ?_
        rotate_left
        · (intro W hW; go_simp; try with_reducible rfl)
        try simp only [Act.put, List.setIfInBounds_toArray, List.set_cons_zero, List.set_cons_succ]
        refine wpB_take 1 _ ?_ rfl (by kernel_rfl) (fun _ _ _ h => h) rfl hHeld ?_ ?_
        rotate_left
        · (intro W hW; go_simp; try with_reducible rfl)
        try simp only [Act.put, List.setIfInBounds_toArray, List.set_cons_zero, List.set_cons_succ]
        refine wpB_take 2 _ ?_ rfl (by kernel_rfl) (fun _ _ _ h => h) rfl hHeld ?_ ?_
        rotate_left
        · (intro W hW; go_simp; try with_reducible rfl)
        try simp only [Act.put, List.setIfInBounds_toArray, List.set_cons_zero, List.set_cons_succ]
        refine wpB_take 3 _ ?_ rfl (by kernel_rfl) (fun _ _ _ h => h) rfl hHeld ?_ ?_
        rotate_left
        · (intro W hW; go_simp; try with_reducible rfl)
        try simp only [Act.put, List.setIfInBounds_toArray, List.set_cons_zero, List.set_cons_succ]
        refine wpB_take 4 _ ?_ rfl (by kernel_rfl) (fun _ _ _ h => h) rfl hHeld ?_ ?_
        rotate_left
        · (intro W hW; go_simp; try with_reducible rfl)
        try simp only [Act.put, List.setIfInBounds_toArray, List.set_cons_zero, List.set_cons_succ]
        refine wpB_take 5 _ ?_ rfl (by kernel_rfl) (fun _ _ _ h => h) rfl hHeld ?_ ?_
        rotate_left
        · (intro W hW; go_simp; try with_reducible rfl)
        try simp only [Act.put, List.setIfInBounds_toArray, List.set_cons_zero, List.set_cons_succ]
        refine wpB_take 6 _ ?_ rfl (by kernel_rfl) (fun _ _ _ h => h) rfl hHeld ?_ ?_
        rotate_left
        · (intro W hW; go_simp; try with_reducible rfl)
        try simp only [Act.put, List.setIfInBounds_toArray, List.set_cons_zero, List.set_cons_succ]
        refine wpB_take 7 _ ?_ rfl (by kernel_rfl) (fun _ _ _ h => h) rfl hHeld ?_ ?_
        rotate_left
        · (intro W hW; go_simp; try with_reducible rfl)
        try simp only [Act.put, List.setIfInBounds_toArray, List.set_cons_zero, List.set_cons_succ]
        refine wpB_take 8 _ ?_ rfl (by kernel_rfl) (fun _ _ _ h => h) rfl hHeld ?_ ?_
        rotate_left
        · (intro W hW; go_simp; try with_reducible rfl)
        try simp only [Act.put, List.setIfInBounds_toArray, List.set_cons_zero, List.set_cons_succ]
        refine wpB_done (by kernel_rfl) ?_ _
        by_cases hpq : p = q
        · have hstep : xs.take (n + 1) = ys.take (n + 1) := by rw [HSX.out, HSY.out, HT.out, hpq]
          have HST := Lib.hid hstep
          subst hpq
          clear hstep HP HQ HSX HSY
          cases p with
          | false =>
            (go_wp2_with fail
             go_roundg g'
             case rel =>
               have hn := HN.out
               exact ⟨n + 1, by omega, by go_num, hHeld, HST.out⟩
             case measure => omega)
          | true =>
            (go_wp2_with fail
             go_roundg g'
             case rel =>
               have hn := HN.out
               exact ⟨n + 1, by omega, by go_num, hHeld, HST.out⟩
             case measure => omega)
        · have hne : decide (xs = ys) = false := by
            rw [decide_eq_false_iff_not]
            rintro rfl
            exact hpq (HP.out.trans HQ.out.symm)
          have HNE := Lib.hid hne
          clear hne HP HQ HSX HSY
          cases p with
          | false =>
            cases q with
            | false => exact absurd rfl hpq
            | true =>
              (clear hpq
               go_wp2_with fail
               go_ret
               exact ⟨by rw [HNE.out]; rfl, hHeld⟩)
          | true =>
            cases q with
            | false =>
              (clear hpq
               go_wp2_with fail
               go_ret
               exact ⟨by rw [HNE.out]; rfl, hHeld⟩)
            | true => exact absurd rfl hpq
      · obtain rfl : n = xs.length := by omega
        obtain rfl : gk = 0 := by omega
        clear hn
        have he : decide (xs = ys) = true := by
          rw [decide_eq_true_eq]
          have h1 := HT.out
          rw [List.take_length, HL.out, List.take_length] at h1
          exact h1
        have HE := Lib.hid he
        clear he
        go_wp2_with fail
        go_ret
        exact ⟨by rw [HE.out]; rfl, hK⟩
  · have hlb : ((xs.length : Int) != (ys.length : Int)) = true := by simp; omega
    have hne : decide (xs = ys) = false := by
      rw [decide_eq_false_iff_not]
      rintro rfl
      exact hl rfl
    rw [hne]
    clear hl hne
    go_enter Tryz.func40, Tryz.ntmps40
    go_wp2_with fail
    go_ret
    exact ⟨rfl, hK⟩
set_option maxHeartbeats 1000000 in
set_option maxRecDepth 20000 in
theorem rbools (xs ys : List Bool) (vx vy : Value) (B : Nat) (w : World) (hx : BoolsAt B w vx xs) (hy : BoolsAt B w vy ys) (hz : xs.length ≤ 9223372036854775807) :
    Calls Tryz.prog 39 #[vx, vy] w fun e w' => e = .returned (.bool (decide (xs = ys))) ∧ Kp [] w w' := by
  obtain ⟨ax, cx, rfl⟩ := slice_ex hx
  obtain ⟨ay, cy, rfl⟩ := slice_ex hy
  have hK := Kp.refl [] w
  by_cases hl : xs.length = ys.length
  · have HL := Lib.hid hl
    have hlb : ((xs.length : Int) != (ys.length : Int)) = false := by simp; omega
    clear hl
    go_enter Tryz.func39, Tryz.ntmps39
    go_wp2_with fail
    go_loopg [5] xs.length (fun g i wr => ∃ n : Nat, n + g = xs.length ∧ i = .int .i64 n ∧ Kp [] w wr ∧ xs.take n = ys.take n)
    case atStart => exact ⟨0, by omega, rfl, hK, rfl⟩
    case round =>
      clear hK
      obtain ⟨n, hn, rfl, hK, htk⟩ := hrel
      have HN := Lib.hid hn
      have HT := Lib.hid htk
      clear htk
      by_cases hlt : n < xs.length
      · obtain ⟨g', rfl⟩ : ∃ g', gk = g' + 1 := ⟨gk - 1, by omega⟩
        clear hn
        have hltI : (n : Int) < (xs.length : Int) := by omega
        have hlty : n < ys.length := by have := HL.out; omega
        have hltyI : (n : Int) < (ys.length : Int) := by omega
        obtain ⟨g, o, c, hv', e1⟩ := bool_at hx n hlt
        simp only [Value.slice.injEq] at hv'
        obtain ⟨rfl, -, rfl⟩ := hv'
        obtain ⟨g2, o2, c2, hv', e2⟩ := bool_at hy n hlty
        simp only [Value.slice.injEq] at hv'
        obtain ⟨rfl, -, rfl⟩ := hv'
        have d1 := Kp.cellAt (X := []) (w0 := w) e1 (by simp)
        have d2 := Kp.cellAt (X := []) (w0 := w) e2 (by simp)
        have hsx : xs.take (n + 1) = xs.take n ++ [xs[n]] := by rw [List.take_add_one, List.getElem?_eq_getElem hlt]; rfl
        have hsy : ys.take (n + 1) = ys.take n ++ [ys[n]] := by rw [List.take_add_one, List.getElem?_eq_getElem hlty]; rfl
        obtain ⟨p, hp⟩ : ∃ p, p = xs[n] := ⟨_, rfl⟩
        obtain ⟨q, hq⟩ : ∃ q, q = ys[n] := ⟨_, rfl⟩
        rw [← hp] at d1 hsx
        rw [← hq] at d2 hsy
        have HSX := Lib.hid hsx
        have HSY := Lib.hid hsy
        have HP := Lib.hid hp
        have HQ := Lib.hid hq
        clear hsx hsy e1 e2 hp hq
        go_wp2_with fail
        refine wpB_begin 999 (Kp [] w) (by kernel_rfl) (by first | exact hK.drew | exact Kp.drew (Kp.refl _ _)) (fun hHeld => ?_)
        refine wpB_take 0 _ ?_ rfl (by kernel_rfl) (fun _ _ _ h => h) rfl hHeld ?_ ?_
        rotate_left
        · (intro W hW; go_simp; try with_reducible rfl)
        try simp only [Act.put, List.setIfInBounds_toArray, List.set_cons_zero, List.set_cons_succ]
        refine wpB_take 1 _ ?_ rfl (by kernel_rfl) (fun _ _ _ h => h) rfl hHeld ?_ ?_
        rotate_left
        · (intro W hW; go_simp; try with_reducible rfl)
        try simp only [Act.put, List.setIfInBounds_toArray, List.set_cons_zero, List.set_cons_succ]
        refine wpB_take 2 _ ?_ rfl (by kernel_rfl) (fun _ _ _ h => h) rfl hHeld ?_ ?_
        rotate_left
        · (intro W hW; go_simp; try with_reducible rfl)
        try simp only [Act.put, List.setIfInBounds_toArray, List.set_cons_zero, List.set_cons_succ]
        refine wpB_take 3 _ ?_ rfl (by kernel_rfl) (fun _ _ _ h => h) rfl hHeld ?_ ?_
        rotate_left
        · (intro W hW; go_simp; try with_reducible rfl)
        try simp only [Act.put, List.setIfInBounds_toArray, List.set_cons_zero, List.set_cons_succ]
        refine wpB_take 4 _ ?_ rfl (by kernel_rfl) (fun _ _ _ h => h) rfl hHeld ?_ ?_
        rotate_left
        · (intro W hW; go_simp; try with_reducible rfl)
        try simp only [Act.put, List.setIfInBounds_toArray, List.set_cons_zero, List.set_cons_succ]
        refine wpB_take 5 _ ?_ rfl (by kernel_rfl) (fun _ _ _ h => h) rfl hHeld ?_ ?_
        rotate_left
        · (intro W hW; go_simp; try with_reducible rfl)
        try simp only [Act.put, List.setIfInBounds_toArray, List.set_cons_zero, List.set_cons_succ]
        refine wpB_take 6 _ ?_ rfl (by kernel_rfl) (fun _ _ _ h => h) rfl hHeld ?_ ?_
        rotate_left
        · (intro W hW; go_simp; try with_reducible rfl)
        try simp only [Act.put, List.setIfInBounds_toArray, List.set_cons_zero, List.set_cons_succ]
        refine wpB_take 7 _ ?_ rfl (by kernel_rfl) (fun _ _ _ h => h) rfl hHeld ?_ ?_
        rotate_left
        · (intro W hW; go_simp; try with_reducible rfl)
        try simp only [Act.put, List.setIfInBounds_toArray, List.set_cons_zero, List.set_cons_succ]
        refine wpB_take 8 _ ?_ rfl (by kernel_rfl) (fun _ _ _ h => h) rfl hHeld ?_ ?_
        rotate_left
        · (intro W hW; go_simp; try with_reducible rfl)
        try simp only [Act.put, List.setIfInBounds_toArray, List.set_cons_zero, List.set_cons_succ]
        refine wpB_done (by kernel_rfl) ?_ _
        by_cases hpq : p = q
        · have hstep : xs.take (n + 1) = ys.take (n + 1) := by rw [HSX.out, HSY.out, HT.out, hpq]
          have HST := Lib.hid hstep
          subst hpq
          clear hstep HP HQ HSX HSY
          cases p with
          | false =>
            (go_wp2_with fail
             go_roundg g'
             case rel =>
               have hn := HN.out
               exact ⟨n + 1, by omega, by go_num, hHeld, HST.out⟩
             case measure => omega)
          | true =>
            (go_wp2_with fail
             go_roundg g'
             case rel =>
               have hn := HN.out
               exact ⟨n + 1, by omega, by go_num, hHeld, HST.out⟩
             case measure => omega)
        · have hne : decide (xs = ys) = false := by
            rw [decide_eq_false_iff_not]
            rintro rfl
            exact hpq (HP.out.trans HQ.out.symm)
          have HNE := Lib.hid hne
          clear hne HP HQ HSX HSY
          cases p with
          | false =>
            cases q with
            | false => exact absurd rfl hpq
            | true =>
              (clear hpq
               go_wp2_with fail
               go_ret
               exact ⟨by rw [HNE.out]; rfl, hHeld⟩)
          | true =>
            cases q with
            | false =>
              (clear hpq
               go_wp2_with fail
               go_ret
               exact ⟨by rw [HNE.out]; rfl, hHeld⟩)
            | true => exact absurd rfl hpq
      · obtain rfl : n = xs.length := by omega
        obtain rfl : gk = 0 := by omega
        clear hn
        have he : decide (xs = ys) = true := by
          rw [decide_eq_true_eq]
          have h1 := HT.out
          rw [List.take_length, HL.out, List.take_length] at h1
          exact h1
        have HE := Lib.hid he
        clear he
        go_wp2_with fail
        go_ret
        exact ⟨by rw [HE.out]; rfl, hK⟩
  · have hlb : ((xs.length : Int) != (ys.length : Int)) = true := by simp; omega
    have hne : decide (xs = ys) = false := by
      rw [decide_eq_false_iff_not]
      rintro rfl
      exact hl rfl
    rw [hne]
    clear hl hne
    go_enter Tryz.func39, Tryz.ntmps39
    go_wp2_with fail
    go_ret
    exact ⟨rfl, hK⟩
theorem str_ne {a b : ByteArray} (h : ¬ a = b) : (a.toList == b.toList) = false := by
  rw [ByteArray.toList_eq, ByteArray.toList_eq]
  simp only [beq_eq_false_iff_ne, ne_eq]
  exact fun e => h (bytes_inj e)
theorem int_ne {a b : Int} (h : ¬ a = b) : (a == b) = false := by simpa using h
theorem cells10 {w : World} {b : Nat} {t : TypeId} {v0 v1 v2 v3 v4 v5 v6 v7 v8 v9 : Value} (h : w.heap[b]? = some (.cells #[v0, v1, v2, v3, v4, v5, v6, v7, v8, v9] t (0, 0))) :
    (∀ W, Kp [] w W → W.cell? ⟨b, 0, none⟩ = some v0) ∧ (∀ W, Kp [] w W → W.cell? ⟨b, 1, none⟩ = some v1) ∧ (∀ W, Kp [] w W → W.cell? ⟨b, 2, none⟩ = some v2) ∧ (∀ W, Kp [] w W → W.cell? ⟨b, 3, none⟩ = some v3) ∧
    (∀ W, Kp [] w W → W.cell? ⟨b, 4, none⟩ = some v4) ∧ (∀ W, Kp [] w W → W.cell? ⟨b, 5, none⟩ = some v5) ∧ (∀ W, Kp [] w W → W.cell? ⟨b, 6, none⟩ = some v6) ∧ (∀ W, Kp [] w W → W.cell? ⟨b, 7, none⟩ = some v7) ∧
    (∀ W, Kp [] w W → W.cell? ⟨b, 8, none⟩ = some v8) ∧ (∀ W, Kp [] w W → W.cell? ⟨b, 9, none⟩ = some v9) :=
  ⟨boxAt h (by simp) 0 _ rfl, boxAt h (by simp) 1 _ rfl, boxAt h (by simp) 2 _ rfl, boxAt h (by simp) 3 _ rfl, boxAt h (by simp) 4 _ rfl, boxAt h (by simp) 5 _ rfl, boxAt h (by simp) 6 _ rfl, boxAt h (by simp) 7 _ rfl, boxAt h (by simp) 8 _ rfl, boxAt h (by simp) 9 _ rfl⟩
set_option maxHeartbeats 4000000 in
set_option maxRecDepth 20000 in
theorem ssame (x y : Cmd) (kx tvx ky tvy : Value) (B : Nat) (w : World) (h1 : BoolsAt B w kx x.keep) (h2 : BoolsAt B w tvx x.torn) (h3 : BoolsAt B w ky y.keep) (h4 : BoolsAt B w tvy y.torn)
    (z1 : x.keep.length ≤ 9223372036854775807) (z2 : x.torn.length ≤ 9223372036854775807) :
    Calls Tryz.prog 16 #[.agg (CmdV x kx tvx), .agg (CmdV y ky tvy)] w fun e w' => e = .returned (.bool (sameC x y)) ∧ Kp [] w w' := by
  obtain ⟨x0, x1, x2, x3, x4, x5, x6, x7, lx, tx⟩ := x
  obtain ⟨y0, y1, y2, y3, y4, y5, y6, y7, ly, ty⟩ := y
  simp only at h1 h2 h3 h4 z1 z2
  simp only [CmdV]
  obtain ⟨w0, hw0⟩ : ∃ w0, w0 = (w.alloc (.cells #[.int .i64 x0, .int .i64 x1, .string x2, .string x3, .int .i64 x4, .int .i64 x5, .int .i64 x6, .string x7, kx, tvx] 32)).alloc (.cells #[.int .i64 y0, .int .i64 y1, .string y2, .string y3, .int .i64 y4, .int .i64 y5, .int .i64 y6, .string y7, ky, tvy] 32) := ⟨_, rfl⟩
  have kw0 : Kp [] w w0 := hw0 ▸ ((Kp.refl _ _).alloc _).alloc _
  have hbx : w0.heap[w.heap.size]? = some (.cells #[.int .i64 x0, .int .i64 x1, .string x2, .string x3, .int .i64 x4, .int .i64 x5, .int .i64 x6, .string x7, kx, tvx] 32 (0, 0)) := by rw [hw0]; exact block_alloc (block_new _ _) _
  have hby : w0.heap[w.heap.size + 1]? = some (.cells #[.int .i64 y0, .int .i64 y1, .string y2, .string y3, .int .i64 y4, .int .i64 y5, .int .i64 y6, .string y7, ky, tvy] 32 (0, 0)) := by
    rw [hw0]
    have := block_new (w.alloc (.cells #[.int .i64 x0, .int .i64 x1, .string x2, .string x3, .int .i64 x4, .int .i64 x5, .int .i64 x6, .string x7, kx, tvx] 32)) (.cells #[.int .i64 y0, .int .i64 y1, .string y2, .string y3, .int .i64 y4, .int .i64 y5, .int .i64 y6, .string y7, ky, tvy] 32)
    rw [World.size_alloc] at this
    exact this
  obtain ⟨a0, a1, a2, a3, a4, a5, a6, a7, a8, a9⟩ := cells10 hbx
  obtain ⟨b0, b1, b2, b3, b4, b5, b6, b7, b8, b9⟩ := cells10 hby
  have Hw0 := Lib.hid hw0
  have hK := Kp.refl [] w0
  have k1 := h1.keep0 kw0
  have k2 := h2.keep0 kw0
  have k3 := h3.keep0 kw0
  have k4 := h4.keep0 kw0
  clear hw0 hbx hby h1 h2 h3 h4
  by_cases e0 : x0 = y0
  · subst e0
    by_cases e1 : x1 = y1
    · subst e1
      by_cases e2 : x2 = y2
      · subst e2
        by_cases e3 : x3 = y3
        · subst e3
          by_cases e4 : x4 = y4
          · subst e4
            by_cases e5 : x5 = y5
            · subst e5
              by_cases e6 : x6 = y6
              · subst e6
                by_cases e7 : x7 = y7
                · subst e7
                  have hR : sameC ⟨x0, x1, x2, x3, x4, x5, x6, x7, lx, tx⟩ ⟨x0, x1, x2, x3, x4, x5, x6, x7, ly, ty⟩ = (decide (lx = ly) && decide (tx = ty)) := by simp [sameC]
                  rw [hR]
                  clear hR
                  obtain ⟨R, hR⟩ : ∃ R, R = (decide (lx = ly) && decide (tx = ty)) := ⟨_, rfl⟩
                  rw [← hR]
                  have HR := Lib.hid hR
                  clear hR
                  go_enter Tryz.func16, Tryz.ntmps16
                  go_wp2_with fail
                  rw [← Hw0.out]
                  go_wp2_with fail
                  refine (seq_any lx ly _ _ _ _ k1 k3 z1).mono ?_
                  rintro e w1 ⟨rfl, hk1⟩
                  have hK1 := hk1
                  cases hb : decide (lx = ly) with
                  | false =>
                    go_wp2_with fail
                    go_ret
                    exact ⟨by rw [HR.out, hb]; rfl, kw0.trans hK1⟩
                  | true =>
                    go_wp2_with fail
                    refine (seq_any tx ty _ _ _ _ (k2.keep0 hK1) (k4.keep0 hK1) z2).mono ?_
                    rintro e w2 ⟨rfl, hk2⟩
                    go_wp2_with fail
                    go_ret
                    exact ⟨by rw [HR.out, hb]; rfl, kw0.trans (hK1.trans hk2)⟩
                · have hR : sameC ⟨x0, x1, x2, x3, x4, x5, x6, x7, lx, tx⟩ ⟨x0, x1, x2, x3, x4, x5, x6, y7, ly, ty⟩ = false := by
                    cases hb : sameC ⟨x0, x1, x2, x3, x4, x5, x6, x7, lx, tx⟩ ⟨x0, x1, x2, x3, x4, x5, x6, y7, ly, ty⟩ with
                    | false => rfl
                    | true =>
                      have := (sameC_iff _ _).1 hb
                      simp only [Cmd.mk.injEq] at this
                      exact absurd this.2.2.2.2.2.2.2.1 e7
                  rw [hR]
                  clear hR
                  have := str_ne e7
                  go_enter Tryz.func16, Tryz.ntmps16
                  go_wp2_with fail
                  rw [← Hw0.out]
                  go_wp2_with fail
                  go_ret
                  exact ⟨rfl, kw0⟩
              · have hR : sameC ⟨x0, x1, x2, x3, x4, x5, x6, x7, lx, tx⟩ ⟨x0, x1, x2, x3, x4, x5, y6, y7, ly, ty⟩ = false := by
                  cases hb : sameC ⟨x0, x1, x2, x3, x4, x5, x6, x7, lx, tx⟩ ⟨x0, x1, x2, x3, x4, x5, y6, y7, ly, ty⟩ with
                  | false => rfl
                  | true =>
                    have := (sameC_iff _ _).1 hb
                    simp only [Cmd.mk.injEq] at this
                    exact absurd this.2.2.2.2.2.2.1 e6
                rw [hR]
                clear hR
                have := int_ne e6
                go_enter Tryz.func16, Tryz.ntmps16
                go_wp2_with fail
                rw [← Hw0.out]
                go_wp2_with fail
                go_ret
                exact ⟨rfl, kw0⟩
            · have hR : sameC ⟨x0, x1, x2, x3, x4, x5, x6, x7, lx, tx⟩ ⟨x0, x1, x2, x3, x4, y5, y6, y7, ly, ty⟩ = false := by
                cases hb : sameC ⟨x0, x1, x2, x3, x4, x5, x6, x7, lx, tx⟩ ⟨x0, x1, x2, x3, x4, y5, y6, y7, ly, ty⟩ with
                | false => rfl
                | true =>
                  have := (sameC_iff _ _).1 hb
                  simp only [Cmd.mk.injEq] at this
                  exact absurd this.2.2.2.2.2.1 e5
              rw [hR]
              clear hR
              have := int_ne e5
              go_enter Tryz.func16, Tryz.ntmps16
              go_wp2_with fail
              rw [← Hw0.out]
              go_wp2_with fail
              go_ret
              exact ⟨rfl, kw0⟩
          · have hR : sameC ⟨x0, x1, x2, x3, x4, x5, x6, x7, lx, tx⟩ ⟨x0, x1, x2, x3, y4, y5, y6, y7, ly, ty⟩ = false := by
              cases hb : sameC ⟨x0, x1, x2, x3, x4, x5, x6, x7, lx, tx⟩ ⟨x0, x1, x2, x3, y4, y5, y6, y7, ly, ty⟩ with
              | false => rfl
              | true =>
                have := (sameC_iff _ _).1 hb
                simp only [Cmd.mk.injEq] at this
                exact absurd this.2.2.2.2.1 e4
            rw [hR]
            clear hR
            have := int_ne e4
            go_enter Tryz.func16, Tryz.ntmps16
            go_wp2_with fail
            rw [← Hw0.out]
            go_wp2_with fail
            go_ret
            exact ⟨rfl, kw0⟩
        · have hR : sameC ⟨x0, x1, x2, x3, x4, x5, x6, x7, lx, tx⟩ ⟨x0, x1, x2, y3, y4, y5, y6, y7, ly, ty⟩ = false := by
            cases hb : sameC ⟨x0, x1, x2, x3, x4, x5, x6, x7, lx, tx⟩ ⟨x0, x1, x2, y3, y4, y5, y6, y7, ly, ty⟩ with
            | false => rfl
            | true =>
              have := (sameC_iff _ _).1 hb
              simp only [Cmd.mk.injEq] at this
              exact absurd this.2.2.2.1 e3
          rw [hR]
          clear hR
          have := str_ne e3
          go_enter Tryz.func16, Tryz.ntmps16
          go_wp2_with fail
          rw [← Hw0.out]
          go_wp2_with fail
          go_ret
          exact ⟨rfl, kw0⟩
      · have hR : sameC ⟨x0, x1, x2, x3, x4, x5, x6, x7, lx, tx⟩ ⟨x0, x1, y2, y3, y4, y5, y6, y7, ly, ty⟩ = false := by
          cases hb : sameC ⟨x0, x1, x2, x3, x4, x5, x6, x7, lx, tx⟩ ⟨x0, x1, y2, y3, y4, y5, y6, y7, ly, ty⟩ with
          | false => rfl
          | true =>
            have := (sameC_iff _ _).1 hb
            simp only [Cmd.mk.injEq] at this
            exact absurd this.2.2.1 e2
        rw [hR]
        clear hR
        have := str_ne e2
        go_enter Tryz.func16, Tryz.ntmps16
        go_wp2_with fail
        rw [← Hw0.out]
        go_wp2_with fail
        go_ret
        exact ⟨rfl, kw0⟩
    · have hR : sameC ⟨x0, x1, x2, x3, x4, x5, x6, x7, lx, tx⟩ ⟨x0, y1, y2, y3, y4, y5, y6, y7, ly, ty⟩ = false := by
        cases hb : sameC ⟨x0, x1, x2, x3, x4, x5, x6, x7, lx, tx⟩ ⟨x0, y1, y2, y3, y4, y5, y6, y7, ly, ty⟩ with
        | false => rfl
        | true =>
          have := (sameC_iff _ _).1 hb
          simp only [Cmd.mk.injEq] at this
          exact absurd this.2.1 e1
      rw [hR]
      clear hR
      have := int_ne e1
      go_enter Tryz.func16, Tryz.ntmps16
      go_wp2_with fail
      rw [← Hw0.out]
      go_wp2_with fail
      go_ret
      exact ⟨rfl, kw0⟩
  · have hR : sameC ⟨x0, x1, x2, x3, x4, x5, x6, x7, lx, tx⟩ ⟨y0, y1, y2, y3, y4, y5, y6, y7, ly, ty⟩ = false := by
      cases hb : sameC ⟨x0, x1, x2, x3, x4, x5, x6, x7, lx, tx⟩ ⟨y0, y1, y2, y3, y4, y5, y6, y7, ly, ty⟩ with
      | false => rfl
      | true =>
        have := (sameC_iff _ _).1 hb
        simp only [Cmd.mk.injEq] at this
        exact absurd this.1 e0
    rw [hR]
    clear hR
    have := int_ne e0
    go_enter Tryz.func16, Tryz.ntmps16
    go_wp2_with fail
    rw [← Hw0.out]
    go_wp2_with fail
    go_ret
    exact ⟨rfl, kw0⟩
set_option maxHeartbeats 4000000 in
set_option maxRecDepth 20000 in
theorem r23same (x y : Cmd) (kx tvx ky tvy : Value) (B : Nat) (w : World) (h1 : BoolsAt B w kx x.keep) (h2 : BoolsAt B w tvx x.torn) (h3 : BoolsAt B w ky y.keep) (h4 : BoolsAt B w tvy y.torn)
    (z1 : x.keep.length ≤ 9223372036854775807) (z2 : x.torn.length ≤ 9223372036854775807) :
    Calls Tryz.prog 14 #[.agg (CmdV x kx tvx), .agg (CmdV y ky tvy)] w fun e w' => e = .returned (.bool (sameC x y)) ∧ Kp [] w w' := by
  obtain ⟨x0, x1, x2, x3, x4, x5, x6, x7, lx, tx⟩ := x
  obtain ⟨y0, y1, y2, y3, y4, y5, y6, y7, ly, ty⟩ := y
  simp only at h1 h2 h3 h4 z1 z2
  simp only [CmdV]
  obtain ⟨w0, hw0⟩ : ∃ w0, w0 = (w.alloc (.cells #[.int .i64 x0, .int .i64 x1, .string x2, .string x3, .int .i64 x4, .int .i64 x5, .int .i64 x6, .string x7, kx, tvx] 26)).alloc (.cells #[.int .i64 y0, .int .i64 y1, .string y2, .string y3, .int .i64 y4, .int .i64 y5, .int .i64 y6, .string y7, ky, tvy] 26) := ⟨_, rfl⟩
  have kw0 : Kp [] w w0 := hw0 ▸ ((Kp.refl _ _).alloc _).alloc _
  have hbx : w0.heap[w.heap.size]? = some (.cells #[.int .i64 x0, .int .i64 x1, .string x2, .string x3, .int .i64 x4, .int .i64 x5, .int .i64 x6, .string x7, kx, tvx] 26 (0, 0)) := by rw [hw0]; exact block_alloc (block_new _ _) _
  have hby : w0.heap[w.heap.size + 1]? = some (.cells #[.int .i64 y0, .int .i64 y1, .string y2, .string y3, .int .i64 y4, .int .i64 y5, .int .i64 y6, .string y7, ky, tvy] 26 (0, 0)) := by
    rw [hw0]
    have := block_new (w.alloc (.cells #[.int .i64 x0, .int .i64 x1, .string x2, .string x3, .int .i64 x4, .int .i64 x5, .int .i64 x6, .string x7, kx, tvx] 26)) (.cells #[.int .i64 y0, .int .i64 y1, .string y2, .string y3, .int .i64 y4, .int .i64 y5, .int .i64 y6, .string y7, ky, tvy] 26)
    rw [World.size_alloc] at this
    exact this
  obtain ⟨a0, a1, a2, a3, a4, a5, a6, a7, a8, a9⟩ := cells10 hbx
  obtain ⟨b0, b1, b2, b3, b4, b5, b6, b7, b8, b9⟩ := cells10 hby
  have Hw0 := Lib.hid hw0
  have hK := Kp.refl [] w0
  have k1 := h1.keep0 kw0
  have k2 := h2.keep0 kw0
  have k3 := h3.keep0 kw0
  have k4 := h4.keep0 kw0
  clear hw0 hbx hby h1 h2 h3 h4
  by_cases e0 : x0 = y0
  · subst e0
    by_cases e1 : x1 = y1
    · subst e1
      by_cases e2 : x2 = y2
      · subst e2
        by_cases e3 : x3 = y3
        · subst e3
          by_cases e4 : x4 = y4
          · subst e4
            by_cases e5 : x5 = y5
            · subst e5
              by_cases e6 : x6 = y6
              · subst e6
                by_cases e7 : x7 = y7
                · subst e7
                  have hR : sameC ⟨x0, x1, x2, x3, x4, x5, x6, x7, lx, tx⟩ ⟨x0, x1, x2, x3, x4, x5, x6, x7, ly, ty⟩ = (decide (lx = ly) && decide (tx = ty)) := by simp [sameC]
                  rw [hR]
                  clear hR
                  obtain ⟨R, hR⟩ : ∃ R, R = (decide (lx = ly) && decide (tx = ty)) := ⟨_, rfl⟩
                  rw [← hR]
                  have HR := Lib.hid hR
                  clear hR
                  go_enter Tryz.func14, Tryz.ntmps14
                  go_wp2_with fail
                  rw [← Hw0.out]
                  go_wp2_with fail
                  refine (rbools lx ly _ _ _ _ k1 k3 z1).mono ?_
                  rintro e w1 ⟨rfl, hk1⟩
                  have hK1 := hk1
                  cases hb : decide (lx = ly) with
                  | false =>
                    go_wp2_with fail
                    go_ret
                    exact ⟨by rw [HR.out, hb]; rfl, kw0.trans hK1⟩
                  | true =>
                    go_wp2_with fail
                    refine (rbools tx ty _ _ _ _ (k2.keep0 hK1) (k4.keep0 hK1) z2).mono ?_
                    rintro e w2 ⟨rfl, hk2⟩
                    go_wp2_with fail
                    go_ret
                    exact ⟨by rw [HR.out, hb]; rfl, kw0.trans (hK1.trans hk2)⟩
                · have hR : sameC ⟨x0, x1, x2, x3, x4, x5, x6, x7, lx, tx⟩ ⟨x0, x1, x2, x3, x4, x5, x6, y7, ly, ty⟩ = false := by
                    cases hb : sameC ⟨x0, x1, x2, x3, x4, x5, x6, x7, lx, tx⟩ ⟨x0, x1, x2, x3, x4, x5, x6, y7, ly, ty⟩ with
                    | false => rfl
                    | true =>
                      have := (sameC_iff _ _).1 hb
                      simp only [Cmd.mk.injEq] at this
                      exact absurd this.2.2.2.2.2.2.2.1 e7
                  rw [hR]
                  clear hR
                  have := str_ne e7
                  go_enter Tryz.func14, Tryz.ntmps14
                  go_wp2_with fail
                  rw [← Hw0.out]
                  go_wp2_with fail
                  go_ret
                  exact ⟨rfl, kw0⟩
              · have hR : sameC ⟨x0, x1, x2, x3, x4, x5, x6, x7, lx, tx⟩ ⟨x0, x1, x2, x3, x4, x5, y6, y7, ly, ty⟩ = false := by
                  cases hb : sameC ⟨x0, x1, x2, x3, x4, x5, x6, x7, lx, tx⟩ ⟨x0, x1, x2, x3, x4, x5, y6, y7, ly, ty⟩ with
                  | false => rfl
                  | true =>
                    have := (sameC_iff _ _).1 hb
                    simp only [Cmd.mk.injEq] at this
                    exact absurd this.2.2.2.2.2.2.1 e6
                rw [hR]
                clear hR
                have := int_ne e6
                go_enter Tryz.func14, Tryz.ntmps14
                go_wp2_with fail
                rw [← Hw0.out]
                go_wp2_with fail
                go_ret
                exact ⟨rfl, kw0⟩
            · have hR : sameC ⟨x0, x1, x2, x3, x4, x5, x6, x7, lx, tx⟩ ⟨x0, x1, x2, x3, x4, y5, y6, y7, ly, ty⟩ = false := by
                cases hb : sameC ⟨x0, x1, x2, x3, x4, x5, x6, x7, lx, tx⟩ ⟨x0, x1, x2, x3, x4, y5, y6, y7, ly, ty⟩ with
                | false => rfl
                | true =>
                  have := (sameC_iff _ _).1 hb
                  simp only [Cmd.mk.injEq] at this
                  exact absurd this.2.2.2.2.2.1 e5
              rw [hR]
              clear hR
              have := int_ne e5
              go_enter Tryz.func14, Tryz.ntmps14
              go_wp2_with fail
              rw [← Hw0.out]
              go_wp2_with fail
              go_ret
              exact ⟨rfl, kw0⟩
          · have hR : sameC ⟨x0, x1, x2, x3, x4, x5, x6, x7, lx, tx⟩ ⟨x0, x1, x2, x3, y4, y5, y6, y7, ly, ty⟩ = false := by
              cases hb : sameC ⟨x0, x1, x2, x3, x4, x5, x6, x7, lx, tx⟩ ⟨x0, x1, x2, x3, y4, y5, y6, y7, ly, ty⟩ with
              | false => rfl
              | true =>
                have := (sameC_iff _ _).1 hb
                simp only [Cmd.mk.injEq] at this
                exact absurd this.2.2.2.2.1 e4
            rw [hR]
            clear hR
            have := int_ne e4
            go_enter Tryz.func14, Tryz.ntmps14
            go_wp2_with fail
            rw [← Hw0.out]
            go_wp2_with fail
            go_ret
            exact ⟨rfl, kw0⟩
        · have hR : sameC ⟨x0, x1, x2, x3, x4, x5, x6, x7, lx, tx⟩ ⟨x0, x1, x2, y3, y4, y5, y6, y7, ly, ty⟩ = false := by
            cases hb : sameC ⟨x0, x1, x2, x3, x4, x5, x6, x7, lx, tx⟩ ⟨x0, x1, x2, y3, y4, y5, y6, y7, ly, ty⟩ with
            | false => rfl
            | true =>
              have := (sameC_iff _ _).1 hb
              simp only [Cmd.mk.injEq] at this
              exact absurd this.2.2.2.1 e3
          rw [hR]
          clear hR
          have := str_ne e3
          go_enter Tryz.func14, Tryz.ntmps14
          go_wp2_with fail
          rw [← Hw0.out]
          go_wp2_with fail
          go_ret
          exact ⟨rfl, kw0⟩
      · have hR : sameC ⟨x0, x1, x2, x3, x4, x5, x6, x7, lx, tx⟩ ⟨x0, x1, y2, y3, y4, y5, y6, y7, ly, ty⟩ = false := by
          cases hb : sameC ⟨x0, x1, x2, x3, x4, x5, x6, x7, lx, tx⟩ ⟨x0, x1, y2, y3, y4, y5, y6, y7, ly, ty⟩ with
          | false => rfl
          | true =>
            have := (sameC_iff _ _).1 hb
            simp only [Cmd.mk.injEq] at this
            exact absurd this.2.2.1 e2
        rw [hR]
        clear hR
        have := str_ne e2
        go_enter Tryz.func14, Tryz.ntmps14
        go_wp2_with fail
        rw [← Hw0.out]
        go_wp2_with fail
        go_ret
        exact ⟨rfl, kw0⟩
    · have hR : sameC ⟨x0, x1, x2, x3, x4, x5, x6, x7, lx, tx⟩ ⟨x0, y1, y2, y3, y4, y5, y6, y7, ly, ty⟩ = false := by
        cases hb : sameC ⟨x0, x1, x2, x3, x4, x5, x6, x7, lx, tx⟩ ⟨x0, y1, y2, y3, y4, y5, y6, y7, ly, ty⟩ with
        | false => rfl
        | true =>
          have := (sameC_iff _ _).1 hb
          simp only [Cmd.mk.injEq] at this
          exact absurd this.2.1 e1
      rw [hR]
      clear hR
      have := int_ne e1
      go_enter Tryz.func14, Tryz.ntmps14
      go_wp2_with fail
      rw [← Hw0.out]
      go_wp2_with fail
      go_ret
      exact ⟨rfl, kw0⟩
  · have hR : sameC ⟨x0, x1, x2, x3, x4, x5, x6, x7, lx, tx⟩ ⟨y0, y1, y2, y3, y4, y5, y6, y7, ly, ty⟩ = false := by
      cases hb : sameC ⟨x0, x1, x2, x3, x4, x5, x6, x7, lx, tx⟩ ⟨y0, y1, y2, y3, y4, y5, y6, y7, ly, ty⟩ with
      | false => rfl
      | true =>
        have := (sameC_iff _ _).1 hb
        simp only [Cmd.mk.injEq] at this
        exact absurd this.1 e0
    rw [hR]
    clear hR
    have := int_ne e0
    go_enter Tryz.func14, Tryz.ntmps14
    go_wp2_with fail
    rw [← Hw0.out]
    go_wp2_with fail
    go_ret
    exact ⟨rfl, kw0⟩
end Go.Proofs.YtmihnakapnoefaaGreatDoor
