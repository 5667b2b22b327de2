/-
  Whether two lists of keys, or of volumes, are the same.
-/
import Derived.Test.YtdhhddifmkijhaaGreatIdxQ
namespace Go.Proofs.YtdhhddifmkijhaaGreat
open Go.RowKit Go.Sort

theorem strv_at {B : Nat} {w : World} {v : Value} {l : List ByteArray} (h : SliceAt B w v 1 l.length (l.map Value.string)) (i : Nat) (hi : i < l.length) : ∃ g o c, v = .slice (some ⟨g, o, none⟩) l.length c ∧ w.cell? ⟨g, o + i, none⟩ = some (.string l[i]) := by
  obtain ⟨av, cap, rfl⟩ := slice_ex h
  obtain ⟨g, o, rfl, hc, -, -, hcell⟩ := h.cells (by omega)
  exact ⟨g, o, cap, rfl, hcell i _ (by rw [List.getElem?_map, List.getElem?_eq_getElem hi]; rfl)⟩
set_option maxHeartbeats 1000000 in
set_option maxRecDepth 20000 in
theorem r02same (xs ys : List ByteArray) (vx vy : Value) (B B' : Nat) (w : World) (hx : SliceAt B w vx 1 xs.length (xs.map Value.string)) (hy : SliceAt B' w vy 1 ys.length (ys.map Value.string)) (hz : xs.length ≤ 100000) :
    Calls Tryz.prog 41 #[vx, vy] w fun e w' => e = .returned (.bool (decide (xs = ys))) ∧ Kp [] w w' := by
  obtain ⟨ax, cx, rfl⟩ := slice_ex hx
  obtain ⟨ay, cy, rfl⟩ := slice_ex hy
  have hK := Kp.refl [] w
  by_cases hl : xs.length = ys.length
  · have HL := Lib.hid hl
    have hlb : ((xs.length : Int) != (ys.length : Int)) = false := by simp; omega
    clear hl
    go_enter Tryz.func41, Tryz.ntmps41
    go_wp2_with fail
    go_loopg [5] xs.length (fun g i wr => ∃ n : Nat, n + g = xs.length ∧ i = .int .i64 n ∧ Kp [] w wr ∧ xs.take n = ys.take n)
    case atStart => exact ⟨0, by omega, rfl, hK, rfl⟩
    case round =>
      clear hK
      obtain ⟨n, hn, rfl, hK, htk⟩ := hrel
      have HN := Lib.hid hn
      have HT := Lib.hid htk
      clear htk
      by_cases hlt : n < xs.length
      · obtain ⟨g', rfl⟩ : ∃ g', gk = g' + 1 := ⟨gk - 1, by omega⟩
        clear hn
        have hltI : (n : Int) < (xs.length : Int) := by omega
        have hlty : n < ys.length := by have := HL.out; omega
        have hltyI : (n : Int) < (ys.length : Int) := by omega
        obtain ⟨g, o, c, hv', e1⟩ := strv_at hx n hlt
        simp only [Value.slice.injEq] at hv'
        obtain ⟨rfl, -, rfl⟩ := hv'
        obtain ⟨g2, o2, c2, hv', e2⟩ := strv_at hy n hlty
        simp only [Value.slice.injEq] at hv'
        obtain ⟨rfl, -, rfl⟩ := hv'
        have hsx : xs.take (n + 1) = xs.take n ++ [xs[n]] := by rw [List.take_add_one, List.getElem?_eq_getElem hlt]; rfl
        have hsy : ys.take (n + 1) = ys.take n ++ [ys[n]] := by rw [List.take_add_one, List.getElem?_eq_getElem hlty]; rfl
        obtain ⟨p, hp⟩ : ∃ p, p = xs[n] := ⟨_, rfl⟩
        obtain ⟨q, hq⟩ : ∃ q, q = ys[n] := ⟨_, rfl⟩
        rw [← hp] at e1 hsx
        rw [← hq] at e2 hsy
        have d1 := Kp.cellAt (X := []) (w0 := w) e1 (by simp)
        have d2 := Kp.cellAt (X := []) (w0 := w) e2 (by simp)
        have HSX := Lib.hid hsx
        have HSY := Lib.hid hsy
        have HP := Lib.hid hp
        have HQ := Lib.hid hq
        clear hsx hsy e1 e2 hp hq
        by_cases hpq : p = q
        · subst hpq
          have hstep : xs.take (n + 1) = ys.take (n + 1) := by rw [HSX.out, HSY.out, HT.out]
          have HST := Lib.hid hstep
          clear hstep HP HQ HSX HSY
          go_wp2_with fail
          refine wpB_begin 999 (Kp [] w) (by kernel_rfl) (by first | exact hK.drew | exact Kp.drew (Kp.refl _ _)) (fun hHeld => ?_)
          refine wpB_take 0 _ ?_ rfl (by kernel_rfl) (fun _ _ _ h => h) rfl hHeld ?_ ?_
          rotate_left
          · (intro W hW; go_simp; try with_reducible rfl)
          try simp only [Act.put, List.setIfInBounds_toArray, List.set_cons_zero, List.set_cons_succ]
          refine wpB_take 1 _ ?_ rfl (by kernel_rfl) (fun _ _ _ h => h) rfl hHeld ?_ ?_
          rotate_left
          · (intro W hW; go_simp; try with_reducible rfl)
          try simp only [Act.put, List.setIfInBounds_toArray, List.set_cons_zero, List.set_cons_succ]
          refine wpB_take 2 _ ?_ rfl (by kernel_rfl) (fun _ _ _ h => h) rfl hHeld ?_ ?_
          rotate_left
          · (intro W hW; go_simp; try with_reducible rfl)
          try simp only [Act.put, List.setIfInBounds_toArray, List.set_cons_zero, List.set_cons_succ]
          refine wpB_take 3 _ ?_ rfl (by kernel_rfl) (fun _ _ _ h => h) rfl hHeld ?_ ?_
          rotate_left
          · (intro W hW; go_simp; try with_reducible rfl)
          try simp only [Act.put, List.setIfInBounds_toArray, List.set_cons_zero, List.set_cons_succ]
          refine wpB_take 4 _ ?_ rfl (by kernel_rfl) (fun _ _ _ h => h) rfl hHeld ?_ ?_
          rotate_left
          · (intro W hW; go_simp; try with_reducible rfl)
          try simp only [Act.put, List.setIfInBounds_toArray, List.set_cons_zero, List.set_cons_succ]
          refine wpB_take 5 _ ?_ rfl (by kernel_rfl) (fun _ _ _ h => h) rfl hHeld ?_ ?_
          rotate_left
          · (intro W hW; go_simp; try with_reducible rfl)
          try simp only [Act.put, List.setIfInBounds_toArray, List.set_cons_zero, List.set_cons_succ]
          refine wpB_take 6 _ ?_ rfl (by kernel_rfl) (fun _ _ _ h => h) rfl hHeld ?_ ?_
          rotate_left
          · (intro W hW; go_simp; try with_reducible rfl)
          try simp only [Act.put, List.setIfInBounds_toArray, List.set_cons_zero, List.set_cons_succ]
          refine wpB_take 7 _ ?_ rfl (by kernel_rfl) (fun _ _ _ h => h) rfl hHeld ?_ ?_
          rotate_left
          · (intro W hW; go_simp; try with_reducible rfl)
          try simp only [Act.put, List.setIfInBounds_toArray, List.set_cons_zero, List.set_cons_succ]
          refine wpB_take 8 _ ?_ rfl (by kernel_rfl) (fun _ _ _ h => h) rfl hHeld ?_ ?_
          rotate_left
          · (intro W hW; go_simp; try with_reducible rfl)
          try simp only [Act.put, List.setIfInBounds_toArray, List.set_cons_zero, List.set_cons_succ]
          refine wpB_done (by kernel_rfl) ?_ _
          go_wp2_with fail
          go_roundg g'
          case rel =>
            exact ⟨n + 1, st_next HN.out, by go_num, hHeld, HST.out⟩
          case measure => omega
        · have hb := bytes_ne hpq
          have hne : decide (xs = ys) = false := by
            rw [decide_eq_false_iff_not]
            rintro rfl
            exact hpq (HP.out.trans HQ.out.symm)
          have HNE := Lib.hid hne
          clear hne HP HQ HSX HSY hpq
          go_wp2_with fail
          refine wpB_begin 999 (Kp [] w) (by kernel_rfl) (by first | exact hK.drew | exact Kp.drew (Kp.refl _ _)) (fun hHeld => ?_)
          refine wpB_take 0 _ ?_ rfl (by kernel_rfl) (fun _ _ _ h => h) rfl hHeld ?_ ?_
          rotate_left
          · (intro W hW; go_simp; try with_reducible rfl)
          try simp only [Act.put, List.setIfInBounds_toArray, List.set_cons_zero, List.set_cons_succ]
          refine wpB_take 1 _ ?_ rfl (by kernel_rfl) (fun _ _ _ h => h) rfl hHeld ?_ ?_
          rotate_left
          · (intro W hW; go_simp; try with_reducible rfl)
          try simp only [Act.put, List.setIfInBounds_toArray, List.set_cons_zero, List.set_cons_succ]
          refine wpB_take 2 _ ?_ rfl (by kernel_rfl) (fun _ _ _ h => h) rfl hHeld ?_ ?_
          rotate_left
          · (intro W hW; go_simp; try with_reducible rfl)
          try simp only [Act.put, List.setIfInBounds_toArray, List.set_cons_zero, List.set_cons_succ]
          refine wpB_take 3 _ ?_ rfl (by kernel_rfl) (fun _ _ _ h => h) rfl hHeld ?_ ?_
          rotate_left
          · (intro W hW; go_simp; try with_reducible rfl)
          try simp only [Act.put, List.setIfInBounds_toArray, List.set_cons_zero, List.set_cons_succ]
          refine wpB_take 4 _ ?_ rfl (by kernel_rfl) (fun _ _ _ h => h) rfl hHeld ?_ ?_
          rotate_left
          · (intro W hW; go_simp; try with_reducible rfl)
          try simp only [Act.put, List.setIfInBounds_toArray, List.set_cons_zero, List.set_cons_succ]
          refine wpB_take 5 _ ?_ rfl (by kernel_rfl) (fun _ _ _ h => h) rfl hHeld ?_ ?_
          rotate_left
          · (intro W hW; go_simp; try with_reducible rfl)
          try simp only [Act.put, List.setIfInBounds_toArray, List.set_cons_zero, List.set_cons_succ]
          refine wpB_take 6 _ ?_ rfl (by kernel_rfl) (fun _ _ _ h => h) rfl hHeld ?_ ?_
          rotate_left
          · (intro W hW; go_simp; try with_reducible rfl)
          try simp only [Act.put, List.setIfInBounds_toArray, List.set_cons_zero, List.set_cons_succ]
          refine wpB_take 7 _ ?_ rfl (by kernel_rfl) (fun _ _ _ h => h) rfl hHeld ?_ ?_
          rotate_left
          · (intro W hW; go_simp; try with_reducible rfl)
          try simp only [Act.put, List.setIfInBounds_toArray, List.set_cons_zero, List.set_cons_succ]
          refine wpB_take 8 _ ?_ rfl (by kernel_rfl) (fun _ _ _ h => h) rfl hHeld ?_ ?_
          rotate_left
          · (intro W hW; go_simp; try with_reducible rfl)
          try simp only [Act.put, List.setIfInBounds_toArray, List.set_cons_zero, List.set_cons_succ]
          refine wpB_done (by kernel_rfl) ?_ _
          go_wp2_with fail
          go_ret
          exact ⟨by rw [HNE.out]; rfl, hHeld⟩
      · obtain rfl : n = xs.length := by omega
        obtain rfl : gk = 0 := by omega
        clear hn
        have he : decide (xs = ys) = true := by
          rw [decide_eq_true_eq]
          have h1 := HT.out
          rw [List.take_length, HL.out, List.take_length] at h1
          exact h1
        have HE := Lib.hid he
        clear he
        go_wp2_with fail
        go_ret
        exact ⟨by rw [HE.out]; rfl, hK⟩
  · have hlb : ((xs.length : Int) != (ys.length : Int)) = true := by simp; omega
    have hne : decide (xs = ys) = false := by
      rw [decide_eq_false_iff_not]
      rintro rfl
      exact hl rfl
    rw [hne]
    clear hl hne
    go_enter Tryz.func41, Tryz.ntmps41
    go_wp2_with fail
    go_ret
    exact ⟨rfl, hK⟩
def toB (k : List UInt8) : ByteArray := ⟨k.toArray⟩
theorem toB_inj {a b : List UInt8} (h : toB a = toB b) : a = b := by
  unfold toB at h
  simpa using h
theorem map_toB (l : List (List UInt8)) : l.map encStr = (l.map toB).map Value.string := by rw [List.map_map]; rfl
theorem map_inj {α β : Type} {f : α → β} (hf : ∀ a b, f a = f b → a = b) : ∀ {l m : List α}, l.map f = m.map f → l = m
  | [], [], _ => rfl
  | [], _ :: _, h => by cases h
  | _ :: _, [], h => by cases h
  | a :: l, b :: m, h => by
    simp only [List.map_cons, List.cons.injEq] at h
    rw [hf a b h.1, map_inj hf h.2]
theorem r02same_keys (xs ys : List (List UInt8)) (vx vy : Value) (B B' : Nat) (w : World) (hx : SliceAt B w vx 1 xs.length (xs.map encStr)) (hy : SliceAt B' w vy 1 ys.length (ys.map encStr)) (hz : xs.length ≤ 100000) :
    Calls Tryz.prog 41 #[vx, vy] w fun e w' => e = .returned (.bool (decide (xs = ys))) ∧ Kp [] w w' := by
  rw [map_toB] at hx hy
  have h := r02same (xs.map toB) (ys.map toB) vx vy B B' w (by rw [List.length_map]; exact hx) (by rw [List.length_map]; exact hy) (by rw [List.length_map]; exact hz)
  have e : decide (xs.map toB = ys.map toB) = decide (xs = ys) := by
    by_cases h : xs = ys
    · rw [decide_eq_true h, decide_eq_true (by rw [h])]
    · rw [decide_eq_false h, decide_eq_false (fun e => h (map_inj (fun _ _ => toB_inj) e))]
  rw [e] at h
  exact h
set_option maxHeartbeats 1000000 in
set_option maxRecDepth 20000 in
theorem r11vols (a b : VolD) (la lb : Value) (B B' : Nat) (w : World) (ha : LocsAt B w la a.locs) (hb : LocsAt B' w lb b.locs) (hz : a.locs.length ≤ 100000) :
    Calls Tryz.prog 39 #[.agg (VolVA a la), .agg (VolVA b lb)] w fun e w' => e = .returned (.bool (decide (a = b))) ∧ Kp [] w w' := by
  obtain ⟨aa, ac, rfl⟩ := slice_ex ha
  obtain ⟨ba, bc, rfl⟩ := slice_ex hb
  obtain ⟨B2, hB2⟩ : ∃ B2, B2 = max B B' := ⟨_, rfl⟩
  replace ha := SliceAt.up ha (show B ≤ B2 by omega)
  replace hb := SliceAt.up hb (show B' ≤ B2 by omega)
  clear hB2
  obtain ⟨a0, a1, a2, al⟩ := a
  obtain ⟨b0, b1, b2, bl⟩ := b
  simp only at ha hb hz
  simp only [VolVA]
  have k1 : Kp [] w ((w.alloc (.cells #[.int .i64 a0, .int .i64 a1, .int .i64 a2, .slice aa al.length ac] 36)).alloc (.cells #[.int .i64 b0, .int .i64 b1, .int .i64 b2, .slice ba bl.length bc] 36)) := ((Kp.refl [] w).alloc _).alloc _
  by_cases h0 : a0 = b0
  · subst h0
    by_cases h1 : a1 = b1
    · subst h1
      by_cases h2 : a2 = b2
      · subst h2
        have hs := r10same al bl _ _ B2 _ (ha.keep0 k1) (hb.keep0 k1) (by omega)
        have he : decide ((⟨a0, a1, a2, al⟩ : VolD) = ⟨a0, a1, a2, bl⟩) = decide (al = bl) := by
          by_cases e : al = bl
          · rw [decide_eq_true e, decide_eq_true (by rw [e])]
          · rw [decide_eq_false e, decide_eq_false (fun h => e (by cases h; rfl))]
        rw [he]
        obtain ⟨R, hR⟩ : ∃ R, R = decide (al = bl) := ⟨_, rfl⟩
        rw [← hR] at hs ⊢
        clear hR he
        go_enter Tryz.func39, Tryz.ntmps39
        go_wp2_with fail
        refine hs.mono ?_
        rintro e w3 ⟨rfl, k3⟩
        have hk := k1.trans k3
        clear hs
        cases R with
        | true =>
          go_wp2_with fail
          go_ret
          exact ⟨rfl, hk⟩
        | false =>
          go_wp2_with fail
          go_ret
          exact ⟨rfl, hk⟩
      · have hb2 := int_ne h2
        have he : decide ((⟨a0, a1, a2, al⟩ : VolD) = ⟨a0, a1, b2, bl⟩) = false := decide_eq_false (fun h => h2 (by cases h; rfl))
        rw [he]
        clear he h2
        go_enter Tryz.func39, Tryz.ntmps39
        go_wp2_with fail
        go_ret
        exact ⟨rfl, k1⟩
    · have hb1 := int_ne h1
      have he : decide ((⟨a0, a1, a2, al⟩ : VolD) = ⟨a0, b1, b2, bl⟩) = false := decide_eq_false (fun h => h1 (by cases h; rfl))
      rw [he]
      clear he h1
      go_enter Tryz.func39, Tryz.ntmps39
      go_wp2_with fail
      go_ret
      exact ⟨rfl, k1⟩
  · have hb0 := int_ne h0
    have he : decide ((⟨a0, a1, a2, al⟩ : VolD) = ⟨b0, b1, b2, bl⟩) = false := decide_eq_false (fun h => h0 (by cases h; rfl))
    rw [he]
    clear he h0
    go_enter Tryz.func39, Tryz.ntmps39
    go_wp2_with fail
    go_ret
    exact ⟨rfl, k1⟩
/-- volumes that can be read, each with its places -/
def VolsAt (B : Nat) (w : World) (v : Value) (vs : List VolD) : Prop :=
  ∃ (vls : List (VolD × Value)) (av : Option Addr) (cv : Nat), v = .slice av vs.length cv ∧ vls.map (·.1) = vs ∧ SliceAt B w v 4 vs.length (vls.flatMap volC) ∧ ∀ q ∈ vls, LocsAt B w q.2 q.1.locs
theorem VolsAt.keep0 {B : Nat} {w w' : World} {v : Value} {vs : List VolD} (h : VolsAt B w v vs) (k : Kp [] w w') : VolsAt B w' v vs := by
  obtain ⟨vls, av, cv, h1, h2, h3, h4⟩ := h
  exact ⟨vls, av, cv, h1, h2, h3.keep0 k, fun q hq => (h4 q hq).keep0 k⟩
theorem OldsAt.vols {X : List Nat} {base : Nat} {W : World} {v : Value} {vs : List VolD} (h : OldsAt X base W v vs) : VolsAt W.heap.size W v vs := by
  obtain ⟨vls, av, cv, h1, h2, h3, h4⟩ := h
  exact ⟨vls, av, cv, h1, h2, SliceAt.of_owns h3, fun q hq => (h4 q hq).1.at⟩
theorem volC_len (q : VolD × Value) : (volC q).length = 4 := rfl
theorem vol_cell {B : Nat} {w : World} {v : Value} {vs : List VolD} (h : VolsAt B w v vs) (i : Nat) (hi : i < vs.length) : ∃ g o c lv, v = .slice (some ⟨g, o, none⟩) vs.length c ∧ LocsAt B w lv vs[i].locs ∧ w.cell? ⟨g, o + i * 4, none⟩ = some (.int .i64 vs[i].id) ∧ w.cell? ⟨g, o + i * 4 + 1, none⟩ = some (.int .i64 vs[i].gen) ∧ w.cell? ⟨g, o + i * 4 + 2, none⟩ = some (.int .i64 vs[i].len) ∧ w.cell? ⟨g, o + i * 4 + 3, none⟩ = some lv := by
  obtain ⟨vls, av, cv, rfl, h2, h3, h4⟩ := h
  obtain ⟨g, o, rfl, hc, -, hb, hcell⟩ := h3.cells (by omega)
  have hlv : vls.length = vs.length := by rw [← h2, List.length_map]
  have hi' : i < vls.length := by omega
  have hp := fun r hr => flat_at volC 4 volC_len vls i r hi' hr
  have he : vs[i] = vls[i].1 := by
    have : vs[i]? = some vls[i].1 := by rw [← h2, List.getElem?_map, List.getElem?_eq_getElem hi']; rfl
    rw [List.getElem?_eq_getElem hi] at this
    exact Option.some.inj this
  rw [he]
  refine ⟨g, o, cv, vls[i].2, rfl, h4 _ (List.getElem_mem hi'), ?_, ?_, ?_, ?_⟩
  · exact hcell (i * 4 + 0) _ (hp 0 (by decide))
  · rw [Nat.add_assoc]; exact hcell (i * 4 + 1) _ (hp 1 (by decide))
  · rw [Nat.add_assoc]; exact hcell (i * 4 + 2) _ (hp 2 (by decide))
  · rw [Nat.add_assoc]; exact hcell (i * 4 + 3) _ (hp 3 (by decide))
set_option maxHeartbeats 1000000 in
set_option maxRecDepth 20000 in
theorem r13same (xs ys : List VolD) (vx vy : Value) (B B' : Nat) (w : World) (hx : VolsAt B w vx xs) (hy : VolsAt B' w vy ys) (hz : xs.length ≤ 100000) (hzl : ∀ v ∈ xs, v.locs.length ≤ 100000) :
    Calls Tryz.prog 13 #[vx, vy] w fun e w' => e = .returned (.bool (decide (xs = ys))) ∧ Kp [] w w' := by
  obtain ⟨-, ax, cx, rfl, -⟩ := id hx
  obtain ⟨-, ay, cy, rfl, -⟩ := id hy
  have hK := Kp.refl [] w
  by_cases hl : xs.length = ys.length
  · have HL := Lib.hid hl
    have hlb : ((xs.length : Int) != (ys.length : Int)) = false := by simp; omega
    clear hl
    go_enter Tryz.func13, Tryz.ntmps13
    go_wp2_with fail
    go_loopg [5] xs.length (fun g i wr => ∃ n : Nat, n + g = xs.length ∧ i = .int .i64 n ∧ Kp [] w wr ∧ xs.take n = ys.take n)
    case atStart => exact ⟨0, by omega, rfl, hK, rfl⟩
    case round =>
      clear hK
      obtain ⟨n, hn, rfl, hK, htk⟩ := hrel
      have HN := Lib.hid hn
      have HT := Lib.hid htk
      clear htk
      by_cases hlt : n < xs.length
      · obtain ⟨g', rfl⟩ : ∃ g', gk = g' + 1 := ⟨gk - 1, by omega⟩
        clear hn
        have hltI : (n : Int) < (xs.length : Int) := by omega
        have hlty : n < ys.length := by have := HL.out; omega
        have hltyI : (n : Int) < (ys.length : Int) := by omega
        obtain ⟨g, o, c, lx, hv', hlx, e0, e1, e2, e3⟩ := vol_cell hx n hlt
        simp only [Value.slice.injEq] at hv'
        obtain ⟨rfl, -, rfl⟩ := hv'
        obtain ⟨g2, o2, c2, ly, hv', hly, f0, f1, f2, f3⟩ := vol_cell hy n hlty
        simp only [Value.slice.injEq] at hv'
        obtain ⟨rfl, -, rfl⟩ := hv'
        have hsx : xs.take (n + 1) = xs.take n ++ [xs[n]] := by rw [List.take_add_one, List.getElem?_eq_getElem hlt]; rfl
        have hsy : ys.take (n + 1) = ys.take n ++ [ys[n]] := by rw [List.take_add_one, List.getElem?_eq_getElem hlty]; rfl
        have hzn := hzl _ (List.getElem_mem hlt)
        obtain ⟨p, hp⟩ : ∃ p, p = xs[n] := ⟨_, rfl⟩
        obtain ⟨q, hq⟩ : ∃ q, q = ys[n] := ⟨_, rfl⟩
        rw [← hp] at e0 e1 e2 hsx hlx hzn
        rw [← hq] at f0 f1 f2 hsy hly
        obtain ⟨sa, sc, rfl⟩ := slice_ex hlx
        obtain ⟨ta, tc, rfl⟩ := slice_ex hly
        have d0 := Kp.cellAt (X := []) (w0 := w) e0 (by simp)
        have d1 := Kp.cellAt (X := []) (w0 := w) e1 (by simp)
        have d2 := Kp.cellAt (X := []) (w0 := w) e2 (by simp)
        have d3 := Kp.cellAt (X := []) (w0 := w) e3 (by simp)
        have b0 := Kp.cellAt (X := []) (w0 := w) f0 (by simp)
        have b1 := Kp.cellAt (X := []) (w0 := w) f1 (by simp)
        have b2 := Kp.cellAt (X := []) (w0 := w) f2 (by simp)
        have b3 := Kp.cellAt (X := []) (w0 := w) f3 (by simp)
        have hcc := fun W (k : Kp [] w W) => r11vols p q _ _ B B' W (hlx.keep0 k) (hly.keep0 k) hzn
        have HSX := Lib.hid hsx
        have HSY := Lib.hid hsy
        have HP := Lib.hid hp
        have HQ := Lib.hid hq
        obtain ⟨p0, p1, p2, ps⟩ := p
        obtain ⟨q0, q1, q2, qs⟩ := q
        simp only [VolVA] at hcc
        simp only at d0 d1 d2 d3 b0 b1 b2 b3
        obtain ⟨R, hR⟩ : ∃ R, R = decide ((⟨p0, p1, p2, ps⟩ : VolD) = ⟨q0, q1, q2, qs⟩) := ⟨_, rfl⟩
        rw [← hR] at hcc
        clear hsx hsy e0 e1 e2 e3 f0 f1 f2 f3 hp hq
        cases R with
        | true =>
          have hpq := of_decide_eq_true hR.symm
          have hstep : xs.take (n + 1) = ys.take (n + 1) := by rw [HSX.out, HSY.out, HT.out, hpq]
          have HST := Lib.hid hstep
          clear hstep HP HQ HSX HSY hpq hR
          go_wp2_with fail
          refine wpB_begin 999 (Kp [] w) (by kernel_rfl) (by first | exact hK.drew | exact Kp.drew (Kp.refl _ _)) (fun hHeld => ?_)
          refine wpB_take 0 _ ?_ rfl (by kernel_rfl) (fun _ _ _ h => h) rfl hHeld ?_ ?_
          rotate_left
          · (intro W hW; go_simp; try with_reducible rfl)
          try simp only [Act.put, List.setIfInBounds_toArray, List.set_cons_zero, List.set_cons_succ]
          refine wpB_take 1 _ ?_ rfl (by kernel_rfl) (fun _ _ _ h => h) rfl hHeld ?_ ?_
          rotate_left
          · (intro W hW; go_simp; try with_reducible rfl)
          try simp only [Act.put, List.setIfInBounds_toArray, List.set_cons_zero, List.set_cons_succ]
          refine wpB_take 2 _ ?_ rfl (by kernel_rfl) (fun _ _ _ h => h) rfl hHeld ?_ ?_
          rotate_left
          · (intro W hW; go_simp; try with_reducible rfl)
          try simp only [Act.put, List.setIfInBounds_toArray, List.set_cons_zero, List.set_cons_succ]
          refine wpB_take 3 _ ?_ rfl (by kernel_rfl) (fun _ _ _ h => h) rfl hHeld ?_ ?_
          rotate_left
          · (intro W hW; go_simp; try with_reducible rfl)
          try simp only [Act.put, List.setIfInBounds_toArray, List.set_cons_zero, List.set_cons_succ]
          refine wpB_take 4 _ ?_ rfl (by kernel_rfl) (fun _ _ _ h => h) rfl hHeld ?_ ?_
          rotate_left
          · (intro W hW; go_simp; try with_reducible rfl)
          try simp only [Act.put, List.setIfInBounds_toArray, List.set_cons_zero, List.set_cons_succ]
          refine wpB_take 5 _ ?_ rfl (by kernel_rfl) (fun _ _ _ h => h) rfl hHeld ?_ ?_
          rotate_left
          · (intro W hW; go_simp; try with_reducible rfl)
          try simp only [Act.put, List.setIfInBounds_toArray, List.set_cons_zero, List.set_cons_succ]
          refine wpB_take 6 _ ?_ rfl (by kernel_rfl) (fun _ _ _ h => h) rfl hHeld ?_ ?_
          rotate_left
          · (intro W hW; go_simp; try with_reducible rfl)
          try simp only [Act.put, List.setIfInBounds_toArray, List.set_cons_zero, List.set_cons_succ]
          refine wpB_take 7 _ ?_ rfl (by kernel_rfl) (fun _ _ _ h => h) rfl hHeld ?_ ?_
          rotate_left
          · (intro W hW; go_simp; try with_reducible rfl)
          try simp only [Act.put, List.setIfInBounds_toArray, List.set_cons_zero, List.set_cons_succ]
          refine wpB_step 8 _ rfl (by kernel_rfl) rfl rfl (fun K hK_ => ?_)
          go_simp
          refine (hcc _ hHeld).mono ?_
          rintro e w8 ⟨rfl, k8⟩
          refine hK_.out _ _ (by exact hHeld.trans k8) (fun hHeld => ?_)
          clear hK_ K
          try simp only [Act.put, List.setIfInBounds_toArray, List.set_cons_zero, List.set_cons_succ]
          refine wpB_take 9 _ ?_ rfl (by kernel_rfl) (fun _ _ _ h => h) rfl hHeld ?_ ?_
          rotate_left
          · (intro W hW; go_simp; try with_reducible rfl)
          try simp only [Act.put, List.setIfInBounds_toArray, List.set_cons_zero, List.set_cons_succ]
          refine wpB_done (by kernel_rfl) ?_ _
          go_wp2_with fail
          go_roundg g'
          case rel =>
            exact ⟨n + 1, st_next HN.out, by go_num, hHeld, HST.out⟩
          case measure => omega
        | false =>
          have hpq := of_decide_eq_false hR.symm
          have hne : decide (xs = ys) = false := by
            rw [decide_eq_false_iff_not]
            rintro rfl
            exact hpq (HP.out.trans HQ.out.symm)
          have HNE := Lib.hid hne
          clear hne HP HQ HSX HSY hpq hR
          go_wp2_with fail
          refine wpB_begin 999 (Kp [] w) (by kernel_rfl) (by first | exact hK.drew | exact Kp.drew (Kp.refl _ _)) (fun hHeld => ?_)
          refine wpB_take 0 _ ?_ rfl (by kernel_rfl) (fun _ _ _ h => h) rfl hHeld ?_ ?_
          rotate_left
          · (intro W hW; go_simp; try with_reducible rfl)
          try simp only [Act.put, List.setIfInBounds_toArray, List.set_cons_zero, List.set_cons_succ]
          refine wpB_take 1 _ ?_ rfl (by kernel_rfl) (fun _ _ _ h => h) rfl hHeld ?_ ?_
          rotate_left
          · (intro W hW; go_simp; try with_reducible rfl)
          try simp only [Act.put, List.setIfInBounds_toArray, List.set_cons_zero, List.set_cons_succ]
          refine wpB_take 2 _ ?_ rfl (by kernel_rfl) (fun _ _ _ h => h) rfl hHeld ?_ ?_
          rotate_left
          · (intro W hW; go_simp; try with_reducible rfl)
          try simp only [Act.put, List.setIfInBounds_toArray, List.set_cons_zero, List.set_cons_succ]
          refine wpB_take 3 _ ?_ rfl (by kernel_rfl) (fun _ _ _ h => h) rfl hHeld ?_ ?_
          rotate_left
          · (intro W hW; go_simp; try with_reducible rfl)
          try simp only [Act.put, List.setIfInBounds_toArray, List.set_cons_zero, List.set_cons_succ]
          refine wpB_take 4 _ ?_ rfl (by kernel_rfl) (fun _ _ _ h => h) rfl hHeld ?_ ?_
          rotate_left
          · (intro W hW; go_simp; try with_reducible rfl)
          try simp only [Act.put, List.setIfInBounds_toArray, List.set_cons_zero, List.set_cons_succ]
          refine wpB_take 5 _ ?_ rfl (by kernel_rfl) (fun _ _ _ h => h) rfl hHeld ?_ ?_
          rotate_left
          · (intro W hW; go_simp; try with_reducible rfl)
          try simp only [Act.put, List.setIfInBounds_toArray, List.set_cons_zero, List.set_cons_succ]
          refine wpB_take 6 _ ?_ rfl (by kernel_rfl) (fun _ _ _ h => h) rfl hHeld ?_ ?_
          rotate_left
          · (intro W hW; go_simp; try with_reducible rfl)
          try simp only [Act.put, List.setIfInBounds_toArray, List.set_cons_zero, List.set_cons_succ]
          refine wpB_take 7 _ ?_ rfl (by kernel_rfl) (fun _ _ _ h => h) rfl hHeld ?_ ?_
          rotate_left
          · (intro W hW; go_simp; try with_reducible rfl)
          try simp only [Act.put, List.setIfInBounds_toArray, List.set_cons_zero, List.set_cons_succ]
          refine wpB_step 8 _ rfl (by kernel_rfl) rfl rfl (fun K hK_ => ?_)
          go_simp
          refine (hcc _ hHeld).mono ?_
          rintro e w8 ⟨rfl, k8⟩
          refine hK_.out _ _ (by exact hHeld.trans k8) (fun hHeld => ?_)
          clear hK_ K
          try simp only [Act.put, List.setIfInBounds_toArray, List.set_cons_zero, List.set_cons_succ]
          refine wpB_take 9 _ ?_ rfl (by kernel_rfl) (fun _ _ _ h => h) rfl hHeld ?_ ?_
          rotate_left
          · (intro W hW; go_simp; try with_reducible rfl)
          try simp only [Act.put, List.setIfInBounds_toArray, List.set_cons_zero, List.set_cons_succ]
          refine wpB_done (by kernel_rfl) ?_ _
          go_wp2_with fail
          go_ret
          exact ⟨by rw [HNE.out]; rfl, hHeld⟩
      · obtain rfl : n = xs.length := by omega
        obtain rfl : gk = 0 := by omega
        clear hn
        have he : decide (xs = ys) = true := by
          rw [decide_eq_true_eq]
          have h1 := HT.out
          rw [List.take_length, HL.out, List.take_length] at h1
          exact h1
        have HE := Lib.hid he
        clear he
        go_wp2_with fail
        go_ret
        exact ⟨by rw [HE.out]; rfl, hK⟩
  · have hlb : ((xs.length : Int) != (ys.length : Int)) = true := by simp; omega
    have hne : decide (xs = ys) = false := by
      rw [decide_eq_false_iff_not]
      rintro rfl
      exact hl rfl
    rw [hne]
    clear hl hne
    go_enter Tryz.func13, Tryz.ntmps13
    go_wp2_with fail
    go_ret
    exact ⟨rfl, hK⟩
theorem owns_low {X : List Nat} {W : World} {base : Nat} {e : TypeId} {sz n : Nat} {v : Value} {xs : List Value} (h : W.ownsRow base e sz v n xs) (hX : ∀ i ∈ X, i < base) : ∀ g, v.ownBlock = some g → g ∉ X := fun g hg hm => by
  have h1 := own_block_ge h g hg
  have h2 := hX g hm
  omega
end Go.Proofs.YtdhhddifmkijhaaGreat
