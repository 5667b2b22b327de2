/-
  SpaceScripts: whatever is taken, marked and given, a space tells, and keeps, what the document says. For every script.
  Conditions: none beyond the row's own.
-/
import Derived.Test.YtmegcmjklealbaaSpcP
import Derived.Test.YtmegcmjklealbaaSpcN
namespace Go.Proofs.Ytmegcmjklealbaa
open Go.ChangeShapes Go.WideShapes Go.ChangeAt Go.RowKit Go.WideElems

instance : Inhabited OpD := ⟨⟨0, 0, 0, []⟩⟩
abbrev OpV := OpD × Value
instance : Inhabited OpV := ⟨(default, undef)⟩
def opCells (o : OpV) : List Value := [.int .i64 o.1.dO, .int .i64 o.1.d, .int .i64 o.1.s, o.2]
theorem opCells_len (o : OpV) : (opCells o).length = 4 := rfl
theorem flat_ints : ∀ l : List Int, (l.flatMap fun n => [Value.int .i64 n]) = l.map (Value.int .i64)
  | [] => rfl
  | a :: l => by rw [List.flatMap_cons, flat_ints l]; rfl
theorem ints_of {W : World} {cs : List Value} (h : Rd Try.prog W 32 cs) : ∃ (xs : List Int) (v : Value), cs = [v] ∧ SliceAt W.heap.size W v 1 xs.length (xs.map (Value.int .i64)) := by
  have h1 : Try.prog.cellsOf 3 = 1 := by kernel_rfl
  obtain ⟨xs, v, e, hs, -⟩ := rd_list (α := Int) Try.underlying32 h (fun n => [Value.int .i64 n]) 1 h1 (by decide) (fun _ => rfl) (fun _ => True) (fun es he => by
    obtain ⟨n, e, -⟩ := rd_int Try.underlying3 he
    exact ⟨n, e, trivial⟩)
  rw [flat_ints] at hs
  exact ⟨xs, v, e, hs⟩
theorem op_of {W : World} {cs : List Value} (h : Rd Try.prog W 34 cs) : ∃ o : OpV, cs = opCells o ∧ SliceAt W.heap.size W o.2 1 o.1.ds.length (o.1.ds.map (Value.int .i64)) := by
  obtain ⟨hl, hf⟩ := rd_struct Try.underlying34 h
  have h4 : Try.prog.cellsOf 34 = 4 := by kernel_rfl
  have h2 : Try.prog.cellsOf 31 = 2 := by kernel_rfl
  have h1 : Try.prog.cellsOf 3 = 1 := by kernel_rfl
  have h3 : Try.prog.cellsOf 32 = 1 := by kernel_rfl
  rw [h4] at hl
  match cs, hl with
  | [a, b, c, e], _ =>
    have f0 : Rd Try.prog W 3 (([a, b, c, e].drop 0).take (Try.prog.cellsOf 3)) := hf 0 _ rfl
    have f1 : Rd Try.prog W 31 (([a, b, c, e].drop 1).take (Try.prog.cellsOf 31)) := hf 1 _ rfl
    have f2 : Rd Try.prog W 32 (([a, b, c, e].drop 3).take (Try.prog.cellsOf 32)) := hf 2 _ rfl
    rw [h1] at f0
    rw [h2] at f1
    rw [h3] at f2
    obtain ⟨dO, e0, -⟩ := rd_int Try.underlying3 (show Rd Try.prog W 3 [a] from f0)
    obtain ⟨d, s, e1⟩ := loc_of (show Rd Try.prog W 31 [b, c] from f1)
    obtain ⟨xs, v, e2, hs⟩ := ints_of (show Rd Try.prog W 32 [e] from f2)
    simp only [List.cons.injEq, and_true] at e0 e1 e2
    obtain ⟨rfl, rfl⟩ := e1
    subst e0 e2
    exact ⟨(⟨dO, d, s, xs⟩, e), rfl, hs⟩
/-- element i of a script -/
theorem script_at {B : Nat} {w : World} {v : Value} {os : List OpV} (h : SliceAt B w v 4 os.length (os.flatMap opCells)) (i : Nat) (hi : i < os.length) :
    ∃ g o c, v = .slice (some ⟨g, o, none⟩) os.length c ∧ w.cell? ⟨g, o + i * 4, none⟩ = some (.int .i64 os[i].1.dO) ∧ w.cell? ⟨g, o + i * 4 + 1, none⟩ = some (.int .i64 os[i].1.d) ∧
      w.cell? ⟨g, o + i * 4 + 2, none⟩ = some (.int .i64 os[i].1.s) ∧ w.cell? ⟨g, o + i * 4 + 3, none⟩ = some os[i].2 := by
  obtain ⟨av, cap, rfl⟩ := slice_ex h
  obtain ⟨g, o, rfl, hc, -, hb, hcell⟩ := h.cells (by omega)
  have hp := fun r hr => flat_at opCells 4 opCells_len os i r hi hr
  refine ⟨g, o, cap, rfl, ?_, ?_, ?_, ?_⟩
  · exact hcell (i * 4 + 0) _ (hp 0 (by decide))
  · rw [Nat.add_assoc]; exact hcell (i * 4 + 1) _ (hp 1 (by decide))
  · rw [Nat.add_assoc]; exact hcell (i * 4 + 2) _ (hp 2 (by decide))
  · rw [Nat.add_assoc]; exact hcell (i * 4 + 3) _ (hp 3 (by decide))

set_option maxHeartbeats 2000000 in
theorem scripts_walk (v : Value) (os : List OpV) (w : World) (hv : SliceAt w.heap.size w v 4 os.length (os.flatMap opCells)) (ho : ∀ o ∈ os, SliceAt w.heap.size w o.2 1 o.1.ds.length (o.1.ds.map (Value.int .i64))) :
    Calls Try.prog 3 #[v] w fun e w' => e = .returned (.bool true) ∧ Kp [] w w' := by
  obtain ⟨av, cv, rfl⟩ := slice_ex hv
  by_cases hlen : 60 < os.length
  · have hlenI : (60 : Int) < (os.length : Int) := by omega
    go_enter Try.func3, Try.ntmps3
    go_wp2_with fail
    refine (live_true _).mono ?_
    rintro e w1 ⟨rfl, h1⟩
    go_wp2_with fail
    go_ret
    exact ⟨rfl, h1⟩
  · have hlenI : (os.length : Int) ≤ 60 := by omega
    go_enter Try.func3, Try.ntmps3
    go_wp2_with fail
    refine (new_any _).mono ?_
    rintro e w1 ⟨rfl, k1, s1, z1⟩
    obtain ⟨b, hb⟩ : ∃ b, b = w.heap.size := ⟨_, rfl⟩
    obtain ⟨k, hk⟩ : ∃ k, k = w1.heap.size := ⟨_, rfl⟩
    have hbk : b < k := by omega
    have hbw : w.heap.size ≤ b := by omega
    have HBW := Lib.hid hbw
    clear hbw
    have kw2 : Kp [] w (w1.alloc (.cells #[.slice none 0 0] 29)) := k1.alloc _
    have s2 : SpaceAt (w1.alloc (.cells #[.slice none 0 0] 29)) b noneTaken := by rw [hb]; exact s1.keep ((Kp.refl [] _).alloc _) (by simp)
    have r2 : RefAt (w1.alloc (.cells #[.slice none 0 0] 29)) k (.slice none 0 0) [] := by
      rw [hk]
      exact ⟨cell_of_cells (block_new _ _) rfl, frozen_of_cells (block_new _ _) _, World.ownsRow_nil _ _ _ _⟩
    rw [← hb]
    have HB := Lib.hid hb
    have HK := Lib.hid hk
    clear hb s1 k1 z1
    go_wp2_with fail
    rw [← HK.out]
    clear hk
    go_loopg [5] os.length (fun g i wr => ∃ (n : Nat) (f : Int → Int → Bool) (xs : List (Int × Int)) (vk : Value), n + g = os.length ∧ i = .int .i64 n ∧ SpaceAt wr b f ∧ RefAt wr k vk xs ∧ Rel f xs ∧ xs.length ≤ 60 * n ∧ Kp [] w wr)
    case atStart => exact ⟨0, _, _, _, by omega, rfl, s2, r2, rel_nil, by simp, kw2⟩
    case round =>
      clear kw2 s2 r2
      obtain ⟨n, f, xs, vk, hn, rfl, hs, hr, hrel, hxl, hK⟩ := hrel
      have HN := Lib.hid hn
      have HREL := Lib.hid hrel
      clear hrel
      by_cases hlt : n < os.length
      · obtain ⟨g', rfl⟩ : ∃ g', gk = g' + 1 := ⟨gk - 1, by omega⟩
        clear hn
        have hltI : (n : Int) < (os.length : Int) := by omega
        have hn60 : n < 60 := by omega
        obtain ⟨gv, ov, c, hv', e0, e1, e2, e3⟩ := script_at hv n hlt
        simp only [Value.slice.injEq] at hv'
        obtain ⟨rfl, -, rfl⟩ := hv'
        have d0 := (hK.cell (lt_of_cell e0) (by simp)).trans e0
        have d1 := (hK.cell (lt_of_cell e1) (by simp)).trans e1
        have d2 := (hK.cell (lt_of_cell e2) (by simp)).trans e2
        have d3 := (hK.cell (lt_of_cell e3) (by simp)).trans e3
        obtain ⟨⟨o, l⟩, hol⟩ : ∃ ol, ol = os[n] := ⟨_, rfl⟩
        rw [← hol] at d0 d1 d2 d3
        simp only at d0 d1 d2 d3
        have hlo := ho (o, l) (by rw [hol]; exact List.getElem_mem hlt)
        have HOL := Lib.hid hol
        clear e0 e1 e2 e3 hol
        simp only at hlo
        obtain ⟨al, cl, rfl⟩ := slice_ex hlo
        by_cases hds : 60 < o.ds.length
        · have hdsI : (60 : Int) < (o.ds.length : Int) := by omega
          go_wp2_with fail
          refine (live_true _).mono ?_
          rintro e w1 ⟨rfl, h1⟩
          go_wp2_with fail
          go_ret
          exact ⟨rfl, hK.trans h1⟩
        · have hdsI : (o.ds.length : Int) ≤ 60 := by omega
          go_wp2_with fail
          refine (does_any b k f vk xs o _ w.heap.size _ hs hr hbk (hlo.keep0 hK) HBW.out (by omega) (by omega)).mono ?_
          rintro e w2 ⟨vk', rfl, hB⟩
          obtain ⟨q1, q2⟩ := rel_do HREL.out o
          rw [q1]
          have hl2 := doL_le xs o (by omega)
          have hK2 : Kp [] w w2 := hK.step hB.keep (fun i hi hm => by
            have h1 := HBW.out
            simp only [List.mem_cons, Option.mem_toList, Option.mem_def] at hm
            rcases hm with hm | hm | hm
            · omega
            · omega
            · have := own_block_ge hr.own i hm
              omega)
          have hs2 := hB.sp
          have hr2 := hB.rf
          have HREL2 := Lib.hid q2
          have HLL := Lib.hid hl2
          generalize doF f o = f2 at *
          generalize doL xs o = xs2 at *
          clear hs hr hK hB q1 q2 hl2 d0 d1 d2 d3
          have hxl2 : xs2.length ≤ 60 * n + 60 := by have := HLL.out; omega
          go_wp2_with fail
          go_loopg [6] 14 (fun g i wx => ∃ m : Nat, m + g = 14 ∧ i = .int .i64 ((m : Int) - 1) ∧ Kp [] w2 wx)
          case atStart => exact ⟨0, by omega, rfl, Kp.refl _ _⟩
          case round =>
            obtain ⟨m, hm, rfl, hKx⟩ := hrel
            have HM := Lib.hid hm
            by_cases hm14 : m < 14
            · obtain ⟨g2, rfl⟩ : ∃ g2, gk = g2 + 1 := ⟨gk - 1, by omega⟩
              clear hm
              have hmI : (m : Int) - 1 < 13 := by omega
              go_wp2_with fail
              refine (free_any b f2 _ _ (hs2.keep hKx (by simp))).mono ?_
              rintro e w3 ⟨rfl, k3⟩
              have hKx := hKx.trans k3
              clear k3
              go_wp2_with fail
              refine (rfree_any k vk' xs2 _ _ (hr2.keep0 hKx) (by omega)).mono ?_
              rintro e w4 ⟨rfl, k4⟩
              have hKx := hKx.trans k4
              clear k4
              rw [← rel_free HREL2.out]
              go_wp2_with fail
              go_roundg g2
              case rel =>
                have hm := HM.out
                exact ⟨m + 1, by omega, by go_num, hKx⟩
              case measure => omega
            · obtain rfl : m = 14 := by omega
              obtain rfl : gk = 0 := by omega
              clear hm
              go_wp2_with fail
              have hK3 := hK2.trans hKx
              have hs3 := hs2.keep hKx (by simp)
              have hr3 := hr2.keep0 hKx
              clear hs2 hr2 hK2 hKx
              obtain ⟨w3, rfl⟩ : ∃ w3 : World, w3 = wr := ⟨_, rfl⟩
              go_loopg [7] (n + 1) (fun g j wx => ∃ m : Nat, m + g = n + 1 ∧ j = .int .i64 m ∧ Kp [] w3 wx)
              case atStart => exact ⟨0, by omega, rfl, Kp.refl _ _⟩
              case round =>
                obtain ⟨m, hm, rfl, hKx⟩ := hrel
                have HM := Lib.hid hm
                by_cases hmn : m < n + 1
                · obtain ⟨g2, rfl⟩ : ∃ g2, gk = g2 + 1 := ⟨gk - 1, by omega⟩
                  clear hm
                  have hmI : (m : Int) ≤ (n : Int) := by omega
                  have hmL : (m : Int) < (os.length : Int) := by omega
                  obtain ⟨gv2, ov2, c2, hv2, e0, e1, e2, e3⟩ := script_at hv m (by omega)
                  simp only [Value.slice.injEq, Option.some.injEq, Addr.mk.injEq] at hv2
                  obtain ⟨⟨rfl, rfl, -⟩, -, rfl⟩ := hv2
                  obtain ⟨om, hom⟩ : ∃ om, om = os[m]'(by omega) := ⟨_, rfl⟩
                  rw [← hom] at e1 e2
                  clear hom e0 e3
                  have hKw := hK3.trans hKx
                  have d1 := Kp.cellAt (X := []) ((hKw.cell (lt_of_cell e1) (by simp)).trans e1) (by simp)
                  have d2 := Kp.cellAt (X := []) ((hKw.cell (lt_of_cell e2) (by simp)).trans e2) (by simp)
                  clear e1 e2
                  go_wp2_with fail
                  refine wpB_begin 999 (Kp [] wr) (by kernel_rfl) (by first | exact hK.drew | exact Kp.drew (Kp.refl _ _)) (fun hHeld => ?_)
                  refine wpB_take 0 _ ?_ rfl (by kernel_rfl) (fun _ _ _ h => h) rfl hHeld ?_ ?_
                  rotate_left
                  · (intro W hW; go_simp; try with_reducible rfl)
                  try simp only [Act.put, List.setIfInBounds_toArray, List.set_cons_zero, List.set_cons_succ]
                  refine wpB_take 1 _ ?_ rfl (by kernel_rfl) (fun _ _ _ h => h) rfl hHeld ?_ ?_
                  rotate_left
                  · (intro W hW; go_simp; try with_reducible rfl)
                  try simp only [Act.put, List.setIfInBounds_toArray, List.set_cons_zero, List.set_cons_succ]
                  refine wpB_take 2 _ ?_ rfl (by kernel_rfl) (fun _ _ _ h => h) rfl hHeld ?_ ?_
                  rotate_left
                  · (intro W hW; go_simp; try with_reducible rfl)
                  try simp only [Act.put, List.setIfInBounds_toArray, List.set_cons_zero, List.set_cons_succ]
                  refine wpB_take 3 _ ?_ rfl (by kernel_rfl) (fun _ _ _ h => h) rfl hHeld ?_ ?_
                  rotate_left
                  · (intro W hW; go_simp; try with_reducible rfl)
                  try simp only [Act.put, List.setIfInBounds_toArray, List.set_cons_zero, List.set_cons_succ]
                  refine wpB_take 4 _ ?_ rfl (by kernel_rfl) (fun _ _ _ h => h) rfl hHeld ?_ ?_
                  rotate_left
                  · (intro W hW; go_simp; try with_reducible rfl)
                  try simp only [Act.put, List.setIfInBounds_toArray, List.set_cons_zero, List.set_cons_succ]
                  refine wpB_take 5 _ ?_ rfl (by kernel_rfl) (fun _ _ _ h => h) rfl hHeld ?_ ?_
                  rotate_left
                  · (intro W hW; go_simp; try with_reducible rfl)
                  try simp only [Act.put, List.setIfInBounds_toArray, List.set_cons_zero, List.set_cons_succ]
                  refine wpB_take 7 _ ?_ rfl (by kernel_rfl) (fun _ _ _ h => h) rfl hHeld ?_ ?_
                  rotate_left
                  · (intro W hW; go_simp; try with_reducible rfl)
                  try simp only [Act.put, List.setIfInBounds_toArray, List.set_cons_zero, List.set_cons_succ]
                  refine wpB_take 8 _ ?_ rfl (by kernel_rfl) (fun _ _ _ h => h) rfl hHeld ?_ ?_
                  rotate_left
                  · (intro W hW; go_simp; try with_reducible rfl)
                  try simp only [Act.put, List.setIfInBounds_toArray, List.set_cons_zero, List.set_cons_succ]
                  refine wpB_take 9 _ ?_ rfl (by kernel_rfl) (fun _ _ _ h => h) rfl hHeld ?_ ?_
                  rotate_left
                  · (intro W hW; go_simp; try with_reducible rfl)
                  try simp only [Act.put, List.setIfInBounds_toArray, List.set_cons_zero, List.set_cons_succ]
                  refine wpB_take 10 _ ?_ rfl (by kernel_rfl) (fun _ _ _ h => h) rfl hHeld ?_ ?_
                  rotate_left
                  · (intro W hW; go_simp; try with_reducible rfl)
                  try simp only [Act.put, List.setIfInBounds_toArray, List.set_cons_zero, List.set_cons_succ]
                  refine wpB_take 11 _ ?_ rfl (by kernel_rfl) (fun _ _ _ h => h) rfl hHeld ?_ ?_
                  rotate_left
                  · (intro W hW; go_simp; try with_reducible rfl)
                  try simp only [Act.put, List.setIfInBounds_toArray, List.set_cons_zero, List.set_cons_succ]
                  refine wpB_take 12 _ ?_ rfl (by kernel_rfl) (fun _ _ _ h => h) rfl hHeld ?_ ?_
                  rotate_left
                  · (intro W hW; go_simp; try with_reducible rfl)
                  try simp only [Act.put, List.setIfInBounds_toArray, List.set_cons_zero, List.set_cons_succ]
                  refine wpB_step 6 _ rfl (by kernel_rfl) rfl rfl (fun K hK_ => ?_)
                  go_simp
                  refine (taken_any b f2 _ _ _ ((hs3.keep hKx (by simp)).keep hHeld (by simp))).mono ?_
                  rintro e w5 ⟨rfl, k5⟩
                  rw [contains_isB HREL2.out]
                  refine hK_.out _ _ (by first | exact hHeld | exact hHeld.call ‹_› | exact hHeld.alloc _) (fun hHeld => ?_)
                  clear hK_ K
                  try simp only [Act.put, List.setIfInBounds_toArray, List.set_cons_zero, List.set_cons_succ]
                  refine wpB_step 13 _ rfl (by kernel_rfl) rfl rfl (fun K hK_ => ?_)
                  go_simp
                  refine (rtaken_any k vk' xs2 _ _ _ ((hr3.keep0 hKx).keep0 hHeld) (by omega)).mono ?_
                  rintro e w6 ⟨rfl, k6⟩
                  refine hK_.out _ _ (by first | exact hHeld | exact hHeld.call ‹_› | exact hHeld.alloc _) (fun hHeld => ?_)
                  clear hK_ K
                  try simp only [Act.put, List.setIfInBounds_toArray, List.set_cons_zero, List.set_cons_succ]
                  refine wpB_take 14 _ ?_ rfl (by kernel_rfl) (fun _ _ _ h => h) rfl hHeld ?_ ?_
                  rotate_left
                  · (intro W hW; go_simp; try with_reducible rfl)
                  try simp only [Act.put, List.setIfInBounds_toArray, List.set_cons_zero, List.set_cons_succ]
                  refine wpB_done (by kernel_rfl) ?_ _
                  have hKx := hKx.trans hHeld
                  go_wp2_with fail
                  go_roundg g2
                  case rel =>
                    have hm := HM.out
                    exact ⟨m + 1, by omega, by go_num, hKx⟩
                  case measure => omega
                · obtain rfl : m = n + 1 := by omega
                  obtain rfl : gk = 0 := by omega
                  clear hm
                  have hcmp : ¬ (((n + 1 : Nat) : Int) ≤ (n : Int)) := by omega
                  go_wp2_with fail
                  go_roundg g'
                  case rel =>
                    have hn := HN.out
                    have := HLL.out
                    exact ⟨n + 1, f2, xs2, vk', by omega, by go_num, hs3.keep hKx (by simp), hr3.keep0 hKx, HREL2.out, by omega, hK3.trans hKx⟩
                  case measure => omega
      · obtain rfl : n = os.length := by omega
        obtain rfl : gk = 0 := by omega
        clear hn
        go_wp2_with fail
        refine (live_true _).mono ?_
        rintro e w1 ⟨rfl, h1⟩
        go_wp2_with fail
        go_ret
        exact ⟨rfl, hK.trans h1⟩

theorem scripts_lifted (os : Os) (started : os.Started) (H : Type) (enc : TypeId × Value → H) :
    ReturnsInHanded {} Try.checked os 3 .any (Rows.spaceScriptsSpec.pre6 enc Try.prog Try.f3 Rows.spaceScriptsRow.domain false) (Rows.spaceScriptsSpec.post enc Try.prog Try.f3 false true false false) := by
  refine law_lifted Rows.spaceScriptsSpec Try.func3 (by kernel_rfl) Try.underlying4 rfl (by decide +kernel) rfl ?_ ?_ os started H enc
    (ChangeSpec.witness6 (enc := enc) (C := Try.checked) false ⟨#[], #[.slice none 0 0], []⟩ 8 (by kernel_rfl) (by kernel_rfl) (by kernel_rfl) (by kernel_rfl))
  · intro H ds hl
    match ds, hl with
    | [d], _ => exact ⟨rfl, rfl, rfl⟩
  · rintro W vs ⟨v, vs', base, rfl, hok, hrd, rfl⟩
    obtain ⟨av, l, c, rfl, -⟩ := okWide_slice Try.underlying22 hok
    have h4 : Try.prog.cellsOf 34 = 4 := by kernel_rfl
    obtain ⟨xs, v, e, hs, hq⟩ := rd_list Try.underlying22 hrd opCells 4 h4 (by decide) opCells_len (fun o => SliceAt W.heap.size W o.2 1 o.1.ds.length (o.1.ds.map (Value.int .i64))) (fun es he => by
      obtain ⟨o, e, ho⟩ := op_of he
      exact ⟨o, e, ho⟩)
    have e1 : Value.slice av l c = v := by
      have : [Value.slice av l c] = [v] := e
      simpa using this
    subst e1
    exact scripts_walk _ xs W hs hq

theorem space_scripts_holds : Rows.SpaceScriptsSaid :=
  OpenClaim.holds_of_wide 3 Try.f3 rfl rfl rfl rfl rfl rfl rfl ⟨rfl, rfl, rfl, rfl, rfl⟩ rfl rfl rfl rfl rfl (by kernel_rfl) Try.func3 (by kernel_rfl)
    (of_decide_eq_true (by kernel_rfl)) (by unfold Func.isWrapper; first | (rw [if_pos (by decide +kernel)]; kernel_rfl) | (rw [if_neg (by decide +kernel)]; exact ⟨rfl, rfl⟩))
    (fun os started H enc _ => scripts_lifted os started H enc)
end Go.Proofs.Ytmegcmjklealbaa
