/-
  IndexAgain: the records that were applied, applied to another index, make the same one. For every list of records.
  Conditions: none beyond the row's own.
-/
import Derived.Test.YtdhhddifmkijhaaIdxLv
import Derived.Test.YtdhhddifmkijhaaIdxBd
import Derived.Test.YtdhhddifmkijhaaIdxSm
import Derived.Test.YtdhhddifmkijhaaIdxZ
namespace Go.Proofs.Ytdhhddifmkijhaa
open Go.ChangeShapes Go.WideShapes Go.ChangeAt Go.RowKit Go.WideElems Go.Sort

theorem owns_typed3 {W : World} {base : Nat} {e : TypeId} {sz n : Nat} {v : Value} {xs : List Value} (h : W.ownsRow base e sz v n xs) : ∀ g, v.ownBlock = some g → ∃ cur, W.heap[g]? = some (.cells cur e (0, 0)) := by
  obtain ⟨hl, ⟨hv, hn⟩ | ⟨g, cap, cur, hv, hg, hb, hc, hm, hs, ht⟩⟩ := h
  · intro g hg; rw [hv] at hg; cases hg
  · intro g' hg'; rw [hv] at hg'
    obtain rfl : g = g' := by simpa [Value.ownBlock] using hg'
    exact ⟨cur, hb⟩
set_option maxHeartbeats 8000000 in
set_option maxRecDepth 100000 in
theorem again_walk (v : Value) (rs : List (RecD × Value)) (w : World) (hr : RecsAt w.heap.size w v rs) : Calls Try.prog 5 #[v] w fun e w' => e = .returned (.bool true) ∧ Kp [] w w' := by
  obtain ⟨va, vc, rfl⟩ := slice_ex hr.1
  have hK := Kp.refl [] w
  by_cases hlen : 30 < rs.length
  · have hlenI : (30 : Int) < (rs.length : Int) := by omega
    go_enter Try.func5, Try.ntmps5
    go_wp2_with fail
    refine (live_true _).mono ?_
    rintro e wl ⟨rfl, kl⟩
    have hkl := (hK).trans kl
    clear kl
    go_wp2_with fail
    go_ret
    exact ⟨rfl, hkl⟩
  have hlenI : (rs.length : Int) ≤ 30 := by omega
  obtain ⟨i0, hi, hz0, hz1, hz2⟩ := info_parts Try.info39
  go_enter Try.func5, Try.ntmps5
  go_wp2_with fail
  refine (inew w).mono ?_
  rintro e w1 ⟨I, rfl, hI, k1, hX⟩
  have hs1 := k1.size
  have hO : w1.ownsRow w1.heap.size 39 14 (.slice none 0 0) 0 [] := ⟨rfl, .inl ⟨rfl, rfl⟩⟩
  have hlt1 := hI.lts
  go_wp2_with fail
  go_loopg [4, 5] rs.length (fun g gv i wr => ∃ (n : Nat) (ga : Option Addr) (gc : Nat) (ds : List (RecD × Value)), n + g = rs.length ∧ i = .int .i64 n ∧ gv = .slice ga ds.length gc ∧ Kp [] w wr ∧ IxAt I wr (ixs ((rs.take n).map (·.1))) ∧ wr.ownsRow w1.heap.size 39 14 (.slice ga ds.length gc) ds.length (ds.flatMap RecC) ∧ ds.length ≤ n ∧ w1.heap.size ≤ wr.heap.size ∧ (AllMay Ix.zero (ds.map (·.1)) ∧ Ix.zero.run (ds.map (·.1)) = ixs ((rs.take n).map (·.1)) ∧ ∀ q ∈ ds, LocsAt w.heap.size w q.2 q.1.vol.locs ∧ smallR q.1 = true))
  case atStart => exact ⟨0, none, 0, [], by omega, rfl, rfl, k1, hI, hO, Nat.le_refl _, Nat.le_refl _, trivial, rfl, by simp⟩
  case round =>
    clear hI k1 hK hO
    obtain ⟨n, ga, gc, ds, hn, rfl, rfl, hK, hIr, hO, hgl, hsz, hpl⟩ := hrel
    have HN := Lib.hid hn
    have HP := Lib.hid hpl
    clear hpl
    by_cases hlt : n < rs.length
    · obtain ⟨g', rfl⟩ : ∃ g', gk = g' + 1 := ⟨gk - 1, by omega⟩
      clear hn
      have hltI : (n : Int) < (rs.length : Int) := by omega
      have htk : (rs.take (n + 1)).map (·.1) = (rs.take n).map (·.1) ++ [rs[n].1] := by rw [take_next hlt, List.map_append]; rfl
      have hlt2 : ((rs.take n).map (·.1)).length = n := by rw [List.length_map, List.length_take]; omega
      have hze := (ixs_le ((rs.take n).map (·.1))).1
      rw [hlt2] at hze
      have hiv := ixs_inv ((rs.take n).map (·.1))
      obtain ⟨g, o, c, hv', f0, f1, f2, f3, f4, f5, f6, f7, f8, f9, fa, fb, fc, fd⟩ := rec_at hr n hlt
      simp only [Value.slice.injEq] at hv'
      obtain ⟨rfl, -, rfl⟩ := hv'
      obtain ⟨q, hq⟩ : ∃ q, q = rs[n] := ⟨_, rfl⟩
      have hlq := hr.2 _ (List.getElem_mem hlt)
      rw [← hq] at f0 f1 f2 f3 f4 f5 f6 f7 f8 f9 fa fb fc fd hlq
      obtain ⟨⟨x0, x1, ⟨x2, x3, x4, lx⟩, ⟨x6, x7, x8, x9, xa⟩, xb, xc, xd⟩, lv⟩ := q
      simp only at f0 f1 f2 f3 f4 f5 f6 f7 f8 f9 fa fb fc fd hlq
      obtain ⟨la, lc, rfl⟩ := slice_ex hlq
      have r0 := Kp.cellAt (X := []) f0 (by simp) wr hK
      have r1 := Kp.cellAt (X := []) f1 (by simp) wr hK
      have r2 := Kp.cellAt (X := []) f2 (by simp) wr hK
      have r3 := Kp.cellAt (X := []) f3 (by simp) wr hK
      have r4 := Kp.cellAt (X := []) f4 (by simp) wr hK
      have r5 := Kp.cellAt (X := []) f5 (by simp) wr hK
      have r6 := Kp.cellAt (X := []) f6 (by simp) wr hK
      have r7 := Kp.cellAt (X := []) f7 (by simp) wr hK
      have r8 := Kp.cellAt (X := []) f8 (by simp) wr hK
      have r9 := Kp.cellAt (X := []) f9 (by simp) wr hK
      have ra := Kp.cellAt (X := []) fa (by simp) wr hK
      have rb := Kp.cellAt (X := []) fb (by simp) wr hK
      have rc := Kp.cellAt (X := []) fc (by simp) wr hK
      have rd := Kp.cellAt (X := []) fd (by simp) wr hK
      have HQR := Lib.hid hq
      have hgw := lt_of_cell f0
      clear f0 f1 f2 f3 f4 f5 f6 f7 f8 f9 fa fb fc fd hq
      rw [← HQR.out] at htk
      simp only at htk
      have hsm := fun W (k : Kp [] w W) => rsmall ⟨x0, x1, ⟨x2, x3, x4, lx⟩, ⟨x6, x7, x8, x9, xa⟩, xb, xc, xd⟩ (.slice la lx.length lc) w.heap.size W (hlq.keep0 k)
      have how := fun W => own_any ⟨x0, x1, ⟨x2, x3, x4, lx⟩, ⟨x6, x7, x8, x9, xa⟩, xb, xc, xd⟩ la lx.length lc W
      simp only [RecV] at hsm how
      obtain ⟨Xn, hXn⟩ : ∃ X, X = ixs ((rs.take n).map (·.1)) := ⟨_, rfl⟩
      rw [← hXn] at hze hiv hIr
      have HXN := Lib.hid hXn
      have HTK := Lib.hid htk
      have HO := Lib.hid hO
      clear hXn htk hlt2 hO
      cases hS : smallR ⟨x0, x1, ⟨x2, x3, x4, lx⟩, ⟨x6, x7, x8, x9, xa⟩, xb, xc, xd⟩ with
      | false =>
        rw [hS] at hsm
        go_wp2_with fail
        refine (hsm _ hK).mono ?_
        rintro e w2 ⟨rfl, k2⟩
        clear hsm how
        go_wp2_with fail
        refine (live_true _).mono ?_
        rintro e wl ⟨rfl, kl⟩
        have hkl := (hK.trans k2).trans kl
        clear kl
        go_wp2_with fail
        go_ret
        exact ⟨rfl, hkl⟩
      | true =>
        rw [hS] at hsm
        obtain ⟨z1, z2, z3, z4⟩ := small_spec hS
        simp only at z1 z2 z3 z4
        have HSM := Lib.hid hS
        clear hS
        go_wp2_with fail
        refine (hsm _ hK).mono ?_
        rintro e w2 ⟨rfl, k2⟩
        have hK2 := hK.trans k2
        have hI2 := hIr.keep0 k2
        have q0 := (k2.cell (lt_of_cell r0) (by simp)).trans r0
        have q1 := (k2.cell (lt_of_cell r1) (by simp)).trans r1
        have q2 := (k2.cell (lt_of_cell r2) (by simp)).trans r2
        have q3 := (k2.cell (lt_of_cell r3) (by simp)).trans r3
        have q4 := (k2.cell (lt_of_cell r4) (by simp)).trans r4
        have q5 := (k2.cell (lt_of_cell r5) (by simp)).trans r5
        have q6 := (k2.cell (lt_of_cell r6) (by simp)).trans r6
        have q7 := (k2.cell (lt_of_cell r7) (by simp)).trans r7
        have q8 := (k2.cell (lt_of_cell r8) (by simp)).trans r8
        have q9 := (k2.cell (lt_of_cell r9) (by simp)).trans r9
        have qa := (k2.cell (lt_of_cell ra) (by simp)).trans ra
        have qb := (k2.cell (lt_of_cell rb) (by simp)).trans rb
        have qc := (k2.cell (lt_of_cell rc) (by simp)).trans rc
        have qd := (k2.cell (lt_of_cell rd) (by simp)).trans rd
        have hO2 := owns_other HO.out k2 (fun _ _ => by simp)
        clear hsm r0 r1 r2 r3 r4 r5 r6 r7 r8 r9 ra rb rc rd
        go_wp2_with fail
        refine (how _).mono ?_
        rintro e w3 ⟨rfl, k3⟩
        have hK3 := hK2.trans k3
        have hap := iapply hiv (by omega) ⟨x0, x1, ⟨x2, x3, x4, lx⟩, ⟨x6, x7, x8, x9, xa⟩, xb, xc, xd⟩ (.slice la lx.length lc) w3 (hI2.keep0 k3) (locs_in hlq hK3 hX) (by simp only; omega) (by simp only; omega) (by simp only; omega)
        simp only [RecV] at hap
        have hO3 := owns_other hO2 k3 (fun _ _ => by simp)
        obtain ⟨X', hX'⟩ : ∃ X', X' = (Xn.apply ⟨x0, x1, ⟨x2, x3, x4, lx⟩, ⟨x6, x7, x8, x9, xa⟩, xb, xc, xd⟩).1 := ⟨_, rfl⟩
        obtain ⟨C, hC⟩ : ∃ C, C = (Xn.apply ⟨x0, x1, ⟨x2, x3, x4, lx⟩, ⟨x6, x7, x8, x9, xa⟩, xb, xc, xd⟩).2.2 := ⟨_, rfl⟩
        rw [← hC, ← hX'] at hap
        rw [apply_code] at hC
        have hix : ixs ((rs.take (n + 1)).map (·.1)) = X' := by rw [HTK.out, ixs_snoc, ← HXN.out, hX']
        have HC := Lib.hid hC
        have HX' := Lib.hid hX'
        have HIX := Lib.hid hix
        clear hC hX' hO2 hix hI2
        go_wp2_with fail
        refine hap.mono ?_
        rintro e w4 ⟨ov, rfl, hOl, hI4, k4⟩
        obtain ⟨-, oa, oc, rfl, -⟩ := _root_.id hOl
        have hK4 : Kp [] w w4 := kp_in hK3 k4 hX
        have hge := own_block_ge hO3
        have hO4 := owns_other hO3 k4 (fun g hg hm => by have := hlt1 g hm; have := hge g hg; omega)
        have hs4 : w1.heap.size ≤ w4.heap.size := Nat.le_trans (Nat.le_trans (Nat.le_trans hsz k2.size) k3.size) k4.size
        have hgX : g ∉ I.X := fun hm => by have := hX g hm; omega
        have p0 := (k4.cell (p := ⟨g, o + n * 14, none⟩) (Nat.lt_of_lt_of_le (lt_of_cell q0) k3.size) hgX).trans ((k3.cell (lt_of_cell q0) (by simp)).trans q0)
        have p1 := (k4.cell (p := ⟨g, o + n * 14 + 1, none⟩) (Nat.lt_of_lt_of_le (lt_of_cell q1) k3.size) hgX).trans ((k3.cell (lt_of_cell q1) (by simp)).trans q1)
        have p2 := (k4.cell (p := ⟨g, o + n * 14 + 2, none⟩) (Nat.lt_of_lt_of_le (lt_of_cell q2) k3.size) hgX).trans ((k3.cell (lt_of_cell q2) (by simp)).trans q2)
        have p3 := (k4.cell (p := ⟨g, o + n * 14 + 3, none⟩) (Nat.lt_of_lt_of_le (lt_of_cell q3) k3.size) hgX).trans ((k3.cell (lt_of_cell q3) (by simp)).trans q3)
        have p4 := (k4.cell (p := ⟨g, o + n * 14 + 4, none⟩) (Nat.lt_of_lt_of_le (lt_of_cell q4) k3.size) hgX).trans ((k3.cell (lt_of_cell q4) (by simp)).trans q4)
        have p5 := (k4.cell (p := ⟨g, o + n * 14 + 5, none⟩) (Nat.lt_of_lt_of_le (lt_of_cell q5) k3.size) hgX).trans ((k3.cell (lt_of_cell q5) (by simp)).trans q5)
        have p6 := (k4.cell (p := ⟨g, o + n * 14 + 6, none⟩) (Nat.lt_of_lt_of_le (lt_of_cell q6) k3.size) hgX).trans ((k3.cell (lt_of_cell q6) (by simp)).trans q6)
        have p7 := (k4.cell (p := ⟨g, o + n * 14 + 7, none⟩) (Nat.lt_of_lt_of_le (lt_of_cell q7) k3.size) hgX).trans ((k3.cell (lt_of_cell q7) (by simp)).trans q7)
        have p8 := (k4.cell (p := ⟨g, o + n * 14 + 8, none⟩) (Nat.lt_of_lt_of_le (lt_of_cell q8) k3.size) hgX).trans ((k3.cell (lt_of_cell q8) (by simp)).trans q8)
        have p9 := (k4.cell (p := ⟨g, o + n * 14 + 9, none⟩) (Nat.lt_of_lt_of_le (lt_of_cell q9) k3.size) hgX).trans ((k3.cell (lt_of_cell q9) (by simp)).trans q9)
        have pa := (k4.cell (p := ⟨g, o + n * 14 + 10, none⟩) (Nat.lt_of_lt_of_le (lt_of_cell qa) k3.size) hgX).trans ((k3.cell (lt_of_cell qa) (by simp)).trans qa)
        have pb := (k4.cell (p := ⟨g, o + n * 14 + 11, none⟩) (Nat.lt_of_lt_of_le (lt_of_cell qb) k3.size) hgX).trans ((k3.cell (lt_of_cell qb) (by simp)).trans qb)
        have pc := (k4.cell (p := ⟨g, o + n * 14 + 12, none⟩) (Nat.lt_of_lt_of_le (lt_of_cell qc) k3.size) hgX).trans ((k3.cell (lt_of_cell qc) (by simp)).trans qc)
        have pd := (k4.cell (p := ⟨g, o + n * 14 + 13, none⟩) (Nat.lt_of_lt_of_le (lt_of_cell qd) k3.size) hgX).trans ((k3.cell (lt_of_cell qd) (by simp)).trans qd)
        clear hap hOl hO3 k4 k3 k2 q0 q1 q2 q3 q4 q5 q6 q7 q8 q9 qa qb qc qd
        by_cases hc0 : C = 0
        · have hb : (C == 0) = true := by simp [hc0]
          have hm0 : Xn.may ⟨x0, x1, ⟨x2, x3, x4, lx⟩, ⟨x6, x7, x8, x9, xa⟩, xb, xc, xd⟩ = 0 := by rw [← HC.out]; exact hc0
          have HM0 := Lib.hid hm0
          clear hc0 hm0
          go_wp2_with fail
          refine (how _).mono ?_
          rintro e w5 ⟨rfl, k5⟩
          have hI5 := hI4.keep0 k5
          have hO5 := owns_other hO4 k5 (fun _ _ => by simp)
          have hK5 := hK4.trans k5
          have hs5 : w1.heap.size ≤ w5.heap.size := Nat.le_trans hs4 k5.size
          clear how hO4 hI4 hK4 k5
          go_wp2_with (first | (at_builtin; refine wpList_append_mine _ rfl (.tmp 42) (.tmp 48) 50 rfl w1.heap.size 39 i0 (.agg (RecV ⟨0, 0, zeroVol, zeroEnt, E0, 0, 0⟩ (.slice none 0 0))) 14 152 Try.underlying50 hi hz0 hz1 hz2 rfl (by decide) (.slice ga ds.length gc) ds.length (ds.flatMap RecC) rfl (ownsRow_keep (X := []) hO5 ((Kp.refl _ w5).alloc _) (fun _ _ => by simp)) ⟨w5.heap.size, 0, none⟩ 1 1 (RecC (⟨x0, x1, ⟨x2, x3, x4, lx⟩, ⟨x6, x7, x8, x9, xa⟩, xb, xc, xd⟩, .slice la lx.length lc)) rfl rfl (new_cells w5 _ _) (by intro u hu; simp only [RecC, RecV, List.mem_cons, List.not_mem_nil, or_false] at hu; rcases hu with rfl | rfl | rfl | rfl | rfl | rfl | rfl | rfl | rfl | rfl | rfl | rfl | rfl | rfl <;> rfl) (by unfold maxLen; omega) (by omega) (by simp; omega) ?_))
          intro v' w6 hown' hkp _ _
          obtain ⟨ga', gc', rfl⟩ := ownsRow_ex hown'
          have k6 : Kp (Value.slice ga ds.length gc).ownBlock.toList w5 w6 := ((Kp.refl _ w5).alloc _).trans hkp
          have hI6 := hI5.keepRows k6 (fun g' hg' => by
            rw [Option.mem_toList] at hg'
            obtain ⟨cur, hc⟩ := owns_typed3 hO5 g' hg'
            exact ⟨cur, _, _, hc, by decide, by decide⟩)
          have hK6 : Kp [] w w6 := hK5.step k6 (fun i hi hm => by
            rw [Option.mem_toList] at hm
            have := hge i hm
            omega)
          obtain ⟨q, hq⟩ : ∃ q : RecD × Value, q = (⟨x0, x1, ⟨x2, x3, x4, lx⟩, ⟨x6, x7, x8, x9, xa⟩, xb, xc, xd⟩, .slice la lx.length lc) := ⟨_, rfl⟩
          have hO6 : w6.ownsRow w1.heap.size 39 14 (.slice ga' (ds ++ [q]).length gc') (ds ++ [q]).length ((ds ++ [q]).flatMap RecC) := by
            have e1 : (ds ++ [q]).length = ds.length + 1 := by simp
            have e2 : (ds ++ [q]).flatMap RecC = ds.flatMap RecC ++ RecC q := by simp
            rw [e1, e2, hq]
            exact hown'
          have hgl6 : (ds ++ [q]).length ≤ n + 1 := by simp; omega
          have hsl : Value.slice ga' (ds.length + 1) gc' = Value.slice ga' (ds ++ [q]).length gc' := by simp
          have hq1 : q.1 = ⟨x0, x1, ⟨x2, x3, x4, lx⟩, ⟨x6, x7, x8, x9, xa⟩, xb, xc, xd⟩ := by rw [hq]
          have hpl6 : AllMay Ix.zero ((ds ++ [q]).map (·.1)) ∧ Ix.zero.run ((ds ++ [q]).map (·.1)) = X' ∧ ∀ q' ∈ ds ++ [q], LocsAt w.heap.size w q'.2 q'.1.vol.locs ∧ smallR q'.1 = true := by
            obtain ⟨h1, h2, h3⟩ := HP.out
            rw [List.map_append]
            refine ⟨allMay_snoc.2 ⟨h1, ?_⟩, ?_, fun q' hq' => ?_⟩
            · rw [h2, ← HXN.out]; show Xn.may q.1 = 0; rw [hq1]; exact HM0.out
            · rw [show [q].map (·.1) = [q.1] from rfl, run_snoc, h2, ← HXN.out, hq1]; exact HX'.out.symm
            · rw [List.mem_append, List.mem_singleton] at hq'
              rcases hq' with hq' | rfl
              · exact h3 q' hq'
              · rw [hq]; exact ⟨hlq, HSM.out⟩
          have HI6 := Lib.hid hI6
          have HO6 := Lib.hid hO6
          have HP6 := Lib.hid hpl6
          have HGL := Lib.hid hgl6
          have HSL := Lib.hid hsl
          have hs6 := Nat.le_trans hs5 k6.size
          clear hkp hown' k6 hI5 hO5 hI6 hO6 hpl6 hgl6 hge hq hq1 hsl hK5
          go_wp2_with fail
          rw [HSL.out]
          go_roundg g'
          case rel => exact ⟨n + 1, ga', gc', ds ++ [q], st_next HN.out, by go_num, rfl, hK6, by rw [HIX.out]; exact HI6.out, HO6.out, HGL.out, hs6, by rw [HIX.out]; exact HP6.out⟩
          case measure => omega
        · have hb : (C == 0) = false := by simp [hc0]
          have hpl4 : AllMay Ix.zero (ds.map (·.1)) ∧ Ix.zero.run (ds.map (·.1)) = X' ∧ ∀ q ∈ ds, LocsAt w.heap.size w q.2 q.1.vol.locs ∧ smallR q.1 = true := by
            obtain ⟨h1, h2, h3⟩ := HP.out
            refine ⟨h1, ?_, h3⟩
            rw [h2, ← HXN.out, HX'.out, apply_same (by rw [← HC.out]; exact hc0)]
          have HI4 := Lib.hid hI4
          have HO4 := Lib.hid hO4
          have HP4 := Lib.hid hpl4
          clear hc0 hpl4 hge hI4 hO4 how p0 p1 p2 p3 p4 p5 p6 p7 p8 p9 pa pb pc pd
          go_wp2_with fail
          go_roundg g'
          case rel => exact ⟨n + 1, ga, gc, ds, st_next HN.out, by go_num, rfl, hK4, by rw [HIX.out]; exact HI4.out, HO4.out, by omega, hs4, by rw [HIX.out]; exact HP4.out⟩
          case measure => omega
    · obtain rfl : n = rs.length := by omega
      obtain rfl : gk = 0 := by omega
      obtain ⟨h1, h2, h3⟩ := HP.out
      rw [List.take_length] at h2 hIr
      have hr4 : RecsAt wr.heap.size wr (.slice ga ds.length gc) ds := ⟨SliceAt.of_owns hO, fun q hq => SliceAt.up ((h3 q hq).1.keep0 hK) hK.size⟩
      have hbl := build_all h1
      rw [h2, List.length_map] at hbl
      have hb := ibuild ds _ wr hr4 (by omega) (fun q hq => (h3 q hq).2)
      rw [hbl] at hb
      have hiv := ixs_inv (rs.map (·.1))
      have hle := ixs_le (rs.map (·.1))
      rw [List.length_map] at hle
      obtain ⟨X, hXe⟩ : ∃ X, X = ixs (rs.map (·.1)) := ⟨_, rfl⟩
      rw [← hXe] at hiv hle hIr hb
      simp only at hb
      clear hn hbl h1 h2 h3 hr4 HP hO hXe
      go_wp2_with fail
      refine hb.mono ?_
      rintro e w2 ⟨J, rfl, hJ, k2, hXJ⟩
      have hI2 := hIr.keep0 k2
      have hK2 := hK.trans k2
      clear hb hIr hK k2
      go_wp2_with fail
      refine (ilist hiv.fit (by omega) E0 1000 _ hI2).mono ?_
      rintro e w3 ⟨ka, kc, rfl, hk3, k3⟩
      have hJ3 := hJ.keep0 k3
      have hI3 := hI2.keep0 k3
      have hK3 := hK2.trans k3
      clear hJ hI2 hK2 k3
      go_wp2_with fail
      refine (ilist hiv.fit (by omega) E0 1000 _ hJ3).mono ?_
      rintro e w4 ⟨kb, kd, rfl, hk4, k4⟩
      have hk3' := owns_other hk3 k4 (fun _ _ => by simp)
      have hJ4 := hJ3.keep0 k4
      have hI4 := hI3.keep0 k4
      have hK4 := hK3.trans k4
      clear hk3 hJ3 hI3 hK3 k4
      go_wp2_with fail
      refine (r02same_keys _ _ _ _ _ _ _ (SliceAt.of_owns hk3') (SliceAt.of_owns hk4) (by have := list_len X E0 1000; omega)).mono ?_
      rintro e w5 ⟨rfl, k5⟩
      rw [decide_eq_true (by rfl)]
      have hJ5 := hJ4.keep0 k5
      have hI5 := hI4.keep0 k5
      have hK5 := hK4.trans k5
      clear hk3' hk4 hJ4 hI4 hK4 k5
      go_wp2_with fail
      refine (ivolumes hiv.fit (by omega) _ hI5).mono ?_
      rintro e w6 ⟨vv, rfl, hv6, k6⟩
      obtain ⟨-, a6, c6, rfl, -⟩ := _root_.id hv6
      have hJ6 := hJ5.keep0 k6
      have hI6 := hI5.keep0 k6
      have hK6 := hK5.trans k6
      clear hJ5 hI5 hK5 k6
      go_wp2_with fail
      refine (ivolumes hiv.fit (by omega) _ hJ6).mono ?_
      rintro e w7 ⟨vv2, rfl, hv7, k7⟩
      obtain ⟨-, a7, c7, rfl, -⟩ := _root_.id hv7
      have hv6' := hv6.keep k7 (fun _ h => by cases h) (fun _ h => by cases h)
      have hJ7 := hJ6.keep0 k7
      have hI7 := hI6.keep0 k7
      have hK7 := hK6.trans k7
      clear hv6 hJ6 hI6 hK6 k7
      go_wp2_with fail
      refine (r13same _ _ _ _ _ _ _ hv6'.vols hv7.vols (by have := vols_len X; omega) (vols_locs hiv)).mono ?_
      rintro e w8 ⟨rfl, k8⟩
      rw [decide_eq_true (by rfl)]
      have hJ8 := hJ7.keep0 k8
      have hI8 := hI7.keep0 k8
      have hK8 := hK7.trans k8
      clear hv6' hv7 hJ7 hI7 hK7 k8
      go_wp2_with fail
      refine (inext _ hI8).mono ?_
      rintro e w9 ⟨rfl, k9⟩
      have hJ9 := hJ8.keep0 k9
      have hK9 := hK8.trans k9
      clear hJ8 hI8 hK8 k9
      go_wp2_with fail
      refine (inext _ hJ9).mono ?_
      rintro e w10 ⟨rfl, k10⟩
      have hK10 := hK9.trans k10
      clear hK9 k10 hJ9
      go_wp2_with fail
      refine (live_true _).mono ?_
      rintro e wl ⟨rfl, kl⟩
      have hkl := (hK10).trans kl
      clear kl
      go_wp2_with fail
      go_ret
      exact ⟨rfl, hkl⟩
set_option maxRecDepth 100000 in
theorem again_lifted (os : Os) (started : os.Started) (H : Type) (enc : TypeId × Value → H) :
    ReturnsInHanded {} Try.checked os 5 .any (Rows.indexAgainSpec.pre6 enc Try.prog Try.f5 Rows.indexAgainRow.domain false) (Rows.indexAgainSpec.post enc Try.prog Try.f5 false true false false) := by
  refine law_lifted Rows.indexAgainSpec Try.func5 (by kernel_rfl) Try.underlying4 rfl (by decide +kernel) rfl ?_ ?_ os started H enc
    (ChangeSpec.witness6 (enc := enc) (C := Try.checked) false ⟨#[], #[.slice none 0 0], []⟩ 8 (by kernel_rfl) (by kernel_rfl) (by kernel_rfl) (by kernel_rfl))
  · intro H ds hl
    match ds, hl with
    | [d], _ => exact ⟨rfl, rfl, rfl⟩
  · (rintro W vs ⟨v, vs1, base, rfl, hok, hrd, rfl⟩; obtain ⟨av, l, c, rfl, -⟩ := okWide_slice Try.underlying22 hok; obtain ⟨rs, hr⟩ := recs_arg hrd rfl; exact again_walk _ rs W hr)
set_option maxRecDepth 100000 in
theorem again_holds : Rows.IndexAgainSaid :=
  OpenClaim.holds_of_wide 5 Try.f5 rfl rfl rfl rfl rfl rfl rfl ⟨rfl, rfl, rfl, rfl, rfl⟩ rfl rfl rfl rfl rfl (by kernel_rfl) Try.func5 (by kernel_rfl)
    (of_decide_eq_true (by kernel_rfl)) (by unfold Func.isWrapper; first | (rw [if_pos (by decide +kernel)]; kernel_rfl) | (rw [if_neg (by decide +kernel)]; exact ⟨rfl, rfl⟩))
    (fun os started H enc _ => again_lifted os started H enc)
#print axioms again_holds
end Go.Proofs.Ytdhhddifmkijhaa
