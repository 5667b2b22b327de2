/-
  IndexRefused: what is refused changes nothing; what may be is applied. For every list of records, every record.
  Conditions: none beyond the row's own.
-/
import Derived.Test.YtdhhddifmkijhaaIdxLv
import Derived.Test.YtdhhddifmkijhaaIdxBd
import Derived.Test.YtdhhddifmkijhaaIdxSm
import Derived.Test.YtdhhddifmkijhaaIdxZ
namespace Go.Proofs.Ytdhhddifmkijhaa
open Go.ChangeShapes Go.WideShapes Go.ChangeAt Go.RowKit Go.WideElems Go.Sort

set_option maxRecDepth 100000 in
theorem rec_arg {W : World} {base : Nat} {v : Value} (hok : Value.okWide Try.prog W .any base 34 v) (h : Rd Try.prog W 34 v.cells.toList) :
    ∃ (r : RecD) (la : Option Addr) (lc : Nat), v = .agg (RecV r (.slice la r.vol.locs.length lc)) ∧ LocsAt W.heap.size W (.slice la r.vol.locs.length lc) r.vol.locs := by
  obtain ⟨cs, rfl, -⟩ := okWide_struct Try.underlying34 hok
  obtain ⟨⟨r, lv⟩, e, hl⟩ := rec_of h
  have e' : cs.toList = (RecV r lv).toList := e
  simp only at hl
  obtain ⟨la, lc, rfl⟩ := slice_ex hl
  exact ⟨r, la, lc, by rw [← Array.toArray_toList (xs := cs), e', Array.toArray_toList], hl⟩
set_option maxHeartbeats 8000000 in
set_option maxRecDepth 100000 in
theorem refused_walk (v : Value) (rs : List (RecD × Value)) (r : RecD) (la : Option Addr) (lc : Nat) (w : World) (hr : RecsAt w.heap.size w v rs) (hl : LocsAt w.heap.size w (.slice la r.vol.locs.length lc) r.vol.locs) :
    Calls Try.prog 4 #[v, .agg (RecV r (.slice la r.vol.locs.length lc))] w fun e w' => e = .returned (.bool true) ∧ Kp [] w w' := by
  obtain ⟨va, vc, rfl⟩ := slice_ex hr.1
  obtain ⟨x0, x1, ⟨x2, x3, x4, lx⟩, ⟨x6, x7, x8, x9, xa⟩, xb, xc, xd⟩ := r
  simp only at hl
  simp only [RecV]
  obtain ⟨w0, hw0⟩ : ∃ w0, w0 = w.alloc (.cells #[.int .i64 x0, .int .i64 x1, .int .i64 x2, .int .i64 x3, .int .i64 x4, .slice la lx.length lc, .string x6, .int .i64 x7, .int .i64 x8, .int .i64 x9, .string xa, .string xb, .int .i64 xc, .int .i64 xd] 34) := ⟨_, rfl⟩
  have k0 : Kp [] w w0 := hw0 ▸ (Kp.refl _ _).alloc _
  have b0 : w0.heap[w.heap.size]? = some (.cells #[.int .i64 x0, .int .i64 x1, .int .i64 x2, .int .i64 x3, .int .i64 x4, .slice la lx.length lc, .string x6, .int .i64 x7, .int .i64 x8, .int .i64 x9, .string xa, .string xb, .int .i64 xc, .int .i64 xd] 34 (0, 0)) := by rw [hw0]; exact block_new _ _
  have c0 := Kp.cellAt (X := []) (w0 := w0) (p := ⟨w.heap.size, 0, none⟩) (v := .int .i64 x0) (cell_of_cells b0 rfl) (by simp)
  have c1 := Kp.cellAt (X := []) (w0 := w0) (p := ⟨w.heap.size, 1, none⟩) (v := .int .i64 x1) (cell_of_cells b0 rfl) (by simp)
  have c2 := Kp.cellAt (X := []) (w0 := w0) (p := ⟨w.heap.size, 2, none⟩) (v := .int .i64 x2) (cell_of_cells b0 rfl) (by simp)
  have c3 := Kp.cellAt (X := []) (w0 := w0) (p := ⟨w.heap.size, 3, none⟩) (v := .int .i64 x3) (cell_of_cells b0 rfl) (by simp)
  have c4 := Kp.cellAt (X := []) (w0 := w0) (p := ⟨w.heap.size, 4, none⟩) (v := .int .i64 x4) (cell_of_cells b0 rfl) (by simp)
  have c5 := Kp.cellAt (X := []) (w0 := w0) (p := ⟨w.heap.size, 5, none⟩) (v := .slice la lx.length lc) (cell_of_cells b0 rfl) (by simp)
  have c6 := Kp.cellAt (X := []) (w0 := w0) (p := ⟨w.heap.size, 6, none⟩) (v := .string x6) (cell_of_cells b0 rfl) (by simp)
  have c7 := Kp.cellAt (X := []) (w0 := w0) (p := ⟨w.heap.size, 7, none⟩) (v := .int .i64 x7) (cell_of_cells b0 rfl) (by simp)
  have c8 := Kp.cellAt (X := []) (w0 := w0) (p := ⟨w.heap.size, 8, none⟩) (v := .int .i64 x8) (cell_of_cells b0 rfl) (by simp)
  have c9 := Kp.cellAt (X := []) (w0 := w0) (p := ⟨w.heap.size, 9, none⟩) (v := .int .i64 x9) (cell_of_cells b0 rfl) (by simp)
  have c10 := Kp.cellAt (X := []) (w0 := w0) (p := ⟨w.heap.size, 10, none⟩) (v := .string xa) (cell_of_cells b0 rfl) (by simp)
  have c11 := Kp.cellAt (X := []) (w0 := w0) (p := ⟨w.heap.size, 11, none⟩) (v := .string xb) (cell_of_cells b0 rfl) (by simp)
  have c12 := Kp.cellAt (X := []) (w0 := w0) (p := ⟨w.heap.size, 12, none⟩) (v := .int .i64 xc) (cell_of_cells b0 rfl) (by simp)
  have c13 := Kp.cellAt (X := []) (w0 := w0) (p := ⟨w.heap.size, 13, none⟩) (v := .int .i64 xd) (cell_of_cells b0 rfl) (by simp)
  have hlw : w.heap.size < w0.heap.size := lt_of_block b0
  have Hw0 := Lib.hid hw0
  have hK0 := Kp.refl [] w0
  clear hw0 b0
  by_cases hlen : 30 < rs.length
  · have hlenI : (30 : Int) < (rs.length : Int) := by omega
    go_enter Try.func4, Try.ntmps4
    go_wp2_with fail
    rw [← Hw0.out]
    refine (live_true _).mono ?_
    rintro e wl ⟨rfl, kl⟩
    have hkl := (k0).trans kl
    clear kl
    go_wp2_with fail
    go_ret
    exact ⟨rfl, hkl⟩
  have hlenI : (rs.length : Int) ≤ 30 := by omega
  have hsm := rsmall ⟨x0, x1, ⟨x2, x3, x4, lx⟩, ⟨x6, x7, x8, x9, xa⟩, xb, xc, xd⟩ (.slice la lx.length lc) w.heap.size w0 (hl.keep0 k0)
  simp only [RecV] at hsm
  cases hS : smallR ⟨x0, x1, ⟨x2, x3, x4, lx⟩, ⟨x6, x7, x8, x9, xa⟩, xb, xc, xd⟩ with
  | false =>
    rw [hS] at hsm
    go_enter Try.func4, Try.ntmps4
    go_wp2_with fail
    rw [← Hw0.out]
    refine hsm.mono ?_
    rintro e w2 ⟨rfl, k2⟩
    clear hsm
    go_wp2_with fail
    refine (live_true _).mono ?_
    rintro e wl ⟨rfl, kl⟩
    have hkl := (k0.trans k2).trans kl
    clear kl
    go_wp2_with fail
    go_ret
    exact ⟨rfl, hkl⟩
  | true =>
    rw [hS] at hsm
    obtain ⟨z1, z2, z3, z4⟩ := small_spec hS
    simp only at z1 z2 z3 z4
    clear hS
    go_enter Try.func4, Try.ntmps4
    go_wp2_with fail
    rw [← Hw0.out]
    refine hsm.mono ?_
    rintro e w2 ⟨rfl, k2⟩
    have hK2 := hK0.trans k2
    clear hsm
    go_wp2_with fail
    go_loopg [5] rs.length (fun g i wr => ∃ n : Nat, n + g = rs.length ∧ i = .int .i64 n ∧ Kp [] w0 wr ∧ ∀ q ∈ rs.take n, smallR q.1 = true)
    case atStart => exact ⟨0, by omega, rfl, hK2, by simp⟩
    case round =>
      clear hK2 hK0
      obtain ⟨n, hn, rfl, hKr, hall⟩ := hrel
      have HN := Lib.hid hn
      have HA := Lib.hid hall
      clear hall
      have hK := k0.trans hKr
      by_cases hlt : n < rs.length
      · obtain ⟨g', rfl⟩ : ∃ g', gk = g' + 1 := ⟨gk - 1, by omega⟩
        clear hn
        have hltI : (n : Int) < (rs.length : Int) := by omega
        obtain ⟨R0, hR0⟩ : ∃ R0, R0 = (⟨x0, x1, ⟨x2, x3, x4, lx⟩, ⟨x6, x7, x8, x9, xa⟩, xb, xc, xd⟩ : RecD) := ⟨_, rfl⟩
        have htk := take_next hlt
        clear hl z1 z2 z3 z4 hR0 c0 c1 c2 c3 c4 c5 c6 c7 c8 c9 c10 c11 c12 c13
        obtain ⟨g, o, c, hv', f0, f1, f2, f3, f4, f5, f6, f7, f8, f9, fa, fb, fc, fd⟩ := rec_at hr n hlt
        simp only [Value.slice.injEq] at hv'
        obtain ⟨rfl, -, rfl⟩ := hv'
        obtain ⟨q, hq⟩ : ∃ q, q = rs[n] := ⟨_, rfl⟩
        have hlq := hr.2 _ (List.getElem_mem hlt)
        rw [← hq] at f0 f1 f2 f3 f4 f5 f6 f7 f8 f9 fa fb fc fd hlq
        obtain ⟨⟨x0, x1, ⟨x2, x3, x4, lx⟩, ⟨x6, x7, x8, x9, xa⟩, xb, xc, xd⟩, lv⟩ := q
        simp only at f0 f1 f2 f3 f4 f5 f6 f7 f8 f9 fa fb fc fd hlq
        obtain ⟨la, lc, rfl⟩ := slice_ex hlq
        have r0 := Kp.cellAt (X := []) f0 (by simp) wr hK
        have r1 := Kp.cellAt (X := []) f1 (by simp) wr hK
        have r2 := Kp.cellAt (X := []) f2 (by simp) wr hK
        have r3 := Kp.cellAt (X := []) f3 (by simp) wr hK
        have r4 := Kp.cellAt (X := []) f4 (by simp) wr hK
        have r5 := Kp.cellAt (X := []) f5 (by simp) wr hK
        have r6 := Kp.cellAt (X := []) f6 (by simp) wr hK
        have r7 := Kp.cellAt (X := []) f7 (by simp) wr hK
        have r8 := Kp.cellAt (X := []) f8 (by simp) wr hK
        have r9 := Kp.cellAt (X := []) f9 (by simp) wr hK
        have ra := Kp.cellAt (X := []) fa (by simp) wr hK
        have rb := Kp.cellAt (X := []) fb (by simp) wr hK
        have rc := Kp.cellAt (X := []) fc (by simp) wr hK
        have rd := Kp.cellAt (X := []) fd (by simp) wr hK
        have HQR := Lib.hid hq
        have hgw := lt_of_cell f0
        clear f0 f1 f2 f3 f4 f5 f6 f7 f8 f9 fa fb fc fd hq
        have hs2 := fun W (k : Kp [] w W) => rsmall ⟨x0, x1, ⟨x2, x3, x4, lx⟩, ⟨x6, x7, x8, x9, xa⟩, xb, xc, xd⟩ (.slice la lx.length lc) w.heap.size W (hlq.keep0 k)
        simp only [RecV] at hs2
        rw [← HQR.out] at htk
        have HTK := Lib.hid htk
        clear htk
        cases hS : smallR ⟨x0, x1, ⟨x2, x3, x4, lx⟩, ⟨x6, x7, x8, x9, xa⟩, xb, xc, xd⟩ with
        | false =>
          rw [hS] at hs2
          go_wp2_with fail
          refine (hs2 _ hK).mono ?_
          rintro e w3 ⟨rfl, k3⟩
          clear hs2
          go_wp2_with fail
          refine (live_true _).mono ?_
          rintro e wl ⟨rfl, kl⟩
          have hkl := (hK.trans k3).trans kl
          clear kl
          go_wp2_with fail
          go_ret
          exact ⟨rfl, hkl⟩
        | true =>
          rw [hS] at hs2
          have HS := Lib.hid hS
          clear hS
          go_wp2_with fail
          refine (hs2 _ hK).mono ?_
          rintro e w3 ⟨rfl, k3⟩
          have hK3 := hKr.trans k3
          have hal : ∀ q ∈ rs.take (n + 1), smallR q.1 = true := fun q hq => by
            rw [HTK.out, List.mem_append, List.mem_singleton] at hq
            rcases hq with hq | rfl
            · exact HA.out q hq
            · exact HS.out
          have HA2 := Lib.hid hal
          clear hs2 hal
          go_wp2_with fail
          go_roundg g'
          case rel => exact ⟨n + 1, st_next HN.out, by go_num, hK3, HA2.out⟩
          case measure => omega
      · obtain rfl : n = rs.length := by omega
        obtain rfl : gk = 0 := by omega
        have hall := HA.out
        rw [List.take_length] at hall
        clear hn HA
        go_wp2_with fail
        refine (owns_any rs _ _ _ (hr.keep0 hK) (by omega)).mono ?_
        rintro e w3 ⟨oa, oc, rfl, hO, k3⟩
        have hK3 := hK.trans k3
        have hKr3 := hKr.trans k3
        have hr3 : RecsAt w3.heap.size w3 (.slice oa rs.length oc) rs := ⟨SliceAt.of_owns hO, fun q hq => SliceAt.up ((hr.2 q hq).keep0 hK3) hK3.size⟩
        go_wp2_with fail
        refine (ibuild rs _ w3 hr3 (by omega) hall).mono ?_
        rintro e w4 ⟨I, rfl, hI, k4, hX⟩
        have hK4 := hK3.trans k4
        have hKr4 := hKr3.trans k4
        have hX0 : ∀ i ∈ I.X, w.heap.size ≤ i := fun i hi => Nat.le_trans hK3.size (hX i hi)
        have hXw : w.heap.size ∉ I.X := fun hm => by have := hX _ hm; have := hKr3.size; omega
        have hiv : Inv (Ix.zero.build (rs.map (·.1))).1 := build_inv inv_zero _
        have hle := build_le (rs.map (·.1))
        rw [List.length_map] at hle
        obtain ⟨nb, hnb⟩ : ∃ nb, nb = (Ix.zero.build (rs.map (·.1))).2 := ⟨_, rfl⟩
        rw [← hnb]
        obtain ⟨X, hXe⟩ : ∃ X, X = (Ix.zero.build (rs.map (·.1))).1 := ⟨_, rfl⟩
        rw [← hXe] at hiv hle hI
        clear hXe hnb hO hr3 hall
        go_wp2_with fail
        refine (ilist hiv.fit (by omega) E0 1000 _ hI).mono ?_
        rintro e w5 ⟨ka, kc, rfl, hk5, k5⟩
        have hI5 := hI.keep0 k5
        have hk5X := owns_low hk5 hI.lts
        go_wp2_with fail
        refine (ivolumes hiv.fit (by omega) _ hI5).mono ?_
        rintro e w6 ⟨vv, rfl, hv6, k6⟩
        have hI6 := hI5.keep0 k6
        have hk6 := owns_other hk5 k6 (fun _ _ => by simp)
        have hvX : ∀ i ∈ I.X, i < w5.heap.size := hI5.lts
        obtain ⟨-, a6, c6v, rfl, -⟩ := id hv6
        go_wp2_with fail
        refine (inext _ hI6).mono ?_
        rintro e w7 ⟨rfl, k7⟩
        have hI7 := hI6.keep0 k7
        have hk7 := owns_other hk6 k7 (fun _ _ => by simp)
        have hv7 := hv6.keep k7 (fun _ h => by cases h) (fun _ h => by cases h)
        have hKr7 := ((hKr4.trans k5).trans k6).trans k7
        have hK7 := k0.trans hKr7
        clear hI hI5 hI6 hk5 hk6 hv6 k4 k5 k6 k7 hK4 hKr4 hK3 hKr3 hK k3 hKr
        go_wp2_with fail
        have how := fun W => own_any ⟨x0, x1, ⟨x2, x3, x4, lx⟩, ⟨x6, x7, x8, x9, xa⟩, xb, xc, xd⟩ la lx.length lc W
        simp only [RecV] at how
        refine (how _).mono ?_
        rintro e w8 ⟨rfl, k8⟩
        have hI8 := hI7.keep0 k8
        have hma := imay hiv.fit ⟨x0, x1, ⟨x2, x3, x4, lx⟩, ⟨x6, x7, x8, x9, xa⟩, xb, xc, xd⟩ (.slice la lx.length lc) w.heap.size w8 hI8 (hl.keep0 (hK7.trans k8)) (by simp only; omega) (by simp only; omega) (by simp only; omega)
        simp only [RecV] at hma
        obtain ⟨C, hC⟩ : ∃ C, C = X.may ⟨x0, x1, ⟨x2, x3, x4, lx⟩, ⟨x6, x7, x8, x9, xa⟩, xb, xc, xd⟩ := ⟨_, rfl⟩
        rw [← hC] at hma
        have HC := Lib.hid hC
        clear hC
        go_wp2_with fail
        refine hma.mono ?_
        rintro e w9 ⟨rfl, k9⟩
        have hI9 := hI8.keep0 k9
        clear hma
        go_wp2_with fail
        refine (ivolumes hiv.fit (by omega) _ hI9).mono ?_
        rintro e w10 ⟨vv2, rfl, hv10, k10⟩
        obtain ⟨-, a10, c10v, rfl, -⟩ := id hv10
        have hI10 := hI9.keep0 k10
        clear hv10
        go_wp2_with fail
        refine (inext _ hI10).mono ?_
        rintro e w11 ⟨rfl, k11⟩
        have hI11 := hI10.keep0 k11
        have k7x : Kp [] w7 w11 := ((k8.trans k9).trans k10).trans k11
        have hKr11 := hKr7.trans k7x
        have hk11 := owns_other hk7 k7x (fun _ _ => by simp)
        have hv11 := hv7.keep k7x (fun _ h => by cases h) (fun _ h => by cases h)
        clear hI7 hI8 hI9 hI10 k8 k9 k10 k11 hk7 hv7 k7x hKr7 hK7
        go_wp2_with fail
        refine (how _).mono ?_
        rintro e w12 ⟨rfl, k12⟩
        have hI12 := hI11.keep0 k12
        have hK12 := k0.trans (hKr11.trans k12)
        have hap := iapply hiv (by omega) ⟨x0, x1, ⟨x2, x3, x4, lx⟩, ⟨x6, x7, x8, x9, xa⟩, xb, xc, xd⟩ (.slice la lx.length lc) w12 hI12 (locs_in hl hK12 hX0) (by simp only; omega) (by simp only; omega) (by simp only; omega)
        simp only [RecV] at hap
        rw [apply_code, ← HC.out] at hap
        clear how
        go_wp2_with fail
        refine hap.mono ?_
        rintro e w13 ⟨ov, rfl, hOl, hI13, k13⟩
        obtain ⟨-, pa, pc, rfl, -⟩ := id hOl
        clear hap hOl
        have hk13 := owns_other (owns_other hk11 k12 (fun _ _ => by simp)) k13 (fun g hg hm => hk5X g hg hm)
        have hv13 := (hv11.keep k12 (fun _ h => by cases h) (fun _ h => by cases h)).keep k13 (fun _ h _ => h) (fun i hi _ => hvX i hi)
        have hK13 := kp_in hK12 k13 hX0
        clear hk11 hv11 k13 k12 hI12 hI11 hK12 hKr11
        by_cases hc0 : C = 0
        · have hb : (C == 0) = true := by simp [hc0]
          have hb2 : (C != C) = false := by simp
          clear hc0
          go_wp2_with fail
          refine (live_true _).mono ?_
          rintro e wl ⟨rfl, kl⟩
          have hkl := (hK13).trans kl
          clear kl
          go_wp2_with fail
          go_ret
          exact ⟨rfl, hkl⟩
        · have hb : (C == 0) = false := by simp [hc0]
          have hb2 : (C != C) = false := by simp
          have hsame : (X.apply ⟨x0, x1, ⟨x2, x3, x4, lx⟩, ⟨x6, x7, x8, x9, xa⟩, xb, xc, xd⟩).1 = X := apply_same (by rw [← HC.out]; exact hc0)
          rw [hsame] at hI13
          clear hc0 hsame
          go_wp2_with fail
          refine (ilist hiv.fit (by omega) E0 1000 _ hI13).mono ?_
          rintro e w14 ⟨ma, mc, rfl, hk14, k14⟩
          have hk14b := owns_other hk13 k14 (fun _ _ => by simp)
          have hv14 := hv13.keep k14 (fun _ h => by cases h) (fun _ h => by cases h)
          have hI14 := hI13.keep0 k14
          go_wp2_with fail
          refine (r02same_keys _ _ _ _ _ _ _ (SliceAt.of_owns hk14) (SliceAt.of_owns hk14b) (by have := list_len X E0 1000; omega)).mono ?_
          rintro e w15 ⟨rfl, k15⟩
          rw [decide_eq_true (by rfl)]
          have hI15 := hI14.keep0 k15
          have hv15 := hv14.keep k15 (fun _ h => by cases h) (fun _ h => by cases h)
          have hK15 := (hK13.trans k14).trans k15
          clear hk14 hk14b hv14 hI14 hv13 hI13
          go_wp2_with fail
          refine (ivolumes hiv.fit (by omega) _ hI15).mono ?_
          rintro e w16 ⟨vv3, rfl, hv16, k16⟩
          obtain ⟨-, a16, c16, rfl, -⟩ := id hv16
          have hv16b := hv15.keep k16 (fun _ h => by cases h) (fun _ h => by cases h)
          have hI16 := hI15.keep0 k16
          go_wp2_with fail
          refine (r13same _ _ _ _ _ _ _ hv16.vols hv16b.vols (by have := vols_len X; omega) (vols_locs hiv)).mono ?_
          rintro e w17 ⟨rfl, k17⟩
          rw [decide_eq_true (by rfl)]
          have hI17 := hI16.keep0 k17
          have hK17 := (hK15.trans k16).trans k17
          clear hv15 hv16 hv16b hI15 hI16
          go_wp2_with fail
          refine (inext _ hI17).mono ?_
          rintro e w18 ⟨rfl, k18⟩
          go_wp2_with fail
          refine (live_true _).mono ?_
          rintro e wl ⟨rfl, kl⟩
          have hkl := (hK17.trans k18).trans kl
          clear kl
          go_wp2_with fail
          go_ret
          exact ⟨rfl, hkl⟩
set_option maxRecDepth 100000 in
theorem refused_lifted (os : Os) (started : os.Started) (H : Type) (enc : TypeId × Value → H) :
    ReturnsInHanded {} Try.checked os 4 .any (Rows.indexRefusedSpec.pre6 enc Try.prog Try.f4 Rows.indexRefusedRow.domain false) (Rows.indexRefusedSpec.post enc Try.prog Try.f4 false true false false) := by
  refine law_lifted Rows.indexRefusedSpec Try.func4 (by kernel_rfl) Try.underlying4 rfl (by decide +kernel) rfl ?_ ?_ os started H enc
    (ChangeSpec.witness6 (enc := enc) (C := Try.checked) false ⟨#[], #[.slice none 0 0, .agg (RecV ⟨0, 0, zeroVol, zeroEnt, E0, 0, 0⟩ (.slice none 0 0))], []⟩ 8 (by kernel_rfl) (by kernel_rfl) (by kernel_rfl) (by kernel_rfl))
  · intro H ds hl
    match ds, hl with
    | [d, d2], _ => exact ⟨rfl, rfl, rfl⟩
  · (rintro W vs ⟨v, vs1, base, rfl, hok, hrd, v2, vs2, base2, rfl, hok2, hrd2, rfl⟩; obtain ⟨av, l, c, rfl, -⟩ := okWide_slice Try.underlying22 hok; obtain ⟨rs, hr⟩ := recs_arg hrd rfl; obtain ⟨r, la, lc, rfl, hl⟩ := rec_arg hok2 hrd2; exact refused_walk _ rs r la lc W hr hl)
set_option maxRecDepth 100000 in
theorem refused_holds : Rows.IndexRefusedSaid :=
  OpenClaim.holds_of_wide 4 Try.f4 rfl rfl rfl rfl rfl rfl rfl ⟨rfl, rfl, rfl, rfl, rfl⟩ rfl rfl rfl rfl rfl (by kernel_rfl) Try.func4 (by kernel_rfl)
    (of_decide_eq_true (by kernel_rfl)) (by unfold Func.isWrapper; first | (rw [if_pos (by decide +kernel)]; kernel_rfl) | (rw [if_neg (by decide +kernel)]; exact ⟨rfl, rfl⟩))
    (fun os started H enc _ => refused_lifted os started H enc)
#print axioms refused_holds
end Go.Proofs.Ytdhhddifmkijhaa
