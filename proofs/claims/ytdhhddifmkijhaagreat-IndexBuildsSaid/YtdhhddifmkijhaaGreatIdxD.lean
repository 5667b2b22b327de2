/-
  record.Volume: may a volume be one?
-/
import Derived.Test.YtdhhddifmkijhaaGreatIdxC
import Derived.WideMake
namespace Go.Proofs.YtdhhddifmkijhaaGreat
open Go.RowKit Go.ChangeMaps Go.Maps Go.WideShapes Go.WideMaps Go.WideElems Go.MapKept Go.ChangeShapes

/-- the map of the disks -/
abbrev DisksAt (w : World) (b : Nat) (l : List Int) : Prop := MapK (Value.int .i64) w b (l.map fun d => (d, Value.agg #[]))
theorem MapK.len {P : Program} {α : Type} {enc : α → Value} {kt : TypeId} {t et : TypeId} (ht : P.underlying t = some (.map kt et)) {w : World} {b : Nat} {kvs : List (α × Value)} (h : MapK enc w b kvs) (ty : TypeId) : (Builtin.len_ #[t] ty #[.map (some b)]).run P w = .ok (.int .i64 (kvs.length : Int)) w := by
  obtain ⟨es, clock, hb, he, -⟩ := h
  have hl : kvs.length = es.size := by
    have := congrArg List.length he
    simpa using this.symm
  simp [Builtin.len_, Sem.run_bind, run_underlying ht, Result.andThen, getObj, Sem.run, hb, hl, goInt]
theorem under_int : Tryz.prog.underlying 3 = some (.int .i64) := by kernel_rfl
theorem under_mUnit : Tryz.prog.underlying 109 = some (.map 3 110) := by kernel_rfl
theorem addDisk_put (l : List Int) (d : Int) : kPut d (Value.agg #[]) (l.map fun d => (d, Value.agg #[])) = (addDisk l d).map fun d => (d, Value.agg #[]) := by
  unfold addDisk
  induction l with
  | nil => rfl
  | cons x r ih =>
    simp only [List.map_cons, kPut]
    by_cases h : x = d
    · subst h
      simp
    · rw [if_neg h, ih]
      have h2 : ¬ d = x := fun e => h e.symm
      simp only [List.mem_cons, h2, false_or]
      split <;> simp
theorem disksTo_snoc (l : List (Int × Int)) (p : Int × Int) : disksTo (l ++ [p]) = addDisk (disksTo l) p.1 := by simp [disksTo]
theorem disksTo_ok {l : List (Int × Int)} (h : l.all locOk = true) : ∀ d ∈ disksTo l, 0 ≤ d ∧ d ≤ 11 := by
  suffices H : ∀ (l : List (Int × Int)) (a : List Int), l.all locOk = true → (∀ d ∈ a, 0 ≤ d ∧ d ≤ 11) → ∀ d ∈ l.foldl (fun a p => addDisk a p.1) a, 0 ≤ d ∧ d ≤ 11 from H l [] h (by simp)
  intro l
  induction l with
  | nil => intro a _ ha; exact ha
  | cons p r ih =>
    intro a h ha
    simp only [List.all_cons, Bool.and_eq_true] at h
    refine ih _ h.2 fun d hd => ?_
    simp only [addDisk] at hd
    split at hd
    · exact ha d hd
    · rcases List.mem_append.1 hd with h' | h'
      · exact ha d h'
      · rw [List.mem_singleton] at h'
        subst h'
        have := h.1
        simp only [locOk, inB, Bool.and_eq_true, decide_eq_true_eq] at this
        exact this.1
theorem all_take_snoc {l : List (Int × Int)} {n : Nat} (hn : n < l.length) (h : (l.take n).all locOk = true) (hp : locOk l[n] = true) : (l.take (n + 1)).all locOk = true := by
  rw [List.take_add_one, List.getElem?_eq_getElem hn, List.all_append, h]
  simpa using hp
theorem all_bad {l : List (Int × Int)} {n : Nat} (hn : n < l.length) (hp : locOk l[n] = false) : l.all locOk = false := by
  rw [List.all_eq_false]
  exact ⟨l[n], List.getElem_mem _, by rw [hp]; simp⟩
theorem wf_i64 {d : Int} (h0 : -9223372036854775808 ≤ d) (h1 : d ≤ 9223372036854775807) : (Lit.int .i64 d).wf = true := by
  simp only [Lit.wf, Bool.and_eq_true, decide_eq_true_eq]
  exact ⟨h0, h1⟩
theorem disk_wf {l : List (Int × Int)} (h : l.all locOk = true) : ∀ p ∈ (disksTo l).map (fun d => (d, Value.agg #[])), (Lit.int .i64 p.1).wf = true := by
  intro p hp
  obtain ⟨d, hd, rfl⟩ := List.mem_map.1 hp
  have := disksTo_ok h d hd
  exact wf_i64 (by simp only; omega) (by simp only; omega)
theorem vol_bad {x0 x1 x2 : Int} {ls : List (Int × Int)} (h : ls.all locOk = false) : volOk ⟨x0, x1, x2, ls⟩ = false := by
  unfold volOk
  simp only [h, Bool.false_and]
theorem vol_good {x0 x1 x2 : Int} {ls : List (Int × Int)} (h : ls.all locOk = true) : volOk ⟨x0, x1, x2, ls⟩ = (inB x0 1099511627776 && inB x1 1099511627776 && inB x2 384 && decide (ls.length = 9) && decide ((disksTo ls).length = 9)) := by
  unfold volOk
  simp only [h, Bool.true_and]
set_option maxHeartbeats 4000000 in
set_option maxRecDepth 20000 in
theorem rvol (v : VolD) (lv : Value) (B : Nat) (w : World) (hl : LocsAt B w lv v.locs) (hz : v.locs.length ≤ 1000) :
    Calls Tryz.prog 51 #[.agg #[.int .i64 v.id, .int .i64 v.gen, .int .i64 v.len, lv]] w fun e w' => e = .returned (.bool (volOk v)) ∧ Kp [] w w' := by
  obtain ⟨x0, x1, x2, ls⟩ := v
  simp only at hl hz ⊢
  obtain ⟨av, cap, rfl⟩ := slice_ex hl
  obtain ⟨A, hA⟩ : ∃ A, A = volOk ⟨x0, x1, x2, ls⟩ := ⟨_, rfl⟩
  rw [← hA]
  have HA := Lib.hid hA
  clear hA
  obtain ⟨w1, hw1⟩ : ∃ w1, w1 = w.alloc (.cells #[.int .i64 x0, .int .i64 x1, .int .i64 x2, .slice av ls.length cap] 36) := ⟨_, rfl⟩
  have k1 : Kp [] w w1 := hw1 ▸ (Kp.refl _ _).alloc _
  have b1 : w1.heap[w.heap.size]? = some (.cells #[.int .i64 x0, .int .i64 x1, .int .i64 x2, .slice av ls.length cap] 36 (0, 0)) := by rw [hw1]; exact block_new _ _
  obtain ⟨M, hM⟩ : ∃ M, M = w1.heap.size := ⟨_, rfl⟩
  have hMlt : w.heap.size < M := by rw [hM, hw1, World.size_alloc]; exact Nat.lt_succ_self _
  obtain ⟨w0, hw0⟩ : ∃ w0, w0 = w1.alloc (.map #[] 0) := ⟨_, rfl⟩
  have k10 : Kp [] w1 w0 := hw0 ▸ (Kp.refl _ _).alloc _
  have k0 : Kp [] w w0 := k1.trans k10
  have dm : DisksAt w0 M [] := by rw [hw0, hM]; exact MapK.made _
  have b0 : w0.heap[w.heap.size]? = some (.cells #[.int .i64 x0, .int .i64 x1, .int .i64 x2, .slice av ls.length cap] 36 (0, 0)) := (k10.block _ (by rw [hw1, World.size_alloc]; exact Nat.lt_succ_self _) (by simp)).trans b1
  have Hw1 := Lib.hid hw1
  have HM := Lib.hid hM
  have Hw0 := Lib.hid hw0
  clear hw1 hM hw0
  go_enter Tryz.func51, Tryz.ntmps51
  go_wp2_with fail
  rw [← Hw1.out, run_makeMap_plain, ← Hw0.out, ← HM.out]
  have bx : ∀ W, Kp [M] w0 W → W.heap[w.heap.size]? = some (.cells #[.int .i64 x0, .int .i64 x1, .int .i64 x2, .slice av ls.length cap] 36 (0, 0)) := fun W hW => (hW.block _ (lt_of_block b0) (by simp; omega)).trans b0
  have c3 := Kp.cellAt (X := [M]) (w0 := w0) (p := ⟨w.heap.size, 3, none⟩) (v := .slice av ls.length cap) (cell_of_cells b0 rfl) (by simp; omega)
  have hK0 := Kp.refl [M] w0
  go_wp2_with fail
  go_loopg [10] ls.length (fun g i wr => ∃ n : Nat, n + g = ls.length ∧ i = .int .i64 n ∧ Kp [M] w0 wr ∧ DisksAt wr M (disksTo (ls.take n)) ∧ (ls.take n).all locOk = true)
  case atStart => exact ⟨0, by omega, rfl, hK0, dm, rfl⟩
  case round =>
    obtain ⟨n, hn, rfl, hK, hD, hT⟩ := hrel
    have HN := Lib.hid hn
    by_cases hlt : n < ls.length
    · obtain ⟨g', rfl⟩ : ∃ g', gk = g' + 1 := ⟨gk - 1, by omega⟩
      clear hn
      have hltI : (n : Int) < (ls.length : Int) := by omega
      obtain ⟨g, o, c, hv', e1, e2⟩ := loc_at hl n hlt
      simp only [Value.slice.injEq] at hv'
      obtain ⟨rfl, -, rfl⟩ := hv'
      have hgM : g ∉ [M] := by
        have := lt_of_cell e1
        simp only [List.mem_singleton] at this ⊢
        omega
      have d1 := Kp.cellAt (X := [M]) (w0 := w0) (Kp.cellAt (X := []) (w0 := w) e1 (by simp) w0 k0) hgM
      have d2 := Kp.cellAt (X := [M]) (w0 := w0) (Kp.cellAt (X := []) (w0 := w) e2 (by simp) w0 k0) hgM
      have hpl : locOk ls[n] = false → A = false := fun h => by
        rw [HA.out]; exact vol_bad (all_bad hlt h)
      have hpt : locOk ls[n] = true → (ls.take (n + 1)).all locOk = true := fun h => all_take_snoc hlt hT h
      have hsx : ls.take (n + 1) = ls.take n ++ [ls[n]] := by rw [List.take_add_one, List.getElem?_eq_getElem hlt]; rfl
      obtain ⟨⟨p, q⟩, hp⟩ : ∃ p, p = ls[n] := ⟨_, rfl⟩
      rw [← hp] at d1 d2 hpl hpt hsx
      clear e1 e2 hp
      have hlo : locOk (p, q) = (inB p 11 && inB q 47) := rfl
      obtain ⟨wq, hwq⟩ : ∃ wq, wq = wr.alloc (.cells #[.int .i64 p, .int .i64 q] 88) := ⟨_, rfl⟩
      have kq : Kp [] wr wq := hwq ▸ (Kp.refl _ _).alloc _
      have bq : wq.heap[wr.heap.size]? = some (.cells #[.int .i64 p, .int .i64 q] 88 (0, 0)) := by rw [hwq]; exact block_new _ _
      have q1 := Kp.cellAt (X := []) (w0 := wq) (p := ⟨wr.heap.size, 0, none⟩) (v := .int .i64 p) (cell_of_cells bq rfl) (by simp)
      have q2 := Kp.cellAt (X := []) (w0 := wq) (p := ⟨wr.heap.size, 1, none⟩) (v := .int .i64 q) (cell_of_cells bq rfl) (by simp)
      have Hwq := Lib.hid hwq
      have kqr := Kp.refl [] wq
      clear hwq
      have kw : Kp [] w wq := k0.step (hK.call kq) (fun i hi hm => by simp only [List.mem_singleton] at hm; omega)
      have HPL := Lib.hid hpl
      have HPT := Lib.hid hpt
      have HSX := Lib.hid hsx
      have HLO := Lib.hid hlo
      have HD := Lib.hid hD
      clear hpl hpt hsx hlo hD
      go_wp2_with fail
      rw [← Hwq.out]
      refine (rin p 11 _).mono ?_
      rintro e w5 ⟨rfl, rfl⟩
      cases h1 : inB p 11 with
      | false =>
        go_wp2_with fail
        go_ret
        exact ⟨by rw [HPL.out (by rw [HLO.out, h1]; rfl)]; rfl, kw⟩
      | true =>
        go_wp2_with fail
        refine (rin q 47 _).mono ?_
        rintro e w5 ⟨rfl, rfl⟩
        cases h2 : inB q 47 with
        | false =>
          go_wp2_with fail
          go_ret
          exact ⟨by rw [HPL.out (by rw [HLO.out, h1, h2]; rfl)]; rfl, kw⟩
        | true =>
          have hlt' : (ls.take (n + 1)).all locOk = true := HPT.out (by rw [HLO.out, h1, h2]; rfl)
          have hp2 : 0 ≤ p ∧ p ≤ 11 := by simpa only [inB, Bool.and_eq_true, decide_eq_true_eq] using h1
          have hpw : (Lit.int .i64 p).wf = true := wf_i64 (by omega) (by omega)
          have hDq : DisksAt w5 M (disksTo (ls.take n)) := HD.out.keep kq (by simp)
          obtain ⟨wz, hrun, hm, hk⟩ := MapK.store (P := Tryz.prog) (encs_int under_int) under_mUnit hDq (disk_wf hT) hpw (.agg #[])
          have hm' : DisksAt wz M (disksTo (ls.take (n + 1))) := by
            rw [HSX.out, disksTo_snoc]
            rw [addDisk_put] at hm
            exact hm
          have HM' := Lib.hid hm'
          have hkz : Kp [M] w0 wz := hK.trans (((hk.weaken (fun _ _ h => h)) : Kp [M] w5 wz) |> fun k => (kq.weaken (fun _ _ h => by cases h) : Kp [M] wr w5).trans k)
          clear hm hm' hDq hk
          go_wp2_with fail
          go_roundg g'
          case rel => exact ⟨n + 1, st_next HN.out, by go_num, hkz, HM'.out, hlt'⟩
          case measure => omega
    · obtain rfl : n = ls.length := by omega
      rw [List.take_length] at hD hT
      have hA := HA.out
      rw [vol_good hT] at hA
      have HA2 := Lib.hid hA
      have hkw : Kp [] w wr := k0.step hK (fun i hi hm => by simp only [List.mem_singleton] at hm; omega)
      have c0 := Kp.cellAt (X := [M]) (w0 := w0) (p := ⟨w.heap.size, 0, none⟩) (v := .int .i64 x0) (cell_of_cells b0 rfl) (by simp; omega)
      have c1 := Kp.cellAt (X := [M]) (w0 := w0) (p := ⟨w.heap.size, 1, none⟩) (v := .int .i64 x1) (cell_of_cells b0 rfl) (by simp; omega)
      have c2 := Kp.cellAt (X := [M]) (w0 := w0) (p := ⟨w.heap.size, 2, none⟩) (v := .int .i64 x2) (cell_of_cells b0 rfl) (by simp; omega)
      clear hA HA
      go_wp2_with fail
      refine (rin x0 1099511627776 _).mono ?_
      rintro e w5 ⟨rfl, rfl⟩
      cases g0 : inB x0 1099511627776 with
      | false =>
        go_wp2_with fail
        go_ret
        exact ⟨by rw [HA2.out, g0]; rfl, hkw⟩
      | true =>
        go_wp2_with fail
        refine (rin x1 1099511627776 _).mono ?_
        rintro e w5 ⟨rfl, rfl⟩
        cases g1 : inB x1 1099511627776 with
        | false =>
          go_wp2_with fail
          go_ret
          exact ⟨by rw [HA2.out, g0, g1]; rfl, hkw⟩
        | true =>
          go_wp2_with fail
          refine (rin x2 384 _).mono ?_
          rintro e w5 ⟨rfl, rfl⟩
          cases g2 : inB x2 384 with
          | false =>
            go_wp2_with fail
            go_ret
            exact ⟨by rw [HA2.out, g0, g1, g2]; rfl, hkw⟩
          | true =>
            by_cases g3 : ls.length = 9
            · have g3i : ((ls.length : Int) == 9) = true := by simp; omega
              have g3d : decide (ls.length = 9) = true := decide_eq_true g3
              have HG := Lib.hid g3
              clear g3
              have hlen := MapK.len under_mUnit hD 3
              rw [List.length_map] at hlen
              by_cases g4 : (disksTo ls).length = 9
              · have g4i : (((disksTo ls).length : Int) == 9) = true := by simp; omega
                have g4d : decide ((disksTo ls).length = 9) = true := decide_eq_true g4
                clear g4
                go_wp2_with fail
                go_ret
                exact ⟨by rw [HA2.out, g0, g1, g2, g3d, g4d]; rfl, hkw⟩
              · have g4i : (((disksTo ls).length : Int) == 9) = false := by simp; omega
                have g4d : decide ((disksTo ls).length = 9) = false := decide_eq_false g4
                clear g4
                go_wp2_with fail
                go_ret
                exact ⟨by rw [HA2.out, g0, g1, g2, g3d, g4d]; rfl, hkw⟩
            · have g3i : ((ls.length : Int) == 9) = false := by simp; omega
              have g3d : decide (ls.length = 9) = false := decide_eq_false g3
              clear g3
              go_wp2_with fail
              go_ret
              exact ⟨by rw [HA2.out, g0, g1, g2, g3d]; rfl, hkw⟩
end Go.Proofs.YtdhhddifmkijhaaGreat
