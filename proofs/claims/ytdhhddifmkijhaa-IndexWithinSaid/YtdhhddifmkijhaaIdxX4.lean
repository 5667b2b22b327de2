/-
  IndexWithin: all along, each entry lies within its volume, and each volume has an entry; no two volumes have one ID. For every list of records.
  Conditions: none beyond the row's own.
-/
import Derived.Test.YtdhhddifmkijhaaIdxLv
import Derived.Test.YtdhhddifmkijhaaIdxBd
import Derived.Test.YtdhhddifmkijhaaIdxSm
import Derived.Test.YtdhhddifmkijhaaIdxZ
import Derived.Deep.OwnRows
namespace Go.Proofs.Ytdhhddifmkijhaa
open Go.ChangeShapes Go.WideShapes Go.ChangeAt Go.RowKit Go.WideElems Go.Sort

/-- a row of bools of one's own, whole -/
def BRow (w : World) (g : Nat) (bs : List Bool) : Prop := w.heap[g]? = some (.cells (bs.map Value.bool).toArray 4 (0, 0))
theorem made_bools (n : Nat) : madeCells #[Value.bool false] n = ((List.replicate n false).map Value.bool).toArray := by
  unfold madeCells
  apply Array.ext_getElem?
  intro i
  by_cases h : i < n <;> simp [h, Nat.mod_one]
theorem BRow.cell {w : World} {g : Nat} {bs : List Bool} (h : BRow w g bs) (j : Nat) (hj : j < bs.length) : w.cell? ⟨g, j, none⟩ = some (.bool bs[j]) :=
  cell_of_cells h (by simp [hj])
theorem BRow.store {w : World} {g : Nat} {bs : List Bool} (h : BRow w g bs) (j : Nat) (b : Bool) : BRow (w.setCell ⟨g, j, none⟩ (.bool b)) g (bs.set j b) := by
  unfold BRow at h ⊢
  rw [block_setCell h]
  congr 2
  apply Array.ext_getElem?
  intro i
  simp [List.getElem?_set]
theorem less_nil (k : List UInt8) : lessS E0 k = false := by
  unfold lessS
  show Op.bytesLess k [] = false
  cases k <;> rfl
theorem list_all {x : Ix} (h : x.E.length ≤ 1000) : x.list E0 1000 = x.keys := by
  unfold Ix.list keysFrom
  have e : x.keys.filter (fun k => !lessS E0 k) = x.keys := List.filter_eq_self.2 fun k _ => by rw [less_nil]; rfl
  rw [e, List.take_of_length_le]
  rw [keys_len]
  show x.E.length ≤ 1000
  exact h
theorem mem_keys {x : Ix} {k : List UInt8} : k ∈ x.keys ↔ ∃ p ∈ x.E, p.1.data.toList = k := by
  unfold Ix.keys
  rw [List.mem_mergeSort, List.mem_map]
theorem key_ent {x : Ix} (hi : Inv x) {k : List UInt8} (h : k ∈ x.keys) : ∃ p ∈ x.E, p.1 = toB k ∧ x.get (toB k) = (p.2, 0) := by
  obtain ⟨p, hp, hk⟩ := mem_keys.1 h
  have e : p.1 = toB k := bytes_of hk
  refine ⟨p, hp, e, ?_⟩
  unfold Ix.get
  rw [← e, aGet_of_mem hi.nodE hp]
theorem ent_vol {x : Ix} (hi : Inv x) {p : ByteArray × EntD} (hp : p ∈ x.E) : ∃ q ∈ x.V, q.1 = p.2.vol ∧ x.vol p.2.vol = (q.2, 0) := by
  obtain ⟨q, hq, he⟩ := List.mem_map.1 (hi.entV p hp)
  refine ⟨q, hq, he, ?_⟩
  unfold Ix.vol
  rw [← he, aGet_of_mem hi.nodV hq]
theorem vols_at {x : Ix} {j : Nat} (hj : j < x.volumes.length) (hj2 : j < x.ids.length) : x.volumes[j] = (x.vol x.ids[j]).1 := by
  have : x.volumes[j]? = some (x.vol x.ids[j]).1 := by
    unfold Ix.volumes
    rw [List.getElem?_map, List.getElem?_eq_getElem hj2]; rfl
  rw [List.getElem?_eq_getElem hj] at this
  exact Option.some.inj this
theorem vols_id {x : Ix} (hi : Inv x) {j : Nat} (hj : j < x.volumes.length) (hj2 : j < x.ids.length) : x.volumes[j].id = x.ids[j] := by
  rw [vols_at hj hj2]
  obtain ⟨q, hq, he⟩ := List.mem_map.1 (mem_ids.1 (List.getElem_mem hj2))
  rw [← he, vol_of hi.nodV hq]
  exact hi.idV q hq
theorem ids_len (x : Ix) : x.ids.length = x.volumes.length := by unfold Ix.volumes; rw [List.length_map]
theorem ids_below {x : Ix} (hi : Inv x) {j : Nat} (hj : j < x.ids.length) : x.ids[j] < x.N := by
  obtain ⟨q, hq, he⟩ := List.mem_map.1 (mem_ids.1 (List.getElem_mem hj))
  rw [← he]
  exact vols_below hi hq
theorem ids_rise {x : Ix} (hi : Inv x) {i j : Nat} (hij : i < j) (hj : j < x.ids.length) : x.ids[i] < x.ids[j] := by
  have h1 : x.ids.Pairwise (fun a b => leI a b = true) := by
    unfold Ix.ids
    exact List.pairwise_mergeSort (fun a b c h1 h2 => by simp only [leI, decide_eq_true_eq] at *; omega) (fun a b => by simp only [leI, Bool.or_eq_true, decide_eq_true_eq]; omega) _
  have h2 : x.ids.Nodup := by
    unfold Ix.ids
    exact (List.mergeSort_perm _ _).nodup_iff.2 hi.nodV
  have h3 := List.pairwise_iff_getElem.1 h1 i j (by omega) hj hij
  have h4 := List.pairwise_iff_getElem.1 h2 i j (by omega) hj hij
  simp only [leI, decide_eq_true_eq] at h3
  omega
theorem ids_ent {x : Ix} (hi : Inv x) {j : Nat} (hj : j < x.ids.length) : ∃ m, ∃ hm : m < x.keys.length, (x.get (toB x.keys[m])).1.vol = x.ids[j] := by
  obtain ⟨q, hq, he⟩ := List.mem_map.1 (mem_ids.1 (List.getElem_mem hj))
  obtain ⟨p, hp, hpv⟩ := hi.volE q hq
  have hk : p.1.data.toList ∈ x.keys := mem_keys.2 ⟨p, hp, rfl⟩
  obtain ⟨m, hm, hme⟩ := List.getElem_of_mem hk
  refine ⟨m, hm, ?_⟩
  obtain ⟨p2, hp2, hp3, hp4⟩ := key_ent hi (List.getElem_mem hm)
  have e : p.1 = toB x.keys[m] := by rw [hme]; exact bytes_of rfl
  have hg : x.get (toB x.keys[m]) = (p.2, 0) := by
    unfold Ix.get
    rw [← e, aGet_of_mem hi.nodE hp]
  rw [hg]
  exact hpv.trans he
/-- of the first m keys, each volume's bool is set -/
def Marked (x : Ix) (m : Nat) (bs : List Bool) : Prop := ∀ (j : Nat) (hj : j < x.ids.length) (hb : j < bs.length) (m' : Nat) (hm : m' < x.keys.length), m' < m → (x.get (toB x.keys[m'])).1.vol = x.ids[j] → bs[j] = true
/-- and of the next key the first n volumes' -/
def MarkedTo (x : Ix) (m n : Nat) (bs : List Bool) : Prop := Marked x m bs ∧ ∀ (j : Nat) (hj : j < x.ids.length) (hb : j < bs.length) (hm : m < x.keys.length), j < n → (x.get (toB x.keys[m])).1.vol = x.ids[j] → bs[j] = true
theorem marked_next {x : Ix} {m n : Nat} {bs : List Bool} (h : MarkedTo x m n bs) (hn : x.ids.length ≤ n) : Marked x (m + 1) bs := fun j hj hb m' hm hlt he => by
  rcases Nat.lt_or_ge m' m with h' | h'
  · exact h.1 j hj hb m' hm h' he
  · obtain rfl : m' = m := by omega
    exact h.2 j hj hb hm (by omega) he
theorem marked_set {x : Ix} {m n : Nat} {bs : List Bool} (h : MarkedTo x m n bs) {v : Int} (hm : m < x.keys.length) (hn : n < x.ids.length) (hb : n < bs.length) (hv : (x.get (toB x.keys[m])).1.vol = v) : MarkedTo x m (n + 1) (bs.set n (bs[n] || decide (x.ids[n] = v))) := by
  constructor
  · intro j hj hb2 m' hm' hlt he
    rw [List.length_set] at hb2
    rw [List.getElem_set]
    split
    · rename_i e
      subst e
      rw [h.1 n hj hb2 m' hm' hlt he]; rfl
    · exact h.1 j hj hb2 m' hm' hlt he
  · intro j hj hb2 hm' hlt he
    rw [List.length_set] at hb2
    rw [List.getElem_set]
    split
    · rename_i e
      subst e
      rw [decide_eq_true (he.symm.trans hv), Bool.or_true]
    · exact h.2 j hj hb2 hm' (by omega) he
theorem marked_all {x : Ix} (hi : Inv x) {bs : List Bool} (h : Marked x x.keys.length bs) {j : Nat} (hj : j < x.ids.length) (hb : j < bs.length) : bs[j] = true := by
  obtain ⟨m, hm, he⟩ := ids_ent hi hj
  exact h j hj hb m hm hm he
theorem Try.info4' : (Try.prog.info? 4).map (fun i => (i.zero, i.size, i.bytes)) = some (some (.bool false), 1, 1) := by kernel_rfl
theorem Try.underlying58' : Try.prog.underlying 58 = some (.slice 4) := by kernel_rfl
set_option maxHeartbeats 8000000 in
set_option maxRecDepth 100000 in
theorem within_walk (v : Value) (rs : List (RecD × Value)) (w : World) (hr : RecsAt w.heap.size w v rs) : Calls Try.prog 6 #[v] w fun e w' => e = .returned (.bool true) ∧ Kp [] w w' := by
  obtain ⟨va, vc, rfl⟩ := slice_ex hr.1
  have hK := Kp.refl [] w
  by_cases hlen : 30 < rs.length
  · have hlenI : (30 : Int) < (rs.length : Int) := by omega
    go_enter Try.func6, Try.ntmps6
    go_wp2_with fail
    refine (live_true _).mono ?_
    rintro e wl ⟨rfl, kl⟩
    have hkl := (hK).trans kl
    clear kl
    go_wp2_with fail
    go_ret
    exact ⟨rfl, hkl⟩
  have hlenI : (rs.length : Int) ≤ 30 := by omega
  go_enter Try.func6, Try.ntmps6
  go_wp2_with fail
  refine (inew w).mono ?_
  rintro e w1 ⟨I, rfl, hI, k1, hX⟩
  go_wp2_with fail
  go_loopg [4] rs.length (fun g i wr => ∃ n : Nat, n + g = rs.length ∧ i = .int .i64 n ∧ Kp [] w wr ∧ IxAt I wr (ixs ((rs.take n).map (·.1))))
  case atStart => exact ⟨0, by omega, rfl, k1, hI⟩
  case round =>
    clear hI k1 hK
    obtain ⟨n, hn, rfl, hK, hIr⟩ := hrel
    have HN := Lib.hid hn
    by_cases hlt : n < rs.length
    · obtain ⟨g', rfl⟩ : ∃ g', gk = g' + 1 := ⟨gk - 1, by omega⟩
      clear hn
      have hltI : (n : Int) < (rs.length : Int) := by omega
      have htk : (rs.take (n + 1)).map (·.1) = (rs.take n).map (·.1) ++ [rs[n].1] := by rw [take_next hlt, List.map_append]; rfl
      have hlt2 : ((rs.take n).map (·.1)).length = n := by rw [List.length_map, List.length_take]; omega
      have hze := ixs_le ((rs.take n).map (·.1))
      rw [hlt2] at hze
      have hiv0 := ixs_inv ((rs.take n).map (·.1))
      obtain ⟨g, o, c, hv', f0, f1, f2, f3, f4, f5, f6, f7, f8, f9, fa, fb, fc, fd⟩ := rec_at hr n hlt
      simp only [Value.slice.injEq] at hv'
      obtain ⟨rfl, -, rfl⟩ := hv'
      obtain ⟨q, hq⟩ : ∃ q, q = rs[n] := ⟨_, rfl⟩
      have hlq := hr.2 _ (List.getElem_mem hlt)
      rw [← hq] at f0 f1 f2 f3 f4 f5 f6 f7 f8 f9 fa fb fc fd hlq
      obtain ⟨⟨x0, x1, ⟨x2, x3, x4, lx⟩, ⟨x6, x7, x8, x9, xa⟩, xb, xc, xd⟩, lv⟩ := q
      simp only at f0 f1 f2 f3 f4 f5 f6 f7 f8 f9 fa fb fc fd hlq
      obtain ⟨la, lc, rfl⟩ := slice_ex hlq
      have r0 := Kp.cellAt (X := []) f0 (by simp) wr hK
      have r1 := Kp.cellAt (X := []) f1 (by simp) wr hK
      have r2 := Kp.cellAt (X := []) f2 (by simp) wr hK
      have r3 := Kp.cellAt (X := []) f3 (by simp) wr hK
      have r4 := Kp.cellAt (X := []) f4 (by simp) wr hK
      have r5 := Kp.cellAt (X := []) f5 (by simp) wr hK
      have r6 := Kp.cellAt (X := []) f6 (by simp) wr hK
      have r7 := Kp.cellAt (X := []) f7 (by simp) wr hK
      have r8 := Kp.cellAt (X := []) f8 (by simp) wr hK
      have r9 := Kp.cellAt (X := []) f9 (by simp) wr hK
      have ra := Kp.cellAt (X := []) fa (by simp) wr hK
      have rb := Kp.cellAt (X := []) fb (by simp) wr hK
      have rc := Kp.cellAt (X := []) fc (by simp) wr hK
      have rd := Kp.cellAt (X := []) fd (by simp) wr hK
      have HQR := Lib.hid hq
      have hgw := lt_of_cell f0
      clear f0 f1 f2 f3 f4 f5 f6 f7 f8 f9 fa fb fc fd hq
      rw [← HQR.out] at htk
      simp only at htk
      have hsm := fun W (k : Kp [] w W) => rsmall ⟨x0, x1, ⟨x2, x3, x4, lx⟩, ⟨x6, x7, x8, x9, xa⟩, xb, xc, xd⟩ (.slice la lx.length lc) w.heap.size W (hlq.keep0 k)
      have how := fun W => own_any ⟨x0, x1, ⟨x2, x3, x4, lx⟩, ⟨x6, x7, x8, x9, xa⟩, xb, xc, xd⟩ la lx.length lc W
      simp only [RecV] at hsm how
      obtain ⟨Xn, hXn⟩ : ∃ X, X = ixs ((rs.take n).map (·.1)) := ⟨_, rfl⟩
      rw [← hXn] at hze hiv0 hIr
      have HXN := Lib.hid hXn
      have HTK := Lib.hid htk
      clear hXn htk hlt2
      cases hS : smallR ⟨x0, x1, ⟨x2, x3, x4, lx⟩, ⟨x6, x7, x8, x9, xa⟩, xb, xc, xd⟩ with
      | false =>
        rw [hS] at hsm
        go_wp2_with fail
        refine (hsm _ hK).mono ?_
        rintro e w2 ⟨rfl, k2⟩
        clear hsm how
        go_wp2_with fail
        refine (live_true _).mono ?_
        rintro e wl ⟨rfl, kl⟩
        have hkl := (hK.trans k2).trans kl
        clear kl
        go_wp2_with fail
        go_ret
        exact ⟨rfl, hkl⟩
      | true =>
        rw [hS] at hsm
        obtain ⟨z1, z2, z3, z4⟩ := small_spec hS
        simp only at z1 z2 z3 z4
        clear hS
        go_wp2_with fail
        refine (hsm _ hK).mono ?_
        rintro e w2 ⟨rfl, k2⟩
        have hK2 := hK.trans k2
        have hI2 := hIr.keep0 k2
        have q0 := (k2.cell (lt_of_cell r0) (by simp)).trans r0
        have q1 := (k2.cell (lt_of_cell r1) (by simp)).trans r1
        have q2 := (k2.cell (lt_of_cell r2) (by simp)).trans r2
        have q3 := (k2.cell (lt_of_cell r3) (by simp)).trans r3
        have q4 := (k2.cell (lt_of_cell r4) (by simp)).trans r4
        have q5 := (k2.cell (lt_of_cell r5) (by simp)).trans r5
        have q6 := (k2.cell (lt_of_cell r6) (by simp)).trans r6
        have q7 := (k2.cell (lt_of_cell r7) (by simp)).trans r7
        have q8 := (k2.cell (lt_of_cell r8) (by simp)).trans r8
        have q9 := (k2.cell (lt_of_cell r9) (by simp)).trans r9
        have qa := (k2.cell (lt_of_cell ra) (by simp)).trans ra
        have qb := (k2.cell (lt_of_cell rb) (by simp)).trans rb
        have qc := (k2.cell (lt_of_cell rc) (by simp)).trans rc
        have qd := (k2.cell (lt_of_cell rd) (by simp)).trans rd
        clear hsm r0 r1 r2 r3 r4 r5 r6 r7 r8 r9 ra rb rc rd
        go_wp2_with fail
        refine (how _).mono ?_
        rintro e w3 ⟨rfl, k3⟩
        have hK3 := hK2.trans k3
        have hap := iapply hiv0 (by omega) ⟨x0, x1, ⟨x2, x3, x4, lx⟩, ⟨x6, x7, x8, x9, xa⟩, xb, xc, xd⟩ (.slice la lx.length lc) w3 (hI2.keep0 k3) (locs_in hlq hK3 hX) (by simp only; omega) (by simp only; omega) (by simp only; omega)
        simp only [RecV] at hap
        have hix : ixs ((rs.take (n + 1)).map (·.1)) = (Xn.apply ⟨x0, x1, ⟨x2, x3, x4, lx⟩, ⟨x6, x7, x8, x9, xa⟩, xb, xc, xd⟩).1 := by rw [HTK.out, ixs_snoc, ← HXN.out]
        rw [← hix] at hap
        have hle := ixs_le ((rs.take (n + 1)).map (·.1))
        rw [List.length_map, List.length_take] at hle
        have hiv := ixs_inv ((rs.take (n + 1)).map (·.1))
        obtain ⟨X, hXe⟩ : ∃ X, X = ixs ((rs.take (n + 1)).map (·.1)) := ⟨_, rfl⟩
        rw [← hXe] at hle hiv hap
        have HXE := Lib.hid hXe
        clear hXe hix hiv0 hze how q0 q1 q2 q3 q4 q5 q6 q7 q8 q9 qa qb qc qd hI2 hIr k2
        go_wp2_with fail
        refine hap.mono ?_
        rintro e w4 ⟨ov, rfl, hOl, hI4, k4⟩
        obtain ⟨-, oa, oc, rfl, -⟩ := id hOl
        have hK4 : Kp [] w w4 := kp_in hK3 k4 hX
        clear hap hOl k4 k3 hK3 hK2
        go_wp2_with fail
        refine (ilist hiv.fit (by omega) E0 1000 _ hI4).mono ?_
        rintro e w5 ⟨ka, kc, rfl, hk5, k5⟩
        rw [list_all (by omega)] at hk5 ⊢
        have hI5 := hI4.keep0 k5
        have hK5 := hK4.trans k5
        clear hI4 hK4 k5
        go_wp2_with fail
        refine (ivolumes hiv.fit (by omega) _ hI5).mono ?_
        rintro e w6 ⟨vv, rfl, hv6, k6⟩
        have hI6 := hI5.keep0 k6
        have hK6 := hK5.trans k6
        have hks := SliceAt.of_owns (owns_other hk5 k6 (fun _ _ => by simp))
        rw [map_toB] at hks
        have hkl : X.keys.length = (X.keys.map toB).length := (List.length_map ..).symm
        rw [hkl] at hks
        have hvs := hv6.vols
        obtain ⟨-, a6, c6, rfl, -⟩ := id hv6
        have hvl := vols_len X
        have hil := ids_len X
        have hkk := keys_len X
        have hmk := fun W => run_make_row' (P := Try.prog) 58 4 (.bool false) 1 Try.underlying58' Try.info4' rfl .i64 .i64 X.volumes.length (by omega) (by omega) W
        simp only [made_bools] at hmk
        have HKL := Lib.hid hkl
        have HIL := Lib.hid hil
        have HKK := Lib.hid hkk
        clear hI5 hK5 k6 hk5 hv6 hkl hil hkk
        have HVL := Lib.hid hvl
        have hvz : X.volumes.length ≤ 1000 := by omega
        have hkz : X.keys.length ≤ 1000 := by have := HKK.out; omega
        clear hvl
        go_wp2_with fail
        obtain ⟨w7, hw7⟩ : ∃ w7, w7 = w6.alloc (.cells (Array.replicate X.volumes.length (.bool false)) 4) := ⟨_, rfl⟩
        have k7 : Kp [] w6 w7 := hw7 ▸ (Kp.refl _ _).alloc _
        have hb7 : BRow w7 w6.heap.size (List.replicate X.volumes.length false) := by
          have e : ((List.replicate X.volumes.length false).map Value.bool).toArray = Array.replicate X.volumes.length (.bool false) := by simp
          unfold BRow; rw [hw7, e]; exact block_new _ _
        rw [← hw7]
        have HW7 := Lib.hid hw7
        have hmk7 : Marked X 0 (List.replicate X.volumes.length false) := fun j _ _ m' _ h _ => absurd h (Nat.not_lt_zero _)
        clear hw7 hmk
        go_loopg [8] X.keys.length (fun g i wr => ∃ (m : Nat) (bs : List Bool), m + g = X.keys.length ∧ i = .int .i64 m ∧ Kp [] w6 wr ∧ BRow wr w6.heap.size bs ∧ bs.length = X.volumes.length ∧ Marked X m bs)
        case atStart => exact ⟨0, _, by omega, rfl, k7, hb7, List.length_replicate, hmk7⟩
        case round =>
          clear k7 hb7 hmk7
          obtain ⟨m, bs, hm, rfl, hKm, hBm, hbl, hMk⟩ := hrel
          have HM := Lib.hid hm
          have HBL := Lib.hid hbl
          have HMK := Lib.hid hMk
          clear hMk
          by_cases hmx : m < X.keys.length
          · obtain ⟨g2, rfl⟩ : ∃ g2, gk = g2 + 1 := ⟨gk - 1, by omega⟩
            clear hm hbl
            have hmI : (m : Int) < (X.keys.length : Int) := by omega
            obtain ⟨gb, gbo, gcc, hv', e1⟩ := strv_at hks m (by rw [← HKL.out]; exact hmx)
            rw [← HKL.out] at hv'
            simp only [Value.slice.injEq] at hv'
            obtain ⟨rfl, -, rfl⟩ := hv'
            obtain ⟨p, hp, hpk, hget⟩ := key_ent hiv (List.getElem_mem hmx)
            obtain ⟨q, hq, hqv, hvol⟩ := ent_vol hiv hp
            have hwi := hiv.within p hp q hq hqv
            have hfk := hiv.fit.keys p hp
            have hfv := vol_lenD (hiv.fit.vols q hq).2.2
            have hvm : (X.get (toB X.keys[m])).1.vol = p.2.vol := by rw [hget]
            have ekk : (X.keys.map toB)[m]'(by rw [← HKL.out]; exact hmx) = toB X.keys[m] := List.getElem_map ..
            rw [ekk] at e1
            have hkm : (toB X.keys[m]).size ≤ maxLen := by rw [← hpk]; exact max_key hfk.1
            obtain ⟨kk, hkk⟩ : ∃ kk, kk = toB X.keys[m] := ⟨_, rfl⟩
            rw [← hkk] at e1 hkm hget
            have HVM := Lib.hid hvm
            have d1 := (hKm.cell (lt_of_cell e1) (by simp)).trans e1
            have hgt := iget hiv.fit kk hkm wr (hI6.keep0 hKm)
            rw [hget] at hgt
            obtain ⟨pk, ⟨a1, a2, a3, a4, a5⟩⟩ := p
            simp only [EntVA] at hgt
            simp only at hwi hfk hvol hqv HVM
            have hvo := fun W (k : Kp [] w6 W) => ivolume hiv.fit a2 (wf_i64 (by omega) (by omega)) W (hI6.keep0 k)
            rw [hvol] at hvo
            obtain ⟨qk, ⟨b0, b1, b2, bl⟩⟩ := q
            simp only at hwi hfv hvo
            have hwr := wrap_id (a3 + a4) (by omega) (by omega)
            clear e1 hkk hget hvm ekk hvol hqv hpk hp hq
            go_wp2_with fail
            refine hgt.mono ?_
            rintro e w8 ⟨rfl, k8⟩
            have hK8 := hKm.trans k8
            have hB8 : BRow w8 w6.heap.size bs := (k8.block _ (lt_of_block hBm) (by simp)).trans hBm
            obtain ⟨w9, hw9⟩ : ∃ w9, w9 = w8.alloc (.cells #[.string a1, .int .i64 a2, .int .i64 a3, .int .i64 a4, .string a5] 32) := ⟨_, rfl⟩
            have k9 : Kp [] w8 w9 := hw9 ▸ (Kp.refl _ _).alloc _
            have b9 : w9.heap[w8.heap.size]? = some (.cells #[.string a1, .int .i64 a2, .int .i64 a3, .int .i64 a4, .string a5] 32 (0, 0)) := by rw [hw9]; exact block_new _ _
            have HW9 := Lib.hid hw9
            have hvo9 := hvo w9 (hK8.trans k9)
            clear hgt hw9 hvo hBm d1
            go_wp2_with fail
            rw [← HW9.out]
            refine hvo9.mono ?_
            rintro e w10 ⟨lv, rfl, hlv, k10⟩
            obtain ⟨sa, sc, rfl⟩ := slice_ex hlv
            simp only [VolVA]
            obtain ⟨w11, hw11⟩ : ∃ w11, w11 = w10.alloc (.cells #[.int .i64 b0, .int .i64 b1, .int .i64 b2, .slice sa bl.length sc] 30) := ⟨_, rfl⟩
            have k11 : Kp [] w10 w11 := hw11 ▸ (Kp.refl _ _).alloc _
            have b11 : w11.heap[w10.heap.size]? = some (.cells #[.int .i64 b0, .int .i64 b1, .int .i64 b2, .slice sa bl.length sc] 30 (0, 0)) := by rw [hw11]; exact block_new _ _
            have k911 := k10.trans k11
            have b9' := (k911.block _ (lt_of_block b9) (by simp)).trans b9
            have hB11 : BRow w11 w6.heap.size bs := ((k9.trans k911).block _ (lt_of_block hB8) (by simp)).trans hB8
            have hK11 := (hK8.trans k9).trans k911
            have y1 := cell_of_cells (o := 1) (v := .int .i64 a2) b9' rfl
            have y2 := cell_of_cells (o := 2) (v := .int .i64 a3) b9' rfl
            have y3 := cell_of_cells (o := 3) (v := .int .i64 a4) b9' rfl
            have y4 := cell_of_cells (o := 2) (v := .int .i64 b2) b11 rfl
            have hn9 : w8.heap.size ≠ w6.heap.size := by have := lt_of_block hB8; omega
            have x1' := Kp.cellAt (X := [w6.heap.size]) y1 (by simpa using hn9)
            rw [hw11] at y1 y2 y3 y4
            have HW11 := Lib.hid hw11
            have hMt : MarkedTo X m 0 bs := ⟨HMK.out, fun j _ _ _ h => absurd h (Nat.not_lt_zero _)⟩
            have hbl := HBL.out
            clear hvo9 b9 b9' b11 hB8 k8 k9 k10 k11 k911 hK8 hlv hw11 HMK
            have HBL0 := Lib.hid hbl
            have HMT := Lib.hid hMt
            clear hbl hMt
            go_wp2_with fail
            rw [← HW11.out]
            go_loopg [13] X.volumes.length (fun g i wr => ∃ (j : Nat) (cs : List Bool), j + g = X.volumes.length ∧ i = .int .i64 j ∧ Kp [w6.heap.size] w11 wr ∧ BRow wr w6.heap.size cs ∧ cs.length = X.volumes.length ∧ MarkedTo X m j cs)
            case atStart => exact ⟨0, bs, by omega, rfl, Kp.refl _ _, hB11, HBL0.out, HMT.out⟩
            case round =>
              clear hB11
              obtain ⟨j, cs, hj, rfl, hKj, hBj, hcl, hMj⟩ := hrel
              have HJ := Lib.hid hj
              have HCL := Lib.hid hcl
              have HMJ := Lib.hid hMj
              have hKj6 : Kp [] w6 wr := hK11.step hKj (fun i hi hm => by simp only [List.mem_singleton] at hm; omega)
              clear hMj
              by_cases hjx : j < X.volumes.length
              · obtain ⟨g3, rfl⟩ : ∃ g3, gk = g3 + 1 := ⟨gk - 1, by omega⟩
                clear hj
                have hjc : j < cs.length := by omega
                have hjd : j < X.ids.length := by have := HIL.out; omega
                have hjI : (j : Int) < (X.volumes.length : Int) := by omega
                clear hcl
                obtain ⟨gv, go, gc, glv, hv', -, f0, -, -, -⟩ := vol_cell hvs j hjx
                simp only [Value.slice.injEq] at hv'
                obtain ⟨rfl, -, rfl⟩ := hv'
                rw [vols_id hiv hjx hjd] at f0
                have u0 := Kp.cellAt (X := []) ((hKj6.cell (lt_of_cell f0) (by simp)).trans f0) (by simp)
                have u1 := Kp.cellAt (X := []) (x1' _ hKj) (by simp)
                have hcj := hBj.cell j hjc
                have hst := hBj.store j (cs[j] || decide (X.ids[j] = a2))
                have hms := marked_set HMJ.out hmx hjd hjc HVM.out
                obtain ⟨dj, hdj⟩ : ∃ dj, dj = X.ids[j] := ⟨_, rfl⟩
                obtain ⟨bj, hbj⟩ : ∃ bj, bj = cs[j] := ⟨_, rfl⟩
                rw [← hdj] at u0 hst hms
                rw [← hbj] at hcj hst hms
                have u2 := Kp.cellAt (X := []) hcj (by simp)
                have uf : ∀ W, Kp [] wr W → W.frozen? ⟨w6.heap.size, j, none⟩ = false := Kp.frozenAt hcj (frozen_of_cells hBj _) (by simp)
                have HST := Lib.hid hst
                have HMS := Lib.hid hms
                have hcl2 : (cs.set j (bj || decide (dj = a2))).length = X.volumes.length := by rw [List.length_set]; exact HCL.out
                have HCL2 := Lib.hid hcl2
                clear f0 hdj hbj hst hms hcl2 hcj
                cases bj with
                | true =>
                  go_wp2_with fail
                  refine wpB_begin 17 (Kp [] wr) (by kernel_rfl) (by exact (Kp.refl _ _).drew) (fun hHeld => ?_)
                  refine wpB_take 0 _ ?_ rfl (by kernel_rfl) (fun _ _ _ h => h) rfl hHeld ?_ ?_
                  rotate_left
                  · (intro W hW; go_simp; try with_reducible rfl)
                  try simp only [Act.put, List.setIfInBounds_toArray, List.set_cons_zero, List.set_cons_succ]
                  refine wpB_take 1 _ ?_ rfl (by kernel_rfl) (fun _ _ _ h => h) rfl hHeld ?_ ?_
                  rotate_left
                  · (intro W hW; go_simp; try with_reducible rfl)
                  try simp only [Act.put, List.setIfInBounds_toArray, List.set_cons_zero, List.set_cons_succ]
                  refine wpB_take 2 _ ?_ rfl (by kernel_rfl) (fun _ _ _ h => h) rfl hHeld ?_ ?_
                  rotate_left
                  · (intro W hW; go_simp; try with_reducible rfl)
                  try simp only [Act.put, List.setIfInBounds_toArray, List.set_cons_zero, List.set_cons_succ]
                  refine wpB_take 3 _ ?_ rfl (by kernel_rfl) (fun _ _ _ h => h) rfl hHeld ?_ ?_
                  rotate_left
                  · (intro W hW; go_simp; try with_reducible rfl)
                  try simp only [Act.put, List.setIfInBounds_toArray, List.set_cons_zero, List.set_cons_succ]
                  refine wpB_take 4 _ ?_ rfl (by kernel_rfl) (fun _ _ _ h => h) rfl hHeld ?_ ?_
                  rotate_left
                  · (intro W hW; go_simp; try with_reducible rfl)
                  try simp only [Act.put, List.setIfInBounds_toArray, List.set_cons_zero, List.set_cons_succ]
                  refine wpB_take 5 _ ?_ rfl (by kernel_rfl) (fun _ _ _ h => h) rfl hHeld ?_ ?_
                  rotate_left
                  · (intro W hW; go_simp; try with_reducible rfl)
                  try simp only [Act.put, List.setIfInBounds_toArray, List.set_cons_zero, List.set_cons_succ]
                  refine wpB_take 6 _ ?_ rfl (by kernel_rfl) (fun _ _ _ h => h) rfl hHeld ?_ ?_
                  rotate_left
                  · (intro W hW; go_simp; try with_reducible rfl)
                  try simp only [Act.put, List.setIfInBounds_toArray, List.set_cons_zero, List.set_cons_succ]
                  refine wpB_skip 7 _ rfl (by kernel_rfl) (fun _ _ _ h => h) rfl hHeld ?_
                  try simp only [Act.put, List.setIfInBounds_toArray, List.set_cons_zero, List.set_cons_succ]
                  refine wpB_skip 8 _ rfl (by kernel_rfl) (fun _ _ _ h => h) rfl hHeld ?_
                  try simp only [Act.put, List.setIfInBounds_toArray, List.set_cons_zero, List.set_cons_succ]
                  refine wpB_skip 9 _ rfl (by kernel_rfl) (fun _ _ _ h => h) rfl hHeld ?_
                  try simp only [Act.put, List.setIfInBounds_toArray, List.set_cons_zero, List.set_cons_succ]
                  refine wpB_skip 10 _ rfl (by kernel_rfl) (fun _ _ _ h => h) rfl hHeld ?_
                  try simp only [Act.put, List.setIfInBounds_toArray, List.set_cons_zero, List.set_cons_succ]
                  refine wpB_skip 11 _ rfl (by kernel_rfl) (fun _ _ _ h => h) rfl hHeld ?_
                  try simp only [Act.put, List.setIfInBounds_toArray, List.set_cons_zero, List.set_cons_succ]
                  refine wpB_skip 12 _ rfl (by kernel_rfl) (fun _ _ _ h => h) rfl hHeld ?_
                  try simp only [Act.put, List.setIfInBounds_toArray, List.set_cons_zero, List.set_cons_succ]
                  refine wpB_skip 13 _ rfl (by kernel_rfl) (fun _ _ _ h => h) rfl hHeld ?_
                  try simp only [Act.put, List.setIfInBounds_toArray, List.set_cons_zero, List.set_cons_succ]
                  refine wpB_skip 14 _ rfl (by kernel_rfl) (fun _ _ _ h => h) rfl hHeld ?_
                  try simp only [Act.put, List.setIfInBounds_toArray, List.set_cons_zero, List.set_cons_succ]
                  refine wpB_take 15 _ ?_ rfl (by kernel_rfl) (fun _ _ _ h => h) rfl hHeld ?_ ?_
                  rotate_left
                  · (intro W hW; go_simp; try with_reducible rfl)
                  try simp only [Act.put, List.setIfInBounds_toArray, List.set_cons_zero, List.set_cons_succ]
                  refine wpB_take 16 _ ?_ rfl (by kernel_rfl) (fun _ _ _ h => h) rfl hHeld ?_ ?_
                  rotate_left
                  · (intro W hW; go_simp; try with_reducible rfl)
                  try simp only [Act.put, List.setIfInBounds_toArray, List.set_cons_zero, List.set_cons_succ]
                  refine wpB_bar (Kp [w6.heap.size] wr) 999 _ rfl (by kernel_rfl) rfl (fun K hK_ => ?_)
                  go_simp
                  refine hK_.out _ _ (by exact (hHeld.weaken (fun _ _ h => by cases h)).setCell (.inl (by simp)) _) (fun hHeld => ?_)
                  clear hK_ K
                  try simp only [Act.put, List.setIfInBounds_toArray, List.set_cons_zero, List.set_cons_succ]
                  refine wpB_done (by kernel_rfl) ?_ _
                  have hKx : Kp [w6.heap.size] w11 ((wr.setCell ⟨w6.heap.size, j, none⟩ (.bool true)).drew) := hKj.trans hHeld
                  have hBx : BRow ((wr.setCell ⟨w6.heap.size, j, none⟩ (.bool true)).drew) w6.heap.size (cs.set j (true || decide (dj = a2))) := HST.out
                  clear hHeld u0 u1 u2 uf
                  go_wp2_with fail
                  go_roundg g3
                  case rel => exact ⟨j + 1, _, st_next HJ.out, by go_num, hKx, hBx, HCL2.out, HMS.out⟩
                  case measure => omega
                | false =>
                  go_wp2_with fail
                  refine wpB_begin 17 (Kp [] wr) (by kernel_rfl) (by exact (Kp.refl _ _).drew) (fun hHeld => ?_)
                  refine wpB_take 0 _ ?_ rfl (by kernel_rfl) (fun _ _ _ h => h) rfl hHeld ?_ ?_
                  rotate_left
                  · (intro W hW; go_simp; try with_reducible rfl)
                  try simp only [Act.put, List.setIfInBounds_toArray, List.set_cons_zero, List.set_cons_succ]
                  refine wpB_take 1 _ ?_ rfl (by kernel_rfl) (fun _ _ _ h => h) rfl hHeld ?_ ?_
                  rotate_left
                  · (intro W hW; go_simp; try with_reducible rfl)
                  try simp only [Act.put, List.setIfInBounds_toArray, List.set_cons_zero, List.set_cons_succ]
                  refine wpB_take 2 _ ?_ rfl (by kernel_rfl) (fun _ _ _ h => h) rfl hHeld ?_ ?_
                  rotate_left
                  · (intro W hW; go_simp; try with_reducible rfl)
                  try simp only [Act.put, List.setIfInBounds_toArray, List.set_cons_zero, List.set_cons_succ]
                  refine wpB_take 3 _ ?_ rfl (by kernel_rfl) (fun _ _ _ h => h) rfl hHeld ?_ ?_
                  rotate_left
                  · (intro W hW; go_simp; try with_reducible rfl)
                  try simp only [Act.put, List.setIfInBounds_toArray, List.set_cons_zero, List.set_cons_succ]
                  refine wpB_take 4 _ ?_ rfl (by kernel_rfl) (fun _ _ _ h => h) rfl hHeld ?_ ?_
                  rotate_left
                  · (intro W hW; go_simp; try with_reducible rfl)
                  try simp only [Act.put, List.setIfInBounds_toArray, List.set_cons_zero, List.set_cons_succ]
                  refine wpB_take 5 _ ?_ rfl (by kernel_rfl) (fun _ _ _ h => h) rfl hHeld ?_ ?_
                  rotate_left
                  · (intro W hW; go_simp; try with_reducible rfl)
                  try simp only [Act.put, List.setIfInBounds_toArray, List.set_cons_zero, List.set_cons_succ]
                  refine wpB_take 6 _ ?_ rfl (by kernel_rfl) (fun _ _ _ h => h) rfl hHeld ?_ ?_
                  rotate_left
                  · (intro W hW; go_simp; try with_reducible rfl)
                  try simp only [Act.put, List.setIfInBounds_toArray, List.set_cons_zero, List.set_cons_succ]
                  refine wpB_take 7 _ ?_ rfl (by kernel_rfl) (fun _ _ _ h => h) rfl hHeld ?_ ?_
                  rotate_left
                  · (intro W hW; go_simp; try with_reducible rfl)
                  try simp only [Act.put, List.setIfInBounds_toArray, List.set_cons_zero, List.set_cons_succ]
                  refine wpB_take 8 _ ?_ rfl (by kernel_rfl) (fun _ _ _ h => h) rfl hHeld ?_ ?_
                  rotate_left
                  · (intro W hW; go_simp; try with_reducible rfl)
                  try simp only [Act.put, List.setIfInBounds_toArray, List.set_cons_zero, List.set_cons_succ]
                  refine wpB_take 9 _ ?_ rfl (by kernel_rfl) (fun _ _ _ h => h) rfl hHeld ?_ ?_
                  rotate_left
                  · (intro W hW; go_simp; try with_reducible rfl)
                  try simp only [Act.put, List.setIfInBounds_toArray, List.set_cons_zero, List.set_cons_succ]
                  refine wpB_take 10 _ ?_ rfl (by kernel_rfl) (fun _ _ _ h => h) rfl hHeld ?_ ?_
                  rotate_left
                  · (intro W hW; go_simp; try with_reducible rfl)
                  try simp only [Act.put, List.setIfInBounds_toArray, List.set_cons_zero, List.set_cons_succ]
                  refine wpB_take 11 _ ?_ rfl (by kernel_rfl) (fun _ _ _ h => h) rfl hHeld ?_ ?_
                  rotate_left
                  · (intro W hW; go_simp; try with_reducible rfl)
                  try simp only [Act.put, List.setIfInBounds_toArray, List.set_cons_zero, List.set_cons_succ]
                  refine wpB_take 12 _ ?_ rfl (by kernel_rfl) (fun _ _ _ h => h) rfl hHeld ?_ ?_
                  rotate_left
                  · (intro W hW; go_simp; try with_reducible rfl)
                  try simp only [Act.put, List.setIfInBounds_toArray, List.set_cons_zero, List.set_cons_succ]
                  refine wpB_take 13 _ ?_ rfl (by kernel_rfl) (fun _ _ _ h => h) rfl hHeld ?_ ?_
                  rotate_left
                  · (intro W hW; go_simp; try with_reducible rfl)
                  try simp only [Act.put, List.setIfInBounds_toArray, List.set_cons_zero, List.set_cons_succ]
                  refine wpB_take 14 _ ?_ rfl (by kernel_rfl) (fun _ _ _ h => h) rfl hHeld ?_ ?_
                  rotate_left
                  · (intro W hW; go_simp; try with_reducible rfl)
                  try simp only [Act.put, List.setIfInBounds_toArray, List.set_cons_zero, List.set_cons_succ]
                  refine wpB_take 15 _ ?_ rfl (by kernel_rfl) (fun _ _ _ h => h) rfl hHeld ?_ ?_
                  rotate_left
                  · (intro W hW; go_simp; try with_reducible rfl)
                  try simp only [Act.put, List.setIfInBounds_toArray, List.set_cons_zero, List.set_cons_succ]
                  refine wpB_take 16 _ ?_ rfl (by kernel_rfl) (fun _ _ _ h => h) rfl hHeld ?_ ?_
                  rotate_left
                  · (intro W hW; go_simp; try with_reducible rfl)
                  try simp only [Act.put, List.setIfInBounds_toArray, List.set_cons_zero, List.set_cons_succ]
                  refine wpB_bar (Kp [w6.heap.size] wr) 999 _ rfl (by kernel_rfl) rfl (fun K hK_ => ?_)
                  go_simp
                  refine hK_.out _ _ (by exact (hHeld.weaken (fun _ _ h => by cases h)).setCell (.inl (by simp)) _) (fun hHeld => ?_)
                  clear hK_ K
                  try simp only [Act.put, List.setIfInBounds_toArray, List.set_cons_zero, List.set_cons_succ]
                  refine wpB_done (by kernel_rfl) ?_ _
                  have hKx : Kp [w6.heap.size] w11 ((wr.setCell ⟨w6.heap.size, j, none⟩ (.bool (dj == a2))).drew) := hKj.trans hHeld
                  have hBx : BRow ((wr.setCell ⟨w6.heap.size, j, none⟩ (.bool (dj == a2))).drew) w6.heap.size (cs.set j (false || decide (dj = a2))) := HST.out
                  clear hHeld u0 u1 u2 uf
                  go_wp2_with fail
                  go_roundg g3
                  case rel => exact ⟨j + 1, _, st_next HJ.out, by go_num, hKx, hBx, HCL2.out, HMS.out⟩
                  case measure => omega
              · obtain rfl : j = X.volumes.length := by omega
                obtain rfl : gk = 0 := by omega
                have hnx := marked_next HMJ.out (by have := HIL.out; omega)
                have HNX := Lib.hid hnx
                clear hj hcl hnx
                go_wp2_with fail
                go_roundg g2
                case rel => exact ⟨m + 1, cs, st_next HM.out, by go_num, hKj6, hBj, HCL.out, HNX.out⟩
                case measure => omega
          · obtain rfl : m = X.keys.length := by omega
            obtain rfl : gk = 0 := by omega
            clear hm hbl
            have hall := fun (j : Nat) (hj : j < X.ids.length) (hb : j < bs.length) => marked_all hiv HMK.out hj hb
            have hI8 := hI6.keep0 hKm
            have hKw := hK6.trans hKm
            have HALL := Lib.hid hall
            have hKx := Kp.refl [] wr
            have hnx := fun W (k : Kp [] wr W) => inext W (hI8.keep0 k)
            obtain ⟨NN, hNN⟩ : ∃ NN, NN = X.N := ⟨_, rfl⟩
            rw [← hNN] at hnx
            have HNN := Lib.hid hNN
            obtain ⟨wE, hwE⟩ : ∃ wE : World, wE = wr := ⟨_, rfl⟩
            rw [← hwE] at hKx hnx hI8 hKw hBm hKm ⊢
            clear hall hNN hwE
            go_wp2_with fail
            go_loopg [14] X.volumes.length (fun g i wr => ∃ j : Nat, j + g = X.volumes.length ∧ i = .int .i64 j ∧ Kp [] wE wr)
            case atStart => exact ⟨0, by omega, rfl, hKx⟩
            case round =>
              clear hKx
              obtain ⟨j, hj, rfl, hKj⟩ := hrel
              have HJ := Lib.hid hj
              by_cases hjx : j < X.volumes.length
              · obtain ⟨g3, rfl⟩ : ∃ g3, gk = g3 + 1 := ⟨gk - 1, by omega⟩
                clear hj
                have hjc : j < bs.length := by have := HBL.out; omega
                have hjd : j < X.ids.length := by have := HIL.out; omega
                have hjI : (j : Int) < (X.volumes.length : Int) := by omega
                have hKj6 : Kp [] w6 wr := hKm.trans hKj
                obtain ⟨gv, go, gc, glv, hv', -, f0, -, -, -⟩ := vol_cell hvs j hjx
                simp only [Value.slice.injEq] at hv'
                obtain ⟨rfl, -, rfl⟩ := hv'
                rw [vols_id hiv hjx hjd] at f0
                have u0 := Kp.cellAt (X := []) ((hKj6.cell (lt_of_cell f0) (by simp)).trans f0) (by simp)
                have u2 := Kp.cellAt (X := []) ((hKj.cell (lt_of_cell (hBm.cell j hjc)) (by simp)).trans (hBm.cell j hjc)) (by simp)
                rw [HALL.out j hjd hjc] at u2
                have hbel := ids_below hiv hjd
                rw [← HNN.out] at hbel
                have hnx' := fun W (k : Kp [] wr W) => hnx W (hKj.trans k)
                by_cases hj0 : j = 0
                · have hj1 : ¬ (0 < j) := by omega
                  have hj2 : decide ((0 : Int) < (j : Int)) = false := by simpa using hj0
                  obtain ⟨dj, hdj⟩ : ∃ dj, dj = X.ids[j] := ⟨_, rfl⟩
                  rw [← hdj] at u0 hbel
                  have hgb : decide (NN ≤ dj) = false := decide_eq_false (by omega)
                  clear f0 hdj hj0
                  go_wp2_with fail
                  refine wpB_begin 999 (Kp [] wr) (by kernel_rfl) (by exact (Kp.refl _ _).drew) (fun hHeld => ?_)
                  refine wpB_take 0 _ ?_ rfl (by kernel_rfl) (fun _ _ _ h => h) rfl hHeld ?_ ?_
                  rotate_left
                  · (intro W hW; go_simp; try with_reducible rfl)
                  try simp only [Act.put, List.setIfInBounds_toArray, List.set_cons_zero, List.set_cons_succ]
                  refine wpB_take 1 _ ?_ rfl (by kernel_rfl) (fun _ _ _ h => h) rfl hHeld ?_ ?_
                  rotate_left
                  · (intro W hW; go_simp; try with_reducible rfl)
                  try simp only [Act.put, List.setIfInBounds_toArray, List.set_cons_zero, List.set_cons_succ]
                  refine wpB_take 2 _ ?_ rfl (by kernel_rfl) (fun _ _ _ h => h) rfl hHeld ?_ ?_
                  rotate_left
                  · (intro W hW; go_simp; try with_reducible rfl)
                  try simp only [Act.put, List.setIfInBounds_toArray, List.set_cons_zero, List.set_cons_succ]
                  refine wpB_take 3 _ ?_ rfl (by kernel_rfl) (fun _ _ _ h => h) rfl hHeld ?_ ?_
                  rotate_left
                  · (intro W hW; go_simp; try with_reducible rfl)
                  try simp only [Act.put, List.setIfInBounds_toArray, List.set_cons_zero, List.set_cons_succ]
                  refine wpB_take 4 _ ?_ rfl (by kernel_rfl) (fun _ _ _ h => h) rfl hHeld ?_ ?_
                  rotate_left
                  · (intro W hW; go_simp; try with_reducible rfl)
                  try simp only [Act.put, List.setIfInBounds_toArray, List.set_cons_zero, List.set_cons_succ]
                  refine wpB_take 5 _ ?_ rfl (by kernel_rfl) (fun _ _ _ h => h) rfl hHeld ?_ ?_
                  rotate_left
                  · (intro W hW; go_simp; try with_reducible rfl)
                  try simp only [Act.put, List.setIfInBounds_toArray, List.set_cons_zero, List.set_cons_succ]
                  refine wpB_take 6 _ ?_ rfl (by kernel_rfl) (fun _ _ _ h => h) rfl hHeld ?_ ?_
                  rotate_left
                  · (intro W hW; go_simp; try with_reducible rfl)
                  try simp only [Act.put, List.setIfInBounds_toArray, List.set_cons_zero, List.set_cons_succ]
                  refine wpB_take 7 _ ?_ rfl (by kernel_rfl) (fun _ _ _ h => h) rfl hHeld ?_ ?_
                  rotate_left
                  · (intro W hW; go_simp; try with_reducible rfl)
                  try simp only [Act.put, List.setIfInBounds_toArray, List.set_cons_zero, List.set_cons_succ]
                  refine wpB_take 8 _ ?_ rfl (by kernel_rfl) (fun _ _ _ h => h) rfl hHeld ?_ ?_
                  rotate_left
                  · (intro W hW; go_simp; try with_reducible rfl)
                  try simp only [Act.put, List.setIfInBounds_toArray, List.set_cons_zero, List.set_cons_succ]
                  refine wpB_take 9 _ ?_ rfl (by kernel_rfl) (fun _ _ _ h => h) rfl hHeld ?_ ?_
                  rotate_left
                  · (intro W hW; go_simp; try with_reducible rfl)
                  try simp only [Act.put, List.setIfInBounds_toArray, List.set_cons_zero, List.set_cons_succ]
                  refine wpB_take 10 _ ?_ rfl (by kernel_rfl) (fun _ _ _ h => h) rfl hHeld ?_ ?_
                  rotate_left
                  · (intro W hW; go_simp; try with_reducible rfl)
                  try simp only [Act.put, List.setIfInBounds_toArray, List.set_cons_zero, List.set_cons_succ]
                  refine wpB_take 11 _ ?_ rfl (by kernel_rfl) (fun _ _ _ h => h) rfl hHeld ?_ ?_
                  rotate_left
                  · (intro W hW; go_simp; try with_reducible rfl)
                  try simp only [Act.put, List.setIfInBounds_toArray, List.set_cons_zero, List.set_cons_succ]
                  refine wpB_step 12 _ rfl (by kernel_rfl) rfl rfl (fun K hK_ => ?_)
                  go_simp
                  refine (hnx' _ hHeld).mono ?_
                  rintro e wq ⟨rfl, kq⟩
                  refine hK_.out _ _ (by exact hHeld.trans kq) (fun hHeld => ?_)
                  clear hK_ K
                  try simp only [Act.put, List.setIfInBounds_toArray, List.set_cons_zero, List.set_cons_succ]
                  refine wpB_take 13 _ ?_ rfl (by kernel_rfl) (fun _ _ _ h => h) rfl hHeld ?_ ?_
                  rotate_left
                  · (intro W hW; go_simp; try with_reducible rfl)
                  try simp only [Act.put, List.setIfInBounds_toArray, List.set_cons_zero, List.set_cons_succ]
                  refine wpB_take 14 _ ?_ rfl (by kernel_rfl) (fun _ _ _ h => h) rfl hHeld ?_ ?_
                  rotate_left
                  · (intro W hW; go_simp; try with_reducible rfl)
                  try simp only [Act.put, List.setIfInBounds_toArray, List.set_cons_zero, List.set_cons_succ]
                  refine wpB_take 15 _ ?_ rfl (by kernel_rfl) (fun _ _ _ h => h) rfl hHeld ?_ ?_
                  rotate_left
                  · (intro W hW; go_simp; try with_reducible rfl)
                  try simp only [Act.put, List.setIfInBounds_toArray, List.set_cons_zero, List.set_cons_succ]
                  refine wpB_take 16 _ ?_ rfl (by kernel_rfl) (fun _ _ _ h => h) rfl hHeld ?_ ?_
                  rotate_left
                  · (intro W hW; go_simp; try with_reducible rfl)
                  try simp only [Act.put, List.setIfInBounds_toArray, List.set_cons_zero, List.set_cons_succ]
                  refine wpB_take 17 _ ?_ rfl (by kernel_rfl) (fun _ _ _ h => h) rfl hHeld ?_ ?_
                  rotate_left
                  · (intro W hW; go_simp; try with_reducible rfl)
                  try simp only [Act.put, List.setIfInBounds_toArray, List.set_cons_zero, List.set_cons_succ]
                  refine wpB_take 18 _ ?_ rfl (by kernel_rfl) (fun _ _ _ h => h) rfl hHeld ?_ ?_
                  rotate_left
                  · (intro W hW; go_simp; try with_reducible rfl)
                  try simp only [Act.put, List.setIfInBounds_toArray, List.set_cons_zero, List.set_cons_succ]
                  refine wpB_skip 19 _ rfl (by kernel_rfl) (fun _ _ _ h => h) rfl hHeld ?_
                  try simp only [Act.put, List.setIfInBounds_toArray, List.set_cons_zero, List.set_cons_succ]
                  refine wpB_skip 20 _ rfl (by kernel_rfl) (fun _ _ _ h => h) rfl hHeld ?_
                  try simp only [Act.put, List.setIfInBounds_toArray, List.set_cons_zero, List.set_cons_succ]
                  refine wpB_skip 21 _ rfl (by kernel_rfl) (fun _ _ _ h => h) rfl hHeld ?_
                  try simp only [Act.put, List.setIfInBounds_toArray, List.set_cons_zero, List.set_cons_succ]
                  refine wpB_skip 22 _ rfl (by kernel_rfl) (fun _ _ _ h => h) rfl hHeld ?_
                  try simp only [Act.put, List.setIfInBounds_toArray, List.set_cons_zero, List.set_cons_succ]
                  refine wpB_skip 23 _ rfl (by kernel_rfl) (fun _ _ _ h => h) rfl hHeld ?_
                  try simp only [Act.put, List.setIfInBounds_toArray, List.set_cons_zero, List.set_cons_succ]
                  refine wpB_skip 24 _ rfl (by kernel_rfl) (fun _ _ _ h => h) rfl hHeld ?_
                  try simp only [Act.put, List.setIfInBounds_toArray, List.set_cons_zero, List.set_cons_succ]
                  refine wpB_skip 25 _ rfl (by kernel_rfl) (fun _ _ _ h => h) rfl hHeld ?_
                  try simp only [Act.put, List.setIfInBounds_toArray, List.set_cons_zero, List.set_cons_succ]
                  refine wpB_skip 26 _ rfl (by kernel_rfl) (fun _ _ _ h => h) rfl hHeld ?_
                  try simp only [Act.put, List.setIfInBounds_toArray, List.set_cons_zero, List.set_cons_succ]
                  refine wpB_skip 27 _ rfl (by kernel_rfl) (fun _ _ _ h => h) rfl hHeld ?_
                  try simp only [Act.put, List.setIfInBounds_toArray, List.set_cons_zero, List.set_cons_succ]
                  refine wpB_skip 28 _ rfl (by kernel_rfl) (fun _ _ _ h => h) rfl hHeld ?_
                  try simp only [Act.put, List.setIfInBounds_toArray, List.set_cons_zero, List.set_cons_succ]
                  refine wpB_skip 29 _ rfl (by kernel_rfl) (fun _ _ _ h => h) rfl hHeld ?_
                  try simp only [Act.put, List.setIfInBounds_toArray, List.set_cons_zero, List.set_cons_succ]
                  refine wpB_skip 30 _ rfl (by kernel_rfl) (fun _ _ _ h => h) rfl hHeld ?_
                  try simp only [Act.put, List.setIfInBounds_toArray, List.set_cons_zero, List.set_cons_succ]
                  refine wpB_take 31 _ ?_ rfl (by kernel_rfl) (fun _ _ _ h => h) rfl hHeld ?_ ?_
                  rotate_left
                  · (intro W hW; go_simp; try with_reducible rfl)
                  try simp only [Act.put, List.setIfInBounds_toArray, List.set_cons_zero, List.set_cons_succ]
                  refine wpB_take 32 _ ?_ rfl (by kernel_rfl) (fun _ _ _ h => h) rfl hHeld ?_ ?_
                  rotate_left
                  · (intro W hW; go_simp; try with_reducible rfl)
                  try simp only [Act.put, List.setIfInBounds_toArray, List.set_cons_zero, List.set_cons_succ]
                  refine wpB_done (by kernel_rfl) ?_ _
                  have hKz := hKj.trans hHeld
                  clear hHeld u0 u2 hnx' hbel
                  go_wp2_with fail
                  go_roundg g3
                  case rel => exact ⟨j + 1, st_next HJ.out, by go_num, hKz⟩
                  case measure => omega
                · have hj1 : 0 < j := by omega
                  have hj1I : (0 : Int) < (j : Int) := by omega
                  have hris := ids_rise hiv (i := j - 1) (j := j) (by omega) hjd
                  obtain ⟨gv2, go2, gc2, glv2, hv', -, f1, -, -, -⟩ := vol_cell hvs (j - 1) (by omega)
                  simp only [Value.slice.injEq, Option.some.injEq, Addr.mk.injEq] at hv'
                  obtain ⟨⟨rfl, rfl, -⟩, -, -⟩ := hv'
                  rw [vols_id hiv (by omega) (by omega)] at f1
                  have u3 := Kp.cellAt (X := []) ((hKj6.cell (lt_of_cell f1) (by simp)).trans f1) (by simp)
                  obtain ⟨dj, hdj⟩ : ∃ dj, dj = X.ids[j] := ⟨_, rfl⟩
                  obtain ⟨di, hdi⟩ : ∃ di, di = X.ids[j - 1] := ⟨_, rfl⟩
                  rw [← hdj] at u0 hbel hris
                  rw [← hdi] at u3 hris
                  have hgb : decide (NN ≤ dj) = false := decide_eq_false (by omega)
                  have hgb2 : decide (dj ≤ di) = false := decide_eq_false (by omega)
                  have hwr := wrap_id ((j : Int) - 1) (by omega) (by omega)
                  have htn : ((j : Int) - 1).toNat = j - 1 := by omega
                  have hlo : (0 : Int) ≤ (j : Int) - 1 := by omega
                  have hlo1 : (1 : Int) ≤ (j : Int) := by omega
                  have hhi : (j : Int) - 1 < (X.volumes.length : Int) := by omega
                  have hj2 : decide ((0 : Int) < (j : Int)) = true := decide_eq_true hj1I
                  clear f0 f1 hdj hdi hj0
                  go_wp2_with fail
                  refine wpB_begin 999 (Kp [] wr) (by kernel_rfl) (by exact (Kp.refl _ _).drew) (fun hHeld => ?_)
                  refine wpB_take 0 _ ?_ rfl (by kernel_rfl) (fun _ _ _ h => h) rfl hHeld ?_ ?_
                  rotate_left
                  · (intro W hW; go_simp; try with_reducible rfl)
                  try simp only [Act.put, List.setIfInBounds_toArray, List.set_cons_zero, List.set_cons_succ]
                  refine wpB_take 1 _ ?_ rfl (by kernel_rfl) (fun _ _ _ h => h) rfl hHeld ?_ ?_
                  rotate_left
                  · (intro W hW; go_simp; try with_reducible rfl)
                  try simp only [Act.put, List.setIfInBounds_toArray, List.set_cons_zero, List.set_cons_succ]
                  refine wpB_take 2 _ ?_ rfl (by kernel_rfl) (fun _ _ _ h => h) rfl hHeld ?_ ?_
                  rotate_left
                  · (intro W hW; go_simp; try with_reducible rfl)
                  try simp only [Act.put, List.setIfInBounds_toArray, List.set_cons_zero, List.set_cons_succ]
                  refine wpB_take 3 _ ?_ rfl (by kernel_rfl) (fun _ _ _ h => h) rfl hHeld ?_ ?_
                  rotate_left
                  · (intro W hW; go_simp; try with_reducible rfl)
                  try simp only [Act.put, List.setIfInBounds_toArray, List.set_cons_zero, List.set_cons_succ]
                  refine wpB_take 4 _ ?_ rfl (by kernel_rfl) (fun _ _ _ h => h) rfl hHeld ?_ ?_
                  rotate_left
                  · (intro W hW; go_simp; try with_reducible rfl)
                  try simp only [Act.put, List.setIfInBounds_toArray, List.set_cons_zero, List.set_cons_succ]
                  refine wpB_take 5 _ ?_ rfl (by kernel_rfl) (fun _ _ _ h => h) rfl hHeld ?_ ?_
                  rotate_left
                  · (intro W hW; go_simp; try with_reducible rfl)
                  try simp only [Act.put, List.setIfInBounds_toArray, List.set_cons_zero, List.set_cons_succ]
                  refine wpB_take 6 _ ?_ rfl (by kernel_rfl) (fun _ _ _ h => h) rfl hHeld ?_ ?_
                  rotate_left
                  · (intro W hW; go_simp; try with_reducible rfl)
                  try simp only [Act.put, List.setIfInBounds_toArray, List.set_cons_zero, List.set_cons_succ]
                  refine wpB_take 7 _ ?_ rfl (by kernel_rfl) (fun _ _ _ h => h) rfl hHeld ?_ ?_
                  rotate_left
                  · (intro W hW; go_simp; try with_reducible rfl)
                  try simp only [Act.put, List.setIfInBounds_toArray, List.set_cons_zero, List.set_cons_succ]
                  refine wpB_take 8 _ ?_ rfl (by kernel_rfl) (fun _ _ _ h => h) rfl hHeld ?_ ?_
                  rotate_left
                  · (intro W hW; go_simp; try with_reducible rfl)
                  try simp only [Act.put, List.setIfInBounds_toArray, List.set_cons_zero, List.set_cons_succ]
                  refine wpB_take 9 _ ?_ rfl (by kernel_rfl) (fun _ _ _ h => h) rfl hHeld ?_ ?_
                  rotate_left
                  · (intro W hW; go_simp; try with_reducible rfl)
                  try simp only [Act.put, List.setIfInBounds_toArray, List.set_cons_zero, List.set_cons_succ]
                  refine wpB_take 10 _ ?_ rfl (by kernel_rfl) (fun _ _ _ h => h) rfl hHeld ?_ ?_
                  rotate_left
                  · (intro W hW; go_simp; try with_reducible rfl)
                  try simp only [Act.put, List.setIfInBounds_toArray, List.set_cons_zero, List.set_cons_succ]
                  refine wpB_take 11 _ ?_ rfl (by kernel_rfl) (fun _ _ _ h => h) rfl hHeld ?_ ?_
                  rotate_left
                  · (intro W hW; go_simp; try with_reducible rfl)
                  try simp only [Act.put, List.setIfInBounds_toArray, List.set_cons_zero, List.set_cons_succ]
                  refine wpB_step 12 _ rfl (by kernel_rfl) rfl rfl (fun K hK_ => ?_)
                  go_simp
                  refine (hnx' _ hHeld).mono ?_
                  rintro e wq ⟨rfl, kq⟩
                  refine hK_.out _ _ (by exact hHeld.trans kq) (fun hHeld => ?_)
                  clear hK_ K
                  try simp only [Act.put, List.setIfInBounds_toArray, List.set_cons_zero, List.set_cons_succ]
                  refine wpB_take 13 _ ?_ rfl (by kernel_rfl) (fun _ _ _ h => h) rfl hHeld ?_ ?_
                  rotate_left
                  · (intro W hW; go_simp; try with_reducible rfl)
                  try simp only [Act.put, List.setIfInBounds_toArray, List.set_cons_zero, List.set_cons_succ]
                  refine wpB_take 14 _ ?_ rfl (by kernel_rfl) (fun _ _ _ h => h) rfl hHeld ?_ ?_
                  rotate_left
                  · (intro W hW; go_simp; try with_reducible rfl)
                  try simp only [Act.put, List.setIfInBounds_toArray, List.set_cons_zero, List.set_cons_succ]
                  refine wpB_take 15 _ ?_ rfl (by kernel_rfl) (fun _ _ _ h => h) rfl hHeld ?_ ?_
                  rotate_left
                  · (intro W hW; go_simp; try with_reducible rfl)
                  try simp only [Act.put, List.setIfInBounds_toArray, List.set_cons_zero, List.set_cons_succ]
                  refine wpB_take 16 _ ?_ rfl (by kernel_rfl) (fun _ _ _ h => h) rfl hHeld ?_ ?_
                  rotate_left
                  · (intro W hW; go_simp; try with_reducible rfl)
                  try simp only [Act.put, List.setIfInBounds_toArray, List.set_cons_zero, List.set_cons_succ]
                  refine wpB_take 17 _ ?_ rfl (by kernel_rfl) (fun _ _ _ h => h) rfl hHeld ?_ ?_
                  rotate_left
                  · (intro W hW; go_simp; try with_reducible rfl)
                  try simp only [Act.put, List.setIfInBounds_toArray, List.set_cons_zero, List.set_cons_succ]
                  refine wpB_take 18 _ ?_ rfl (by kernel_rfl) (fun _ _ _ h => h) rfl hHeld ?_ ?_
                  rotate_left
                  · (intro W hW; go_simp; try with_reducible rfl)
                  try simp only [Act.put, List.setIfInBounds_toArray, List.set_cons_zero, List.set_cons_succ]
                  refine wpB_take 19 _ ?_ rfl (by kernel_rfl) (fun _ _ _ h => h) rfl hHeld ?_ ?_
                  rotate_left
                  · (intro W hW; go_simp; try with_reducible rfl)
                  try simp only [Act.put, List.setIfInBounds_toArray, List.set_cons_zero, List.set_cons_succ]
                  refine wpB_take 20 _ ?_ rfl (by kernel_rfl) (fun _ _ _ h => h) rfl hHeld ?_ ?_
                  rotate_left
                  · (intro W hW; go_simp; try with_reducible rfl)
                  try simp only [Act.put, List.setIfInBounds_toArray, List.set_cons_zero, List.set_cons_succ]
                  refine wpB_take 21 _ ?_ rfl (by kernel_rfl) (fun _ _ _ h => h) rfl hHeld ?_ ?_
                  rotate_left
                  · (intro W hW; go_simp; try with_reducible rfl)
                  try simp only [Act.put, List.setIfInBounds_toArray, List.set_cons_zero, List.set_cons_succ]
                  refine wpB_take 22 _ ?_ rfl (by kernel_rfl) (fun _ _ _ h => h) rfl hHeld ?_ ?_
                  rotate_left
                  · (intro W hW; go_simp; try with_reducible rfl)
                  try simp only [Act.put, List.setIfInBounds_toArray, List.set_cons_zero, List.set_cons_succ]
                  refine wpB_take 23 _ ?_ rfl (by kernel_rfl) (fun _ _ _ h => h) rfl hHeld ?_ ?_
                  rotate_left
                  · (intro W hW; go_simp; try with_reducible rfl)
                  try simp only [Act.put, List.setIfInBounds_toArray, List.set_cons_zero, List.set_cons_succ]
                  refine wpB_take 24 _ ?_ rfl (by kernel_rfl) (fun _ _ _ h => h) rfl hHeld ?_ ?_
                  rotate_left
                  · (intro W hW; go_simp; try with_reducible rfl)
                  try simp only [Act.put, List.setIfInBounds_toArray, List.set_cons_zero, List.set_cons_succ]
                  refine wpB_take 25 _ ?_ rfl (by kernel_rfl) (fun _ _ _ h => h) rfl hHeld ?_ ?_
                  rotate_left
                  · (intro W hW; go_simp; try with_reducible rfl)
                  try simp only [Act.put, List.setIfInBounds_toArray, List.set_cons_zero, List.set_cons_succ]
                  refine wpB_take 26 _ ?_ rfl (by kernel_rfl) (fun _ _ _ h => h) rfl hHeld ?_ ?_
                  rotate_left
                  · (intro W hW; go_simp; try with_reducible rfl)
                  try simp only [Act.put, List.setIfInBounds_toArray, List.set_cons_zero, List.set_cons_succ]
                  refine wpB_take 27 _ ?_ rfl (by kernel_rfl) (fun _ _ _ h => h) rfl hHeld ?_ ?_
                  rotate_left
                  · (intro W hW; go_simp; try with_reducible rfl)
                  try simp only [Act.put, List.setIfInBounds_toArray, List.set_cons_zero, List.set_cons_succ]
                  refine wpB_take 28 _ ?_ rfl (by kernel_rfl) (fun _ _ _ h => h) rfl hHeld ?_ ?_
                  rotate_left
                  · (intro W hW; go_simp; try with_reducible rfl)
                  try simp only [Act.put, List.setIfInBounds_toArray, List.set_cons_zero, List.set_cons_succ]
                  refine wpB_take 29 _ ?_ rfl (by kernel_rfl) (fun _ _ _ h => h) rfl hHeld ?_ ?_
                  rotate_left
                  · (intro W hW; go_simp; try with_reducible rfl)
                  try simp only [Act.put, List.setIfInBounds_toArray, List.set_cons_zero, List.set_cons_succ]
                  refine wpB_take 30 _ ?_ rfl (by kernel_rfl) (fun _ _ _ h => h) rfl hHeld ?_ ?_
                  rotate_left
                  · (intro W hW; go_simp; try with_reducible rfl)
                  try simp only [Act.put, List.setIfInBounds_toArray, List.set_cons_zero, List.set_cons_succ]
                  refine wpB_take 31 _ ?_ rfl (by kernel_rfl) (fun _ _ _ h => h) rfl hHeld ?_ ?_
                  rotate_left
                  · (intro W hW; go_simp; try with_reducible rfl)
                  try simp only [Act.put, List.setIfInBounds_toArray, List.set_cons_zero, List.set_cons_succ]
                  refine wpB_take 32 _ ?_ rfl (by kernel_rfl) (fun _ _ _ h => h) rfl hHeld ?_ ?_
                  rotate_left
                  · (intro W hW; go_simp; try with_reducible rfl)
                  try simp only [Act.put, List.setIfInBounds_toArray, List.set_cons_zero, List.set_cons_succ]
                  refine wpB_done (by kernel_rfl) ?_ _
                  have hKz := hKj.trans hHeld
                  clear hHeld u0 u2 u3 hnx' hbel hris hwr htn hlo hhi
                  go_wp2_with fail
                  go_roundg g3
                  case rel => exact ⟨j + 1, st_next HJ.out, by go_num, hKz⟩
                  case measure => omega
              · obtain rfl : j = X.volumes.length := by omega
                obtain rfl : gk = 0 := by omega
                have hfin := hKw.trans hKj
                have hif := hI8.keep0 hKj
                rw [HXE.out] at hif
                have HIF := Lib.hid hif
                clear hj hif
                go_wp2_with fail
                go_roundg g'
                case rel => exact ⟨n + 1, st_next HN.out, by go_num, hfin, HIF.out⟩
                case measure => omega
    · obtain rfl : n = rs.length := by omega
      obtain rfl : gk = 0 := by omega
      clear hn
      go_wp2_with fail
      refine (live_true _).mono ?_
      rintro e wl ⟨rfl, kl⟩
      have hkl := (hK).trans kl
      clear kl
      go_wp2_with fail
      go_ret
      exact ⟨rfl, hkl⟩
set_option maxRecDepth 100000 in
theorem within_lifted (os : Os) (started : os.Started) (H : Type) (enc : TypeId × Value → H) :
    ReturnsInHanded {} Try.checked os 6 .any (Rows.indexWithinSpec.pre6 enc Try.prog Try.f6 Rows.indexWithinRow.domain false) (Rows.indexWithinSpec.post enc Try.prog Try.f6 false true false false) := by
  refine law_lifted Rows.indexWithinSpec Try.func6 (by kernel_rfl) Try.underlying4 rfl (by decide +kernel) rfl ?_ ?_ os started H enc
    (ChangeSpec.witness6 (enc := enc) (C := Try.checked) false ⟨#[], #[.slice none 0 0], []⟩ 8 (by kernel_rfl) (by kernel_rfl) (by kernel_rfl) (by kernel_rfl))
  · intro H ds hl
    match ds, hl with
    | [d], _ => exact ⟨rfl, rfl, rfl⟩
  · (rintro W vs ⟨v, vs1, base, rfl, hok, hrd, rfl⟩; obtain ⟨av, l, c, rfl, -⟩ := okWide_slice Try.underlying22 hok; obtain ⟨rs, hr⟩ := recs_arg hrd rfl; exact within_walk _ rs W hr)
set_option maxRecDepth 100000 in
theorem within_holds : Rows.IndexWithinSaid :=
  OpenClaim.holds_of_wide 6 Try.f6 rfl rfl rfl rfl rfl rfl rfl ⟨rfl, rfl, rfl, rfl, rfl⟩ rfl rfl rfl rfl rfl (by kernel_rfl) Try.func6 (by kernel_rfl)
    (of_decide_eq_true (by kernel_rfl)) (by unfold Func.isWrapper; first | (rw [if_pos (by decide +kernel)]; kernel_rfl) | (rw [if_neg (by decide +kernel)]; exact ⟨rfl, rfl⟩))
    (fun os started H enc _ => within_lifted os started H enc)
#print axioms within_holds
end Go.Proofs.Ytdhhddifmkijhaa
