/-
  The document's index: the place of a key, of a volume; Known, Get, Volume, Volumes.
-/
import Derived.Test.YtdhhddifmkijhaaGreatIdxRc
namespace Go.Proofs.YtdhhddifmkijhaaGreat
open Go.RowKit

theorem bytes_eqb {a b : ByteArray} (h : a = b) : (a.toList == b.toList) = true := by simp [h]
theorem find_at {α : Type} {p : α → Bool} {l : List α} {n : Nat} (hn : n < l.length) (hp : p l[n] = true) (hno : ∀ j (hj : j < l.length), j < n → p l[j] = false) : l.findIdx? p = some n ∧ l.find? p = some l[n] := by
  induction l generalizing n with
  | nil => simp at hn
  | cons a r ih =>
    cases n with
    | zero =>
      simp only [List.getElem_cons_zero] at hp
      rw [List.findIdx?_cons, List.find?_cons]
      simp [hp]
    | succ n =>
      have ha : p a = false := hno 0 (by simp) (Nat.succ_pos _)
      have := ih (n := n) (by simpa using hn) (by simpa using hp) (fun j hj hjn => by have := hno (j + 1) (by simp; omega) (by omega); simpa using this)
      rw [List.findIdx?_cons, List.find?_cons]
      simp [ha, this.1, this.2]
theorem find_none {α : Type} {p : α → Bool} {l : List α} (hno : ∀ j (hj : j < l.length), p l[j] = false) : l.findIdx? p = none ∧ l.find? p = none := by
  constructor
  · rw [List.findIdx?_eq_none_iff]
    intro x hx
    obtain ⟨j, hj, rfl⟩ := List.getElem_of_mem hx
    simpa using hno j hj
  · rw [List.find?_eq_none]
    intro x hx
    obtain ⟨j, hj, rfl⟩ := List.getElem_of_mem hx
    simpa using hno j hj
theorem find_isSome {α : Type} {p : α → Bool} {l : List α} : (l.findIdx? p).isSome = (l.find? p).isSome := by
  induction l with
  | nil => rfl
  | cons a r ih =>
    rw [List.findIdx?_cons, List.find?_cons]
    cases p a <;> simp [ih]
theorem find_idx {α : Type} {p : α → Bool} {l : List α} {i : Nat} (h : l.findIdx? p = some i) : ∃ hi : i < l.length, l.find? p = some l[i] := by
  obtain ⟨hi, hp, hno⟩ := List.findIdx?_eq_some_iff_getElem.1 h
  exact ⟨hi, (find_at hi hp (fun j hj hjn => by simpa using hno j hjn)).2⟩
set_option maxHeartbeats 1000000 in
set_option maxRecDepth 20000 in
theorem kentry {B kb : Nat} {k : Rx} (d : ByteArray) (w : World) (h : RIn B kb w k) (hz : k.E.length ≤ 1000) : Calls Tryz.prog 28 #[.pointer (some ⟨kb, 0, none⟩), .string d] w fun e w' => e = .returned (.int .i64 (placeI (k.entry d))) ∧ Kp [] w w' := by
  obtain ⟨eA, eC, gA, gC, vA, vC, hA, hC, h⟩ := h.open
  have c0 := Kp.cellAt (X := []) (cell_of_cells (o := 0) h.top rfl) (by simp)
  have hs := SliceAt.of_owns h.ents
  have hK := Kp.refl [] w
  go_enter Tryz.func28, Tryz.ntmps28
  go_wp2_with fail
  go_loopg [5] k.E.length (fun g i wr => ∃ n : Nat, n + g = k.E.length ∧ i = .int .i64 n ∧ Kp [] w wr ∧ ∀ j (hj : j < k.E.length), j < n → k.E[j].key ≠ d)
  case atStart => exact ⟨0, by omega, rfl, hK, fun j _ h => absurd h (Nat.not_lt_zero _)⟩
  case round =>
    clear hK
    obtain ⟨n, hn, rfl, hK, hno⟩ := hrel
    have HN := Lib.hid hn
    have HNO := Lib.hid hno
    clear hno
    by_cases hlt : n < k.E.length
    · obtain ⟨g', rfl⟩ : ∃ g', gk = g' + 1 := ⟨gk - 1, by omega⟩
      clear hn
      have hltI : (n : Int) < (k.E.length : Int) := by omega
      obtain ⟨g, o, c, hv', e1, -, -, -, -⟩ := ent_at hs n hlt
      simp only [Value.slice.injEq] at hv'
      obtain ⟨rfl, -, rfl⟩ := hv'
      have d1 := Kp.cellAt (X := []) e1 (by simp) wr hK
      obtain ⟨q, hq⟩ : ∃ q, q = k.E[n].key := ⟨_, rfl⟩
      rw [← hq] at d1
      have HQ := Lib.hid hq
      clear e1 hq
      by_cases hqd : q = d
      · have hb := bytes_eqb hqd
        have hq2 : k.E[n].key = d := by rw [← HQ.out]; exact hqd
        have hr := (find_at (p := fun e : EntD => decide (e.key = d)) hlt (decide_eq_true hq2) (fun j hj hjn => decide_eq_false (HNO.out j hj hjn))).1
        have hr : k.entry d = some n := hr
        have HZ := Lib.hid hr
        clear hr hqd hq2
        go_wp2_with fail
        go_ret
        exact ⟨by rw [HZ.out]; rfl, hK⟩
      · have hb := bytes_ne hqd
        have hne2 : ∀ j (hj : j < k.E.length), j < n + 1 → k.E[j].key ≠ d := fun j hj hjm => by
          by_cases e : j = n
          · subst e; rw [← HQ.out]; exact hqd
          · exact HNO.out j hj (by omega)
        have HN2 := Lib.hid hne2
        clear hne2 hqd
        go_wp2_with fail
        go_roundg g'
        case rel => exact ⟨n + 1, st_next HN.out, by go_num, hK, HN2.out⟩
        case measure => omega
    · obtain rfl : n = k.E.length := by omega
      obtain rfl : gk = 0 := by omega
      clear hn
      have hr := (find_none (p := fun e : EntD => decide (e.key = d)) (l := k.E) (fun j hj => decide_eq_false (HNO.out j hj hj))).1
      have hr : k.entry d = none := hr
      have HZ := Lib.hid hr
      clear hr
      go_wp2_with fail
      go_ret
      exact ⟨by rw [HZ.out]; rfl, hK⟩
set_option maxHeartbeats 1000000 in
set_option maxRecDepth 20000 in
theorem kplace {B kb : Nat} {k : Rx} (d : Int) (w : World) (h : RIn B kb w k) (hz : k.V.length ≤ 1000) : Calls Tryz.prog 29 #[.pointer (some ⟨kb, 0, none⟩), .int .i64 d] w fun e w' => e = .returned (.int .i64 (placeI (k.place d))) ∧ Kp [] w w' := by
  obtain ⟨eA, eC, gA, gC, vA, vC, hA, hC, h⟩ := h.open
  have c0 := Kp.cellAt (X := []) (cell_of_cells (o := 2) h.top rfl) (by simp)
  have hs := h.volsAt.2
  have hK := Kp.refl [] w
  go_enter Tryz.func29, Tryz.ntmps29
  go_wp2_with fail
  go_loopg [5] k.V.length (fun g i wr => ∃ n : Nat, n + g = k.V.length ∧ i = .int .i64 n ∧ Kp [] w wr ∧ ∀ j (hj : j < k.V.length), j < n → k.V[j].id ≠ d)
  case atStart => exact ⟨0, by omega, rfl, hK, fun j _ h => absurd h (Nat.not_lt_zero _)⟩
  case round =>
    clear hK
    obtain ⟨n, hn, rfl, hK, hno⟩ := hrel
    have HN := Lib.hid hn
    have HNO := Lib.hid hno
    clear hno
    by_cases hlt : n < k.V.length
    · obtain ⟨g', rfl⟩ : ∃ g', gk = g' + 1 := ⟨gk - 1, by omega⟩
      clear hn
      have hltI : (n : Int) < (k.V.length : Int) := by omega
      obtain ⟨g, o, c, lv, hv', -, e1, -, -, -⟩ := hs n hlt
      simp only [Value.slice.injEq] at hv'
      obtain ⟨rfl, -, rfl⟩ := hv'
      have d1 := Kp.cellAt (X := []) e1 (by simp) wr hK
      obtain ⟨q, hq⟩ : ∃ q, q = k.V[n].id := ⟨_, rfl⟩
      rw [← hq] at d1
      have HQ := Lib.hid hq
      clear e1 hq
      by_cases hqd : q = d
      · have hb := (show (q == d) = true by simp [hqd])
        have hq2 : k.V[n].id = d := by rw [← HQ.out]; exact hqd
        have hr := (find_at (p := fun e : VolD => decide (e.id = d)) hlt (decide_eq_true hq2) (fun j hj hjn => decide_eq_false (HNO.out j hj hjn))).1
        have hr : k.place d = some n := hr
        have HZ := Lib.hid hr
        clear hr hqd hq2
        go_wp2_with fail
        go_ret
        exact ⟨by rw [HZ.out]; rfl, hK⟩
      · have hb := int_ne hqd
        have hne2 : ∀ j (hj : j < k.V.length), j < n + 1 → k.V[j].id ≠ d := fun j hj hjm => by
          by_cases e : j = n
          · subst e; rw [← HQ.out]; exact hqd
          · exact HNO.out j hj (by omega)
        have HN2 := Lib.hid hne2
        clear hne2 hqd
        go_wp2_with fail
        go_roundg g'
        case rel => exact ⟨n + 1, st_next HN.out, by go_num, hK, HN2.out⟩
        case measure => omega
    · obtain rfl : n = k.V.length := by omega
      obtain rfl : gk = 0 := by omega
      clear hn
      have hr := (find_none (p := fun e : VolD => decide (e.id = d)) (l := k.V) (fun j hj => decide_eq_false (HNO.out j hj hj))).1
      have hr : k.place d = none := hr
      have HZ := Lib.hid hr
      clear hr
      go_wp2_with fail
      go_ret
      exact ⟨by rw [HZ.out]; rfl, hK⟩
set_option maxHeartbeats 1000000 in
set_option maxRecDepth 20000 in
theorem kknown {B kb : Nat} {k : Rx} (d : ByteArray) (w : World) (h : RIn B kb w k) (hz : k.G.length ≤ 1000) (hz2 : k.E.length ≤ 1000) : Calls Tryz.prog 26 #[.pointer (some ⟨kb, 0, none⟩), .string d] w fun e w' => e = .returned (.bool (k.known d)) ∧ Kp [] w w' := by
  have hri := h
  obtain ⟨eA, eC, gA, gC, vA, vC, hA, hC, h⟩ := h.open
  have c0 := Kp.cellAt (X := []) (cell_of_cells (o := 1) h.top rfl) (by simp)
  have hs := SliceAt.of_owns h.gone
  have hK := Kp.refl [] w
  go_enter Tryz.func26, Tryz.ntmps26
  go_wp2_with fail
  go_loopg [5] k.G.length (fun g i wr => ∃ n : Nat, n + g = k.G.length ∧ i = .int .i64 n ∧ Kp [] w wr ∧ ∀ j (hj : j < k.G.length), j < n → k.G[j] ≠ d)
  case atStart => exact ⟨0, by omega, rfl, hK, fun j _ h => absurd h (Nat.not_lt_zero _)⟩
  case round =>
    clear hK
    obtain ⟨n, hn, rfl, hK, hno⟩ := hrel
    have HN := Lib.hid hn
    have HNO := Lib.hid hno
    clear hno
    by_cases hlt : n < k.G.length
    · obtain ⟨g', rfl⟩ : ∃ g', gk = g' + 1 := ⟨gk - 1, by omega⟩
      clear hn
      have hltI : (n : Int) < (k.G.length : Int) := by omega
      obtain ⟨g, o, c, hv', e1⟩ := strv_at hs n hlt
      simp only [Value.slice.injEq] at hv'
      obtain ⟨rfl, -, rfl⟩ := hv'
      have d1 := Kp.cellAt (X := []) e1 (by simp) wr hK
      obtain ⟨q, hq⟩ : ∃ q, q = k.G[n] := ⟨_, rfl⟩
      rw [← hq] at d1
      have HQ := Lib.hid hq
      clear e1 hq
      by_cases hqd : q = d
      · have hb := bytes_eqb hqd
        have hq2 : k.G[n] = d := by rw [← HQ.out]; exact hqd
        have hr : k.known d = true := by
          unfold Rx.known
          rw [has_iff.2 (hq2 ▸ List.getElem_mem hlt)]; rfl
        have HZ := Lib.hid hr
        clear hr hqd hq2
        go_wp2_with fail
        go_ret
        exact ⟨by rw [HZ.out]; rfl, hK⟩
      · have hb := bytes_ne hqd
        have hne2 : ∀ j (hj : j < k.G.length), j < n + 1 → k.G[j] ≠ d := fun j hj hjm => by
          by_cases e : j = n
          · subst e; rw [← HQ.out]; exact hqd
          · exact HNO.out j hj (by omega)
        have HN2 := Lib.hid hne2
        clear hne2 hqd
        go_wp2_with fail
        go_roundg g'
        case rel => exact ⟨n + 1, st_next HN.out, by go_num, hK, HN2.out⟩
        case measure => omega
    · obtain rfl : n = k.G.length := by omega
      obtain rfl : gk = 0 := by omega
      clear hn
      have hkn : k.known d = (k.entry d).isSome := by
        unfold Rx.known
        have : has k.G d = false := has_false.2 (fun hm => by
          obtain ⟨j, hj, he⟩ := List.getElem_of_mem hm
          exact HNO.out j hj hj he)
        rw [this, Bool.false_or]
      have hen := fun W (k0 : Kp [] w W) => kentry d W (hri.keep0 k0) hz2
      have HKN := Lib.hid hkn
      obtain ⟨P, hP⟩ : ∃ P, P = k.entry d := ⟨_, rfl⟩
      rw [← hP] at hen
      have HP := Lib.hid hP
      clear hkn hP
      go_wp2_with fail
      refine (hen _ hK).mono ?_
      rintro e w2 ⟨rfl, k2⟩
      have hK2 := hK.trans k2
      clear hen
      cases P with
      | some i =>
        have hr : k.known d = true := by rw [HKN.out, ← HP.out]; rfl
        have HZ := Lib.hid hr
        have hi0 : (0 : Int) ≤ (i : Int) := by omega
        clear hr
        simp only [placeI]
        go_wp2_with fail
        go_ret
        exact ⟨by rw [HZ.out]; rfl, hK2⟩
      | none =>
        have hr : k.known d = false := by rw [HKN.out, ← HP.out]; rfl
        have HZ := Lib.hid hr
        clear hr
        simp only [placeI]
        go_wp2_with fail
        go_ret
        exact ⟨by rw [HZ.out]; rfl, hK2⟩
set_option maxRecDepth 20000 in
theorem ret5k_kGet (t : Array Value) (Z : World) (R : Nat) (e : Int) {v0 v1 v2 v3 v4 : Value} (h2 : t.getD 4 undef = .pointer (some ⟨R, 0, none⟩)) (h3 : t.getD 5 undef = .int .i64 e) (z0 : Z.cell? ⟨R, 0, none⟩ = some v0) (z1 : Z.cell? ⟨R, 1, none⟩ = some v1) (z2 : Z.cell? ⟨R, 2, none⟩ = some v2) (z3 : Z.cell? ⟨R, 3, none⟩ = some v3) (z4 : Z.cell? ⟨R, 4, none⟩ = some v4) :
    (results Tryz.f40 t).run Tryz.prog Z = .ok (.tuple #[.agg #[v0, v1, v2, v3, v4], .int .i64 e]) Z := by
  have h2' : t[4]?.getD undef = .pointer (some ⟨R, 0, none⟩) := by rw [← h2]; simp [Array.getD_eq_getD_getElem?]
  have h3' : t[5]?.getD undef = .int .i64 e := by rw [← h3]; simp [Array.getD_eq_getD_getElem?]
  simp [results, Tryz.results40, go_sem, z0, z1, z2, z3, z4, h2', h3']
  try rfl
set_option maxRecDepth 20000 in
theorem ret4k_kVolume (t : Array Value) (Z : World) (R : Nat) (e : Int) {v0 v1 v2 v3 : Value} (h2 : t.getD 4 undef = .pointer (some ⟨R, 0, none⟩)) (h3 : t.getD 5 undef = .int .i64 e) (z0 : Z.cell? ⟨R, 0, none⟩ = some v0) (z1 : Z.cell? ⟨R, 1, none⟩ = some v1) (z2 : Z.cell? ⟨R, 2, none⟩ = some v2) (z3 : Z.cell? ⟨R, 3, none⟩ = some v3) :
    (results Tryz.f37 t).run Tryz.prog Z = .ok (.tuple #[.agg #[v0, v1, v2, v3], .int .i64 e]) Z := by
  have h2' : t[4]?.getD undef = .pointer (some ⟨R, 0, none⟩) := by rw [← h2]; simp [Array.getD_eq_getD_getElem?]
  have h3' : t[5]?.getD undef = .int .i64 e := by rw [← h3]; simp [Array.getD_eq_getD_getElem?]
  simp [results, Tryz.results37, go_sem, z0, z1, z2, z3, h2', h3']
  try rfl
theorem kvolumes {B kb : Nat} {k : Rx} (w : World) (h : RIn B kb w k) : Calls Tryz.prog 45 #[.pointer (some ⟨kb, 0, none⟩)] w fun e w' => ∃ v, e = .returned v ∧ VolsAt w'.heap.size w' v k.V ∧ Kp [] w w' := by
  obtain ⟨eA, eC, gA, gC, vA, vC, hA, hC, h⟩ := h.open
  have c0 := Kp.cellAt (X := []) (cell_of_cells (o := 2) h.top rfl) (by simp)
  have hs := h.volsAt.1
  have hK := Kp.refl [] w
  go_enter Tryz.func45, Tryz.ntmps45
  go_wp2_with fail
  go_ret
  exact ⟨_, rfl, hs, hK⟩
set_option maxHeartbeats 2000000 in
set_option maxRecDepth 20000 in
theorem kget {B kb : Nat} {k : Rx} (d : ByteArray) (w : World) (h : RIn B kb w k) (hz : k.E.length ≤ 1000) : Calls Tryz.prog 40 #[.pointer (some ⟨kb, 0, none⟩), .string d] w fun e w' => e = .returned (.tuple #[.agg (EntVA (k.get d).1), .int .i64 (k.get d).2]) ∧ Kp [] w w' := by
  obtain ⟨w0, hw0⟩ : ∃ w0, w0 = w.alloc (.cells #[.string E0, .int .i64 0, .int .i64 0, .int .i64 0, .string E0] 38) := ⟨_, rfl⟩
  have k0 : Kp [] w w0 := hw0 ▸ (Kp.refl _ _).alloc _
  have b0 : w0.heap[w.heap.size]? = some (.cells #[.string E0, .int .i64 0, .int .i64 0, .int .i64 0, .string E0] 38 (0, 0)) := by rw [hw0]; exact block_new _ _
  have hri := h.keep0 k0
  have hen := kentry d w0 hri hz
  obtain ⟨P, hP⟩ : ∃ P, P = k.entry d := ⟨_, rfl⟩
  rw [← hP] at hen
  have HP := Lib.hid hP
  obtain ⟨G, hG⟩ : ∃ G, G = k.get d := ⟨_, rfl⟩
  rw [← hG]
  have HG := Lib.hid hG
  have Hw0 := Lib.hid hw0
  clear hP hG hw0
  cases P with
  | none =>
    have hr : G = (zeroEnt, 9) := by
      rw [HG.out]
      unfold Rx.get
      have h1 : (k.E.find? fun e => decide (e.key = d)).isSome = false := by rw [← find_isSome]; show (k.entry d).isSome = false; rw [← HP.out]; rfl
      cases hf : k.E.find? fun e => decide (e.key = d) with
      | none => rfl
      | some x => rw [hf] at h1; cases h1
    have HZ := Lib.hid hr
    simp only [placeI] at hen
    clear hr
    go_enter Tryz.func40, Tryz.ntmps40
    go_wp2_with fail
    rw [← Hw0.out]
    refine hen.mono ?_
    rintro e w2 ⟨rfl, k2⟩
    have b2 := (k2.block _ (lt_of_block b0) (by simp)).trans b0
    have fz := frozen_of_cells b2
    obtain ⟨z0, z1, z2, z3, z4⟩ := read5 b2
    have hk := k0.trans k2
    clear hen
    go_wp2_with fail
    obtain ⟨Z, hZ⟩ : ∃ Z, Z = w2.setCells w.heap.size 0 [.string E0, .int .i64 0, .int .i64 0, .int .i64 0, .string E0] := ⟨_, rfl⟩
    have hz : Z.heap[w.heap.size]? = some (.cells #[.string E0, .int .i64 0, .int .i64 0, .int .i64 0, .string E0] 38 (0, 0)) := by rw [hZ]; exact setCells_whole b2 rfl
    have hkw : Kp [w.heap.size] w2 Z := hZ ▸ Kp.setCells (.inl (by simp)) _ _ (Kp.refl _ _)
    have hkz : Kp [] w Z := hk.step hkw (fun i hi hm => by simp only [List.mem_singleton] at hm; omega)
    refine cast (congrArg (fun u => bodyPost _ _ _ _ _ u) hZ) ?_
    clear hZ
    obtain ⟨y0, y1, y2, y3, y4⟩ := read5 hz
    exact bodyPost_ret (ret5k_kGet _ _ w.heap.size _ (by kernel_rfl) (by kernel_rfl) y0 y1 y2 y3 y4) rfl ⟨by rw [HZ.out]; rfl, hkz⟩
  | some i =>
    have hr : ∃ hi : i < k.E.length, G = (k.E[i], 0) := by
      obtain ⟨hi, hf⟩ := find_idx (p := fun e : EntD => decide (e.key = d)) (show k.E.findIdx? _ = some i from HP.out.symm)
      refine ⟨hi, ?_⟩
      rw [HG.out]
      unfold Rx.get
      rw [hf]
    obtain ⟨hi, hr⟩ := hr
    have HZ := Lib.hid hr
    simp only [placeI] at hen
    clear hr
    obtain ⟨eA, eC, gA, gC, vA, vC, hA, hC, hat⟩ := hri.open
    obtain ⟨g, o, c, hv', e0, e1, e2, e3, e4⟩ := ent_at (SliceAt.of_owns hat.ents) i hi
    simp only [Value.slice.injEq] at hv'
    obtain ⟨rfl, -, rfl⟩ := hv'
    have c0 := Kp.cellAt (X := []) (cell_of_cells (o := 0) hat.top rfl) (by simp)
    have hiI : (i : Int) < (k.E.length : Int) := by omega
    have hi0 : (0 : Int) ≤ (i : Int) := by omega
    obtain ⟨⟨a1, a2, a3, a4, a5⟩, hx⟩ : ∃ x, x = k.E[i] := ⟨_, rfl⟩
    rw [← hx] at e0 e1 e2 e3 e4
    simp only at e0 e1 e2 e3 e4
    have HX := Lib.hid hx
    clear hx
    go_enter Tryz.func40, Tryz.ntmps40
    go_wp2_with fail
    rw [← Hw0.out]
    refine hen.mono ?_
    rintro e w2 ⟨rfl, k2⟩
    have b2 := (k2.block _ (lt_of_block b0) (by simp)).trans b0
    have fz := frozen_of_cells b2
    obtain ⟨z0, z1, z2, z3, z4⟩ := read5 b2
    have hk := k0.trans k2
    have c0' := c0 _ k2
    have d0 := Kp.cellAt (X := []) e0 (by simp) _ k2
    have d1 := Kp.cellAt (X := []) e1 (by simp) _ k2
    have d2 := Kp.cellAt (X := []) e2 (by simp) _ k2
    have d3 := Kp.cellAt (X := []) e3 (by simp) _ k2
    have d4 := Kp.cellAt (X := []) e4 (by simp) _ k2
    clear hen e0 e1 e2 e3 e4
    go_wp2_with fail
    obtain ⟨Z, hZ⟩ : ∃ Z, Z = w2.setCells w.heap.size 0 [.string a1, .int .i64 a2, .int .i64 a3, .int .i64 a4, .string a5] := ⟨_, rfl⟩
    have hz : Z.heap[w.heap.size]? = some (.cells #[.string a1, .int .i64 a2, .int .i64 a3, .int .i64 a4, .string a5] 38 (0, 0)) := by rw [hZ]; exact setCells_whole b2 rfl
    have hkw : Kp [w.heap.size] w2 Z := hZ ▸ Kp.setCells (.inl (by simp)) _ _ (Kp.refl _ _)
    have hkz : Kp [] w Z := hk.step hkw (fun i hi hm => by simp only [List.mem_singleton] at hm; omega)
    refine cast (congrArg (fun u => bodyPost _ _ _ _ _ u) hZ) ?_
    clear hZ
    obtain ⟨y0, y1, y2, y3, y4⟩ := read5 hz
    exact bodyPost_ret (ret5k_kGet _ _ w.heap.size _ (by kernel_rfl) (by kernel_rfl) y0 y1 y2 y3 y4) rfl ⟨by rw [HZ.out]; simp only; rw [← HX.out]; rfl, hkz⟩
set_option maxHeartbeats 2000000 in
set_option maxRecDepth 20000 in
theorem kvolume {B kb : Nat} {k : Rx} (d : Int) (w : World) (h : RIn B kb w k) (hz : k.V.length ≤ 1000) : Calls Tryz.prog 37 #[.pointer (some ⟨kb, 0, none⟩), .int .i64 d] w fun e w' => ∃ lv, e = .returned (.tuple #[.agg (VolVA (k.vol d).1 lv), .int .i64 (k.vol d).2]) ∧ LocsAt B w' lv (k.vol d).1.locs ∧ Kp [] w w' := by
  obtain ⟨w0, hw0⟩ : ∃ w0, w0 = w.alloc (.cells #[.int .i64 0, .int .i64 0, .int .i64 0, .slice none 0 0] 36) := ⟨_, rfl⟩
  have k0 : Kp [] w w0 := hw0 ▸ (Kp.refl _ _).alloc _
  have b0 : w0.heap[w.heap.size]? = some (.cells #[.int .i64 0, .int .i64 0, .int .i64 0, .slice none 0 0] 36 (0, 0)) := by rw [hw0]; exact block_new _ _
  have hri := h.keep0 k0
  have hBw : B ≤ w.heap.size := by
    obtain ⟨_, _, _, _, hh⟩ := h
    exact Nat.le_trans hh.low (Nat.le_of_lt (lt_of_block hh.top))
  have hen := kplace d w0 hri hz
  obtain ⟨P, hP⟩ : ∃ P, P = k.place d := ⟨_, rfl⟩
  rw [← hP] at hen
  have HP := Lib.hid hP
  obtain ⟨G, hG⟩ : ∃ G, G = k.vol d := ⟨_, rfl⟩
  rw [← hG]
  have HG := Lib.hid hG
  have Hw0 := Lib.hid hw0
  clear hP hG hw0
  cases P with
  | none =>
    have hr : G = (zeroVol, 9) := by
      rw [HG.out]
      unfold Rx.vol
      have h1 : (k.V.find? fun e => decide (e.id = d)).isSome = false := by rw [← find_isSome]; show (k.place d).isSome = false; rw [← HP.out]; rfl
      cases hf : k.V.find? fun e => decide (e.id = d) with
      | none => rfl
      | some x => rw [hf] at h1; cases h1
    have HZ := Lib.hid hr
    simp only [placeI] at hen
    clear hr
    go_enter Tryz.func37, Tryz.ntmps37
    go_wp2_with fail
    rw [← Hw0.out]
    refine hen.mono ?_
    rintro e w2 ⟨rfl, k2⟩
    have b2 := (k2.block _ (lt_of_block b0) (by simp)).trans b0
    have fz := frozen_of_cells b2
    obtain ⟨z0, z1, z2, z3⟩ := read4 b2
    have hk := k0.trans k2
    clear hen
    go_wp2_with fail
    obtain ⟨Z, hZ⟩ : ∃ Z, Z = w2.setCells w.heap.size 0 [.int .i64 0, .int .i64 0, .int .i64 0, .slice none 0 0] := ⟨_, rfl⟩
    have hz : Z.heap[w.heap.size]? = some (.cells #[.int .i64 0, .int .i64 0, .int .i64 0, .slice none 0 0] 36 (0, 0)) := by rw [hZ]; exact setCells_whole b2 rfl
    have hkw : Kp [w.heap.size] w2 Z := hZ ▸ Kp.setCells (.inl (by simp)) _ _ (Kp.refl _ _)
    have hkz : Kp [] w Z := hk.step hkw (fun i hi hm => by simp only [List.mem_singleton] at hm; omega)
    refine cast (congrArg (fun u => bodyPost _ _ _ _ _ u) hZ) ?_
    clear hZ
    obtain ⟨y0, y1, y2, y3⟩ := read4 hz
    exact bodyPost_ret (ret4k_kVolume _ _ w.heap.size _ (by kernel_rfl) (by kernel_rfl) y0 y1 y2 y3) rfl ⟨_, by rw [HZ.out]; rfl, by rw [HZ.out]; exact nil_locs _ _, hkz⟩
  | some i =>
    have hr : ∃ hi : i < k.V.length, G = (k.V[i], 0) := by
      obtain ⟨hi, hf⟩ := find_idx (p := fun e : VolD => decide (e.id = d)) (show k.V.findIdx? _ = some i from HP.out.symm)
      refine ⟨hi, ?_⟩
      rw [HG.out]
      unfold Rx.vol
      rw [hf]
    obtain ⟨hi, hr⟩ := hr
    have HZ := Lib.hid hr
    simp only [placeI] at hen
    clear hr
    obtain ⟨eA, eC, gA, gC, vA, vC, hA, hC, hat⟩ := hri.open
    obtain ⟨g, o, c, lv, hv', hlv, e0, e1, e2, e3⟩ := hat.volsAt.2 i hi
    simp only [Value.slice.injEq] at hv'
    obtain ⟨rfl, -, rfl⟩ := hv'
    have c0 := Kp.cellAt (X := []) (cell_of_cells (o := 2) hat.top rfl) (by simp)
    have hiI : (i : Int) < (k.V.length : Int) := by omega
    have hi0 : (0 : Int) ≤ (i : Int) := by omega
    obtain ⟨⟨a1, a2, a3, a4⟩, hx⟩ : ∃ x, x = k.V[i] := ⟨_, rfl⟩
    rw [← hx] at e0 e1 e2 hlv
    simp only at e0 e1 e2 hlv
    obtain ⟨sa, sc, rfl⟩ := slice_ex hlv
    have HX := Lib.hid hx
    clear hx
    go_enter Tryz.func37, Tryz.ntmps37
    go_wp2_with fail
    rw [← Hw0.out]
    refine hen.mono ?_
    rintro e w2 ⟨rfl, k2⟩
    have b2 := (k2.block _ (lt_of_block b0) (by simp)).trans b0
    have fz := frozen_of_cells b2
    obtain ⟨z0, z1, z2, z3⟩ := read4 b2
    have hk := k0.trans k2
    have c0' := c0 _ k2
    have d0 := Kp.cellAt (X := []) e0 (by simp) _ k2
    have d1 := Kp.cellAt (X := []) e1 (by simp) _ k2
    have d2 := Kp.cellAt (X := []) e2 (by simp) _ k2
    have d3 := Kp.cellAt (X := []) e3 (by simp) _ k2
    have hl2 := hlv.keep0 k2
    clear hen e0 e1 e2 e3 hlv
    go_wp2_with fail
    obtain ⟨Z, hZ⟩ : ∃ Z, Z = w2.setCells w.heap.size 0 [.int .i64 a1, .int .i64 a2, .int .i64 a3, .slice sa a4.length sc] := ⟨_, rfl⟩
    have hz : Z.heap[w.heap.size]? = some (.cells #[.int .i64 a1, .int .i64 a2, .int .i64 a3, .slice sa a4.length sc] 36 (0, 0)) := by rw [hZ]; exact setCells_whole b2 rfl
    have hkw : Kp [w.heap.size] w2 Z := hZ ▸ Kp.setCells (.inl (by simp)) _ _ (Kp.refl _ _)
    have hkz : Kp [] w Z := hk.step hkw (fun i hi hm => by simp only [List.mem_singleton] at hm; omega)
    refine cast (congrArg (fun u => bodyPost _ _ _ _ _ u) hZ) ?_
    clear hZ
    obtain ⟨y0, y1, y2, y3⟩ := read4 hz
    refine bodyPost_ret (ret4k_kVolume _ _ w.heap.size _ (by kernel_rfl) (by kernel_rfl) y0 y1 y2 y3) rfl ⟨_, by rw [HZ.out]; simp only; rw [← HX.out]; rfl, ?_, hkz⟩
    rw [HZ.out]
    simp only
    rw [← HX.out]
    exact hl2.keep hkw (by intro i hi; simp only [List.mem_singleton] at hi; omega)
end Go.Proofs.YtdhhddifmkijhaaGreat
