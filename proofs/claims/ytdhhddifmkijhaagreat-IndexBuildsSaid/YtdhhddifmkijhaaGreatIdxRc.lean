/-
  The document's index, and where it lies; what it tells.
-/
import Derived.Test.YtdhhddifmkijhaaGreatIdxRb
import Derived.Test.YtdhhddifmkijhaaGreatIdxPl
import Derived.Test.YtdhhddifmkijhaaGreatIdxX
import Derived.Test.YtdhhddifmkijhaaGreatIdxR
namespace Go.Proofs.YtdhhddifmkijhaaGreat
open Go.RowKit

/-- the document's index: entries, gone keys, volumes by their IDs, the IDs that were -/
structure Rx where
  E : List EntD
  G : List ByteArray
  V : List VolD
  H : List Int
/-- where it lies: above block B, but for the volumes' places, which lie below -/
structure RAt (B kb : Nat) (w : World) (k : Rx) (vE vG vV vH : Value) : Prop where
  top : w.heap[kb]? = some (.cells #[vE, vG, vV, vH] 32 (0, 0))
  low : B ≤ kb
  ents : w.ownsRow B 38 5 vE k.E.length (k.E.flatMap EntV)
  gone : w.ownsRow B 9 1 vG k.G.length (k.G.map Value.string)
  vols : ∃ vls : List (VolD × Value), vls.map (·.1) = k.V ∧ w.ownsRow B 36 4 vV k.V.length (vls.flatMap volC) ∧ ∀ q ∈ vls, LocsAt B w q.2 q.1.locs
  had : w.ownsRow B 3 1 vH k.H.length (k.H.map (Value.int .i64))
def RIn (B kb : Nat) (w : World) (k : Rx) : Prop := ∃ vE vG vV vH, RAt B kb w k vE vG vV vH
theorem RAt.keep0 {B kb : Nat} {w w' : World} {k : Rx} {vE vG vV vH : Value} (h : RAt B kb w k vE vG vV vH) (k0 : Kp [] w w') : RAt B kb w' k vE vG vV vH := by
  obtain ⟨vls, h1, h2, h3⟩ := h.vols
  exact ⟨(k0.block _ (lt_of_block h.top) (by simp)).trans h.top, h.low, owns_other h.ents k0 (fun _ _ => by simp), owns_other h.gone k0 (fun _ _ => by simp), ⟨vls, h1, owns_other h2 k0 (fun _ _ => by simp), fun q hq => (h3 q hq).keep0 k0⟩, owns_other h.had k0 (fun _ _ => by simp)⟩
theorem RIn.keep0 {B kb : Nat} {w w' : World} {k : Rx} (h : RIn B kb w k) (k0 : Kp [] w w') : RIn B kb w' k := by
  obtain ⟨a, b, c, d, h⟩ := h
  exact ⟨a, b, c, d, h.keep0 k0⟩
/-- the four slices, written out -/
theorem RIn.open {B kb : Nat} {w : World} {k : Rx} (h : RIn B kb w k) : ∃ eA eC gA gC vA vC hA hC, RAt B kb w k (.slice eA k.E.length eC) (.slice gA k.G.length gC) (.slice vA k.V.length vC) (.slice hA k.H.length hC) := by
  obtain ⟨vE, vG, vV, vH, h⟩ := h
  obtain ⟨eA, eC, rfl⟩ := ownsRow_ex h.ents
  obtain ⟨gA, gC, rfl⟩ := ownsRow_ex h.gone
  obtain ⟨vls, h1, h2, h3⟩ := h.vols
  obtain ⟨vA, vC, rfl⟩ := ownsRow_ex h2
  obtain ⟨hA, hC, rfl⟩ := ownsRow_ex h.had
  exact ⟨eA, eC, gA, gC, vA, vC, hA, hC, h⟩
theorem entV_len (e : EntD) : (EntV e).length = 5 := rfl
theorem ent_at {B : Nat} {w : World} {v : Value} {l : List EntD} (h : SliceAt B w v 5 l.length (l.flatMap EntV)) (i : Nat) (hi : i < l.length) : ∃ g o c, v = .slice (some ⟨g, o, none⟩) l.length c ∧ w.cell? ⟨g, o + i * 5, none⟩ = some (.string l[i].key) ∧ w.cell? ⟨g, o + i * 5 + 1, none⟩ = some (.int .i64 l[i].vol) ∧ w.cell? ⟨g, o + i * 5 + 2, none⟩ = some (.int .i64 l[i].off) ∧ w.cell? ⟨g, o + i * 5 + 3, none⟩ = some (.int .i64 l[i].len) ∧ w.cell? ⟨g, o + i * 5 + 4, none⟩ = some (.string l[i].dig) := by
  obtain ⟨av, cap, rfl⟩ := slice_ex h
  obtain ⟨g, o, rfl, hc, -, hb, hcell⟩ := h.cells (by omega)
  have hp := fun r hr => flat_at EntV 5 entV_len l i r hi hr
  refine ⟨g, o, cap, rfl, hcell (i * 5 + 0) _ (hp 0 (by decide)), ?_, ?_, ?_, ?_⟩
  · rw [Nat.add_assoc]; exact hcell (i * 5 + 1) _ (hp 1 (by decide))
  · rw [Nat.add_assoc]; exact hcell (i * 5 + 2) _ (hp 2 (by decide))
  · rw [Nat.add_assoc]; exact hcell (i * 5 + 3) _ (hp 3 (by decide))
  · rw [Nat.add_assoc]; exact hcell (i * 5 + 4) _ (hp 4 (by decide))
theorem int_at {B : Nat} {w : World} {v : Value} {l : List Int} (h : SliceAt B w v 1 l.length (l.map (Value.int .i64))) (i : Nat) (hi : i < l.length) : ∃ g o c, v = .slice (some ⟨g, o, none⟩) l.length c ∧ w.cell? ⟨g, o + i, none⟩ = some (.int .i64 l[i]) := by
  obtain ⟨av, cap, rfl⟩ := slice_ex h
  obtain ⟨g, o, rfl, hc, -, -, hcell⟩ := h.cells (by omega)
  exact ⟨g, o, cap, rfl, hcell i _ (by rw [List.getElem?_map, List.getElem?_eq_getElem hi]; rfl)⟩
theorem RAt.volsAt {B kb : Nat} {w : World} {k : Rx} {vE vG vV vH : Value} (h : RAt B kb w k vE vG vV vH) : VolsAt w.heap.size w vV k.V ∧ ∀ i (hi : i < k.V.length), ∃ g o c lv, vV = .slice (some ⟨g, o, none⟩) k.V.length c ∧ LocsAt B w lv k.V[i].locs ∧ w.cell? ⟨g, o + i * 4, none⟩ = some (.int .i64 k.V[i].id) ∧ w.cell? ⟨g, o + i * 4 + 1, none⟩ = some (.int .i64 k.V[i].gen) ∧ w.cell? ⟨g, o + i * 4 + 2, none⟩ = some (.int .i64 k.V[i].len) ∧ w.cell? ⟨g, o + i * 4 + 3, none⟩ = some lv := by
  obtain ⟨vls, h1, h2, h3⟩ := h.vols
  obtain ⟨vA, vC, rfl⟩ := ownsRow_ex h2
  have hsl := SliceAt.of_owns h2
  refine ⟨⟨vls, vA, vC, rfl, h1, hsl, fun q hq => ?_⟩, fun i hi => ?_⟩
  · obtain ⟨hl, av, cap, hv, hi⟩ := h3 q hq
    exact ⟨hl, av, cap, hv, fun hn => by obtain ⟨b, o, e1, e2, e3, e4, e5⟩ := hi hn; exact ⟨b, o, e1, e2, e4, e4, e5⟩⟩
  · obtain ⟨g, o, rfl, hc, -, hb, hcell⟩ := hsl.cells (by omega)
    have hlv : vls.length = k.V.length := by rw [← h1, List.length_map]
    have hi' : i < vls.length := by omega
    have hp := fun r hr => flat_at volC 4 volC_len vls i r hi' hr
    have he : k.V[i] = vls[i].1 := by
      have : k.V[i]? = some vls[i].1 := by rw [← h1, List.getElem?_map, List.getElem?_eq_getElem hi']; rfl
      rw [List.getElem?_eq_getElem hi] at this
      exact Option.some.inj this
    rw [he]
    refine ⟨g, o, vC, vls[i].2, rfl, h3 _ (List.getElem_mem hi'), hcell (i * 4 + 0) _ (hp 0 (by decide)), ?_, ?_, ?_⟩
    · rw [Nat.add_assoc]; exact hcell (i * 4 + 1) _ (hp 1 (by decide))
    · rw [Nat.add_assoc]; exact hcell (i * 4 + 2) _ (hp 2 (by decide))
    · rw [Nat.add_assoc]; exact hcell (i * 4 + 3) _ (hp 3 (by decide))
/-- the place of a key, of a volume: -1 where there is none -/
def placeI (o : Option Nat) : Int := match o with
  | some i => i
  | none => -1
def Rx.entry (k : Rx) (key : ByteArray) : Option Nat := k.E.findIdx? fun e => decide (e.key = key)
def Rx.place (k : Rx) (id : Int) : Option Nat := k.V.findIdx? fun v => decide (v.id = id)
def Rx.known (k : Rx) (key : ByteArray) : Bool := has k.G key || (k.entry key).isSome
def Rx.get (k : Rx) (key : ByteArray) : EntD × Int := match k.E.find? fun e => decide (e.key = key) with
  | some e => (e, 0)
  | none => (zeroEnt, 9)
def Rx.vol (k : Rx) (id : Int) : VolD × Int := match k.V.find? fun v => decide (v.id = id) with
  | some v => (v, 0)
  | none => (zeroVol, 9)
set_option maxHeartbeats 1000000 in
set_option maxRecDepth 20000 in
theorem khad {B kb : Nat} {k : Rx} (d : Int) (w : World) (h : RIn B kb w k) (hz : k.H.length ≤ 1000) : Calls Tryz.prog 27 #[.pointer (some ⟨kb, 0, none⟩), .int .i64 d] w fun e w' => e = .returned (.bool (has k.H d)) ∧ Kp [] w w' := by
  obtain ⟨eA, eC, gA, gC, vA, vC, hA, hC, h⟩ := h.open
  have c3 := Kp.cellAt (X := []) (cell_of_cells (o := 3) h.top rfl) (by simp)
  have hs := SliceAt.of_owns h.had
  have hK := Kp.refl [] w
  go_enter Tryz.func27, Tryz.ntmps27
  go_wp2_with fail
  go_loopg [5] k.H.length (fun g i wr => ∃ n : Nat, n + g = k.H.length ∧ i = .int .i64 n ∧ Kp [] w wr ∧ ∀ j (hj : j < k.H.length), j < n → k.H[j] ≠ d)
  case atStart => exact ⟨0, by omega, rfl, hK, fun j _ h => absurd h (Nat.not_lt_zero _)⟩
  case round =>
    clear hK
    obtain ⟨n, hn, rfl, hK, hno⟩ := hrel
    have HN := Lib.hid hn
    have HNO := Lib.hid hno
    clear hno
    by_cases hlt : n < k.H.length
    · obtain ⟨g', rfl⟩ : ∃ g', gk = g' + 1 := ⟨gk - 1, by omega⟩
      clear hn
      have hltI : (n : Int) < (k.H.length : Int) := by omega
      obtain ⟨g, o, c, hv', e1⟩ := int_at hs n hlt
      simp only [Value.slice.injEq] at hv'
      obtain ⟨rfl, -, rfl⟩ := hv'
      have d1 := Kp.cellAt (X := []) e1 (by simp) wr hK
      obtain ⟨q, hq⟩ : ∃ q, q = k.H[n] := ⟨_, rfl⟩
      rw [← hq] at d1
      have HQ := Lib.hid hq
      clear e1 hq
      by_cases hqd : q = d
      · have hb : (q == d) = true := by simp [hqd]
        have hr : has k.H d = true := has_iff.2 (by rw [← hqd, HQ.out]; exact List.getElem_mem hlt)
        have HZ := Lib.hid hr
        clear hr hqd
        go_wp2_with fail
        go_ret
        exact ⟨by rw [HZ.out]; rfl, hK⟩
      · have hb := int_ne hqd
        have hne2 : ∀ j (hj : j < k.H.length), j < n + 1 → k.H[j] ≠ d := fun j hj hjm => by
          by_cases e : j = n
          · subst e; rw [← HQ.out]; exact hqd
          · exact HNO.out j hj (by omega)
        have HN2 := Lib.hid hne2
        clear hne2 hqd
        go_wp2_with fail
        go_roundg g'
        case rel => exact ⟨n + 1, st_next HN.out, by go_num, hK, HN2.out⟩
        case measure => omega
    · obtain rfl : n = k.H.length := by omega
      obtain rfl : gk = 0 := by omega
      have hr : has k.H d = false := has_false.2 (fun hm => by
        obtain ⟨j, hj, he⟩ := List.getElem_of_mem hm
        exact HNO.out j hj hj he)
      have HZ := Lib.hid hr
      clear hr hn
      go_wp2_with fail
      go_ret
      exact ⟨by rw [HZ.out]; rfl, hK⟩
theorem foldl_take_next (H : List Int) {n : Nat} (h : n < H.length) : nextOf (H.take (n + 1)) = max (nextOf (H.take n)) (H[n] + 1) := by rw [take_next h, nextOf_snoc]
theorem nextOf_le {H : List Int} (h : ∀ d ∈ H, d ≤ 1099511627776) : nextOf H ≤ 1099511627777 := by
  have : ∀ (H : List Int) (a : Int), a ≤ 1099511627777 → (∀ d ∈ H, d ≤ 1099511627776) → H.foldl (fun n d => max n (d + 1)) a ≤ 1099511627777 := by
    intro H
    induction H with
    | nil => intro a ha _; exact ha
    | cons x r ih =>
      intro a ha hd
      simp only [List.foldl_cons]
      exact ih _ (by have := hd x (List.mem_cons_self ..); omega) (fun d h => hd d (List.mem_cons_of_mem _ h))
  exact this H 0 (by omega) h
set_option maxHeartbeats 1000000 in
set_option maxRecDepth 20000 in
theorem knext {B kb : Nat} {k : Rx} (w : World) (h : RIn B kb w k) (hz : k.H.length ≤ 1000) (hh : ∀ d ∈ k.H, 0 ≤ d ∧ d ≤ 1099511627776) : Calls Tryz.prog 46 #[.pointer (some ⟨kb, 0, none⟩)] w fun e w' => e = .returned (.int .i64 (nextOf k.H)) ∧ Kp [] w w' := by
  obtain ⟨eA, eC, gA, gC, vA, vC, hA, hC, h⟩ := h.open
  have c3 := Kp.cellAt (X := []) (cell_of_cells (o := 3) h.top rfl) (by simp)
  have hs := SliceAt.of_owns h.had
  have hK := Kp.refl [] w
  go_enter Tryz.func46, Tryz.ntmps46
  go_wp2_with fail
  go_loopg [3, 4] k.H.length (fun g m i wr => ∃ n : Nat, n + g = k.H.length ∧ i = .int .i64 n ∧ Kp [] w wr ∧ m = .int .i64 (nextOf (k.H.take n)))
  case atStart => exact ⟨0, by omega, rfl, hK, rfl⟩
  case round =>
    clear hK
    obtain ⟨n, hn, rfl, hK, rfl⟩ := hrel
    have HN := Lib.hid hn
    by_cases hlt : n < k.H.length
    · obtain ⟨g', rfl⟩ : ∃ g', gk = g' + 1 := ⟨gk - 1, by omega⟩
      clear hn
      have hltI : (n : Int) < (k.H.length : Int) := by omega
      obtain ⟨g, o, c, hv', e1⟩ := int_at hs n hlt
      simp only [Value.slice.injEq] at hv'
      obtain ⟨rfl, -, rfl⟩ := hv'
      have d1 := Kp.cellAt (X := []) e1 (by simp) wr hK
      have hst := foldl_take_next k.H hlt
      have hb := hh _ (List.getElem_mem hlt)
      obtain ⟨q, hq⟩ : ∃ q, q = k.H[n] := ⟨_, rfl⟩
      obtain ⟨N0, hN0⟩ : ∃ N0, N0 = nextOf (k.H.take n) := ⟨_, rfl⟩
      rw [← hq] at d1 hst hb
      rw [← hN0] at hst ⊢
      have HST := Lib.hid hst
      clear e1 hq hst hN0
      have hwr := wrap_id (q + 1) (by omega) (by omega)
      go_wp2_with fail
      go_roundg g'
      case rel => exact ⟨n + 1, st_next HN.out, by go_num, hK, by rw [HST.out]⟩
      case measure => omega
    · obtain rfl : n = k.H.length := by omega
      obtain rfl : gk = 0 := by omega
      rw [List.take_length]
      clear hn
      go_wp2_with fail
      go_ret
      exact ⟨rfl, hK⟩
end Go.Proofs.YtdhhddifmkijhaaGreat
