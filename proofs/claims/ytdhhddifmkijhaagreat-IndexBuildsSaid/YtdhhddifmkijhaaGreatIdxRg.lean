/-
  The document's index: what turns and what stays; without, lay.
-/
import Derived.Test.YtdhhddifmkijhaaGreatIdxRf
import Derived.Test.YtdhhddifmkijhaaGreatIdxLv
namespace Go.Proofs.YtdhhddifmkijhaaGreat
open Go.RowKit Go.ChangeMaps Go.Maps Go.WideShapes Go.WideMaps Go.WideElems Go.MapKept Go.ChangeShapes

/-- only rows above B, of other things than places and indexes, have turned -/
def Turn (B : Nat) (w w' : World) : Prop := ∃ Y : List Nat, Kp Y w w' ∧ ∀ g ∈ Y, B ≤ g ∧ ∃ cur t z, w.heap[g]? = some (.cells cur t z) ∧ t ≠ 88 ∧ t ≠ 70 ∧ t ≠ 36
theorem Turn.of_kp {B : Nat} {w w' : World} (k : Kp [] w w') : Turn B w w' := ⟨[], k, by simp⟩
theorem Turn.trans {B : Nat} {a b c : World} (h : Turn B a b) (k : Turn B b c) : Turn B a c := by
  obtain ⟨Y1, k1, h1⟩ := h
  obtain ⟨Y2, k2, h2⟩ := k
  refine ⟨Y1 ++ Y2.filter (fun g => decide (g < a.heap.size)), ⟨k2.os.trans k1.os, k2.tape.trans k1.tape, k2.output.trans k1.output, Nat.le_trans k1.size k2.size, fun i hi hm => ?_⟩, fun g hg => ?_⟩
  · rw [List.mem_append, not_or] at hm
    have hm2 : i ∉ Y2 := fun h => hm.2 (List.mem_filter.2 ⟨h, decide_eq_true hi⟩)
    exact (k2.block i (Nat.lt_of_lt_of_le hi k1.size) hm2).trans (k1.block i hi hm.1)
  · by_cases hg1 : g ∈ Y1
    · exact h1 g hg1
    · rw [List.mem_append, List.mem_filter] at hg
      rcases hg with hg | ⟨hg, hlt⟩
      · exact absurd hg hg1
      · have hlt := of_decide_eq_true hlt
        obtain ⟨hB, cur, t, z, hc, ht⟩ := h2 g hg
        exact ⟨hB, cur, t, z, (k1.block g hlt hg1).symm.trans hc, ht⟩
theorem Turn.kp {B : Nat} {w0 w w' : World} (h : Turn B w w') (k : Kp [] w0 w) (hB : w0.heap.size ≤ B) : Kp [] w0 w' := by
  obtain ⟨Y, k1, h1⟩ := h
  exact k.step k1 (fun i hi hm => by have := (h1 i hm).1; omega)
theorem Turn.ix {B : Nat} {w w' : World} (h : Turn B w w') {I : Ib} {x : Ix} (hx : IxAt I w x) : IxAt I w' x := by
  obtain ⟨Y, k1, h1⟩ := h
  exact hx.keepRows k1 (fun g hg => by
    obtain ⟨-, cur, t, z, e, e1, e2, -⟩ := h1 g hg
    exact ⟨cur, t, z, e, e1, e2⟩)
theorem Turn.vbox {B : Nat} {w w' : World} (h : Turn B w w') {b : Nat} {cur : Array Value} {z : Nat × Nat} (hb : w.heap[b]? = some (.cells cur 36 z)) : w'.heap[b]? = some (.cells cur 36 z) := by
  obtain ⟨Y, k1, h1⟩ := h
  refine (k1.block b (lt_of_block hb) (fun hm => ?_)).trans hb
  obtain ⟨-, cur', t, z', e, -, -, e3⟩ := h1 b hm
  rw [hb] at e
  simp only [Option.some.injEq, Obj.cells.injEq] at e
  exact e3 e.2.1.symm
theorem Turn.locs {B : Nat} {w w' : World} (h : Turn B w w') {v : Value} {l : List (Int × Int)} (hl : LocsAt B w v l) : LocsAt B w' v l := by
  obtain ⟨Y, k1, h1⟩ := h
  obtain ⟨hn, av, cap, hv, hi⟩ := hl
  exact ⟨hn, av, cap, hv, fun h0 => by
    obtain ⟨b, o, e1, e2, e3, e4, e5⟩ := hi h0
    exact ⟨b, o, e1, e2, e3, Nat.lt_of_lt_of_le e4 k1.size, fun j u hu => (k1.cell e4 (fun hm => by have := (h1 b hm).1; omega)).trans (e5 j u hu)⟩⟩
theorem Turn.size {B : Nat} {w w' : World} (h : Turn B w w') : w.heap.size ≤ w'.heap.size := by
  obtain ⟨Y, k1, -⟩ := h
  exact k1.size
theorem owns_cells {W : World} {base : Nat} {e : TypeId} {sz n : Nat} {v : Value} {xs : List Value} (h : W.ownsRow base e sz v n xs) : ∀ g, v.ownBlock = some g → base ≤ g ∧ ∃ cur, W.heap[g]? = some (.cells cur e (0, 0)) := by
  intro g hg
  refine ⟨own_block_ge h g hg, ?_⟩
  obtain ⟨hl, ⟨hv, hn⟩ | ⟨g', cap, cur, hv, hg', hb, hc, hm, hs, ht⟩⟩ := h
  · rw [hv] at hg; cases hg
  · rw [hv] at hg
    obtain rfl : g' = g := by simpa [Value.ownBlock] using hg
    exact ⟨cur, hb⟩
theorem Turn.of_own {B base : Nat} {w w' : World} {e : TypeId} {sz n : Nat} {v : Value} {xs : List Value} (h : w.ownsRow base e sz v n xs) (hb : B ≤ base) (k : Kp v.ownBlock.toList w w') (he : e ≠ 88 ∧ e ≠ 70 ∧ e ≠ 36) : Turn B w w' :=
  ⟨_, k, fun g hg => by
    rw [Option.mem_toList] at hg
    obtain ⟨h1, cur, h2⟩ := owns_cells h g hg
    exact ⟨Nat.le_trans hb h1, cur, e, _, h2, he⟩⟩
theorem Turn.of_block {B b : Nat} {w w' : World} {cur : Array Value} {t : TypeId} {z : Nat × Nat} (hb : B ≤ b) (hc : w.heap[b]? = some (.cells cur t z)) (k : Kp [b] w w') (he : t ≠ 88 ∧ t ≠ 70 ∧ t ≠ 36) : Turn B w w' :=
  ⟨_, k, fun g hg => by rw [List.mem_singleton] at hg; subst hg; exact ⟨hb, cur, t, z, hc, he⟩⟩
/-- a row of one's own is not a block of another type -/
theorem owns_not {W : World} {base : Nat} {e : TypeId} {sz n : Nat} {v : Value} {xs : List Value} (h : W.ownsRow base e sz v n xs) {b : Nat} {cur : Array Value} {t : TypeId} {z : Nat × Nat} (hb : W.heap[b]? = some (.cells cur t z)) (he : e ≠ t) : ∀ g, v.ownBlock = some g → g ∉ [b] := by
  intro g hg hm
  rw [List.mem_singleton] at hm
  subst hm
  obtain ⟨-, cur2, h2⟩ := owns_cells h g hg
  rw [hb] at h2
  simp only [Option.some.injEq, Obj.cells.injEq] at h2
  exact he h2.2.1.symm
/-- the document's index stays where the program's own blocks turn -/
theorem RIn.keepX {B kb : Nat} {w w' : World} {k : Rx} (h : RIn B kb w k) {I : Ib} {x : Ix} (hx : IxAt I w x) (hX : ∀ i ∈ I.X, B ≤ i) (kk : Kp I.X w w') : RIn B kb w' k := by
  obtain ⟨vE, vG, vV, vH, h⟩ := h
  have hne : ∀ (g : Nat) (cur : Array Value) (t : TypeId) (z : Nat × Nat), w.heap[g]? = some (.cells cur t z) → t ≠ 70 → g ∉ I.X := by
    intro g cur t z hc ht hm
    have hmap : ∀ {α : Type} {enc : α → Value} {b : Nat} {kvs : List (α × Value)}, MapK enc w b kvs → g ≠ b := fun hk e => by
      obtain ⟨es, clock, h2, -⟩ := hk
      rw [← e, hc] at h2
      cases h2
    simp only [Ib.X, List.mem_cons, List.not_mem_nil, or_false] at hm
    rcases hm with rfl | rfl | rfl | rfl | rfl
    · rw [hx.top] at hc
      simp only [Option.some.injEq, Obj.cells.injEq] at hc
      exact ht hc.2.1.symm
    · exact hmap hx.ents rfl
    · exact hmap hx.gone rfl
    · obtain ⟨VS, -, h2, -⟩ := hx.vols
      exact hmap h2 rfl
    · exact hmap hx.had rfl
  have hrow : ∀ {e : TypeId} {sz n : Nat} {v : Value} {xs : List Value}, w.ownsRow B e sz v n xs → e ≠ 70 → w'.ownsRow B e sz v n xs := fun hr he => owns_other hr kk (fun g hg => by
    obtain ⟨-, cur, hc⟩ := owns_cells hr g hg
    exact hne g cur _ _ hc he)
  obtain ⟨vls, h1, h2, h3⟩ := h.vols
  refine ⟨vE, vG, vV, vH, (kk.block _ (lt_of_block h.top) (hne _ _ _ _ h.top (by decide))).trans h.top, h.low, hrow h.ents (by decide), hrow h.gone (by decide), ⟨vls, h1, hrow h2 (by decide), fun q hq => ?_⟩, hrow h.had (by decide)⟩
  obtain ⟨hn, av, cap, hv, hi⟩ := h3 q hq
  exact ⟨hn, av, cap, hv, fun h0 => by
    obtain ⟨b, o, e1, e2, e3, e4, e5⟩ := hi h0
    exact ⟨b, o, e1, e2, e3, Nat.lt_of_lt_of_le e4 kk.size, fun j u hu => (kk.cell e4 (fun hm => by have := hX b hm; omega)).trans (e5 j u hu)⟩⟩
theorem oneCell_vc (q : VolD × Value) (a : Option Addr) (n c : Nat) (h : q.2 = .slice a n c) : ∀ u, u ∈ volC q → u.oneCell' = true := by
  intro u hu
  unfold volC at hu
  rw [h] at hu
  simp only [List.mem_cons, List.not_mem_nil, or_false] at hu
  rcases hu with rfl | rfl | rfl | rfl <;> rfl
/-- a list of volumes without one -/
def dropV (d : Int) (vls : List (VolD × Value)) : List (VolD × Value) := vls.filter fun q => !decide (q.1.id = d)
theorem vols_cell {B : Nat} {w : World} {v : Value} {vls : List (VolD × Value)} (h : SliceAt B w v 4 vls.length (vls.flatMap volC)) (i : Nat) (hi : i < vls.length) : ∃ g o c, v = .slice (some ⟨g, o, none⟩) vls.length c ∧ w.cell? ⟨g, o + i * 4, none⟩ = some (.int .i64 vls[i].1.id) ∧ w.cell? ⟨g, o + i * 4 + 1, none⟩ = some (.int .i64 vls[i].1.gen) ∧ w.cell? ⟨g, o + i * 4 + 2, none⟩ = some (.int .i64 vls[i].1.len) ∧ w.cell? ⟨g, o + i * 4 + 3, none⟩ = some vls[i].2 := by
  obtain ⟨av, cap, rfl⟩ := slice_ex h
  obtain ⟨g, o, rfl, hc, -, hb, hcell⟩ := h.cells (by omega)
  have hp := fun r hr => flat_at volC 4 volC_len vls i r hi hr
  refine ⟨g, o, cap, rfl, hcell (i * 4 + 0) _ (hp 0 (by decide)), ?_, ?_, ?_⟩
  · rw [Nat.add_assoc]; exact hcell (i * 4 + 1) _ (hp 1 (by decide))
  · rw [Nat.add_assoc]; exact hcell (i * 4 + 2) _ (hp 2 (by decide))
  · rw [Nat.add_assoc]; exact hcell (i * 4 + 3) _ (hp 3 (by decide))
set_option maxHeartbeats 2000000 in
set_option maxRecDepth 20000 in
theorem kwithout (vls : List (VolD × Value)) (d : Int) (v : Value) (B : Nat) (w : World) (hs : SliceAt B w v 4 vls.length (vls.flatMap volC)) (hz : vls.length ≤ 1000) (hsl : ∀ q ∈ vls, ∃ a n c, q.2 = .slice a n c) :
    Calls Tryz.prog 64 #[v, .int .i64 d] w fun e w' => ∃ av cv, e = .returned (.slice av (dropV d vls).length cv) ∧ w'.ownsRow w.heap.size 36 4 (.slice av (dropV d vls).length cv) (dropV d vls).length ((dropV d vls).flatMap volC) ∧ Kp [] w w' := by
  obtain ⟨va, vc, rfl⟩ := slice_ex hs
  obtain ⟨i0, hi, hz0, hz1, hz2⟩ := info_parts Tryz.info36
  have hK := Kp.refl [] w
  have hO : w.ownsRow w.heap.size 36 4 (.slice none 0 0) 0 [] := ⟨rfl, .inl ⟨rfl, rfl⟩⟩
  have hd0 : dropV d (vls.take 0) = [] := rfl
  go_enter Tryz.func64, Tryz.ntmps64
  go_wp2_with fail
  go_loopg [5, 6] vls.length (fun g o i wr => ∃ (n : Nat) (av : Option Addr) (cv : Nat), n + g = vls.length ∧ i = .int .i64 n ∧ o = .slice av (dropV d (vls.take n)).length cv ∧ Kp [] w wr ∧ wr.ownsRow w.heap.size 36 4 (.slice av (dropV d (vls.take n)).length cv) (dropV d (vls.take n)).length ((dropV d (vls.take n)).flatMap volC))
  case atStart => exact ⟨0, none, 0, by omega, rfl, rfl, hK, hO⟩
  case round =>
    clear hK hO
    obtain ⟨n, av, cv, hn, rfl, rfl, hK, hO⟩ := hrel
    have HN := Lib.hid hn
    by_cases hlt : n < vls.length
    · obtain ⟨g', rfl⟩ : ∃ g', gk = g' + 1 := ⟨gk - 1, by omega⟩
      clear hn
      have hltI : (n : Int) < (vls.length : Int) := by omega
      obtain ⟨g, o, c, hv', e0, e1, e2, e3⟩ := vols_cell hs n hlt
      simp only [Value.slice.injEq] at hv'
      obtain ⟨rfl, -, rfl⟩ := hv'
      obtain ⟨qa, qn, qc, hq2⟩ := hsl _ (List.getElem_mem hlt)
      have hst : dropV d (vls.take (n + 1)) = dropV d (vls.take n) ++ if vls[n].1.id = d then [] else [vls[n]] := by
        unfold dropV
        rw [take_next hlt, List.filter_append]
        congr 1
        by_cases h : vls[n].1.id = d <;> simp [h]
      have hlen : (dropV d (vls.take n)).length ≤ 1000 := by
        have h1 : (dropV d (vls.take n)).length ≤ (vls.take n).length := List.length_filter_le _ _
        rw [List.length_take] at h1
        omega
      rw [hq2] at e3
      have d0 := Kp.cellAt (X := []) e0 (by simp) wr hK
      have d1 := Kp.cellAt (X := []) e1 (by simp) wr hK
      have d2 := Kp.cellAt (X := []) e2 (by simp) wr hK
      have d3 := Kp.cellAt (X := []) e3 (by simp) wr hK
      obtain ⟨⟨⟨q0, q1, q2, ql⟩, qv⟩, hq⟩ : ∃ q, q = vls[n] := ⟨_, rfl⟩
      rw [← hq] at d0 d1 d2 hst hq2
      simp only at d0 d1 d2 hst hq2
      subst hq2
      have HQ := Lib.hid hq
      obtain ⟨L, hL⟩ : ∃ L, L = dropV d (vls.take n) := ⟨_, rfl⟩
      rw [← hL] at hst hlen hO ⊢
      have HL := Lib.hid hL
      have HO := Lib.hid hO
      have hge := own_block_ge hO
      clear e0 e1 e2 e3 hq hL hO
      by_cases hqd : q0 = d
      · have hb : (q0 != d) = false := by simp [hqd]
        rw [if_pos hqd, List.append_nil] at hst
        have HST := Lib.hid hst
        clear hqd hst
        go_wp2_with fail
        go_roundg g'
        case rel => exact ⟨n + 1, av, cv, st_next HN.out, by go_num, by rw [HST.out], hK, by rw [HST.out]; exact HO.out⟩
        case measure => omega
      · have hb : (q0 != d) = true := by simpa using hqd
        rw [if_neg hqd] at hst
        have HST := Lib.hid hst
        have hsk := hK.size
        clear hqd hst
        go_wp2_with (first | (at_builtin; refine wpList_append_mine _ rfl (.tmp 20) (.tmp 25) 29 rfl w.heap.size 36 i0 (.agg #[.int .i64 0, .int .i64 0, .int .i64 0, .slice none 0 0]) 4 48 Tryz.underlying29 hi hz0 hz1 hz2 rfl (by decide) (.slice av L.length cv) L.length (L.flatMap volC) rfl (ownsRow_keep (X := []) HO.out ((Kp.refl _ wr).alloc _) (fun _ _ => by simp)) ⟨wr.heap.size, 0, none⟩ 1 1 [.int .i64 q0, .int .i64 q1, .int .i64 q2, .slice qa qn qc] rfl rfl (new_cells wr _ _) (oneCell_vol _ _ _ _ _ _) (by unfold maxLen; omega) (by omega) (by simp; omega) ?_))
        intro v' w3 hown' hkp _ _
        obtain ⟨av', cv', rfl⟩ := ownsRow_ex hown'
        have k3 : Kp (Value.slice av L.length cv).ownBlock.toList wr w3 := ((Kp.refl _ wr).alloc _).trans hkp
        have hK3 : Kp [] w w3 := hK.step k3 (fun i hi hm => by
          rw [Option.mem_toList] at hm
          have := hge i hm; omega)
        have HOW := Lib.hid hown'
        clear hkp hown' k3 hge
        go_wp2_with fail
        go_roundg g'
        case rel => exact ⟨n + 1, av', cv', st_next HN.out, by go_num, by rw [HST.out]; simp, hK3, by rw [HST.out]; have := HOW.out; simpa [volC] using this⟩
        case measure => omega
    · obtain rfl : n = vls.length := by omega
      obtain rfl : gk = 0 := by omega
      rw [List.take_length] at hO ⊢
      have HO := Lib.hid hO
      clear hn hO
      go_wp2_with fail
      go_ret
      exact ⟨av, cv, rfl, HO.out, hK⟩
end Go.Proofs.YtdhhddifmkijhaaGreat
