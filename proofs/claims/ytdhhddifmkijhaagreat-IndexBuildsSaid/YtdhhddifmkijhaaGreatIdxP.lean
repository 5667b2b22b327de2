/-
  maps.Values over the entries, and lives.
-/
import Derived.Test.YtdhhddifmkijhaaGreatP3
import Derived.RangeFuncFrom
import Derived.RangeFuncNested
import Derived.RangeFuncBound
import Derived.RangeFuncCalls
import Derived.RangeFuncLeaves
import Derived.Shelf.RegionOpen
namespace Go.Proofs.YtdhhddifmkijhaaGreat
open Go.RowKit Go.Maps Go.Sort Go.Shelf

def decE : Value → Option EntD
  | .agg cs => match cs.toList with
    | [.string k, .int .i64 a, .int .i64 b, .int .i64 c, .string d] => some ⟨k, a, b, c, d⟩
    | _ => none
  | _ => none
abbrev evE (n : EntD) : Value := .agg (EntVA n)
theorem decE_ev (n : EntD) : decE (evE n) = some n := by cases n; rfl
theorem decE_inv {v : Value} {n : EntD} (h : decE v = some n) : v = evE n := by
  unfold decE at h
  split at h
  · rename_i cs
    split at h
    · rename_i k a b c d he
      cases h
      unfold evE EntVA
      congr 1
      apply Array.toList_inj.1
      rw [he]
    · cases h
  · cases h
theorem rDecE_inv {v : Value} {z : DataW EntD × List MemPlace} (h : rDec decE v = some z) : ∃ n, v = evE n ∧ z = (.held n, []) := by
  unfold rDec at h
  rw [Option.map_eq_some_iff] at h
  obtain ⟨n, h1, rfl⟩ := h
  exact ⟨n, decE_inv h1, rfl⟩
abbrev ValAtE (D0 : DataW EntD) (p : List UInt8 × EntD) : Prop := ∀ zd, D0.atKey (.string p.1) zd = .held p.2
def AllE (D0 : DataW EntD) (ps : List (List UInt8 × EntD)) : Prop := (∀ x, x ∈ ps.map (·.1) ↔ Maps.has D0 (.string x) = true) ∧ ∀ p ∈ ps, ValAtE D0 p
def PartE (D0 : DataW EntD) (ps : List (List UInt8 × EntD)) : Prop := ∀ p ∈ ps, ValAtE D0 p
set_option maxRecDepth 100000 in
set_option maxHeartbeats 4000000 in
theorem vals1_in (F : Fence) (n : Nat) (h8 : F.fn 87) (hro : F.round = none) (hn : 1 ≤ n) (l Bm b nn : Nat) (D0 : DataW EntD) (J Jx : List EntD → World → Prop)
    (hY : ∀ pre x W, J pre W → pre.length < Maps.size D0 → YieldAt F (n - 1) Tryz.prog l #[evE x] W fun e W' =>
      (e = .returned (.bool true) ∧ J (pre ++ [x]) W' ∧ KeepsWalks W W') ∨ (e = .returned (.bool false) ∧ Jx (pre ++ [x]) W'))
    (W : World) (hJ : AbidesFrom W.heap.size J) (hm : W.cell? ⟨Bm, 0, none⟩ = some (.map (some b))) (hown : W.ownsMap Tryz.prog 9 (rDec decE) b nn D0) (h0 : J [] W) :
    CallsIn F n Tryz.prog 87 #[.func (.yield l) #[] #[], .pointer (some ⟨Bm, 0, none⟩)] W fun e W' => (∃ v, e = .returned v) ∧
      ((∃ xs, (∃ ps, AllE D0 ps ∧ xs = ps.map (·.2)) ∧ J xs W') ∨ (∃ pre, (∃ ps, PartE D0 ps ∧ pre = ps.map (·.2)) ∧ Jx pre W')) := by
  refine callsIn_of_wp Tryz.func87 rfl h8 ?_ hro
  simp only [Tryz.ntmps87, List.size_toArray, List.length_cons, List.length_nil, Nat.reduceAdd, Nat.reduceSub, Array.replicate_succ, Array.replicate_zero, List.push_toArray, List.append_toArray, List.nil_append, List.cons_append]
  gi_wp2_with (first
    | (gi_at_range; refine wpListIn_range_own _ rfl _ 65 rfl 9 38 (string_keyed under_str) under_mEnt _ b nn _ rfl hown ?_; intro w0 hrg0 hg0 hs0)
    | gi_in)
  go_frame
  gi_loopw [4] (fun _ wr => ∃ (left : Lit → Bool) (cnt : Nat) (ps : List (List UInt8 × EntD)), wr.ranges Tryz.prog 9 (rDec decE) b W.heap.size nn D0 left cnt ∧ ps.length + cnt ≤ Maps.size D0 ∧ Collected D0 left (ps.map (·.1)) ∧ (∀ p ∈ ps, ValAtE D0 p) ∧ J (ps.map (·.2)) wr)
    (fun _ wr => wr.rangeLeft b W.heap.size)
  case atStart =>
    exact ⟨_, _, [], hrg0, by simp, Collected.start D0, by simp, hJ [] W w0 none h0 hg0 (fun r e => by cases e)⟩
  case round =>
    obtain ⟨left, cnt, ps, hrg, hcs, hC, hV, hJs⟩ := hrel
    gi_wp2_with (first
      | (gi_at_next; refine wpListIn_next_ranges _ rfl _ rfl 9 (string_keyed under_str) (rDec decE) encStr evE (fun key kl hk => by obtain ⟨x, hx, _⟩ := Maps.keyOf_str under_str hk; exact ⟨x, hx⟩) (fun v y hv => by obtain ⟨c, rfl, _⟩ := rDecE_inv hv; exact ⟨c, rfl⟩) b W.heap.size nn _ _ _ rfl hrg ?_ ?_)
      | gi_in)
    · -- nothing is left
      intro hc0 hl0
      gi_wp2
      go_end0
      exact ⟨⟨_, rfl⟩, .inl ⟨_, ⟨ps, ⟨fun x => by rw [hC.2 x, hl0]; simp, hV⟩, rfl⟩, hJs⟩⟩
    · intro x c kl yd yp w2 cnt2 hkey hlk hv hat hrg2 hlt hg2 hs2 hen
      obtain ⟨x', ex, rfl, _⟩ := Maps.keyOf_str under_str hkey
      obtain rfl : x = x' := encStr_inj ex
      obtain ⟨c', ec, ez⟩ := rDecE_inv hv
      have hcc : c = c' := by
        have := congrArg decE ec
        rw [decE_ev, decE_ev] at this
        exact Option.some.inj this
      subst hcc
      obtain rfl : yd = .held c := (Prod.mk.inj ez).1
      have hJ2 : J (ps.map (·.2)) w2 := hJ _ wr w2 (some W.heap.size) hJs hg2 (fun r e => by cases e; exact ⟨Nat.le_refl _, hrg.iter_walk⟩)
      have hC2 : Collected D0 (fun z => left z && !z.sameKey (.string x)) ((ps ++ [(x, c)]).map (·.1)) := by simpa using hC.step hlk hat
      have hV2 : ∀ p ∈ ps ++ [(x, c)], ValAtE D0 p := fun p hp => (List.mem_append.1 hp).elim (hV p) (fun e => by simp at e; subst e; exact hat)
      have hJ3 := hJ _ w2 (w2.alloc (.cells (EntVA c) 38)) none hJ2 (World.grownBy_alloc _ _ _) (fun r e => by cases e)
      obtain ⟨fn, tmps, assign, body, hy, hR⟩ := hY (ps.map (·.2)) c _ hJ3 (by simp; omega)
      have hrgA := hrg2.of_walks (KeepsOthers.alloc w2 (.cells (EntVA c) 38)).walks
      have hpm : (ps ++ [(x, c)]).map (·.2) = ps.map (·.2) ++ [c] := by simp
      clear hs2 ec ez hv hkey
      obtain ⟨c1, c2, c3, c4, c5⟩ := c
      dsimp only [evE, EntVA] at hy hen hR hrgA
      gi_wp2
      refine hR.mono ?_
      rintro e W3 (⟨rfl, hJ4, hk3⟩ | ⟨rfl, hJx3⟩)
      · gi_wp2
        have hrg3 := hrgA.of_walks hk3
        go_roundw
        case rel => exact ⟨_, cnt2, ps ++ [(x, ⟨c1, c2, c3, c4, c5⟩)], hrg3, by simp; omega, hC2, hV2, by rw [hpm]; exact hJ4⟩
        case measure => rw [hrg3.left_eq, hrg.left_eq]; exact hlt
      · gi_wp2
        refine bodyPost_ret (results_none rfl _ _ _) rfl ?_
        exact ⟨⟨_, rfl⟩, .inr ⟨_, ⟨ps ++ [(x, (⟨c1, c2, c3, c4, c5⟩ : EntD))], hV2, rfl⟩, by rw [hpm]; exact hJx3⟩⟩
set_option maxHeartbeats 1000000 in
set_option maxRecDepth 20000 in
theorem vals_in (F : Fence) (n : Nat) (hf : F.fn 76) (hro : F.round = none) (mb : Option Nat) (w : World) :
    CallsIn F n Tryz.prog 76 #[.map mb] w fun e w' => e = .returned (.func (.func 87) #[] #[.pointer (some ⟨w.heap.size, 0, none⟩)]) ∧ w' = w.alloc (.cells #[.map mb] 65) := by
  refine callsIn_of_wp Tryz.func76 rfl hf ?_ hro
  simp only [Tryz.ntmps76, List.size_toArray, List.length_cons, List.length_nil, Nat.reduceAdd, Nat.reduceSub, Array.replicate_succ, Array.replicate_zero, List.push_toArray, List.append_toArray, List.nil_append, List.cons_append]
  gi_wp2
  go_ret
  exact ⟨rfl, rfl⟩
theorem owns_below {w W : World} {k : TypeId} {R : Value → Option (DataW EntD × List MemPlace)} {b nn : Nat} {D0 : DataW EntD} (h : w.ownsMap Tryz.prog k R b nn D0) (hW : Below w.heap.size w W) : W.ownsMap Tryz.prog k R b nn D0 := by
  have hbl := h.lt
  obtain ⟨es, clock, hb, Ft, hs, hD⟩ := h
  exact ⟨es, clock, (hW.block b hbl).trans hb, Ft, hs, hD⟩
theorem vals_stops (F : Fence) (n : Nat) (h7 : F.fn 87) (hro : F.round = none) (hn : 1 ≤ n) (Bm b nn : Nat) (D0 : DataW EntD) (w : World) (hBm : Bm < w.heap.size)
    (hm : w.cell? ⟨Bm, 0, none⟩ = some (.map (some b))) (hown : w.ownsMap Tryz.prog 9 (rDec decE) b nn D0) :
    SeqStops F n Tryz.prog 87 #[.pointer (some ⟨Bm, 0, none⟩)] evE (fun xs => ∃ ps, AllE D0 ps ∧ xs = ps.map (·.2)) (fun pre => ∃ ps, PartE D0 ps ∧ pre = ps.map (·.2)) (Maps.size D0) w := fun l J Jx W hW hJ _ hY h0 =>
  vals1_in F n h7 hro hn l Bm b nn D0 J Jx hY W hJ ((hW.cell (p := ⟨Bm, 0, none⟩) hBm).trans hm) (owns_below hown hW) h0
/-- has an entry its value in a volume? -/
def Ix.lives (x : Ix) (id : Int) : Bool := x.E.any fun p => p.2.vol == id
theorem cellsC_kept {X Y : World} {row : Option Nat} {B : Nat} {cs : Array Value} {t : TypeId} {z : Nat × Nat} (h : X.heap[B]? = some (.cells cs t z)) (hg : X.grownBy Y row) (hr : ∀ r, row = some r → ∃ o : Obj, X.heap[r]? = some o ∧ o.isCells = false) : Y.heap[B]? = some (.cells cs t z) :=
  (hg.block B (lt_of_block h) (fun e => by obtain ⟨o, ho, hc⟩ := hr B e.symm; rw [h] at ho; cases ho; cases hc)).trans h
attribute [local go_sem] Oper.semAt_some in
set_option maxRecDepth 100000 in
set_option maxHeartbeats 4000000 in
theorem ilives_in {I : Ib} {x : Ix} (F : Fence) (n : Nat) (h3 : F.fn 61) (h4 : F.fn 76) (h5 : F.fn 87) (hro : F.round = none) (hn : 3 ≤ n) (nn : Nat) (D0 : DataW EntD) (id : Int) (w : World) (h : IxAt I w x) (hown : w.ownsMap Tryz.prog 9 (rDec decE) I.e nn D0) :
    CallsIn F n Tryz.prog 61 #[I.p, .int .i64 id] w fun e W' =>
      ((e = .returned (.bool true) ∧ ∃ k c, ValAtE D0 (k, c) ∧ c.vol = id) ∨ (e = .returned (.bool false) ∧ ∃ ps, AllE D0 ps ∧ ∀ p ∈ ps, p.2.vol ≠ id)) ∧ Below w.heap.size w W' := by
  have h1 : 1 ≤ n := by omega
  have hbl := hown.lt
  obtain ⟨b, be, bg, bv, bh⟩ := I
  obtain ⟨c0, -, -, -, -⟩ := h.cells
  simp only at c0 hown hbl
  have hbb : b < w.heap.size := lt_of_cell c0
  refine callsIn_of_wp_marks Tryz.func61 rfl h3 ?_ hro
  simp only [Tryz.ntmps61, List.size_toArray, List.length_cons, List.length_nil, Nat.reduceAdd, Nat.reduceSub, Array.replicate_succ, Array.replicate_zero, List.push_toArray, List.append_toArray, List.nil_append, List.cons_append]
  gi_wp2_with (gi_at_call 76; refine (vals_in F (n - 1) h4 hro _ _).mono ?_; rintro e w' ⟨rfl, rfl⟩)
  obtain ⟨W0, hW0⟩ : ∃ W0, ((w.alloc (.cells #[.int .i64 id] 3)).alloc (.cells #[.bool false] 4)).alloc (.cells #[.map (some be)] 65) = W0 := ⟨_, rfl⟩
  have hs0 : W0.heap.size = w.heap.size + 3 := by rw [← hW0]; simp
  have hB0 : W0.heap[w.heap.size]? = some (.cells #[.int .i64 id] 3 (0, 0)) := by
    rw [← hW0]; exact ((Below.heap_alloc _ _ _ (by simp; omega)).trans (Below.heap_alloc _ _ _ (by simp))).trans (World.alloc_heap_new w _)
  have hB1 : W0.heap[w.heap.size + 1]? = some (.cells #[.bool false] 4 (0, 0)) := by
    rw [← hW0]; refine (Below.heap_alloc _ _ _ (by simp)).trans ?_
    have := World.alloc_heap_new (w.alloc (.cells #[.int .i64 id] 3)) (.cells #[.bool false] 4); rwa [World.size_alloc] at this
  have hB2 : W0.heap[w.heap.size + 1 + 1]? = some (.cells #[.map (some be)] 65 (0, 0)) := by
    rw [← hW0]; have := World.alloc_heap_new ((w.alloc (.cells #[.int .i64 id] 3)).alloc (.cells #[.bool false] 4)) (.cells #[.map (some be)] 65); rwa [World.size_alloc, World.size_alloc] at this
  have hBW : Below w.heap.size w W0 := by rw [← hW0]; exact (((Below.refl _ w).alloc (Nat.le_refl _) _).alloc (by simp) _).alloc (by simp; omega) _
  have hown0 : W0.ownsMap Tryz.prog 9 (rDec decE) be nn D0 := owns_below hown hBW
  rw [hW0]
  refine wpIn_rangeFunc_ownH hro h1 (gf := 87) (lb := #[.pointer (some ⟨w.heap.size + 1 + 1, 0, none⟩)]) rfl h5 (enters_of Tryz.func87 (by kernel_rfl) rfl)
    (vals_stops F (n - 1) h5 hro (by omega) (w.heap.size + 1 + 1) be nn D0 W0 (by omega) (cell_of_cells hB2 rfl) hown0) walksK_t walksK_b (Below.refl _ _) (fun _ => rfl)
    (fun pre W => ((∀ y ∈ pre, y.vol ≠ id) ∧ W.cell? ⟨w.heap.size, 0, none⟩ = some (.int .i64 id) ∧ W.cell? ⟨w.heap.size + 1, 0, none⟩ = some (.bool false) ∧ W.frozen? ⟨w.heap.size + 1, 0, none⟩ = false) ∧ Below w.heap.size w W)
    (fun c pre W => (c = .ret ∧ (∃ y ∈ pre, y.vol = id) ∧ W.cell? ⟨w.heap.size + 1, 0, none⟩ = some (.bool true)) ∧ Below w.heap.size w W)
    (OwnFrom.and (Own.from (fun s A B row hs hg hr => ⟨hs.1, cell_kept hs.2.1 hg hr, cell_kept hs.2.2.1 hg hr, (frozen_kept hs.2.2.1 hg hr).trans hs.2.2.2⟩) _) (ownFrom_below (Nat.le_refl _) (by omega)))
    (fun c => OwnFrom.and (Own.from (fun s A B row hs hg hr => ⟨hs.1, hs.2.1, cell_kept hs.2.2 hg hr⟩) _) (ownFrom_below (Nat.le_refl _) (by omega)))
    ⟨⟨by simp, cell_of_cells hB0 rfl, cell_of_cells hB1 rfl, frozen_of_cells hB1 0⟩, hBW⟩
    (fun c a' W => ∃ Bx, w.heap.size + 1 < Bx ∧ W.heap[Bx]? = some (.cells (EntVA c) 38 (0, 0)) ∧ a' = { tmps := #[.pointer (some ⟨b, 0, none⟩), .int .i64 id, undef, .pointer (some ⟨w.heap.size, 0, none⟩), .pointer (some ⟨w.heap.size + 1, 0, none⟩), .pointer (some ⟨Bx, 0, none⟩), .pointer (some ⟨b, 0, none⟩), .pointer (some ⟨b, 0, none⟩), .pointer (some ⟨b, 0, none⟩), .map (some be), .func (.func 87) #[] #[.pointer (some ⟨w.heap.size + 1 + 1, 0, none⟩)], evE c, undef, undef, undef, undef], defers := [] })
    (fun c a' _ X Y row hs hg hr => by obtain ⟨Bx, h1, h2, h3⟩ := hs; exact ⟨Bx, h1, cellsC_kept h2 hg (fun r e => (hr r e).2), h3⟩)
    ?assign ?body ?done ?stop
  case assign =>
    rintro l pre c W K ⟨⟨hp, hcw, hcr, hfr⟩, hB⟩ hK
    have hKa := hK
    obtain ⟨c1, c2, c3, c4, c5⟩ := c
    dsimp only [evE, EntVA]
    gi_wp2
    have hgA : ∀ o : Obj, W.grownBy (W.alloc o) none := fun o => World.grownBy_alloc W o none
    exact hK _ _ ((KeepsOthers.alloc _ _).from _) (KeepsOthers.alloc _ _).walks
      ⟨⟨hp, cell_kept hcw (hgA _) (fun r e => by cases e), cell_kept hcr (hgA _) (fun r e => by cases e), (frozen_kept hcr (hgA _) (fun r e => by cases e)).trans hfr⟩, hB.alloc hB.size _⟩
      ⟨W.heap.size, lt_of_cell hcr, block_new _ _, rfl⟩
  case body =>
    rintro l pre c a' W hl ⟨r, hr⟩ ⟨⟨hp, hcw, hcr, hfr⟩, hB⟩ ⟨Bx, hBx, hbx, rfl⟩ hlt
    obtain ⟨c1, c2, c3, c4, c5⟩ := c
    have x1 := cell_of_cells (o := 1) (v := .int .i64 c2) hbx rfl
    by_cases hv : c2 = id
    · subst hv
      gi_wp2
      refine ⟨(KeepsOthers.setCell _ _ _).from _, ⟨rfl, ⟨⟨c1, c2, c3, c4, c5⟩, List.mem_append.2 (.inr (by simp)), rfl⟩, World.cell?_setCell_same' _ _ _ (by rw [hcr]; rfl)⟩, hB.setCell (p := ⟨w.heap.size + 1, 0, none⟩) (by simp) _⟩
    · have hb := int_ne hv
      gi_wp2
      exact ⟨(KeepsOthers.refl _).from _, (KeepsOthers.refl _).walks, ⟨fun y hy => (List.mem_append.1 hy).elim (hp y) (fun e => by simp at e; subst e; exact hv), hcw, hcr, hfr⟩, hB⟩
  case done =>
    rintro D xs W hD ⟨ps, hall, rfl⟩ ⟨⟨hne, _, hcr, hfr⟩, hB⟩ hK
    gi_wp2
    have hK' := (KeepsOthers.setCell W ⟨w.heap.size + 1, 0, none⟩ (.bool false)).same D _ hK rfl
    refine ⟨by simp, .inl ⟨_, _, rfl, run_takeDeferred hK', ?_⟩⟩
    have hc5 := cell_kept (World.cell?_setCell_same' W ⟨w.heap.size + 1, 0, none⟩ (.bool false) (by rw [hcr]; rfl)) (grownBy_putObj' _ D (.deferred none)) (fun r e => by cases e; exact ⟨_, hK', rfl⟩)
    refine ⟨.bool false, ?_, .inr ⟨rfl, ps, hall, fun p hp => hne p.2 (List.mem_map.2 ⟨p, hp, rfl⟩)⟩, (hB.setCell (p := ⟨w.heap.size + 1, 0, none⟩) (by simp) _).trans (belowK_b (w := w) (Nat.le_refl _) _ D _ _ (by omega) hK' rfl rfl)⟩
    simp [results, Tryz.f61, go_sem, hc5]
  case stop =>
    rintro D c pre W hD ⟨ps, hpart, rfl⟩ ⟨⟨rfl, ⟨y, hy, hyv⟩, hcr⟩, hB⟩ hK
    obtain ⟨p, hp, rfl⟩ := List.mem_map.1 hy
    gi_wp2
    refine ⟨by simp, .inl ⟨_, _, rfl, run_takeDeferred hK, ?_⟩⟩
    have hc5 := cell_kept hcr (grownBy_putObj' _ D (.deferred none)) (fun r e => by cases e; exact ⟨_, hK, rfl⟩)
    refine ⟨.bool true, ?_, .inl ⟨rfl, p.1, p.2, hpart p hp, hyv⟩, hB.trans (belowK_b (w := w) (Nat.le_refl _) W D _ _ (by omega) hK rfl rfl)⟩
    simp [results, Tryz.f61, go_sem, hc5]
theorem lit_str {k : ByteArray} (hk : k.size ≤ maxLen) : litOf Tryz.prog 9 (.string k) = .string k.data.toList := by
  unfold litOf
  rw [Go.WideMaps.keyOf_string_mk under_str hk]
  rfl
/-- the entries' datum -/
noncomputable def datE (x : Ix) : DataW EntD := datOf Tryz.prog 9 Value.string x.E
theorem ents_own {I : Ib} {w : World} {x : Ix} (h : IxAt I w x) (hf : Fit x) (hz : x.E.length ≤ 1000) : w.ownsMap Tryz.prog 9 (rDec decE) I.e x.E.length (datE x) :=
  MapK.owns (encs_str under_str) decE_ev h.ents (fun p hp => max_key (hf.keys p hp).1) hz
theorem IxAt.keysE {I : Ib} {w : World} {x : Ix} (h : IxAt I w x) : (x.E.map (·.1)).Nodup := by
  obtain ⟨es, clock, -, -, -, -, hnd⟩ := h.ents
  rw [List.map_map] at hnd
  exact hnd
theorem keys_inj {α β : Type} {l : List (α × β)} (h : (l.map (·.1)).Nodup) {a : α} {x y : β} (hx : (a, x) ∈ l) (hy : (a, y) ∈ l) : x = y := by
  induction l with
  | nil => cases hx
  | cons p r ih =>
    rw [List.map_cons, List.nodup_cons] at h
    rcases List.mem_cons.1 hx with rfl | hx'
    · rcases List.mem_cons.1 hy with e | hy'
      · exact (Prod.mk.inj e).2.symm
      · exact absurd (List.mem_map.2 ⟨_, hy', rfl⟩) h.1
    · rcases List.mem_cons.1 hy with rfl | hy'
      · exact absurd (List.mem_map.2 ⟨_, hx', rfl⟩) h.1
      · exact ih h.2 hx' hy'
theorem same_str {a b : List UInt8} (h : (Lit.string a).sameKey (.string b) = true) : a = b := by
  by_cases e : a = b
  · exact e
  · have := sameKey_ne (a := Lit.string a) (b := .string b) (fun e' => e (by cases e'; rfl))
    rw [this] at h
    cases h
theorem same_refl (a : List UInt8) : (Lit.string a).sameKey (.string a) = true := by simp [Lit.sameKey]
theorem val_at {x : Ix} (hf : Fit x) {k : List UInt8} {c : EntD} (h : ValAtE (datE x) (k, c)) : ∃ p ∈ x.E, p.1.data.toList = k ∧ p.2 = c := by
  obtain ⟨p, hp, h1, h2⟩ := datOf_at h
  rw [lit_str (max_key (hf.keys p hp).1)] at h1
  exact ⟨p, hp, same_str h1, h2⟩
theorem ilives {I : Ib} {x : Ix} (hf : Fit x) (hz : x.E.length ≤ 1000) (id : Int) (w : World) (h : IxAt I w x) : Calls Tryz.prog 61 #[I.p, .int .i64 id] w fun e w' => e = .returned (.bool (x.lives id)) ∧ Kp [] w w' := by
  have hin := ilives_in (x := x) Fence.wide 3 trivial trivial trivial rfl (by omega) x.E.length (datE x) id w h (ents_own h hf hz)
  refine (callsIn_wide.1 hin).mono ?_
  rintro e w' ⟨he, hb⟩
  refine ⟨?_, Kp.of_below hb []⟩
  unfold Ix.lives
  rcases he with ⟨rfl, k, c, hc, hv⟩ | ⟨rfl, ps, hall, hno⟩
  · obtain ⟨p, hp, -, rfl⟩ := val_at hf hc
    rw [List.any_eq_true.2 ⟨p, hp, by simp [hv]⟩]
  · rw [List.any_eq_false.2]
    intro p hp
    have hh : Maps.has (datE x) (.string p.1.data.toList) = true := (datOf_has x.E _).2 ⟨p, hp, by rw [lit_str (max_key (hf.keys p hp).1)]; exact same_refl _⟩
    obtain ⟨q, hq, hqe⟩ := List.mem_map.1 ((hall.1 _).2 hh)
    obtain ⟨r, hr, hr1, hr2⟩ := val_at hf (k := q.1) (c := q.2) (hall.2 q hq)
    have hkey : r.1 = p.1 := bytes_inj (by rw [hr1]; exact hqe)
    have : r.2 = p.2 := keys_inj h.keysE (a := p.1) (by rw [← hkey]; exact hr) hp
    have := hno q hq
    rw [← hr2] at this
    simp_all
end Go.Proofs.YtdhhddifmkijhaaGreat
