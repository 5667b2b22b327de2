/-
  What a call leaves as it was, as a relation of two worlds that serves as a rewrite rule's side condition; facts on cells said of every later world. Plain lemmas, over any program.
  A slice that reads as a list of cells; what one owns reads so. Over any program.
-/
import Derived.WalkKit
import Derived.WalkSpells
import Derived.WalkLawsBesides
import Derived.Deep.QuietTactic
import Derived.Deep.RegionHeld3
import Derived.BigQuiet
import Derived.BigRegion
import Derived.Lib.Hide
import Derived.Deep.MidRow
namespace Go.Proofs.YtlomniffpjndfaaDoor
open Go.RowKit

/-- w' is w with new blocks; of the old blocks only those of X may have turned. -/
structure Kp (X : List Nat) (w w' : World) : Prop where
  os : w'.os = w.os
  tape : w'.tape = w.tape
  output : w'.output = w.output
  size : w.heap.size ≤ w'.heap.size
  block : ∀ k, k < w.heap.size → k ∉ X → w'.heap[k]? = w.heap[k]?

theorem Kp.refl (X : List Nat) (w : World) : Kp X w w := ⟨rfl, rfl, rfl, Nat.le_refl _, fun _ _ _ => rfl⟩
theorem Kp.trans {X : List Nat} {a b c : World} (h : Kp X a b) (k : Kp X b c) : Kp X a c :=
  ⟨k.os.trans h.os, k.tape.trans h.tape, k.output.trans h.output, Nat.le_trans h.size k.size,
    fun i hi hx => (k.block i (Nat.lt_of_lt_of_le hi h.size) hx).trans (h.block i hi hx)⟩
theorem Kp.weaken {X Y : List Nat} {a b : World} (h : Kp X a b) (hs : ∀ k, k < a.heap.size → k ∈ X → k ∈ Y) : Kp Y a b :=
  ⟨h.os, h.tape, h.output, h.size, fun i hi hx => h.block i hi (fun hm => hx (hs i hi hm))⟩
/-- a step behind: what it may turn is allowed, or is new -/
theorem Kp.step {X Y : List Nat} {a b c : World} (h : Kp X a b) (k : Kp Y b c) (hs : ∀ i, i < a.heap.size → i ∈ Y → i ∈ X) : Kp X a c :=
  ⟨k.os.trans h.os, k.tape.trans h.tape, k.output.trans h.output, Nat.le_trans h.size k.size,
    fun i hi hx => (k.block i (Nat.lt_of_lt_of_le hi h.size) (fun hm => hx (hs i hi hm))).trans (h.block i hi hx)⟩
theorem Kp.call {X : List Nat} {a b c : World} (h : Kp X a b) (k : Kp [] b c) : Kp X a c := h.step k (fun _ _ hm => by cases hm)
theorem Kp.of_below {w w' : World} (h : Below w.heap.size w w') (X : List Nat) : Kp X w w' :=
  ⟨h.os, h.tape, h.output, h.size, fun k hk _ => h.block k hk⟩
theorem Kp.below {w w' : World} (h : Kp [] w w') : Below w.heap.size w w' :=
  ⟨h.os, h.tape, h.output, h.size, fun k hk => h.block k hk (by simp)⟩
theorem Kp.drew {X : List Nat} {a w : World} (h : Kp X a w) : Kp X a w.drew := ⟨h.os, h.tape, h.output, h.size, h.block⟩
theorem Kp.drewN {X : List Nat} {a w : World} (h : Kp X a w) (n : Nat) : Kp X a (w.drewN n) := ⟨h.os, h.tape, h.output, h.size, h.block⟩
theorem Kp.alloc {X : List Nat} {a w : World} (h : Kp X a w) (o : Obj) : Kp X a (w.alloc o) :=
  ⟨h.os, h.tape, h.output, Nat.le_trans h.size (by simp), fun i hi hx =>
    (Below.heap_alloc w o i (Nat.lt_of_lt_of_le hi h.size)).trans (h.block i hi hx)⟩
theorem Kp.setCell {X : List Nat} {a w : World} (h : Kp X a w) {p : Addr} (hp : p.block ∈ X ∨ a.heap.size ≤ p.block) (u : Value) : Kp X a (w.setCell p u) :=
  ⟨h.os, h.tape, h.output, by simpa [World.setCell] using h.size, fun i hi hx =>
    (Below.heap_setCell w p u i (by
      intro e
      rcases hp with hp | hp
      · exact hx (e ▸ hp)
      · omega)).trans (h.block i hi hx)⟩
theorem Kp.grown {X : List Nat} {a w w' : World} {row : Option Nat} (h : Kp X a w) (hg : w.grownBy w' row) (hr : ∀ k, row = some k → k ∈ X ∨ a.heap.size ≤ k) : Kp X a w' :=
  ⟨hg.os.trans h.os, hg.tape.trans h.tape, hg.output.trans h.output, Nat.le_trans h.size hg.size, fun i hi hx =>
    (hg.block i (Nat.lt_of_lt_of_le hi h.size) (fun e => by
      rcases hr i e.symm with hm | hm
      · exact hx hm
      · omega)).trans (h.block i hi hx)⟩
theorem Kp.cell {X : List Nat} {w w' : World} (h : Kp X w w') {p : Addr} (hp : p.block < w.heap.size) (hx : p.block ∉ X) : w'.cell? p = w.cell? p :=
  World.cell?_of_block (w := w) (h.block p.block hp hx)
theorem Kp.frozen {X : List Nat} {w w' : World} (h : Kp X w w') {p : Addr} (hp : p.block < w.heap.size) (hx : p.block ∉ X) : w'.frozen? p = w.frozen? p :=
  World.frozen?_of_block (w := w) (h.block p.block hp hx)

theorem lt_of_cell {w : World} {p : Addr} {v : Value} (h : w.cell? p = some v) : p.block < w.heap.size := by
  rcases Nat.lt_or_ge p.block w.heap.size with h' | h'
  · exact h'
  · simp [World.cell?, Array.getElem?_eq_none h'] at h
theorem lt_of_block {w : World} {b : Nat} {o : Obj} (h : w.heap[b]? = some o) : b < w.heap.size := by
  rcases Nat.lt_or_ge b w.heap.size with h' | h'
  · exact h'
  · simp [Array.getElem?_eq_none h'] at h

/-- a cell's fact, said of every later world -/
theorem Kp.cellAt {X : List Nat} {w0 : World} {p : Addr} {v : Value} (h : w0.cell? p = some v) (hx : p.block ∉ X) : ∀ W, Kp X w0 W → W.cell? p = some v :=
  fun _ hW => (hW.cell (lt_of_cell h) hx).trans h
theorem Kp.frozenAt {X : List Nat} {w0 : World} {p : Addr} {v : Value} {b : Bool} (h : w0.cell? p = some v) (hf : w0.frozen? p = b) (hx : p.block ∉ X) : ∀ W, Kp X w0 W → W.frozen? p = b :=
  fun _ hW => (hW.frozen (lt_of_cell h) hx).trans hf
theorem Kp.blockAt {X : List Nat} {w0 : World} {b : Nat} {o : Obj} (h : w0.heap[b]? = some o) (hx : b ∉ X) : ∀ W, Kp X w0 W → W.heap[b]? = some o :=
  fun _ hW => (hW.block b (lt_of_block h) hx).trans h

/-- a row of cells that is known whole: its cells -/
theorem cell_of_cells {w : World} {b : Nat} {c : Array Value} {t : TypeId} {z : Nat × Nat} {o : Nat} {v : Value} (h : w.heap[b]? = some (.cells c t z)) (hv : c[o]? = some v) : w.cell? ⟨b, o, none⟩ = some v := by
  simp [World.cell?, h, hv]
theorem frozen_of_cells {w : World} {b : Nat} {c : Array Value} {t : TypeId} (h : w.heap[b]? = some (.cells c t (0, 0))) (o : Nat) : w.frozen? ⟨b, o, none⟩ = false := by
  simp [World.frozen?, h]
theorem block_setCell {w : World} {b : Nat} {c : Array Value} {t : TypeId} {z : Nat × Nat} (h : w.heap[b]? = some (.cells c t z)) (o : Nat) (v : Value) :
    (w.setCell ⟨b, o, none⟩ v).heap[b]? = some (.cells (c.setIfInBounds o v) t z) := by
  simp [World.setCell, Array.getElem?_modify, h]
theorem block_alloc {w : World} {b : Nat} {o : Obj} (h : w.heap[b]? = some o) (n : Obj) : (w.alloc n).heap[b]? = some o :=
  (Below.heap_alloc w n b (lt_of_block h)).trans h
theorem block_new (w : World) (o : Obj) : (w.alloc o).heap[w.heap.size]? = some o := by
  show (w.heap.push o)[w.heap.size]? = some o
  simp
/-- a whole row stored into a block of that length -/
theorem setCells_block {b : Nat} {t : TypeId} {z : Nat × Nat} : ∀ (vs : List Value) (w : World) (o : Nat) (c : Array Value), w.heap[b]? = some (.cells c t z) → o + vs.length ≤ c.size →
    ∃ c', (w.setCells b o vs).heap[b]? = some (.cells c' t z) ∧ c'.size = c.size ∧ (∀ j, j < o → c'[j]? = c[j]?) ∧ (∀ j v, vs[j]? = some v → c'[o + j]? = some v)
  | [], _, o, c, h, _ => ⟨c, h, rfl, fun _ _ => rfl, fun j v hv => by simp at hv⟩
  | v :: vs, w, o, c, h, hl => by
    simp only [List.length_cons] at hl
    obtain ⟨c', h1, h2, h3, h4⟩ := setCells_block vs (w.setCell ⟨b, o, none⟩ v) (o + 1) (c.setIfInBounds o v) (block_setCell h o v) (by simp; omega)
    refine ⟨c', h1, by simpa using h2, fun j hj => ?_, fun j u hu => ?_⟩
    · rw [h3 j (by omega)]
      simp [Array.getElem?_setIfInBounds]; omega
    · cases j with
      | zero =>
        simp at hu; subst hu
        rw [Nat.add_zero, h3 o (by omega)]
        simp [Array.getElem?_setIfInBounds]; omega
      | succ j =>
        have := h4 j u (by simpa using hu)
        rw [← this]; congr 1; omega
theorem setCells_whole {b : Nat} {t : TypeId} {z : Nat × Nat} {w : World} {c : Array Value} {vs : List Value} (h : w.heap[b]? = some (.cells c t z)) (hl : vs.length = c.size) :
    (w.setCells b 0 vs).heap[b]? = some (.cells vs.toArray t z) := by
  obtain ⟨c', h1, h2, h3, h4⟩ := setCells_block vs w 0 c h (by omega)
  rw [h1]
  congr 2
  apply Array.ext_getElem?
  intro i
  by_cases hi : i < vs.length
  · rw [← Nat.zero_add i, h4 i vs[i] (by simp [hi])]
    simp [hi]
  · rw [Array.getElem?_eq_none (by omega), Array.getElem?_eq_none (by simp; omega)]
theorem Kp.setCells {X : List Nat} {a : World} {b : Nat} (hb : b ∈ X ∨ a.heap.size ≤ b) : ∀ (vs : List Value) (o : Nat) {_w : World}, Kp X a _w → Kp X a (_w.setCells b o vs)
  | [], _, _, h => h
  | v :: vs, o, _, h => Kp.setCells hb vs (o + 1) (h.setCell (p := ⟨b, o, none⟩) hb v)
theorem there_block {w : World} {b : Nat} {c : Array Value} {t : TypeId} (h : w.heap[b]? = some (.cells c t (0, 0))) : w.there b 0 c.size := fun j hj =>
  ⟨by rw [cell_of_cells h (v := c[0 + j]'(by omega)) (by simp)]; rfl, frozen_of_cells h _⟩
theorem range_block {w : World} {b : Nat} {l : List Value} {t : TypeId} {z : Nat × Nat} (h : w.heap[b]? = some (.cells l.toArray t z)) : w.rangeAt b 0 l := fun j v hv =>
  cell_of_cells h (by simpa using hv)
end Go.Proofs.YtlomniffpjndfaaDoor

namespace Go.Proofs.YtlomniffpjndfaaDoor
open Go.RowKit

/-- v is a slice of n elements, of sz cells each, whose cells read as cs, in a block below B; of an empty one nothing more is known -/
def SliceAt (B : Nat) (w : World) (v : Value) (sz n : Nat) (cs : List Value) : Prop :=
  cs.length = n * sz ∧ ∃ (av : Option Addr) (cap : Nat), v = .slice av n cap ∧ (0 < n → ∃ (b o : Nat), av = some ⟨b, o, none⟩ ∧ n ≤ cap ∧ b < B ∧ b < w.heap.size ∧ ∀ (j : Nat) (u : Value), cs[j]? = some u → w.cell? ⟨b, o + j, none⟩ = some u)
theorem SliceAt.keep {B : Nat} {w w' : World} {v : Value} {sz n : Nat} {cs : List Value} (h : SliceAt B w v sz n cs) {X : List Nat} (k : Kp X w w') (hx : ∀ i ∈ X, B ≤ i) : SliceAt B w' v sz n cs := by
  obtain ⟨hl, av, cap, rfl, h⟩ := h
  refine ⟨hl, av, cap, rfl, fun hn => ?_⟩
  obtain ⟨b, o, rfl, hc, hB, hb, hcell⟩ := h hn
  exact ⟨b, o, rfl, hc, hB, Nat.lt_of_lt_of_le hb k.size, fun j u hu => (k.cell (lt_of_cell (hcell j u hu)) (fun hm => by have := hx _ hm; simp at this; omega)).trans (hcell j u hu)⟩
theorem SliceAt.keep0 {B : Nat} {w w' : World} {v : Value} {sz n : Nat} {cs : List Value} (h : SliceAt B w v sz n cs) (k : Kp [] w w') : SliceAt B w' v sz n cs := h.keep k (fun _ h => by cases h)
theorem SliceAt.up {B B' : Nat} {w : World} {v : Value} {sz n : Nat} {cs : List Value} (h : SliceAt B w v sz n cs) (hB : B ≤ B') : SliceAt B' w v sz n cs := by
  obtain ⟨hl, av, cap, rfl, h⟩ := h
  refine ⟨hl, av, cap, rfl, fun hn => ?_⟩
  obtain ⟨b, o, rfl, hc, hb, h⟩ := h hn
  exact ⟨b, o, rfl, hc, by omega, h⟩
theorem SliceAt.of_owns {w : World} {base : Nat} {e : TypeId} {sz n : Nat} {v : Value} {cs : List Value} (h : w.ownsRow base e sz v n cs) : SliceAt w.heap.size w v sz n cs := by
  obtain ⟨hl, ⟨hv, hn⟩ | ⟨g, cap, cur, hv, hg, hb, hc, hm, hs, ht⟩⟩ := h
  · exact ⟨hl, none, 0, by rw [hv, hn], fun h => by omega⟩
  · refine ⟨hl, _, cap, hv, fun _ => ⟨g, 0, rfl, hc, lt_of_block hb, lt_of_block hb, fun j u hu => cell_of_cells hb ?_⟩⟩
    rw [Nat.zero_add, ← Array.getElem?_toList]
    rw [← ht, List.getElem?_take] at hu
    split at hu
    · exact hu
    · cases hu
theorem slice_ex {B : Nat} {w : World} {v : Value} {sz n : Nat} {cs : List Value} (h : SliceAt B w v sz n cs) : ∃ a c, v = .slice a n c := by
  obtain ⟨-, av, cap, hv, -⟩ := h
  exact ⟨av, cap, hv⟩
/-- the cells of a slice that is not empty -/
theorem SliceAt.cells {B : Nat} {w : World} {av : Option Addr} {cap sz n : Nat} {cs : List Value} (h : SliceAt B w (.slice av n cap) sz n cs) (hn : 0 < n) :
    ∃ b o, av = some ⟨b, o, none⟩ ∧ n ≤ cap ∧ b < B ∧ b < w.heap.size ∧ ∀ (j : Nat) (u : Value), cs[j]? = some u → w.cell? ⟨b, o + j, none⟩ = some u := by
  obtain ⟨-, av', cap', hv, h⟩ := h
  simp only [Value.slice.injEq] at hv
  obtain ⟨rfl, -, rfl⟩ := hv
  exact h hn
theorem ownsRow_keep {w w' : World} {base : Nat} {e : TypeId} {sz n : Nat} {v : Value} {cs : List Value} (h : w.ownsRow base e sz v n cs) {X : List Nat} (k : Kp X w w') (hx : ∀ b, base ≤ b → b ∉ X) : w'.ownsRow base e sz v n cs := by
  obtain ⟨hl, ⟨hv, hn⟩ | ⟨g, cap, cur, hv, hg, hb, hc, hm, hs, ht⟩⟩ := h
  · exact ⟨hl, .inl ⟨hv, hn⟩⟩
  · exact ⟨hl, .inr ⟨g, cap, cur, hv, hg, (k.block g (lt_of_block hb) (hx g hg)).trans hb, hc, hm, hs, ht⟩⟩
theorem ownsRow_base {w : World} {base base' : Nat} {e : TypeId} {sz n : Nat} {v : Value} {cs : List Value} (h : w.ownsRow base e sz v n cs) (hb : base' ≤ base) : w.ownsRow base' e sz v n cs := by
  obtain ⟨hl, ⟨hv, hn⟩ | ⟨g, cap, cur, hv, hg, hb', hc, hm, hs, ht⟩⟩ := h
  · exact ⟨hl, .inl ⟨hv, hn⟩⟩
  · exact ⟨hl, .inr ⟨g, cap, cur, hv, Nat.le_trans hb hg, hb', hc, hm, hs, ht⟩⟩
theorem ownsRow_ex {w : World} {base : Nat} {e : TypeId} {sz n : Nat} {v : Value} {cs : List Value} (h : w.ownsRow base e sz v n cs) : ∃ a c, v = .slice a n c := by
  obtain ⟨hl, ⟨hv, hn⟩ | ⟨g, cap, cur, hv, hg, hb', hc, hm, hs, ht⟩⟩ := h
  · exact ⟨none, 0, by rw [hv, hn]⟩
  · exact ⟨_, cap, hv⟩
theorem own_block_ge {w : World} {base : Nat} {e : TypeId} {sz n : Nat} {v : Value} {cs : List Value} (h : w.ownsRow base e sz v n cs) : ∀ k, v.ownBlock = some k → base ≤ k := by
  obtain ⟨hl, ⟨hv, hn⟩ | ⟨g, cap, cur, hv, hg, hb', hc, hm, hs, ht⟩⟩ := h
  · intro k hk; rw [hv] at hk; cases hk
  · intro k hk; rw [hv] at hk
    obtain rfl : g = k := by simpa [Value.ownBlock] using hk
    exact hg
/-- the cells of a block that was just laid -/
theorem new_cells (w : World) (t : TypeId) (l : List Value) (j : Nat) (u : Value) (h : l[j]? = some u) : (w.alloc (.cells l.toArray t)).cell? ((⟨w.heap.size, 0, none⟩ : Addr).add j) = some u := by
  rw [Addr.add_mid, Nat.zero_add]
  exact cell_of_cells (block_new _ _) (by simpa using h)
theorem one_cells2 {P : Value → Prop} {a b : Value} (ha : P a) (hb : P b) : ∀ u, u ∈ [a, b] → P u := by
  intro u hu
  simp only [List.mem_cons, List.not_mem_nil, or_false] at hu
  rcases hu with rfl | rfl
  · exact ha
  · exact hb
theorem slice_new (w : World) (t : TypeId) (l : List Value) (sz n : Nat) (h : l.length = n * sz) : SliceAt (w.heap.size + 1) (w.alloc (.cells l.toArray t)) (.slice (some ⟨w.heap.size, 0, none⟩) n n) sz n l :=
  ⟨h, _, n, rfl, fun _ => ⟨_, 0, rfl, Nat.le_refl _, by simp, by simp, fun j u hu => by
    have := new_cells w t l j u hu
    rwa [Addr.add_mid] at this⟩⟩
theorem Kp.of_grown {w w' : World} {row : Option Nat} (h : w.grownBy w' row) : Kp row.toList w w' :=
  ⟨h.os, h.tape, h.output, h.size, fun k hk hx => h.block k hk (fun e => hx (by rw [← e]; simp))⟩
end Go.Proofs.YtlomniffpjndfaaDoor
