/-
  A slice that reads as a list of cells; what one owns reads so. Over any program.
-/
import Derived.Test.YtdhhddifmkijhaaBase
import Derived.Deep.MidRow
namespace Go.Proofs.Ytdhhddifmkijhaa
open Go.RowKit

/-- v is a slice of n elements, of sz cells each, whose cells read as cs, in a block below B; of an empty one nothing more is known -/
def SliceAt (B : Nat) (w : World) (v : Value) (sz n : Nat) (cs : List Value) : Prop :=
  cs.length = n * sz ∧ ∃ (av : Option Addr) (cap : Nat), v = .slice av n cap ∧ (0 < n → ∃ (b o : Nat), av = some ⟨b, o, none⟩ ∧ n ≤ cap ∧ b < B ∧ b < w.heap.size ∧ ∀ (j : Nat) (u : Value), cs[j]? = some u → w.cell? ⟨b, o + j, none⟩ = some u)
theorem SliceAt.keep {B : Nat} {w w' : World} {v : Value} {sz n : Nat} {cs : List Value} (h : SliceAt B w v sz n cs) {X : List Nat} (k : Kp X w w') (hx : ∀ i ∈ X, B ≤ i) : SliceAt B w' v sz n cs := by
  obtain ⟨hl, av, cap, rfl, h⟩ := h
  refine ⟨hl, av, cap, rfl, fun hn => ?_⟩
  obtain ⟨b, o, rfl, hc, hB, hb, hcell⟩ := h hn
  exact ⟨b, o, rfl, hc, hB, Nat.lt_of_lt_of_le hb k.size, fun j u hu => (k.cell (lt_of_cell (hcell j u hu)) (fun hm => by have := hx _ hm; simp at this; omega)).trans (hcell j u hu)⟩
theorem SliceAt.keep0 {B : Nat} {w w' : World} {v : Value} {sz n : Nat} {cs : List Value} (h : SliceAt B w v sz n cs) (k : Kp [] w w') : SliceAt B w' v sz n cs := h.keep k (fun _ h => by cases h)
theorem SliceAt.up {B B' : Nat} {w : World} {v : Value} {sz n : Nat} {cs : List Value} (h : SliceAt B w v sz n cs) (hB : B ≤ B') : SliceAt B' w v sz n cs := by
  obtain ⟨hl, av, cap, rfl, h⟩ := h
  refine ⟨hl, av, cap, rfl, fun hn => ?_⟩
  obtain ⟨b, o, rfl, hc, hb, h⟩ := h hn
  exact ⟨b, o, rfl, hc, by omega, h⟩
theorem SliceAt.of_owns {w : World} {base : Nat} {e : TypeId} {sz n : Nat} {v : Value} {cs : List Value} (h : w.ownsRow base e sz v n cs) : SliceAt w.heap.size w v sz n cs := by
  obtain ⟨hl, ⟨hv, hn⟩ | ⟨g, cap, cur, hv, hg, hb, hc, hm, hs, ht⟩⟩ := h
  · exact ⟨hl, none, 0, by rw [hv, hn], fun h => by omega⟩
  · refine ⟨hl, _, cap, hv, fun _ => ⟨g, 0, rfl, hc, lt_of_block hb, lt_of_block hb, fun j u hu => cell_of_cells hb ?_⟩⟩
    rw [Nat.zero_add, ← Array.getElem?_toList]
    rw [← ht, List.getElem?_take] at hu
    split at hu
    · exact hu
    · cases hu
theorem slice_ex {B : Nat} {w : World} {v : Value} {sz n : Nat} {cs : List Value} (h : SliceAt B w v sz n cs) : ∃ a c, v = .slice a n c := by
  obtain ⟨-, av, cap, hv, -⟩ := h
  exact ⟨av, cap, hv⟩
/-- the cells of a slice that is not empty -/
theorem SliceAt.cells {B : Nat} {w : World} {av : Option Addr} {cap sz n : Nat} {cs : List Value} (h : SliceAt B w (.slice av n cap) sz n cs) (hn : 0 < n) :
    ∃ b o, av = some ⟨b, o, none⟩ ∧ n ≤ cap ∧ b < B ∧ b < w.heap.size ∧ ∀ (j : Nat) (u : Value), cs[j]? = some u → w.cell? ⟨b, o + j, none⟩ = some u := by
  obtain ⟨-, av', cap', hv, h⟩ := h
  simp only [Value.slice.injEq] at hv
  obtain ⟨rfl, -, rfl⟩ := hv
  exact h hn
theorem ownsRow_keep {w w' : World} {base : Nat} {e : TypeId} {sz n : Nat} {v : Value} {cs : List Value} (h : w.ownsRow base e sz v n cs) {X : List Nat} (k : Kp X w w') (hx : ∀ b, base ≤ b → b ∉ X) : w'.ownsRow base e sz v n cs := by
  obtain ⟨hl, ⟨hv, hn⟩ | ⟨g, cap, cur, hv, hg, hb, hc, hm, hs, ht⟩⟩ := h
  · exact ⟨hl, .inl ⟨hv, hn⟩⟩
  · exact ⟨hl, .inr ⟨g, cap, cur, hv, hg, (k.block g (lt_of_block hb) (hx g hg)).trans hb, hc, hm, hs, ht⟩⟩
theorem ownsRow_base {w : World} {base base' : Nat} {e : TypeId} {sz n : Nat} {v : Value} {cs : List Value} (h : w.ownsRow base e sz v n cs) (hb : base' ≤ base) : w.ownsRow base' e sz v n cs := by
  obtain ⟨hl, ⟨hv, hn⟩ | ⟨g, cap, cur, hv, hg, hb', hc, hm, hs, ht⟩⟩ := h
  · exact ⟨hl, .inl ⟨hv, hn⟩⟩
  · exact ⟨hl, .inr ⟨g, cap, cur, hv, Nat.le_trans hb hg, hb', hc, hm, hs, ht⟩⟩
theorem ownsRow_ex {w : World} {base : Nat} {e : TypeId} {sz n : Nat} {v : Value} {cs : List Value} (h : w.ownsRow base e sz v n cs) : ∃ a c, v = .slice a n c := by
  obtain ⟨hl, ⟨hv, hn⟩ | ⟨g, cap, cur, hv, hg, hb', hc, hm, hs, ht⟩⟩ := h
  · exact ⟨none, 0, by rw [hv, hn]⟩
  · exact ⟨_, cap, hv⟩
theorem own_block_ge {w : World} {base : Nat} {e : TypeId} {sz n : Nat} {v : Value} {cs : List Value} (h : w.ownsRow base e sz v n cs) : ∀ k, v.ownBlock = some k → base ≤ k := by
  obtain ⟨hl, ⟨hv, hn⟩ | ⟨g, cap, cur, hv, hg, hb', hc, hm, hs, ht⟩⟩ := h
  · intro k hk; rw [hv] at hk; cases hk
  · intro k hk; rw [hv] at hk
    obtain rfl : g = k := by simpa [Value.ownBlock] using hk
    exact hg
/-- the cells of a block that was just laid -/
theorem new_cells (w : World) (t : TypeId) (l : List Value) (j : Nat) (u : Value) (h : l[j]? = some u) : (w.alloc (.cells l.toArray t)).cell? ((⟨w.heap.size, 0, none⟩ : Addr).add j) = some u := by
  rw [Addr.add_mid, Nat.zero_add]
  exact cell_of_cells (block_new _ _) (by simpa using h)
theorem one_cells2 {P : Value → Prop} {a b : Value} (ha : P a) (hb : P b) : ∀ u, u ∈ [a, b] → P u := by
  intro u hu
  simp only [List.mem_cons, List.not_mem_nil, or_false] at hu
  rcases hu with rfl | rfl
  · exact ha
  · exact hb
theorem slice_new (w : World) (t : TypeId) (l : List Value) (sz n : Nat) (h : l.length = n * sz) : SliceAt (w.heap.size + 1) (w.alloc (.cells l.toArray t)) (.slice (some ⟨w.heap.size, 0, none⟩) n n) sz n l :=
  ⟨h, _, n, rfl, fun _ => ⟨_, 0, rfl, Nat.le_refl _, by simp, by simp, fun j u hu => by
    have := new_cells w t l j u hu
    rwa [Addr.add_mid] at this⟩⟩
theorem Kp.of_grown {w w' : World} {row : Option Nat} (h : w.grownBy w' row) : Kp row.toList w w' :=
  ⟨h.os, h.tape, h.output, h.size, fun k hk hx => h.block k hk (fun e => hx (by rw [← e]; simp))⟩
end Go.Proofs.Ytdhhddifmkijhaa
