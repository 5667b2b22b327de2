/-
  A map as a list of entries, as the library's iterators ask for it ('ownsMap'). Over any program.
-/
import Derived.Test.YtdhhddifmkijhaaMap
import Derived.Shelf.SlIter.AllValuesS
namespace Go.Proofs.Ytdhhddifmkijhaa
open Go.RowKit Go.ChangeMaps Go.Maps Go.WideShapes Go.WideMaps Go.WideElems Go.MapKept Go.ChangeShapes

section
variable {P : Program} {α β : Type} {enc : α → Value} {kt : TypeId} {ok : α → Prop}
/-- how an element reads: by dec, as a token -/
def rDec (dec : Value → Option β) (v : Value) : Option (DataW β × List MemPlace) := (dec v).map fun y => (.held y, [])
/-- the key's literal -/
def litOf (P : Program) (kt : TypeId) (v : Value) : Lit := (keyOf P kt v).getD (.bool false)
def datOf (P : Program) (kt : TypeId) (enc : α → Value) (l : List (α × β)) : DataW β := .map ((l.map fun p => (litOf P kt (enc p.1), DataW.held p.2)).foldr DataW.insert [])
theorem MapK.owns (K : Encs P kt enc ok) {dec : Value → Option β} {ev : β → Value} (hd : ∀ y, dec (ev y) = some y) {w : World} {b : Nat} {l : List (α × β)} (h : MapK enc w b (l.map fun p => (p.1, ev p.2))) (hk : ∀ p ∈ l, ok p.1) (hz : l.length ≤ 1000) :
    w.ownsMap P kt (rDec dec) b l.length (datOf P kt enc l) := by
  obtain ⟨es, clock, hb, he, hc, hbn, hnd⟩ := h
  have hlen : es.size = l.length := by
    have := congrArg List.length he
    simpa using this
  have hat : ∀ x ∈ es.toList, ∃ p ∈ l, x.key = enc p.1 ∧ x.val = ev p.2 := by
    intro x hx
    have h1 : (x.key, x.val) ∈ es.toList.map (fun e => (e.key, e.val)) := List.mem_map.2 ⟨x, hx, rfl⟩
    rw [he, List.map_map] at h1
    obtain ⟨p, hp, e2⟩ := List.mem_map.1 h1
    simp only [Function.comp, Prod.mk.injEq] at e2
    exact ⟨p, hp, e2.1.symm, e2.2.symm⟩
  have hrg : ∀ (a : α) (y : β) (bn : Nat), ok a → WideElems.rd P kt (rDec dec) ⟨enc a, ev y, bn⟩ = some (litOf P kt (enc a), .held y) := by
    intro a y bn ha
    obtain ⟨lk, hlk⟩ := K.reads a ha
    simp [WideElems.rd, hlk, rDec, hd, litOf]
  refine ⟨es, clock, hb, ⟨by unfold maxLen; omega, ⟨hc, hbn, ?_⟩, fun x hx => ?_⟩, by omega, ?_⟩
  · have hkeys : es.toList.map (·.key) = l.map (fun p => enc p.1) := by
      have := congrArg (List.map Prod.fst) he
      rw [List.map_map, List.map_map, List.map_map] at this
      exact this
    rw [hkeys]
    rw [List.map_map] at hnd
    refine (List.pairwise_map.2 ?_)
    refine (List.pairwise_map.1 hnd).imp fun {p q} hne e => hne (K.inj _ _ e)
  · obtain ⟨p, hp, e1, e2⟩ := hat x hx
    obtain ⟨xk, xv, xb⟩ := x
    simp only at e1 e2
    subst e1; subst e2
    exact ⟨_, hrg p.1 p.2 xb (hk p hp)⟩
  · unfold datOf
    congr 2
    obtain ⟨G, hG⟩ : ∃ G : Value × Value → Lit × DataW β, ∀ x : MapEntry, WideElems.rg P kt (rDec dec) x = G (x.key, x.val) := ⟨fun q => WideElems.rg P kt (rDec dec) ⟨q.1, q.2, 0⟩, fun x => rfl⟩
    have h1 : es.toList.map (WideElems.rg P kt (rDec dec)) = (es.toList.map (fun e => (e.key, e.val))).map G := by
      rw [List.map_map]; exact List.map_congr_left fun x _ => hG x
    rw [h1, he, List.map_map, List.map_map]
    refine List.map_congr_left fun p hp => ?_
    simp only [Function.comp]
    have h2 := hG ⟨enc p.1, ev p.2, 0⟩
    simp only at h2
    rw [← h2]
    exact (WideElems.rg_of (hrg p.1 p.2 0 (hk p hp))).symm
theorem datOf_size (l : List (α × β)) : Maps.size (datOf P kt enc l) = l.length := by
  unfold datOf
  rw [Maps.size_eq, length_sorted, List.length_map]
theorem mem_insert {H : Type} (x p : Lit × DataW H) : ∀ l : List (Lit × DataW H), p ∈ DataW.insert x l ↔ p = x ∨ p ∈ l
  | [] => by simp [DataW.insert]
  | y :: r => by
    unfold DataW.insert
    split
    · simp
    · simp only [List.mem_cons, mem_insert x p r]
      constructor
      · rintro (h | h | h)
        · exact .inr (.inl h)
        · exact .inl h
        · exact .inr (.inr h)
      · rintro (h | h | h)
        · exact .inr (.inl h)
        · exact .inl h
        · exact .inr (.inr h)
theorem mem_sorted {H : Type} (p : Lit × DataW H) : ∀ l : List (Lit × DataW H), p ∈ l.foldr DataW.insert [] ↔ p ∈ l
  | [] => by simp
  | y :: r => by rw [List.foldr_cons, mem_insert, mem_sorted p r, List.mem_cons]
theorem datOf_has (l : List (α × β)) (k : Lit) : Maps.has (datOf P kt enc l) k = true ↔ ∃ p ∈ l, (litOf P kt (enc p.1)).sameKey k = true := by
  unfold datOf
  rw [Maps.has_eq, List.any_eq_true]
  constructor
  · rintro ⟨q, hq, h⟩
    rw [mem_sorted] at hq
    obtain ⟨p, hp, rfl⟩ := List.mem_map.1 hq
    exact ⟨p, hp, h⟩
  · rintro ⟨p, hp, h⟩
    exact ⟨_, (mem_sorted _ _).2 (List.mem_map.2 ⟨p, hp, rfl⟩), h⟩
theorem datOf_at {l : List (α × β)} {k : Lit} {y : β} (h : ∀ zd, (datOf P kt enc l).atKey k zd = .held y) : ∃ p ∈ l, (litOf P kt (enc p.1)).sameKey k = true ∧ p.2 = y := by
  have h1 := h .nil
  unfold datOf DataW.atKey at h1
  simp only at h1
  split at h1
  · rename_i q hq
    have h2 := List.mem_of_find?_eq_some hq
    have h3 := List.find?_some hq
    rw [mem_sorted] at h2
    obtain ⟨p, hp, rfl⟩ := List.mem_map.1 h2
    refine ⟨p, hp, h3, ?_⟩
    simpa using h1
  · cases h1
end
end Go.Proofs.Ytdhhddifmkijhaa
