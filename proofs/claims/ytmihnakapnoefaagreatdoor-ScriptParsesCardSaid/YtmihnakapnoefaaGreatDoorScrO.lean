/-
  The rounds over the parts: what is filled so far.
-/
import Derived.Test.YtmihnakapnoefaaGreatDoorScrP
namespace Go.Proofs.YtmihnakapnoefaaGreatDoor
open Go.RowKit Go.WideShapes
theorem ini_at {d : Nat} {ps : List (Nat × Nat)} {j : Nat} {p : Nat × Nat} (vals : List Value) (hps : ps = partsK (d : Int)) (hp : ps[j]? = some p) :
    (fillV ((ps.take j).zip vals) (zeroV d))[p.2]? = some (initV p) := by
  have hjl : j < ps.length := (List.getElem?_eq_some_iff.1 hp).1
  have hdist := parts_distinct (d : Int)
  have hmem : p ∈ partsK (d : Int) := by rw [← hps]; exact List.mem_of_getElem? hp
  rw [← hps] at hdist
  rw [fillV_other _ _ _ ?_]
  · exact zeroV_init hmem
  · intro q hq
    have hq1 : q.1 ∈ ps.take j := (List.of_mem_zip hq).1
    intro e
    obtain ⟨i, hi, hiq⟩ := List.mem_iff_getElem.1 hq1
    rw [List.length_take] at hi
    rw [List.getElem_take] at hiq
    have hi1 : i < j := by omega
    have hi2 : i < ps.length := by omega
    have heq : (ps.map (·.2))[i]? = (ps.map (·.2))[j]? := by
      rw [List.getElem?_map, List.getElem?_map, hp, List.getElem?_eq_getElem hi2, hiq]
      simp [e]
    have := (List.getElem?_inj (by rw [List.length_map]; exact hi2) hdist).1 heq
    omega
theorem fill_step {ps : List (Nat × Nat)} {vals : List Value} (val : Value) {j : Nat} {p : Nat × Nat} (z : Array Value) (hv : vals.length = j) (hp : ps[j]? = some p) :
    fillV ((ps.take (j + 1)).zip (vals ++ [val])) z = (fillV ((ps.take j).zip vals) z).setIfInBounds p.2 val := by
  have hlt : j < ps.length := (List.getElem?_eq_some_iff.1 hp).1
  rw [List.take_add_one, hp, Option.toList_some, List.zip_append (by rw [List.length_take]; omega)]
  exact fillV_snoc _ _ _
theorem vals_step {W W' : World} {C : Nat} {ps : List (Nat × Nat)} {rest : List ByteArray} {vals : List Value} {val : Value} {j : Nat} {p : Nat × Nat} {x : ByteArray}
    (old : ∀ (i : Nat) (p : Nat × Nat) (x : ByteArray) (v : Value), i < j → ps[i]? = some p → rest[i]? = some x → vals[i]? = some v → PartVal W C p x v)
    (k : Kp [C] W W') (hv : vals.length = j) (hp : ps[j]? = some p) (hx : rest[j]? = some x) (new : PartVal W' C p x val) :
    ∀ (i : Nat) (p : Nat × Nat) (x : ByteArray) (v : Value), i < j + 1 → ps[i]? = some p → rest[i]? = some x → (vals ++ [val])[i]? = some v → PartVal W' C p x v := by
  intro i p' x' v hi e1 e2 e3
  by_cases e : i = j
  · subst e
    rw [hp] at e1; cases e1
    rw [hx] at e2; cases e2
    rw [List.getElem?_append_right (by omega), hv, Nat.sub_self] at e3
    cases e3
    exact new
  · rw [List.getElem?_append_left (by omega)] at e3
    exact (old i p' x' v (by omega) e1 e2 e3).keep k
theorem jfacts {j rl : Nat} (h1 : j < rl) (h2 : rl ≤ 20000) :
    wrap64 ((j : Int) + 1) = (j : Int) + 1 ∧ IntKind.i64.wrap ((j : Int) + 1) = (j : Int) + 1 ∧ 0 ≤ (j : Int) + 1 ∧ (j : Int) + 1 < (rl : Int) + 1 ∧ ((j : Int) + 1).toNat = 1 + j ∧ (j : Int) < rl := by
  refine ⟨by unfold wrap64; omega, wrap_id _ (by omega) (by omega), by omega, by omega, by omega, by omega⟩
theorem Kp.over {w a b : World} {C : Nat} (h : Kp [] w a) (k : Kp [C] a b) (hC : w.heap.size ≤ C) : Kp [] w b :=
  h.step k (fun i hi hm => by have := List.mem_singleton.1 hm; omega)
end Go.Proofs.YtmihnakapnoefaaGreatDoor
