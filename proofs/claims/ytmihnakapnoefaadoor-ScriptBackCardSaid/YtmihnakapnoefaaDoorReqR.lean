/-
  The request of a line: Parse, the document's.
-/
import Derived.Test.YtmihnakapnoefaaDoorReqQ
namespace Go.Proofs.YtmihnakapnoefaaDoor
open Go.RowKit Go.WideShapes

/-- what the loop over the kinds has found, behind k of them -/
def kindTo (x : ByteArray) (k : Nat) : Int := if 0 ≤ kindOf x ∧ kindOf x < k then kindOf x else -1
theorem kindTo_all (x : ByteArray) : kindTo x 5 = kindOf x := by
  have := kind_range x
  unfold kindTo
  split <;> omega
theorem kindTo_zero (x : ByteArray) : kindTo x 0 = -1 := by
  unfold kindTo
  rw [if_neg (by omega)]
theorem kind_word (x : ByteArray) (k : Nat) (hk : k < 5) : (x = SB (wordL k)) ↔ kindOf x = (k : Int) := by
  have hs : kindOf x = if SB (wordL 0) = x then 0 else if SB (wordL 1) = x then 1 else if SB (wordL 2) = x then 2 else if SB (wordL 3) = x then 3 else if SB (wordL 4) = x then 4 else -1 := by
    unfold kindOf Lib.idxOfS wordsB
    simp only [Lib.idxFromS]
    rfl
  constructor
  · rintro rfl
    rw [hs]
    match k, hk with
    | 0, _ => decide +kernel
    | 1, _ => decide +kernel
    | 2, _ => decide +kernel
    | 3, _ => decide +kernel
    | 4, _ => decide +kernel
  · intro h
    rw [hs] at h
    match k, hk, h with
    | 0, _, h =>
      repeat' split at h
      all_goals first | exact Eq.symm ‹SB (wordL 0) = x› | exact absurd h (by decide)
    | 1, _, h =>
      repeat' split at h
      all_goals first | exact Eq.symm ‹SB (wordL 1) = x› | exact absurd h (by decide)
    | 2, _, h =>
      repeat' split at h
      all_goals first | exact Eq.symm ‹SB (wordL 2) = x› | exact absurd h (by decide)
    | 3, _, h =>
      repeat' split at h
      all_goals first | exact Eq.symm ‹SB (wordL 3) = x› | exact absurd h (by decide)
    | 4, _, h =>
      repeat' split at h
      all_goals first | exact Eq.symm ‹SB (wordL 4) = x› | exact absurd h (by decide)
theorem kindTo_step (x : ByteArray) (k : Nat) (hk : k < 5) : kindTo x (k + 1) = if x = SB (wordL k) then (k : Int) else kindTo x k := by
  by_cases h : x = SB (wordL k)
  · rw [if_pos h]
    have := (kind_word x k hk).1 h
    unfold kindTo
    rw [if_pos (by omega), this]
  · rw [if_neg h]
    have : kindOf x ≠ (k : Int) := fun e => h ((kind_word x k hk).2 e)
    unfold kindTo
    split <;> split <;> omega

theorem map_data_inj : ∀ a b : List ByteArray, a.map (·.data.toList) = b.map (·.data.toList) → a = b
  | [], [], _ => rfl
  | [], y :: b, h => by simp at h
  | x :: a, [], h => by simp at h
  | x :: a, y :: b, h => by
    simp only [List.map_cons, List.cons.injEq] at h
    rw [bytes_inj h.1, map_data_inj a b h.2]
end Go.Proofs.YtmihnakapnoefaaDoor
