/-
  The words of a line: strings.Split at a blank, and the document's Words.
-/
import Derived.Test.YtmihnakapnoefaaDoorReqT
import Derived.Test.YtmihnakapnoefaaDoorRowL
import Derived.Lib.SplitLaws
namespace Go.Proofs.YtmihnakapnoefaaDoor
open Go.RowKit Go.WideShapes

def wordsOf : List UInt8 → List (List UInt8)
  | [] => [[]]
  | b :: l => if b = 32 then [] :: wordsOf l else match wordsOf l with
    | x :: r => (b :: x) :: r
    | [] => [[b]]
theorem wordsOf_ne : ∀ l, wordsOf l ≠ []
  | [] => by simp [wordsOf]
  | b :: l => by
    unfold wordsOf
    split
    · simp
    · split <;> simp
theorem wordsOf_no : ∀ l : List UInt8, (∀ b ∈ l, b ≠ 32) → wordsOf l = [l]
  | [], _ => rfl
  | b :: l, h => by
    unfold wordsOf
    rw [if_neg (h b (List.mem_cons_self ..)), wordsOf_no l (fun x hx => h x (List.mem_cons_of_mem _ hx))]
theorem wordsOf_cut : ∀ (a r : List UInt8), (∀ b ∈ a, b ≠ 32) → wordsOf (a ++ 32 :: r) = a :: wordsOf r
  | [], r, _ => by rw [List.nil_append, wordsOf, if_pos rfl]
  | b :: a, r, h => by
    rw [List.cons_append, wordsOf, if_neg (h b (List.mem_cons_self ..)), wordsOf_cut a r (fun x hx => h x (List.mem_cons_of_mem _ hx))]
theorem index_blank (b : UInt8) (l : List UInt8) (h : b ≠ 32) : Lib.index (b :: l) [32] = if Lib.index l [32] = -1 then -1 else Lib.index l [32] + 1 := by
  simp only [Lib.index]
  rw [if_neg (by simp; exact fun e => h e.symm)]
  by_cases e : Lib.index l [32] = -1
  · rw [if_pos e, if_pos (by simpa using e)]
  · rw [if_neg e, if_neg (by simpa using e)]
theorem split_words : ∀ s : List UInt8, Lib.splitK [32] 0 (Lib.count s [32]) s = wordsOf s
  | [] => rfl
  | b :: l => by
    by_cases hb : b = 32
    · subst hb
      have hi : Lib.index (32 :: l) [32] = 0 := by simp [Lib.index]
      rw [Lib.count_cons_eq, Nat.add_comm, Lib.splitK, if_neg (by rw [hi]; decide), hi]
      show [] :: Lib.splitK [32] 0 (Lib.count l [32]) l = _
      rw [split_words l, wordsOf, if_pos rfl]
    · rw [Lib.count_cons_ne b 32 l hb]
      have ih := split_words l
      by_cases hm : Lib.index l [32] = -1
      · rw [Lib.count_miss hm] at ih ⊢
        rw [wordsOf, if_neg hb, ← ih]
        rfl
      · obtain ⟨i, hi⟩ : ∃ i : Nat, Lib.index l [32] = i := ⟨(Lib.index l [32]).toNat, by have := Lib.index_ge l [32]; omega⟩
        have hc := Lib.count_hit (s := l) (sub := [32]) (by simp) hi
        obtain ⟨k, hk⟩ : ∃ k, Lib.count l [32] = k + 1 := ⟨_, by rw [hc, Nat.add_comm]⟩
        rw [hk] at ih ⊢
        have hi2 : Lib.index (b :: l) [32] = ((i + 1 : Nat) : Int) := by rw [index_blank b l hb, if_neg hm, hi]; rfl
        rw [wordsOf, if_neg hb, ← ih, Lib.splitK, Lib.splitK, if_neg (by rw [hi2]; simp; omega), if_neg (by rw [hi]; simp), hi2, hi]
        simp
/-- the pieces, as strings.Split hands them back -/
def piecesOf (s : ByteArray) : List ByteArray := Lib.splitB ⟨#[32]⟩ 0 (Lib.countB s ⟨#[32]⟩) s
theorem pieces_words (s : ByteArray) : (piecesOf s).map (·.data.toList) = wordsOf s.data.toList := by
  unfold piecesOf
  rw [Lib.splitB_data]
  exact split_words _
theorem pieces_len (s : ByteArray) : (piecesOf s).length = Lib.countB s ⟨#[32]⟩ + 1 := Lib.splitB_all _ (by decide) 0 _ s rfl

/-- v holds the words of s, in a row of the call's own -/
def Pieces (w w' : World) (v : Value) (s : ByteArray) : Prop := ∃ xs : List ByteArray, xs.map (·.data.toList) = wordsOf s.data.toList ∧ w'.ownsRow w.heap.size 9 1 v xs.length (xs.map Value.string)
end Go.Proofs.YtmihnakapnoefaaDoor
