/-
  The words of a command's line, in plain Lean: no two blanks that follow one another, none at an end; two to four words.
-/
import Derived.Test.YtmihnakapnoefaaDoorScrK
namespace Go.Proofs.YtmihnakapnoefaaDoor
open Go.RowKit Go.WideShapes

def blanks (l : List UInt8) : Nat := (l.filter (· == 32)).length
theorem blanks_app (a b : List UInt8) : blanks (a ++ b) = blanks a + blanks b := by unfold blanks; rw [List.filter_append, List.length_append]
theorem blanks_no {a : List UInt8} (h : ∀ b ∈ a, b ≠ 32) : blanks a = 0 := by
  unfold blanks
  rw [List.length_eq_zero_iff, List.filter_eq_nil_iff]
  intro b hb
  simpa using h b hb
/-- no blank at an end, no two that follow one another -/
structure Tidy (l : List UInt8) : Prop where
  pos : 0 < l.length
  at0 : l[0]? ≠ some 32
  mid : ∀ i : Nat, l[i]? = some 32 → i + 1 < l.length ∧ 0 < i ∧ l[i - 1]? ≠ some 32
theorem tidy_plain {x : List UInt8} (h0 : x ≠ []) (h : ∀ b ∈ x, b ≠ 32) : Tidy x := by
  have hn : ∀ i : Nat, x[i]? ≠ some (32 : UInt8) := fun i e => h 32 (List.mem_of_getElem? e) rfl
  exact ⟨List.length_pos_iff.2 h0, hn 0, fun i e => absurd e (hn i)⟩
theorem tidy_join : ∀ (x : List UInt8) (r : List (List UInt8)), (∀ p ∈ x :: r, p ≠ [] ∧ ∀ b ∈ p, b ≠ 32) → Tidy (Lib.join (x :: r) [32]) ∧ blanks (Lib.join (x :: r) [32]) = r.length
  | x, [], h => by
    rw [Lib.join_one]
    obtain ⟨h1, h2⟩ := h x (by simp)
    exact ⟨tidy_plain h1 h2, blanks_no h2⟩
  | x, y :: r, h => by
    obtain ⟨h1, h2⟩ := h x (by simp)
    obtain ⟨ht, hb⟩ := tidy_join y r (fun p hp => h p (List.mem_cons_of_mem _ hp))
    rw [join_cons_ne x (by simp)]
    obtain ⟨l, hl⟩ : ∃ l, l = Lib.join (y :: r) [32] := ⟨_, rfl⟩
    rw [← hl] at ht hb ⊢
    have hx0 := List.length_pos_iff.2 h1
    have hn : ∀ i : Nat, x[i]? ≠ some (32 : UInt8) := fun i e => h2 32 (List.mem_of_getElem? e) rfl
    have hlt := ht.pos
    refine ⟨⟨by rw [List.length_append, List.length_cons]; omega, ?_, fun i e => ?_⟩, ?_⟩
    · rw [List.getElem?_append_left hx0]; exact hn 0
    · rcases Nat.lt_trichotomy i x.length with hi | hi | hi
      · rw [List.getElem?_append_left hi] at e; exact absurd e (hn i)
      · refine ⟨by simp; omega, by omega, ?_⟩
        rw [List.getElem?_append_left (by omega)]; exact hn _
      · rw [List.getElem?_append_right (by omega)] at e
        obtain ⟨j, hj⟩ : ∃ j, i - x.length = j + 1 := ⟨i - x.length - 1, by omega⟩
        rw [hj, List.getElem?_cons_succ] at e
        obtain ⟨m1, m2, m3⟩ := ht.mid j e
        refine ⟨by simp; omega, by omega, ?_⟩
        rw [List.getElem?_append_right (by omega), show i - 1 - x.length = (j - 1) + 1 from by omega, List.getElem?_cons_succ]
        exact m3
    · rw [blanks_app, blanks_no h2]
      have : blanks (32 :: l) = blanks l + 1 := by
        unfold blanks
        rw [List.filter_cons_of_pos (by decide), List.length_cons]
      rw [this, hb]; simp
theorem num_ne (n : Int) : numL n ≠ [] := dec_ne _
/-- the words of a command that may be -/
theorem parts_tidy {c : Cmd} (h : checkC c = 0) : ∃ x r, partsC c = x :: r ∧ (∀ p ∈ x :: r, p ≠ [] ∧ ∀ b ∈ p, b ≠ 32) ∧ 1 ≤ r.length ∧ r.length ≤ 3 := by
  have one : ∀ {a : List UInt8}, (a ≠ [] ∧ ∀ b ∈ a, b ≠ 32) → ∀ {k}, k < 8 → ∀ p ∈ [wordA k, a], p ≠ [] ∧ ∀ b ∈ p, b ≠ 32 := by
    intro a ha k hk p hp
    simp only [List.mem_cons, List.not_mem_nil, or_false] at hp
    rcases hp with rfl | rfl
    · exact ⟨act_ne k hk, act_plain k hk⟩
    · exact ha
  have three : ∀ {a b c : List UInt8}, (a ≠ [] ∧ ∀ x ∈ a, x ≠ 32) → (b ≠ [] ∧ ∀ x ∈ b, x ≠ 32) → (c ≠ [] ∧ ∀ x ∈ c, x ≠ 32) → ∀ {k}, k < 8 → ∀ p ∈ [wordA k, a, b, c], p ≠ [] ∧ ∀ b ∈ p, b ≠ 32 := by
    intro a b c ha hb hc k hk p hp
    simp only [List.mem_cons, List.not_mem_nil, or_false] at hp
    rcases hp with rfl | rfl | rfl | rfl
    · exact ⟨act_ne k hk, act_plain k hk⟩
    · exact ha
    · exact hb
    · exact hc
  have two : ∀ {a b : List UInt8}, (a ≠ [] ∧ ∀ x ∈ a, x ≠ 32) → (b ≠ [] ∧ ∀ x ∈ b, x ≠ 32) → ∀ {k}, k < 8 → ∀ p ∈ [wordA k, a, b], p ≠ [] ∧ ∀ b ∈ p, b ≠ 32 := by
    intro a b ha hb k hk p hp
    simp only [List.mem_cons, List.not_mem_nil, or_false] at hp
    rcases hp with rfl | rfl | rfl
    · exact ⟨act_ne k hk, act_plain k hk⟩
    · exact ha
    · exact hb
  have hnum : ∀ n : Int, numL n ≠ [] ∧ ∀ b ∈ numL n, b ≠ 32 := fun n => ⟨num_ne n, num_plain n⟩
  rcases checkC_ok h with ⟨h0, he, hc⟩ | ⟨hc, h1, h2, h3⟩ | ⟨hc, h1⟩ | ⟨hc, h1⟩ | ⟨hc, h1, h2⟩ | ⟨hc, h1⟩ | ⟨hc, h1⟩ | hc
  · have hp : partsC c = wordA 0 :: partsL c.rk c.rs.data.toList c.rv.data.toList := by unfold partsC; rw [if_pos h0]
    rcases parts_of he with ⟨e, hk, hl⟩ | ⟨n, hn0, hn5, e, -, hk, hl⟩ | ⟨e, -, -, hl⟩
    · rw [hl] at hp
      exact ⟨_, _, hp, three ⟨word_ne 0 (by decide), word_plain 0⟩ ⟨nil_size (key_plain hk).2, (key_plain hk).1⟩ ⟨digits_ne _, fun b hb => digits_plain hb⟩ (by decide), by simp, by simp⟩
    · rw [hl] at hp
      exact ⟨_, _, hp, two ⟨word_ne n hn5, word_plain n⟩ ⟨nil_size (key_plain hk).2, (key_plain hk).1⟩ (by decide), by simp, by simp⟩
    · rw [hl] at hp
      exact ⟨_, _, hp, one ⟨word_ne 4 (by decide), word_plain 4⟩ (by decide), by simp, by simp⟩
  · have hp : partsC c = [wordA 1, numL c.n, numL c.a, numL c.b] := by unfold partsC; rw [hc]; rfl
    exact ⟨_, _, hp, three (hnum _) (hnum _) (hnum _) (by decide), by simp, by simp⟩
  · have hp : partsC c = [wordA 2, numL c.n] := by unfold partsC; rw [hc]; rfl
    exact ⟨_, _, hp, one (hnum _) (by decide), by simp, by simp⟩
  · have hp : partsC c = [wordA 3, numL c.n] := by unfold partsC; rw [hc]; rfl
    exact ⟨_, _, hp, one (hnum _) (by decide), by simp, by simp⟩
  · have hp : partsC c = [wordA 4, numL c.a, numL c.n, digitsL c.text.data.toList] := by unfold partsC; rw [hc]; rfl
    exact ⟨_, _, hp, three (hnum _) (hnum _) ⟨digits_ne _, fun b hb => digits_plain hb⟩ (by decide), by simp, by simp⟩
  · have hp : partsC c = [wordA 5, numL c.a] := by unfold partsC; rw [hc]; rfl
    exact ⟨_, _, hp, one (hnum _) (by decide), by simp, by simp⟩
  · have hp : partsC c = [wordA 6, numL c.a] := by unfold partsC; rw [hc]; rfl
    exact ⟨_, _, hp, one (hnum _) (by decide), by simp, by simp⟩
  · have hp : partsC c = [wordA 7, marksW c.keep, marksW c.torn] := by unfold partsC; rw [hc]; rfl
    exact ⟨_, _, hp, two ⟨marks_ne _, marks_plain _⟩ ⟨marks_ne _, marks_plain _⟩ (by decide), by simp, by simp⟩
theorem line_tidy {c : Cmd} (h : checkC c = 0) : Tidy (lineC c) ∧ 1 ≤ blanks (lineC c) ∧ blanks (lineC c) ≤ 3 := by
  obtain ⟨x, r, hp, hall, h1, h2⟩ := parts_tidy h
  obtain ⟨ht, hb⟩ := tidy_join x r hall
  unfold lineC
  rw [hp, hb]
  exact ⟨ht, h1, h2⟩
end Go.Proofs.YtmihnakapnoefaaDoor
