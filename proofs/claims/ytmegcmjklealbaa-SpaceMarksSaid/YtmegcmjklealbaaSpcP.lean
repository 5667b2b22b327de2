/-
  The plain law: what the program's space does is what the document's does. No program in sight.
-/
import Derived.Test.YtmegcmjklealbaaSpcD
namespace Go.Proofs.Ytmegcmjklealbaa
open Go.RowKit

/-- the two spaces hold the same slots -/
structure Rel (f : Int → Int → Bool) (xs : List (Int × Int)) : Prop where
  agree : ∀ d s, IsB d s = true → f d s = xs.contains (d, s)
  isB : ∀ p ∈ xs, IsB p.1 p.2 = true
  nodup : xs.Nodup
theorem rel_nil : Rel noneTaken [] := ⟨fun _ _ _ => rfl, fun _ h => (by cases h), List.nodup_nil⟩

theorem IsB_of {d : Int} {s : Nat} (hd : DiskB d = true) (hs : s < 48) : IsB d s = true := by
  simp only [DiskB, decide_eq_true_eq] at hd
  simp only [IsB, decide_eq_true_eq]; omega
theorem least_eq {f : Int → Int → Bool} {xs : List (Int × Int)} (h : Rel f xs) {d : Int} (hd : DiskB d = true) : ∀ n k : Nat, k + n ≤ 48 → leastFrom f d n k = rleast xs d n k
  | 0, _, _ => rfl
  | n + 1, k, hk => by
    simp only [leastFrom, rleast]
    rw [h.agree d k (IsB_of hd (by omega)), least_eq h hd n (k + 1) (by omega)]
theorem rleast_spec {xs : List (Int × Int)} {d : Int} : ∀ (n k m : Nat), rleast xs d n k = some m → k ≤ m ∧ m < k + n ∧ xs.contains (d, (m : Int)) = false
  | 0, k, m, h => by cases h
  | n + 1, k, m, h => by
    simp only [rleast] at h
    by_cases hc : xs.contains (d, (k : Int)) = true
    · rw [if_pos hc] at h
      have := rleast_spec n (k + 1) m h
      exact ⟨by omega, by omega, this.2.2⟩
    · rw [if_neg hc] at h
      simp only [Option.some.injEq] at h
      subst h
      exact ⟨by omega, by omega, by simpa using hc⟩
theorem contains_false {xs : List (Int × Int)} {p : Int × Int} (h : xs.contains p = false) : p ∉ xs := by
  intro hm
  rw [← List.contains_iff_mem, h] at hm
  cases hm
theorem rel_add {f : Int → Int → Bool} {xs : List (Int × Int)} (h : Rel f xs) {d s : Int} (hb : IsB d s = true) (hn : xs.contains (d, s) = false) : Rel (upd f d s true) (xs ++ [(d, s)]) := by
  refine ⟨fun d' s' hb' => ?_, fun p hp => ?_, ?_⟩
  · unfold upd
    have hc : (xs ++ [(d, s)]).contains (d', s') = (xs.contains (d', s') || ((d', s') == (d, s))) := by
      rw [Bool.eq_iff_iff, Bool.or_eq_true, List.contains_iff_mem, List.contains_iff_mem, List.mem_append, List.mem_singleton, beq_iff_eq]
    rw [hc, ← h.agree d' s' hb']
    by_cases e : d' = d ∧ s' = s
    · obtain ⟨rfl, rfl⟩ := e
      simp
    · rw [if_neg e]
      have : ((d', s') == (d, s)) = false := by
        rw [beq_eq_false_iff_ne]
        intro h
        simp only [Prod.mk.injEq] at h
        exact e h
      rw [this, Bool.or_false]
  · rw [List.mem_append, List.mem_singleton] at hp
    rcases hp with hp | rfl
    · exact h.isB p hp
    · exact hb
  · rw [List.nodup_append]
    refine ⟨h.nodup, by simp, fun a ha b hb2 => ?_⟩
    rw [List.mem_singleton] at hb2
    subst hb2
    intro e
    subst e
    exact contains_false hn ha
theorem rel_take {f : Int → Int → Bool} {xs : List (Int × Int)} (h : Rel f xs) (d : Int) : takeR f d = rtakeR xs d ∧ Rel (takeF f d) (rtakeL xs d) := by
  unfold takeR rtakeR takeF rtakeL
  cases hd : DiskB d with
  | false => exact ⟨rfl, h⟩
  | true =>
    simp only [if_true]
    rw [least_eq h hd 48 0 (by omega)]
    cases hl : rleast xs d 48 0 with
    | none => exact ⟨rfl, h⟩
    | some m =>
      obtain ⟨-, h1, h2⟩ := rleast_spec _ _ _ hl
      exact ⟨rfl, rel_add h (IsB_of hd (by omega)) h2⟩
theorem rel_mark {f : Int → Int → Bool} {xs : List (Int × Int)} (h : Rel f xs) (d s : Int) : markE f d s = rmarkE xs d s ∧ Rel (markF f d s) (rmarkL xs d s) := by
  unfold markE rmarkE markF rmarkL
  cases hb : IsB d s with
  | false => exact ⟨rfl, h⟩
  | true =>
    simp only [if_true]
    rw [h.agree d s hb]
    cases hc : xs.contains (d, s) with
    | true => exact ⟨rfl, h⟩
    | false => exact ⟨rfl, rel_add h hb hc⟩
theorem contains_isB {f : Int → Int → Bool} {xs : List (Int × Int)} (h : Rel f xs) (d s : Int) : (IsB d s && f d s) = xs.contains (d, s) := by
  cases hb : IsB d s with
  | true => rw [Bool.true_and]; exact h.agree d s hb
  | false =>
    rw [Bool.false_and]
    cases hc : xs.contains (d, s) with
    | false => rfl
    | true =>
      rw [List.contains_iff_mem] at hc
      have := h.isB _ hc
      rw [hb] at this; cases this
theorem rel_give {f : Int → Int → Bool} {xs : List (Int × Int)} (h : Rel f xs) (d s : Int) : giveE f d s = rgiveE xs d s ∧ Rel (giveF f d s) (rgiveL xs d s) := by
  unfold giveE rgiveE giveF rgiveL
  rw [contains_isB h]
  cases hc : xs.contains (d, s) with
  | false => exact ⟨rfl, h⟩
  | true =>
    simp only [if_true]
    refine ⟨trivial, fun d' s' hb' => ?_, fun p hp => h.isB p (List.mem_filter.1 hp).1, h.nodup.filter _⟩
    unfold upd
    have hc : (xs.filter fun p => p != (d, s)).contains (d', s') = (xs.contains (d', s') && ((d', s') != (d, s))) := by
      rw [Bool.eq_iff_iff, Bool.and_eq_true, List.contains_iff_mem, List.contains_iff_mem, List.mem_filter]
    rw [hc, ← h.agree d' s' hb']
    by_cases e : d' = d ∧ s' = s
    · obtain ⟨rfl, rfl⟩ := e
      simp
    · rw [if_neg e]
      have : ((d', s') != (d, s)) = true := by
        rw [bne_iff_ne]
        intro h
        simp only [Prod.mk.injEq] at h
        exact e h
      rw [this, Bool.and_true]
theorem rel_all {f0 : Int → Int → Bool} {xs0 : List (Int × Int)} (h0 : Rel f0 xs0) : ∀ (ds : List Int) (f : Int → Int → Bool) (xs acc : List (Int × Int)), Rel f xs →
    (allGo f0 f ds acc).1 = (rallGo xs0 xs ds acc).1 ∧ (allGo f0 f ds acc).2.1 = (rallGo xs0 xs ds acc).2.1 ∧ Rel (allGo f0 f ds acc).2.2 (rallGo xs0 xs ds acc).2.2
  | [], f, xs, acc, h => ⟨rfl, rfl, h⟩
  | d :: ds, f, xs, acc, h => by
    obtain ⟨h1, h2⟩ := rel_take h d
    simp only [allGo, rallGo]
    rw [h1]
    by_cases he : (rtakeR xs d).2 = 0
    · rw [if_pos he, if_pos he]
      exact rel_all h0 ds _ _ _ h2
    · rw [if_neg he, if_neg he]
      exact ⟨rfl, rfl, h0⟩
theorem rel_do {f : Int → Int → Bool} {xs : List (Int × Int)} (h : Rel f xs) (o : OpD) : doQ f xs o = true ∧ Rel (doF f o) (doL xs o) := by
  unfold doQ doF doL
  by_cases h0 : o.dO = 0
  · rw [if_pos h0, if_pos h0, if_pos h0]
    obtain ⟨h1, h2⟩ := rel_take h o.d
    exact ⟨by rw [h1]; simp, h2⟩
  · rw [if_neg h0, if_neg h0, if_neg h0]
    by_cases h1 : o.dO = 1
    · rw [if_pos h1, if_pos h1, if_pos h1]
      obtain ⟨h1, h2⟩ := rel_mark h o.d o.s
      exact ⟨by rw [h1]; simp, h2⟩
    · rw [if_neg h1, if_neg h1, if_neg h1]
      by_cases h2 : o.dO = 2
      · rw [if_pos h2, if_pos h2, if_pos h2]
        obtain ⟨h1, h2⟩ := rel_give h o.d o.s
        exact ⟨by rw [h1]; simp, h2⟩
      · rw [if_neg h2, if_neg h2, if_neg h2]
        by_cases h3 : o.dO = 3
        · rw [if_pos h3, if_pos h3, if_pos h3]
          obtain ⟨h1, h2, h3⟩ := rel_all h o.ds f xs [] h
          exact ⟨by rw [h1, h2]; simp, h3⟩
        · rw [if_neg h3, if_neg h3, if_neg h3]
          exact ⟨rfl, h⟩

def cntFrom (xs : List (Int × Int)) (d : Int) : Nat → Nat → Nat
  | 0, _ => 0
  | n + 1, k => (if xs.contains (d, (k : Int)) then 1 else 0) + cntFrom xs d n (k + 1)
theorem free_cnt {f : Int → Int → Bool} {xs : List (Int × Int)} (h : Rel f xs) {d : Int} (hd : DiskB d = true) : ∀ n k : Nat, k + n ≤ 48 → freeFrom f d n k + cntFrom xs d n k = n
  | 0, _, _ => rfl
  | n + 1, k, hk => by
    simp only [freeFrom, cntFrom]
    have := free_cnt h hd n (k + 1) (by omega)
    rw [h.agree d k (IsB_of hd (by omega))]
    cases xs.contains (d, (k : Int)) <;> simp <;> omega
theorem cnt_nil (d : Int) : ∀ n k : Nat, cntFrom [] d n k = 0
  | 0, _ => rfl
  | n + 1, k => by simp only [cntFrom]; rw [cnt_nil d n (k + 1)]; rfl
theorem cnt_cons (p : Int × Int) (xs : List (Int × Int)) (hp : p ∉ xs) (d : Int) : ∀ n k : Nat, cntFrom (p :: xs) d n k = cntFrom xs d n k + if p.1 = d ∧ (k : Int) ≤ p.2 ∧ p.2 < (k : Int) + n then 1 else 0
  | 0, k => by
    simp only [cntFrom]
    rw [if_neg (by omega)]
  | n + 1, k => by
    simp only [cntFrom]
    rw [cnt_cons p xs hp d n (k + 1)]
    by_cases he : (d, (k : Int)) = p
    · subst he
      have h1 : ((d, (k : Int)) :: xs).contains (d, (k : Int)) = true := by simp
      have h2 : xs.contains (d, (k : Int)) = false := by
        rw [Bool.eq_false_iff]
        intro hc
        rw [List.contains_iff_mem] at hc
        exact hp hc
      rw [h1, h2]
      simp only [if_true, if_false, Bool.false_eq_true]
      have a1 : ¬ (True ∧ ((k + 1 : Nat) : Int) ≤ (k : Int) ∧ (k : Int) < ((k + 1 : Nat) : Int) + n) := fun h => by
        have := h.2.1
        omega
      have a2 : True ∧ (k : Int) ≤ (k : Int) ∧ (k : Int) < (k : Int) + ((n + 1 : Nat) : Int) := ⟨trivial, by omega, by omega⟩
      rw [if_neg a1, if_pos a2]
      omega
    · have h1 : (p :: xs).contains (d, (k : Int)) = xs.contains (d, (k : Int)) := by
        rw [Bool.eq_iff_iff, List.contains_iff_mem, List.contains_iff_mem, List.mem_cons]
        exact ⟨fun h => h.resolve_left he, .inr⟩
      rw [h1]
      have h2 : (p.1 = d ∧ ((k + 1 : Nat) : Int) ≤ p.2 ∧ p.2 < ((k + 1 : Nat) : Int) + n) ↔ (p.1 = d ∧ (k : Int) ≤ p.2 ∧ p.2 < (k : Int) + ((n + 1 : Nat) : Int)) := by
        constructor
        · rintro ⟨a, b, c⟩; exact ⟨a, by omega, by omega⟩
        · rintro ⟨a, b, c⟩
          refine ⟨a, ?_, by omega⟩
          have : p.2 ≠ (k : Int) := fun e => he (by rw [← a, ← e])
          omega
      by_cases h3 : p.1 = d ∧ ((k + 1 : Nat) : Int) ≤ p.2 ∧ p.2 < ((k + 1 : Nat) : Int) + n
      · rw [if_pos h3, if_pos (h2.1 h3)]; omega
      · rw [if_neg h3, if_neg (fun h => h3 (h2.2 h))]; omega
theorem cnt_count (d : Int) : ∀ xs : List (Int × Int), xs.Nodup → (∀ p ∈ xs, IsB p.1 p.2 = true) → cntFrom xs d 48 0 = xs.countP fun p => p.1 == d
  | [], _, _ => by rw [cnt_nil]; rfl
  | p :: xs, hn, hb => by
    rw [List.nodup_cons] at hn
    rw [cnt_cons p xs hn.1, cnt_count d xs hn.2 (fun q hq => hb q (List.mem_cons_of_mem _ hq)), List.countP_cons]
    have := hb p (List.mem_cons_self ..)
    simp only [IsB, decide_eq_true_eq] at this
    congr 1
    by_cases e : p.1 = d
    · have h1 : p.1 = d ∧ ((0 : Nat) : Int) ≤ p.2 ∧ p.2 < ((0 : Nat) : Int) + ((48 : Nat) : Int) := ⟨e, by omega, by omega⟩
      rw [if_pos h1, if_pos (by simpa using e)]
    · rw [if_neg (fun h => e h.1), if_neg (by simpa using e)]
theorem rel_free {f : Int → Int → Bool} {xs : List (Int × Int)} (h : Rel f xs) (d : Int) : (freeN f d : Int) = rfreeN xs d := by
  unfold freeN rfreeN
  cases hd : DiskB d with
  | false => rfl
  | true =>
    simp only [if_true]
    have h1 := free_cnt h hd 48 0 (by omega)
    have h2 := cnt_count d xs h.nodup h.isB
    omega
end Go.Proofs.Ytmegcmjklealbaa
