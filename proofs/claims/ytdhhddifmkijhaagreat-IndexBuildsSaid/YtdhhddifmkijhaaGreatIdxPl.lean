/-
  What is gone stays gone; records one behind the other; in plain Lean.
-/
import Derived.Test.YtdhhddifmkijhaaGreatIdxT
import Derived.Test.YtdhhddifmkijhaaGreatP2
namespace Go.Proofs.YtdhhddifmkijhaaGreat

theorem gone_grows (x : Ix) (r : RecD) {k : ByteArray} (h : k ∈ x.G) : k ∈ (x.apply r).1.G := by
  unfold Ix.apply
  split
  · exact h
  split
  · exact h
  split
  · unfold Ix.remove
    simp only
    split
    · exact addS_mem.2 (.inl h)
    · exact addS_mem.2 (.inl h)
  split
  · exact h
  · exact h
theorem gone_new {x : Ix} {r : RecD} (h : x.may r = 0) (hk : r.kind = 1) : r.key ∈ (x.apply r).1.G := by
  unfold Ix.apply
  rw [if_neg (by rw [h]; simp), if_neg (by omega), if_pos hk]
  unfold Ix.remove
  simp only
  split
  · exact addS_mem.2 (.inr rfl)
  · exact addS_mem.2 (.inr rfl)
theorem gone_get {x : Ix} (hi : Inv x) {k : ByteArray} (h : k ∈ x.G) : x.get k = (zeroEnt, 9) := by
  unfold Ix.get
  rw [aGet_none_iff.2 (hi.apart k h)]
theorem gone_known {x : Ix} {k : ByteArray} (h : k ∈ x.G) : x.known k = true := by
  unfold Ix.known
  rw [has_iff.2 h, Bool.or_true]
theorem laid_ok {id n : Int} (h0 : 0 ≤ id) (h1 : id ≤ 1099511627776) (hn : inB n 384 = true) : volOk (laidV id 0 n) = true := by
  have hl : (locs9 9).all locOk = true := by decide
  have hd : decide ((locs9 9).length = 9) = true := by decide
  have hd2 : decide ((disksTo (locs9 9)).length = 9) = true := by decide
  have hi : inB id 1099511627776 = true := by unfold inB; rw [decide_eq_true h0, decide_eq_true h1]; rfl
  have hg : inB 0 1099511627776 = true := by decide
  unfold volOk laidV
  simp only
  rw [hl, hi, hg, hn, hd, hd2]
  rfl
theorem put_check {k : ByteArray} {id : Int} (hk : keyOk k = true) (h0 : 0 ≤ id) (h1 : id ≤ 1099511627776) : recCheck (putR k id) = 0 := by
  have hv := laid_ok h0 h1 (n := 40) (by decide)
  have he : entOk (putR k id) = true := by
    unfold entOk
    have a1 : decide ((putR k id).ent.vol = (putR k id).vol.id) = true := decide_eq_true rfl
    have a2 : inB (putR k id).ent.off (putR k id).vol.len = true := by show inB 0 40 = true; decide
    have a3 : inB (putR k id).ent.len ((putR k id).vol.len - (putR k id).ent.off) = true := by show inB 40 (40 - 0) = true; decide
    have a4 : decide ((putR k id).ent.dig.size = 32) = true := decide_eq_true rfl
    rw [a1, a2, a3, a4]; rfl
  have hn : namedR (putR k id) = putR k id := rfl
  have b1 : inB (putR k id).seq 63 = true := by show inB 0 63 = true; decide
  have b2 : inB (putR k id).kind 3 = true := by show inB 0 3 = true; decide
  have b3 : decide ((putR k id).kind = 1) = false := by show decide ((0 : Int) = 1) = false; decide
  have b4 : decide ((putR k id).kind = 0) = true := by show decide ((0 : Int) = 0) = true; decide
  have b5 : decide ((putR k id).kind = 3) = false := by show decide ((0 : Int) = 3) = false; decide
  have hv' : volOk (putR k id).vol = true := hv
  have hk' : keyOk (putR k id).ent.key = true := hk
  unfold recCheck
  rw [b1, b2, b3, b4, b5, hv', hk', he, hn]
  simp
theorem put_held {x : Ix} {k : ByteArray} {id : Int} (hk : keyOk k = true) (hg : x.known k = true) (h0 : 0 ≤ id) (h1 : id ≤ 1099511627776) : x.may (putR k id) = 13 := by
  unfold Ix.may
  rw [put_check hk h0 h1]
  have b4 : ((putR k id).kind == 0) = true := rfl
  have b6 : x.known (putR k id).ent.key = true := hg
  rw [if_neg (by simp), b4, b6]
  rfl
/-- records, one behind the other -/
def Ix.run (x : Ix) : List RecD → Ix
  | [] => x
  | r :: l => Ix.run (x.apply r).1 l
theorem run_snoc (x : Ix) (l : List RecD) (r : RecD) : x.run (l ++ [r]) = ((x.run l).apply r).1 := by
  induction l generalizing x with
  | nil => rfl
  | cons a l ih => exact ih _
theorem inv_run {x : Ix} (h : Inv x) (l : List RecD) : Inv (x.run l) := by
  induction l generalizing x with
  | nil => exact h
  | cons a l ih => exact ih (inv_apply h a)
theorem run_le (x : Ix) (l : List RecD) : (x.run l).E.length ≤ x.E.length + l.length ∧ (x.run l).V.length ≤ x.V.length + l.length := by
  induction l generalizing x with
  | nil => exact ⟨Nat.le_refl _, Nat.le_refl _⟩
  | cons a l ih =>
    have h1 := ih (x.apply a).1
    have h2 := apply_le x a
    simp only [Ix.run, List.length_cons]
    omega
def ixs (l : List RecD) : Ix := Ix.zero.run l
theorem ixs_snoc (l : List RecD) (r : RecD) : ixs (l ++ [r]) = ((ixs l).apply r).1 := run_snoc _ _ _
theorem ixs_inv (l : List RecD) : Inv (ixs l) := inv_run inv_zero l
theorem ixs_le (l : List RecD) : (ixs l).E.length ≤ l.length ∧ (ixs l).V.length ≤ l.length := by
  have := run_le Ix.zero l
  simp only [Ix.zero, List.length_nil, Nat.zero_add] at this
  exact this
/-- records up to the first that may not be -/
def Ix.build (x : Ix) : List RecD → Ix × Nat
  | [] => (x, 0)
  | r :: l => if x.may r ≠ 0 then (x, 0) else (((x.apply r).1.build l).1, ((x.apply r).1.build l).2 + 1)
theorem build_run (x : Ix) (l : List RecD) : (x.build l).1 = x.run (l.take (x.build l).2) ∧ (x.build l).2 ≤ l.length := by
  induction l generalizing x with
  | nil => exact ⟨rfl, Nat.le_refl _⟩
  | cons a l ih =>
    unfold Ix.build
    split
    · exact ⟨rfl, Nat.zero_le _⟩
    · have := ih (x.apply a).1
      exact ⟨this.1, by simp only [List.length_cons]; omega⟩
theorem build_inv {x : Ix} (h : Inv x) (l : List RecD) : Inv (x.build l).1 := by rw [(build_run x l).1]; exact inv_run h _
theorem build_le (l : List RecD) : (Ix.zero.build l).1.E.length ≤ l.length ∧ (Ix.zero.build l).1.V.length ≤ l.length := by
  have h := build_run Ix.zero l
  have h2 := run_le Ix.zero (l.take (Ix.zero.build l).2)
  rw [← h.1] at h2
  simp only [Ix.zero, List.length_nil, Nat.zero_add, List.length_take] at h2
  simp only [Ix.zero]
  omega
/-- all of them may be -/
def AllMay (x : Ix) : List RecD → Prop
  | [] => True
  | r :: l => x.may r = 0 ∧ AllMay (x.apply r).1 l
theorem allMay_snoc {x : Ix} {l : List RecD} {r : RecD} : AllMay x (l ++ [r]) ↔ AllMay x l ∧ (x.run l).may r = 0 := by
  induction l generalizing x with
  | nil => simp [AllMay, Ix.run]
  | cons a l ih =>
    simp only [List.cons_append, AllMay, Ix.run, ih, and_assoc]
theorem build_all {x : Ix} {l : List RecD} (h : AllMay x l) : x.build l = (x.run l, l.length) := by
  induction l generalizing x with
  | nil => rfl
  | cons a l ih =>
    unfold Ix.build
    rw [if_neg (by rw [h.1]; simp), ih h.2]
    rfl
theorem build_snoc_ok {x : Ix} {l : List RecD} (h : AllMay x l) (r : RecD) (rest : List RecD) (hr : (x.run l).may r ≠ 0) : x.build (l ++ r :: rest) = (x.run l, l.length) := by
  induction l generalizing x with
  | nil =>
    have hr2 : x.may r ≠ 0 := hr
    simp only [List.nil_append, Ix.build]
    rw [if_pos hr2]; rfl
  | cons a l ih =>
    simp only [List.cons_append, Ix.build]
    rw [if_neg (by rw [h.1]; simp), ih h.2 hr]
    rfl
/-- a volume's ID is behind none of the next -/
theorem vols_below {x : Ix} (h : Inv x) {q : Int × VolD} (hq : q ∈ x.V) : q.1 < x.N := by rw [h.nxt]; exact nextOf_lt (h.vH q hq)
/-- an index stays where only rows of other things turn -/
theorem IxAt.keepRows {I : Ib} {w w' : World} {x : Ix} (h : IxAt I w x) {Y : List Nat} (k : Kp Y w w') (hy : ∀ g ∈ Y, ∃ cur t z, w.heap[g]? = some (.cells cur t z) ∧ t ≠ 88 ∧ t ≠ 70) : IxAt I w' x := by
  have hb : I.b ∉ Y := fun hm => by
    obtain ⟨cur, t, z, h1, -, h3⟩ := hy _ hm
    rw [h.top] at h1
    simp only [Option.some.injEq, Obj.cells.injEq] at h1
    exact h3 h1.2.1.symm
  have hmap : ∀ {α : Type} {enc : α → Value} {b : Nat} {kvs : List (α × Value)}, MapK enc w b kvs → b ∉ Y := fun hk hm => by
    obtain ⟨cur, t, z, h1, -, -⟩ := hy _ hm
    obtain ⟨es, clock, h2, -⟩ := hk
    rw [h1] at h2
    cases h2
  refine ⟨(k.block _ (lt_of_block h.top) hb).trans h.top, h.ents.keep k (hmap h.ents), h.gone.keep k (hmap h.gone), ?_, h.had.keep k (hmap h.had), h.apart⟩
  obtain ⟨VS, h1, h2, h3⟩ := h.vols
  refine ⟨VS, h1, h2.keep k (hmap h2), fun p hp => ?_⟩
  obtain ⟨hl, ht⟩ := h3 p hp
  obtain ⟨av, cap, hv, hi⟩ := hl
  have hout : ∀ b, p.2.2.ownBlock = some b → 0 < p.2.1.locs.length → b ∉ Y := fun b hb hn hm => by
    obtain ⟨cur, z, hc⟩ := ht b hb hn
    obtain ⟨cur2, t, z2, h1, h4, -⟩ := hy _ hm
    rw [h1] at hc
    simp only [Option.some.injEq, Obj.cells.injEq] at hc
    exact h4 hc.2.1
  refine ⟨⟨av, cap, hv, fun hn => ?_⟩, fun b hb hn => ?_⟩
  · obtain ⟨b, o, rfl, h2, h3, h4, h5⟩ := hi hn
    exact ⟨b, o, rfl, h2, h3, Nat.lt_of_lt_of_le h4 k.size, fun j u hu => (k.cell h4 (hout b (by rw [hv]; rfl) hn)).trans (h5 j u hu)⟩
  · obtain ⟨cur, z, hc⟩ := ht b hb hn
    exact ⟨cur, z, (k.block b (lt_of_block hc) (hout b hb hn)).trans hc⟩
end Go.Proofs.YtdhhddifmkijhaaGreat
