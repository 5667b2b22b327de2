/-
  A region that draws its order, walked in one order: an operation whose value is the same in every world that meets S is taken first; a call, or a store, comes when it alone may come up; at a bar (a store that waits for all) S may be changed. Over any program.
-/
import Derived.Deep.RegionHeld3
import Derived.KernelRfl
namespace Go.Proofs.YtlomniffpjndfaaDoor
section
variable {P : Program} {ops : Array Oper} {Q : Exit → Act → World → Prop} {md : Region.Mode}

def wpB (P : Program) (md : Region.Mode) (ops : Array Oper) (Q : Exit → Act → World → Prop) (b : Nat) (S : World → Prop) (K : Nat → Array Bool → Act → World → Prop) :
    Nat → Array Bool → Act → World → Prop
  | 0, listed, a, w => Region.ready md ops listed = [] ∧ Q .normal a w
  | fuel + 1, listed, a, w =>
    (Region.ready md ops listed = [] → Q .normal a w) ∧
    ∀ i ∈ Region.ready md ops listed, wpOp P ops Q i (fun a' w' => if i = b then K fuel (listed.setIfInBounds i true) a' w' else S w' ∧ wpB P md ops Q b S K fuel (listed.setIfInBounds i true) a' w') a w

theorem wpAny_of_B {b : Nat} {S : World → Prop} : ∀ (fuel : Nat) (listed : Array Bool) (a : Act) (w : World),
    wpB P md ops Q b S (wpAny P md ops Q) fuel listed a w → wpAny P md ops Q fuel listed a w
  | 0, _, _, _, h => h
  | fuel + 1, listed, a, w, h => ⟨h.1, fun i hi => wpOp_mono (fun a' w' h' => by
      by_cases e : i = b
      · rw [if_pos e] at h'; exact h'
      · rw [if_neg e] at h'; exact wpAny_of_B fuel _ a' w' h'.2) (h.2 i hi)⟩

def deps (md : Region.Mode) (ops : Array Oper) (b : Nat) : List Nat := match ops[b]? with
  | some o => (o.after.toList.filter (Region.binds md)).map (·.on)
  | none => []
/-- does number b wait for number i, through others? -/
def reach (md : Region.Mode) (ops : Array Oper) : Nat → Nat → Nat → Bool
  | 0, _, _ => false
  | f + 1, b, i => (deps md ops b).any fun d => d == i || reach md ops f d i
/-- what is listed, all that it waits for is -/
def closedB (md : Region.Mode) (ops : Array Oper) (listed : Array Bool) : Bool :=
  listed.size == ops.size && (List.range ops.size).all fun j => !listed.getD j false || (deps md ops j).all fun d => listed.getD d false
structure Closed (md : Region.Mode) (ops : Array Oper) (listed : Array Bool) : Prop where
  size : listed.size = ops.size
  all : ∀ j, listed.getD j false = true → ∀ d ∈ deps md ops j, listed.getD d false = true
theorem closed_of {md : Region.Mode} {ops : Array Oper} {listed : Array Bool} (h : closedB md ops listed = true) : Closed md ops listed := by
  unfold closedB at h
  rw [Bool.and_eq_true, beq_iff_eq, List.all_eq_true] at h
  refine ⟨h.1, fun j hj d hd => ?_⟩
  have hlt : j < ops.size := by
    rcases Nat.lt_or_ge j listed.size with h' | h'
    · rw [← h.1]; exact h'
    · simp [Array.getElem?_eq_none h'] at hj
  have := h.2 j (List.mem_range.2 hlt)
  rw [hj] at this
  simp only [Bool.not_true, Bool.false_or, List.all_eq_true] at this
  exact this d hd
theorem reach_listed {md : Region.Mode} {ops : Array Oper} {listed : Array Bool} (hc : Closed md ops listed) : ∀ (f b i : Nat), (∀ d ∈ deps md ops b, listed.getD d false = true) → reach md ops f b i = true → listed.getD i false = true
  | 0, _, _, _, h => by cases h
  | f + 1, b, i, hb, h => by
    simp only [reach, List.any_eq_true, Bool.or_eq_true, beq_iff_eq] at h
    obtain ⟨d, hd, rfl | h⟩ := h
    · exact hb d hd
    · exact reach_listed hc f d i (hc.all d (hb d hd)) h
theorem mem_deps {md : Region.Mode} {ops : Array Oper} {b : Nat} {o : Oper} (ho : ops[b]? = some o) (d : Nat) : d ∈ deps md ops b ↔ ∃ e ∈ o.after, Region.binds md e = true ∧ e.on = d := by
  unfold deps
  rw [ho]
  simp only [List.mem_map, List.mem_filter, Array.mem_toList_iff]
  constructor
  · rintro ⟨e, ⟨h1, h2⟩, h3⟩; exact ⟨e, h1, h2, h3⟩
  · rintro ⟨e, h1, h2, h3⟩; exact ⟨e, ⟨h1, h2⟩, h3⟩
theorem closed_ready {md : Region.Mode} {ops : Array Oper} {listed : Array Bool} {j : Nat} (hc : Closed md ops listed) (hj : j ∈ Region.ready md ops listed) : Closed md ops (listed.setIfInBounds j true) := by
  obtain ⟨-, o, ho, hall⟩ := mem_ready.1 hj
  refine ⟨by simp [hc.size], fun i hi d hd => ?_⟩
  by_cases hij : j = i
  · subst hij
    obtain ⟨e, h1, h2, h3⟩ := (mem_deps ho d).1 hd
    exact getD_set_true (h3 ▸ hall e h1 h2)
  · rw [getD_set_ne false hij] at hi
    exact getD_set_true (hc.all i hi d hd)

theorem wpB_first {b : Nat} {S : World → Prop} {K : Nat → Array Bool → Act → World → Prop} {i : Nat} {oi : Oper} {v : Value} (hi : ops[i]? = some oi)
    (hsel : ∀ (j : Nat) (o : Oper) cs b, ops[j]? = some o → o.op ≠ .select cs b)
    (hQ : ∀ c a w, Q (.panic c) (a.put oi.dst v) w → Q (.panic c) a w) (hib : i ≠ b)
    (hbar : ∀ ob, ops[b]? = some ob → ∃ f, reach md ops f b i = true) :
    ∀ (fuel : Nat) (listed : Array Bool) (a : Act) (w : World),
      (∀ j oj, ops[j]? = some oj → j ≠ i → listed.getD j true = false → (∀ e ∈ oj.after, Region.binds md e = true → e.on ≠ i) → oi.apart ops oj = true) →
      Closed md ops listed → i ∈ Region.ready md ops listed → YieldsIf P ops S oi v a → S w →
      wpB P md ops Q b S K fuel (listed.setIfInBounds i true) (a.put oi.dst v) w → wpB P md ops Q b S K (fuel + 1) listed a w := by
  intro fuel
  induction fuel with
  | zero =>
    intro listed a w _ hcl hr hy hS H
    refine ⟨fun h => (by rw [h] at hr; cases hr), fun j hj => ?_⟩
    by_cases hji : j = i
    · subst hji; exact hy.wpOp hi hS (by rw [if_neg hib]; exact ⟨hS, H⟩)
    · have := ready_mono hj hji
      rw [H.1] at this
      cases this
  | succ fuel ih =>
    intro listed a w hfree hcl hr hy hS H
    refine ⟨fun h => (by rw [h] at hr; cases hr), fun j hj => ?_⟩
    by_cases hji : j = i
    · subst hji; exact hy.wpOp hi hS (by rw [if_neg hib]; exact ⟨hS, H⟩)
    · have h1 := H.2 j (ready_mono hj hji)
      obtain ⟨hjun, oj, hoj, hall⟩ := mem_ready.1 hj
      have hnot : ∀ e ∈ oj.after, Region.binds md e = true → e.on ≠ i := fun e he hb heq => by
        have h1 := hall e he hb
        have h0 := (mem_ready.1 hr).1
        rw [heq] at h1
        rcases Nat.lt_or_ge i listed.size with h' | h'
        · simp [h'] at h0 h1; rw [h0] at h1; cases h1
        · simp [Array.getElem?_eq_none h'] at h1
      have hjb : j ≠ b := fun e => by
        obtain ⟨f, hf⟩ := hbar oj (e ▸ hoj)
        have h1 := reach_listed hcl f b i (fun d hd => by
          obtain ⟨ed, e1, e2, e3⟩ := (mem_deps (e ▸ hoj) d).1 hd
          exact e3 ▸ hall ed e1 e2) hf
        have h0 := (mem_ready.1 hr).1
        rcases Nat.lt_or_ge i listed.size with h' | h'
        · simp [h'] at h0 h1; rw [h0] at h1; cases h1
        · simp [Array.getElem?_eq_none h'] at h1
      have h2 := wpOp_putIf hoj (hfree j oj hoj hji hjun hnot) (fun cs b => hsel i oi cs b hi) (fun cs b => hsel j oj cs b hoj) hQ hy h1
      have hfree' : ∀ k ok, ops[k]? = some ok → k ≠ i → (listed.setIfInBounds j true).getD k true = false →
          (∀ e ∈ ok.after, Region.binds md e = true → e.on ≠ i) → oi.apart ops ok = true := fun k ok hk hki hun hno => by
        refine hfree k ok hk hki ?_ hno
        by_cases hjk : j = k
        · subst hjk; exact hjun
        · rw [getD_set_ne true hjk] at hun; exact hun
      refine wpOp_mono (fun a' w' h3 => ?_) h2
      rw [if_neg hjb] at h3 ⊢
      refine ⟨h3.2.1, ih (listed.setIfInBounds j true) a' w' hfree' (closed_ready hcl hj) (ready_mono hr (Ne.symm hji)) h3.1 h3.2.1 ?_⟩
      rw [Array.setIfInBounds_comm _ _ hji]
      exact h3.2.2

theorem op_at {ops : Array Oper} {i : Nat} {o : Oper} (h : (ops.toList.drop i).head? = some o) : ops[i]? = some o := by
  rw [List.head?_drop] at h
  simpa using h
/-- does the bar wait for number i? (no bar: b is no operation's number) -/
def barred (md : Region.Mode) (ops : Array Oper) (b i : Nat) : Bool :=
  i != b && (ops[b]?.isNone || reach md ops ops.size b i)
theorem barred_spec {b i : Nat} (h : barred md ops b i = true) : i ≠ b ∧ ∀ ob, ops[b]? = some ob → ∃ f, reach md ops f b i = true := by
  unfold barred at h
  rw [Bool.and_eq_true] at h
  refine ⟨by simpa using h.1, fun ob hob => ⟨ops.size, ?_⟩⟩
  have h2 := h.2
  rw [hob] at h2
  simpa using h2

/-- all that a take asks of the region's text, as one Bool -/
def takes (md : Region.Mode) (ops : Array Oper) (b : Nat) (listed : Array Bool) (i : Nat) : Bool :=
  closedB md ops listed && Region.noSelect ops && Region.free md ops listed i && (Region.ready md ops listed).contains i && barred md ops b i

theorem wpB_take {b : Nat} {S : World → Prop} {K : Nat → Array Bool → Act → World → Prop} (i : Nat) (oi : Oper) (v : Value) {fuel : Nat} {listed : Array Bool} {a : Act} {w : World}
    (hi : (ops.toList.drop i).head? = some oi) (hc : takes md ops b listed i = true) (hQ : ∀ c a w, Q (.panic c) (a.put oi.dst v) w → Q (.panic c) a w)
    (hw : Region.wanted oi (yielded ops a.tmps) = true) (hS : S w)
    (hy : ∀ w, S w → (execOp a.eval oi).run P w = .ok (.value v) w)
    (h : wpB P md ops Q b S K fuel (listed.setIfInBounds i true) (a.put oi.dst v) w) : wpB P md ops Q b S K (fuel + 1) listed a w := by
  unfold takes at hc
  simp only [Bool.and_eq_true] at hc
  obtain ⟨⟨⟨⟨hcl, hs⟩, hf⟩, hr⟩, hb⟩ := hc
  obtain ⟨hb1, hb2⟩ := barred_spec hb
  exact wpB_first (op_at hi) (Region.noSelect_spec hs) hQ hb1 hb2 fuel listed a w (Region.free_spec (op_at hi) hf) (closed_of hcl) (by simpa using hr) (.inl ⟨hw, hy⟩) hS h
/-- an operation whose guard says no -/
theorem wpB_skip {b : Nat} {S : World → Prop} {K : Nat → Array Bool → Act → World → Prop} (i : Nat) (oi : Oper) {fuel : Nat} {listed : Array Bool} {a : Act} {w : World}
    (hi : (ops.toList.drop i).head? = some oi) (hc : takes md ops b listed i = true) (hQ : ∀ c a w, Q (.panic c) (a.put oi.dst undef) w → Q (.panic c) a w)
    (hw : Region.wanted oi (yielded ops a.tmps) = false) (hS : S w)
    (h : wpB P md ops Q b S K fuel (listed.setIfInBounds i true) (a.put oi.dst undef) w) : wpB P md ops Q b S K (fuel + 1) listed a w := by
  unfold takes at hc
  simp only [Bool.and_eq_true] at hc
  obtain ⟨⟨⟨⟨hcl, hs⟩, hf⟩, hr⟩, hb⟩ := hc
  obtain ⟨hb1, hb2⟩ := barred_spec hb
  exact wpB_first (op_at hi) (Region.noSelect_spec hs) hQ hb1 hb2 fuel listed a w (Region.free_spec (op_at hi) hf) (closed_of hcl) (by simpa using hr) (.inr ⟨hw, rfl⟩) hS h
/-- one alone may come up: a call, a store -/
theorem wpB_step {b : Nat} {S : World → Prop} {K : Nat → Array Bool → Act → World → Prop} (i : Nat) (oi : Oper) {fuel : Nat} {listed : Array Bool} {a : Act} {w : World}
    (hi : (ops.toList.drop i).head? = some oi) (hr : Region.ready md ops listed = [i]) (hne : (i != b) = true) (hw : Region.wanted oi (yielded ops a.tmps) = true)
    (h : ∀ K' : Act → World → Prop, Shut (∀ a w, S w → (S w → wpB P md ops Q b S K fuel (listed.setIfInBounds i true) a w) → K' a w) → Oper.wp P oi a w K' Q) : wpB P md ops Q b S K (fuel + 1) listed a w := by
  refine ⟨fun h0 => (by rw [hr] at h0; cases h0), fun j hj => ?_⟩
  rw [hr] at hj
  obtain rfl : j = i := by simpa using hj
  have hne' : j ≠ b := by simpa using hne
  refine wpOp_step (op_at hi) fun K' hK => ?_
  rw [if_pos hw]
  refine h K' (fun a w hs hb => hK a w ?_)
  rw [if_neg hne']; exact ⟨hs, hb hs⟩
/-- two may come up: both orders -/
theorem wpB_fork {b : Nat} {S : World → Prop} {K : Nat → Array Bool → Act → World → Prop} (i j : Nat) (oi oj : Oper) {fuel : Nat} {listed : Array Bool} {a : Act} {w : World}
    (hi : (ops.toList.drop i).head? = some oi) (hj : (ops.toList.drop j).head? = some oj) (hr : Region.ready md ops listed = [i, j]) (hne : (i != b && j != b) = true)
    (hwi : Region.wanted oi (yielded ops a.tmps) = true) (hwj : Region.wanted oj (yielded ops a.tmps) = true)
    (h1 : ∀ K' : Act → World → Prop, Shut (∀ a w, S w → (S w → wpB P md ops Q b S K fuel (listed.setIfInBounds i true) a w) → K' a w) → Oper.wp P oi a w K' Q)
    (h2 : ∀ K' : Act → World → Prop, Shut (∀ a w, S w → (S w → wpB P md ops Q b S K fuel (listed.setIfInBounds j true) a w) → K' a w) → Oper.wp P oj a w K' Q) : wpB P md ops Q b S K (fuel + 1) listed a w := by
  refine ⟨fun h0 => (by rw [hr] at h0; cases h0), fun x hx => ?_⟩
  rw [hr] at hx
  simp only [Bool.and_eq_true, bne_iff_ne, ne_eq] at hne
  simp only [List.mem_cons, List.not_mem_nil, or_false] at hx
  rcases hx with rfl | rfl
  · refine wpOp_step (op_at hi) fun K' hK => ?_
    rw [if_pos hwi]
    refine h1 K' (fun a w hs hb => hK a w ?_)
    rw [if_neg hne.1]; exact ⟨hs, hb hs⟩
  · refine wpOp_step (op_at hj) fun K' hK => ?_
    rw [if_pos hwj]
    refine h2 K' (fun a w hs hb => hK a w ?_)
    rw [if_neg hne.2]; exact ⟨hs, hb hs⟩
/-- what an allocation leaves -/
theorem with_new {K : Act → World → Prop} {a : Act} {w : World} {o : Obj} (h : (w.alloc o).heap[w.heap.size]? = some o → K a (w.alloc o)) : K a (w.alloc o) := h (by
  show (w.heap.push o)[w.heap.size]? = some o
  simp)
theorem with_new_drew {K : Act → World → Prop} {a : Act} {w : World} {o : Obj} (h : (w.alloc o).drew.heap[w.heap.size]? = some o → K a (w.alloc o).drew) : K a (w.alloc o).drew := h (by
  show (w.heap.push o)[w.heap.size]? = some o
  simp)
/-- the bar: behind it a new S, a new bar -/
theorem wpB_bar {b : Nat} {S : World → Prop} (S' : World → Prop) (b' : Nat) (oi : Oper) {fuel : Nat} {listed : Array Bool} {a : Act} {w : World}
    (hi : (ops.toList.drop b).head? = some oi) (hr : Region.ready md ops listed = [b]) (hw : Region.wanted oi (yielded ops a.tmps) = true)
    (h : ∀ K' : Act → World → Prop, Shut (∀ a w, S' w → (S' w → wpB P md ops Q b' S' (wpAny P md ops Q) fuel (listed.setIfInBounds b true) a w) → K' a w) → Oper.wp P oi a w K' Q) :
    wpB P md ops Q b S (wpAny P md ops Q) (fuel + 1) listed a w := by
  refine ⟨fun h0 => (by rw [hr] at h0; cases h0), fun j hj => ?_⟩
  rw [hr] at hj
  obtain rfl : j = b := by simpa using hj
  refine wpOp_step (op_at hi) fun K' hK => ?_
  rw [if_pos hw]
  refine h K' (fun a w hs hb => hK a w ?_)
  rw [if_pos rfl]; exact wpAny_of_B _ _ _ _ (hb hs)
theorem wpB_done {b : Nat} {S : World → Prop} {K : Nat → Array Bool → Act → World → Prop} {listed : Array Bool} {a : Act} {w : World} (hr : Region.ready md ops listed = []) (h : Q .normal a w) :
    ∀ fuel, wpB P md ops Q b S K fuel listed a w
  | 0 => ⟨hr, h⟩
  | _ + 1 => ⟨fun _ => h, by rw [hr]; simp⟩
theorem wpB_begin (b : Nat) (S : World → Prop) {id : Nat} {a : Act} {w : World} (hm : P.follows .mixedOrders = true) (hS : S w.drew)
    (h : S w.drew → wpB P .any ops Q b S (wpAny P .any ops Q) ops.size (Array.replicate ops.size false) a w.drew) : (Code.region id ops true).wp P Q a w :=
  wp_region_any hm (wpAny_of_B _ _ _ _ (h hS))
end
end Go.Proofs.YtlomniffpjndfaaDoor
