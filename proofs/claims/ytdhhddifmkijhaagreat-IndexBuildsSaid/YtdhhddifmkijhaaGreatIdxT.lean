/-
  An index keeps its order, whatever is applied; in plain Lean.
-/
import Derived.Test.YtdhhddifmkijhaaGreatIdxM
namespace Go.Proofs.YtdhhddifmkijhaaGreat

section
variable {α β : Type} [DecidableEq α]
theorem aGet_none_iff {k : α} : ∀ {l : List (α × β)}, aGet k l = none ↔ k ∉ l.map (·.1)
  | [] => by simp [aGet]
  | p :: r => by
    unfold aGet
    by_cases h : p.1 = k
    · rw [if_pos h]; simp [h]
    · rw [if_neg h, aGet_none_iff (l := r)]
      simp only [List.map_cons, List.mem_cons, not_or]
      exact ⟨fun h2 => ⟨fun e => h e.symm, h2⟩, fun h2 => h2.2⟩
theorem aGet_isSome_iff {k : α} {l : List (α × β)} : (aGet k l).isSome = true ↔ k ∈ l.map (·.1) := by
  have h := aGet_none_iff (k := k) (l := l)
  cases hg : aGet k l with
  | none => simp only [Option.isSome_none, Bool.false_eq_true, false_iff]; exact h.1 hg
  | some v =>
    simp only [Option.isSome_some, true_iff]
    exact Decidable.by_contra fun hn => by rw [h.2 hn] at hg; cases hg
theorem aGet_of_mem {k : α} {v : β} : ∀ {l : List (α × β)}, (l.map (·.1)).Nodup → (k, v) ∈ l → aGet k l = some v
  | p :: r, hn, h => by
    simp only [List.map_cons, List.nodup_cons] at hn
    unfold aGet
    rcases List.mem_cons.1 h with rfl | h
    · rw [if_pos rfl]
    · rw [if_neg (fun e => hn.1 (by rw [e]; exact List.mem_map.2 ⟨_, h, rfl⟩)), aGet_of_mem hn.2 h]
theorem aPut_new {k : α} {v : β} : ∀ {l : List (α × β)}, k ∉ l.map (·.1) → aPut k v l = l ++ [(k, v)]
  | [], _ => rfl
  | p :: r, h => by
    simp only [List.map_cons, List.mem_cons, not_or] at h
    unfold aPut
    rw [if_neg (fun e => h.1 e.symm), aPut_new h.2]; rfl
theorem aDel_eq {k : α} : ∀ {l : List (α × β)}, (l.map (·.1)).Nodup → aDel k l = l.filter (fun p => !decide (p.1 = k))
  | [], _ => rfl
  | p :: r, hn => by
    simp only [List.map_cons, List.nodup_cons] at hn
    unfold aDel
    by_cases h : p.1 = k
    · rw [if_pos h, List.filter_cons_of_neg (by simp [h])]
      refine (List.filter_eq_self.2 fun q hq => ?_).symm
      have : q.1 ≠ k := fun e => hn.1 (by rw [h, ← e]; exact List.mem_map.2 ⟨q, hq, rfl⟩)
      simp [this]
    · rw [if_neg h, List.filter_cons_of_pos (by simp [h]), aDel_eq hn.2]
theorem mem_aDel {k : α} {l : List (α × β)} (hn : (l.map (·.1)).Nodup) {q : α × β} : q ∈ aDel k l ↔ q ∈ l ∧ q.1 ≠ k := by
  rw [aDel_eq hn, List.mem_filter]
  simp
theorem aDel_nodup {k : α} {l : List (α × β)} (hn : (l.map (·.1)).Nodup) : ((aDel k l).map (·.1)).Nodup := by
  rw [aDel_eq hn]
  exact (List.filter_sublist.map _).nodup hn
theorem aDel_not {k : α} {l : List (α × β)} (hn : (l.map (·.1)).Nodup) : k ∉ (aDel k l).map (·.1) := fun h => by
  obtain ⟨p, hp, rfl⟩ := List.mem_map.1 h
  exact ((mem_aDel hn).1 hp).2 rfl
theorem aDel_le {k : α} : ∀ l : List (α × β), (aDel k l).length ≤ l.length
  | [] => Nat.le_refl _
  | p :: r => by
    unfold aDel
    split
    · simp
    · have := aDel_le (k := k) r
      simp only [List.length_cons]; omega
theorem aPut_le {k : α} {v : β} : ∀ l : List (α × β), (aPut k v l).length ≤ l.length + 1
  | [] => Nat.le_refl _
  | p :: r => by
    unfold aPut
    split
    · simp
    · have := aPut_le (k := k) (v := v) r
      simp only [List.length_cons]; omega
omit [DecidableEq α] in
theorem nodup_snoc {l : List (α × β)} {k : α} {v : β} (hn : (l.map (·.1)).Nodup) (h : k ∉ l.map (·.1)) : ((l ++ [(k, v)]).map (·.1)).Nodup := by
  rw [List.map_append, List.nodup_append]
  refine ⟨hn, by simp, fun a ha b hb e => ?_⟩
  simp only [List.map_cons, List.map_nil, List.mem_singleton] at hb
  subst hb
  exact h (e ▸ ha)
end

/-- the next ID: behind all that ever were -/
def nextOf (H : List Int) : Int := H.foldl (fun n d => max n (d + 1)) 0
theorem nextOf_snoc (H : List Int) (d : Int) : nextOf (H ++ [d]) = max (nextOf H) (d + 1) := by simp [nextOf]
theorem foldl_ge : ∀ (H : List Int) (a : Int), a ≤ H.foldl (fun n d => max n (d + 1)) a ∧ ∀ d ∈ H, d + 1 ≤ H.foldl (fun n d => max n (d + 1)) a
  | [], a => ⟨Int.le_refl _, by simp⟩
  | x :: r, a => by
    obtain ⟨h1, h2⟩ := foldl_ge r (max a (x + 1))
    refine ⟨by simp only [List.foldl_cons]; omega, fun d hd => ?_⟩
    simp only [List.foldl_cons]
    rcases List.mem_cons.1 hd with rfl | hd
    · omega
    · exact h2 d hd
theorem nextOf_lt {H : List Int} {d : Int} (h : d ∈ H) : d < nextOf H := by have := (foldl_ge H 0).2 d h; unfold nextOf; omega
theorem nextOf_nn (H : List Int) : 0 ≤ nextOf H := (foldl_ge H 0).1
structure Inv (x : Ix) : Prop where
  fit : Fit x
  nodE : (x.E.map (·.1)).Nodup
  keyE : ∀ p ∈ x.E, p.2.key = p.1
  plainE : ∀ p ∈ x.E, keyOk p.1 = true
  plainG : ∀ k ∈ x.G, keyOk k = true
  apart : ∀ k ∈ x.G, k ∉ x.E.map (·.1)
  nodV : (x.V.map (·.1)).Nodup
  idV : ∀ q ∈ x.V, q.2.id = q.1
  vH : ∀ q ∈ x.V, q.1 ∈ x.H
  nxt : x.N = nextOf x.H
  entV : ∀ p ∈ x.E, p.2.vol ∈ x.V.map (·.1)
  volE : ∀ q ∈ x.V, ∃ p ∈ x.E, p.2.vol = q.1
  within : ∀ p ∈ x.E, ∀ q ∈ x.V, q.1 = p.2.vol → p.2.off + p.2.len ≤ q.2.len
theorem inv_zero : Inv Ix.zero := ⟨fit_zero, by simp [Ix.zero], by simp [Ix.zero], by simp [Ix.zero], by simp [Ix.zero], by simp [Ix.zero], by simp [Ix.zero], by simp [Ix.zero], by simp [Ix.zero], rfl, by simp [Ix.zero], by simp [Ix.zero], by simp [Ix.zero]⟩
theorem has_iff {α : Type} [DecidableEq α] {l : List α} {a : α} : has l a = true ↔ a ∈ l := by unfold has; exact decide_eq_true_iff
theorem has_false {α : Type} [DecidableEq α] {l : List α} {a : α} : has l a = false ↔ a ∉ l := by unfold has; exact decide_eq_false_iff_not
/-- what may be -/
structure Goes (x : Ix) (r : RecD) : Prop where
  be : MayBe r
  kinds : r.kind = 0 ∨ r.kind = 1 ∨ r.kind = 2 ∨ r.kind = 3
  put : r.kind = 0 → r.ent.key ∉ x.E.map (·.1) ∧ r.ent.key ∉ x.G ∧ r.vol.id ∉ x.H
  del : r.kind = 1 → r.key ∈ x.E.map (·.1)
  move : r.kind = 2 → r.vol.id ∈ x.V.map (·.1) ∧ (x.vol r.vol.id).1.gen < r.vol.gen ∧ r.vol.len = (x.vol r.vol.id).1.len
  merge : r.kind = 3 → r.frm ∈ x.V.map (·.1) ∧ r.to ∈ x.V.map (·.1) ∧ r.vol.id ∉ x.H ∧ r.vol.len = (x.vol r.frm).1.len + (x.vol r.to).1.len ∧ r.frm ≠ r.to
theorem may_zero {x : Ix} {r : RecD} (h : x.may r = 0) : Goes x r := by
  unfold Ix.may at h
  by_cases h0 : recCheck r ≠ 0
  · rw [if_pos h0] at h; exact absurd h h0
  rw [if_neg h0] at h
  have be := check_zero (Decidable.not_not.1 h0)
  split at h
  · cases h
  rename_i h1
  split at h
  · cases h
  rename_i h2
  split at h
  · cases h
  rename_i h3
  split at h
  · cases h
  rename_i h4
  split at h
  · cases h
  rename_i h5
  have hk := inB_true be.kind
  refine ⟨be, by omega, fun hk => ?_, fun hk => ?_, fun hk => ?_, fun hk => ?_⟩
  · simp only [hk, beq_self_eq_true, Bool.true_and, Bool.or_eq_true, not_or, Bool.not_eq_true] at h1
    unfold Ix.known at h1
    rw [Bool.or_eq_false_iff] at h1
    exact ⟨fun hm => (by rw [aGet_isSome_iff.2 hm] at h1; exact absurd h1.1.1 (by simp)), has_false.1 h1.1.2, has_false.1 h1.2⟩
  · simp only [hk, beq_self_eq_true, Bool.true_and, Bool.or_eq_true, not_or, Bool.not_eq_true, Bool.not_eq_false'] at h2
    exact aGet_isSome_iff.1 h2.1.1
  · simp only [hk, beq_self_eq_true, Bool.true_and, Bool.or_eq_true, not_or, Bool.not_eq_true, Bool.not_eq_false', decide_eq_true_eq] at h2 h3
    exact ⟨aGet_isSome_iff.1 h2.1.2, by omega, h3.2⟩
  · simp only [hk, beq_self_eq_true, Bool.true_and, Bool.or_eq_true, not_or, Bool.not_eq_true, Bool.not_eq_false', decide_eq_true_eq] at h2 h4 h5
    have hf := be.frm hk
    unfold fromOk at hf
    simp only [Bool.and_eq_true, Bool.not_eq_true', decide_eq_false_iff_not] at hf
    exact ⟨aGet_isSome_iff.1 h2.2.1, aGet_isSome_iff.1 h2.2.2, has_false.1 h4, h5, hf.2⟩
theorem vol_of {x : Ix} (hn : (x.V.map (·.1)).Nodup) {q : Int × VolD} (h : q ∈ x.V) : (x.vol q.1).1 = q.2 := by
  unfold Ix.vol
  rw [aGet_of_mem hn h]
theorem lay_N {H : List Int} {N d : Int} (h : N = nextOf H) : max N (d + 1) = nextOf (addS H d) := by
  unfold addS
  split
  · rename_i hm
    have := nextOf_lt hm
    omega
  · rw [nextOf_snoc, h]
theorem addS_new {H : List Int} {d : Int} (h : d ∉ H) : addS H d = H ++ [d] := by unfold addS; rw [if_neg h]
theorem vol_lenD {v : VolD} (h : volOk v = true) : 0 ≤ v.len ∧ v.len ≤ 384 := by
  unfold volOk at h
  simp only [Bool.and_eq_true] at h
  exact inB_true h.2.1.1.2
theorem ent_in {r : RecD} (h : entOk r = true) : r.ent.vol = r.vol.id ∧ (0 ≤ r.ent.off ∧ r.ent.off ≤ r.vol.len) ∧ (0 ≤ r.ent.len ∧ r.ent.len ≤ r.vol.len - r.ent.off) ∧ r.ent.dig.size = 32 := by
  unfold entOk at h
  simp only [Bool.and_eq_true, decide_eq_true_eq] at h
  exact ⟨h.1.1.1, inB_true h.1.1.2, inB_true h.1.2, h.2⟩
theorem inv_put {x : Ix} (h : Inv x) {r : RecD} (g : Goes x r) (hk : r.kind = 0) : Inv (Ix.lay { x with E := aPut r.ent.key r.ent x.E } r.vol) := by
  obtain ⟨p1, p2, p3⟩ := g.put hk
  have hv := g.be.vol (by omega)
  have hid := vol_id hv
  have hl := vol_lenD hv
  obtain ⟨e1, e2, e3, e4⟩ := ent_in (g.be.ent hk)
  have hko := g.be.key0 hk
  have hv3 : r.vol.id ∉ x.V.map (·.1) := fun hm => by
    obtain ⟨q, hq, he⟩ := List.mem_map.1 hm
    exact p3 (he ▸ h.vH q hq)
  have hfit : Fit { x with E := aPut r.ent.key r.ent x.E } := by
    refine ⟨fun p hp => ?_, h.fit.gone, h.fit.vols, h.fit.had, h.fit.next⟩
    rcases aPut_mem hp with rfl | hp
    · have := keyOk_size hko
      refine ⟨this, this, e4, ?_⟩
      simp only
      omega
    · exact h.fit.keys p hp
  have hE : ∀ p, p ∈ aPut r.ent.key r.ent x.E ↔ p ∈ x.E ∨ p = (r.ent.key, r.ent) := fun p => by rw [aPut_new p1]; simp
  have hV : ∀ q, q ∈ aPut r.vol.id r.vol x.V ↔ q ∈ x.V ∨ q = (r.vol.id, r.vol) := fun q => by rw [aPut_new hv3]; simp
  refine ⟨hfit.lay hv hid, ?_, ?_, ?_, h.plainG, ?_, ?_, ?_, ?_, lay_N h.nxt, ?_, ?_, ?_⟩
  · simp only [Ix.lay]; rw [aPut_new p1]; exact nodup_snoc h.nodE p1
  · intro p hp
    rcases (hE p).1 hp with hp | rfl
    · exact h.keyE p hp
    · rfl
  · intro p hp
    rcases (hE p).1 hp with hp | rfl
    · exact h.plainE p hp
    · exact hko
  · intro k hkg hm
    obtain ⟨p, hp, rfl⟩ := List.mem_map.1 hm
    rcases (hE p).1 hp with hp | rfl
    · exact h.apart _ hkg (List.mem_map.2 ⟨p, hp, rfl⟩)
    · exact p2 hkg
  · simp only [Ix.lay]; rw [aPut_new hv3]; exact nodup_snoc h.nodV hv3
  · intro q hq
    rcases (hV q).1 hq with hq | rfl
    · exact h.idV q hq
    · rfl
  · intro q hq
    rcases (hV q).1 hq with hq | rfl
    · exact addS_mem.2 (.inl (h.vH q hq))
    · exact addS_mem.2 (.inr rfl)
  · intro p hp
    rcases (hE p).1 hp with hp | rfl
    · obtain ⟨q, hq, he⟩ := List.mem_map.1 (h.entV p hp)
      exact List.mem_map.2 ⟨q, (hV q).2 (.inl hq), he⟩
    · exact List.mem_map.2 ⟨_, (hV _).2 (.inr rfl), e1.symm⟩
  · intro q hq
    rcases (hV q).1 hq with hq | rfl
    · obtain ⟨p, hp, he⟩ := h.volE q hq
      exact ⟨p, (hE p).2 (.inl hp), he⟩
    · exact ⟨_, (hE _).2 (.inr rfl), e1⟩
  · intro p hp q hq he
    rcases (hE p).1 hp with hp | rfl
    · rcases (hV q).1 hq with hq | rfl
      · exact h.within p hp q hq he
      · exact absurd (by have := h.entV p hp; rw [← he] at this; exact this) hv3
    · rcases (hV q).1 hq with hq | rfl
      · exact absurd (by simp only at he; rw [e1] at he; exact List.mem_map.2 ⟨q, hq, he⟩) hv3
      · simp only; omega
theorem lives_iff {x : Ix} {id : Int} : x.lives id = true ↔ ∃ p ∈ x.E, p.2.vol = id := by
  unfold Ix.lives
  rw [List.any_eq_true]
  constructor
  · rintro ⟨p, hp, h⟩; exact ⟨p, hp, by simpa using h⟩
  · rintro ⟨p, hp, h⟩; exact ⟨p, hp, by simpa using h⟩
theorem inv_remove {x : Ix} (h : Inv x) {k : ByteArray} (hk : k ∈ x.E.map (·.1)) : Inv (x.remove k).2 := by
  obtain ⟨p0, hp0, rfl⟩ := List.mem_map.1 hk
  have hg : (x.get p0.1).1 = p0.2 := by
    unfold Ix.get
    rw [aGet_of_mem h.nodE hp0]
  have hE := fun q => mem_aDel (k := p0.1) h.nodE (q := q)
  have hpl := h.plainE _ hp0
  have hf1 : Fit { x with E := aDel p0.1 x.E, G := addS x.G p0.1 } := (h.fit.delE p0.1).putG (keyOk_size hpl)
  have hG : ∀ k ∈ addS x.G p0.1, keyOk k = true := fun k hk => by
    rcases addS_mem.1 hk with hk | rfl
    · exact h.plainG k hk
    · exact hpl
  have hap : ∀ k ∈ addS x.G p0.1, k ∉ (aDel p0.1 x.E).map (·.1) := fun k hk hm => by
    obtain ⟨p, hp, rfl⟩ := List.mem_map.1 hm
    have h2 := (hE p).1 hp
    rcases addS_mem.1 hk with hk | hk
    · exact h.apart _ hk (List.mem_map.2 ⟨p, h2.1, rfl⟩)
    · exact h2.2 hk
  unfold Ix.remove
  rw [hg]
  simp only
  cases hl : ({ x with E := aDel p0.1 x.E, G := addS x.G p0.1 } : Ix).lives p0.2.vol with
  | true =>
    obtain ⟨pl, hpl1, hpl2⟩ := lives_iff.1 hl
    rw [if_pos rfl]
    refine ⟨hf1, aDel_nodup h.nodE, fun p hp => h.keyE p ((hE p).1 hp).1, fun p hp => h.plainE p ((hE p).1 hp).1, hG, hap, h.nodV, h.idV, h.vH, h.nxt, fun p hp => h.entV p ((hE p).1 hp).1, fun q hq => ?_, fun p hp q hq he => h.within p ((hE p).1 hp).1 q hq he⟩
    obtain ⟨p, hp, he⟩ := h.volE q hq
    by_cases e : p.1 = p0.1
    · have : p = p0 := by
        have h1 := aGet_of_mem (k := p.1) (v := p.2) h.nodE hp
        have h2 := aGet_of_mem (k := p0.1) (v := p0.2) h.nodE hp0
        rw [e, h2] at h1
        exact Prod.ext e (Option.some.inj h1).symm
      subst this
      exact ⟨pl, hpl1, hpl2.trans he⟩
    · exact ⟨p, (hE p).2 ⟨hp, e⟩, he⟩
  | false =>
    have hno : ∀ p ∈ aDel p0.1 x.E, p.2.vol ≠ p0.2.vol := fun p hp he => by
      have := lives_iff (x := { x with E := aDel p0.1 x.E, G := addS x.G p0.1 }).2 ⟨p, hp, he⟩
      rw [hl] at this
      cases this
    rw [if_neg (by simp)]
    have hV := fun q => mem_aDel (k := p0.2.vol) h.nodV (q := q)
    refine ⟨hf1.takeV [p0.2.vol], aDel_nodup h.nodE, fun p hp => h.keyE p ((hE p).1 hp).1, fun p hp => h.plainE p ((hE p).1 hp).1, hG, hap, aDel_nodup h.nodV, fun q hq => h.idV q ((hV q).1 hq).1, fun q hq => h.vH q ((hV q).1 hq).1, h.nxt, fun p hp => ?_, fun q hq => ?_, fun p hp q hq he => h.within p ((hE p).1 hp).1 q ((hV q).1 hq).1 he⟩
    · obtain ⟨q, hq, he⟩ := List.mem_map.1 (h.entV p ((hE p).1 hp).1)
      exact List.mem_map.2 ⟨q, (hV q).2 ⟨hq, fun e => hno p hp (he.symm.trans e)⟩, he⟩
    · have hq2 := (hV q).1 hq
      obtain ⟨p, hp, he⟩ := h.volE q hq2.1
      refine ⟨p, (hE p).2 ⟨hp, fun e => hq2.2 ?_⟩, he⟩
      have h1 := aGet_of_mem (k := p.1) (v := p.2) h.nodE hp
      have h2 := aGet_of_mem (k := p0.1) (v := p0.2) h.nodE hp0
      rw [e, h2] at h1
      rw [← he, Option.some.inj h1]
theorem inv_move {x : Ix} (h : Inv x) {r : RecD} (g : Goes x r) (hk : r.kind = 2) : Inv (Ix.lay { x with V := (takeL [r.vol.id] x.V).2 } r.vol) := by
  obtain ⟨p1, -, p3⟩ := g.move hk
  have hv := g.be.vol (by omega)
  have hid := vol_id hv
  obtain ⟨q0, hq0, he0⟩ := List.mem_map.1 p1
  have hq0v := vol_of h.nodV hq0
  rw [he0] at hq0v
  rw [hq0v] at p3
  have hnew := aDel_not (k := r.vol.id) h.nodV
  have hV : ∀ q, q ∈ aPut r.vol.id r.vol (aDel r.vol.id x.V) ↔ (q ∈ x.V ∧ q.1 ≠ r.vol.id) ∨ q = (r.vol.id, r.vol) := fun q => by rw [aPut_new hnew, List.mem_append, mem_aDel h.nodV]; simp
  refine ⟨(h.fit.takeV [r.vol.id]).lay hv hid, h.nodE, h.keyE, h.plainE, h.plainG, h.apart, ?_, ?_, ?_, lay_N h.nxt, ?_, ?_, ?_⟩
  · simp only [Ix.lay, takeL]; rw [aPut_new hnew]; exact nodup_snoc (aDel_nodup h.nodV) hnew
  · intro q hq
    rcases (hV q).1 hq with hq | rfl
    · exact h.idV q hq.1
    · rfl
  · intro q hq
    rcases (hV q).1 hq with hq | rfl
    · exact addS_mem.2 (.inl (h.vH q hq.1))
    · exact addS_mem.2 (.inr rfl)
  · intro p hp
    obtain ⟨q, hq, he⟩ := List.mem_map.1 (h.entV p hp)
    by_cases e : q.1 = r.vol.id
    · exact List.mem_map.2 ⟨_, (hV _).2 (.inr rfl), e.symm.trans he⟩
    · exact List.mem_map.2 ⟨q, (hV q).2 (.inl ⟨hq, e⟩), he⟩
  · intro q hq
    rcases (hV q).1 hq with hq | rfl
    · exact h.volE q hq.1
    · obtain ⟨p, hp, he⟩ := h.volE q0 hq0
      exact ⟨p, hp, he.trans he0⟩
  · intro p hp q hq he
    rcases (hV q).1 hq with hq | rfl
    · exact h.within p hp q hq.1 he
    · have := h.within p hp q0 hq0 (he0.trans he)
      simp only
      omega
theorem inv_merge {x : Ix} (h : Inv x) {r : RecD} (g : Goes x r) (hk : r.kind = 3) : Inv (x.merge r).2 := by
  obtain ⟨p1, p2, p3, p4, p5⟩ := g.merge hk
  have hv := g.be.vol (by omega)
  have hid := vol_id hv
  have hl := vol_lenD hv
  obtain ⟨qa, hqa, hea⟩ := List.mem_map.1 p1
  obtain ⟨qb, hqb, heb⟩ := List.mem_map.1 p2
  have hva := vol_of h.nodV hqa
  have hvb := vol_of h.nodV hqb
  rw [hea] at hva
  rw [heb] at hvb
  rw [hva, hvb] at p4
  have hla := vol_lenD (h.fit.vols _ hqa).2.2
  have hlb := vol_lenD (h.fit.vols _ hqb).2.2
  have hget : vget r.frm x.V = qa.2 := by
    unfold vget
    rw [← hea, aGet_of_mem h.nodV hqa]; rfl
  have hnd1 := aDel_nodup (k := r.frm) h.nodV
  have hnd2 := aDel_nodup (k := r.to) hnd1
  have hold : ∀ q, q ∈ aDel r.to (aDel r.frm x.V) ↔ q ∈ x.V ∧ q.1 ≠ r.frm ∧ q.1 ≠ r.to := fun q => by rw [mem_aDel hnd1, mem_aDel h.nodV, and_assoc]
  have hnew : r.vol.id ∉ (aDel r.to (aDel r.frm x.V)).map (·.1) := fun hm => by
    obtain ⟨q, hq, he⟩ := List.mem_map.1 hm
    exact p3 (he ▸ h.vH q ((hold q).1 hq).1)
  have hV : ∀ q, q ∈ aPut r.vol.id r.vol (aDel r.to (aDel r.frm x.V)) ↔ (q ∈ x.V ∧ q.1 ≠ r.frm ∧ q.1 ≠ r.to) ∨ q = (r.vol.id, r.vol) := fun q => by rw [aPut_new hnew, List.mem_append, hold]; simp
  obtain ⟨m, hm⟩ : ∃ m, m = moved r.frm r.to r.vol.id qa.2.len := ⟨_, rfl⟩
  have hmv : ∀ n : EntD, (m n).key = n.key ∧ (m n).dig = n.dig ∧ (m n).len = n.len ∧ ((n.vol = r.to ∧ (m n).vol = r.vol.id ∧ (m n).off = n.off + qa.2.len) ∨ (n.vol ≠ r.to ∧ n.vol = r.frm ∧ (m n).vol = r.vol.id ∧ (m n).off = n.off) ∨ (n.vol ≠ r.to ∧ n.vol ≠ r.frm ∧ m n = n)) := by
    intro n
    rw [hm]
    unfold moved
    by_cases h1 : n.vol = r.to
    · rw [if_pos h1]; exact ⟨rfl, rfl, rfl, .inl ⟨h1, rfl, rfl⟩⟩
    · rw [if_neg h1]
      by_cases h2 : n.vol = r.frm
      · rw [if_pos h2]; exact ⟨rfl, rfl, rfl, .inr (.inl ⟨h1, h2, rfl, rfl⟩)⟩
      · rw [if_neg h2]; exact ⟨rfl, rfl, rfl, .inr (.inr ⟨h1, h2, rfl⟩)⟩
  have hmg : (x.merge r).2 = Ix.lay { x with V := aDel r.to (aDel r.frm x.V), E := x.E.map fun p => (p.1, m p.2) } r.vol := by
    unfold Ix.merge
    rw [hget, hm]; rfl
  rw [hmg]
  have hkeys : (x.E.map fun p => (p.1, m p.2)).map (·.1) = x.E.map (·.1) := by rw [List.map_map]; rfl
  have hb : ∀ p ∈ x.E, p.2.vol = r.to → p.2.off + p.2.len ≤ qb.2.len := fun p hp he => h.within p hp qb hqb (heb.trans he.symm)
  have ha : ∀ p ∈ x.E, p.2.vol = r.frm → p.2.off + p.2.len ≤ qa.2.len := fun p hp he => h.within p hp qa hqa (hea.trans he.symm)
  have hfit : Fit { x with V := aDel r.to (aDel r.frm x.V), E := x.E.map fun p => (p.1, m p.2) } := by
    refine ⟨fun p hp => ?_, h.fit.gone, fun q hq => h.fit.vols q ((hold q).1 hq).1, h.fit.had, h.fit.next⟩
    obtain ⟨p0, hp0, rfl⟩ := List.mem_map.1 hp
    have hb0 := h.fit.keys p0 hp0
    obtain ⟨m1, m2, m3, mm⟩ := hmv p0.2
    have hb1 := hb p0 hp0
    simp only
    rw [m1, m2, m3]
    rcases mm with ⟨n1, n2, n3⟩ | ⟨n1, n2, n3, n4⟩ | ⟨n1, n2, n3⟩
    · have := hb1 n1
      rw [n2, n3]
      refine ⟨hb0.1, hb0.2.1, hb0.2.2.1, ?_⟩
      omega
    · rw [n3, n4]
      refine ⟨hb0.1, hb0.2.1, hb0.2.2.1, ?_⟩
      omega
    · rw [n3]
      exact hb0
  refine ⟨hfit.lay hv hid, ?_, ?_, ?_, h.plainG, ?_, ?_, ?_, ?_, lay_N h.nxt, ?_, ?_, ?_⟩
  · show ((x.E.map fun p => (p.1, m p.2)).map (·.1)).Nodup
    rw [hkeys]; exact h.nodE
  · intro p hp
    obtain ⟨p0, hp0, rfl⟩ := List.mem_map.1 hp
    exact (hmv p0.2).1.trans (h.keyE p0 hp0)
  · intro p hp
    obtain ⟨p0, hp0, rfl⟩ := List.mem_map.1 hp
    exact h.plainE p0 hp0
  · intro k hkg
    show k ∉ (x.E.map fun p => (p.1, m p.2)).map (·.1)
    rw [hkeys]; exact h.apart k hkg
  · simp only [Ix.lay]; rw [aPut_new hnew]; exact nodup_snoc hnd2 hnew
  · intro q hq
    rcases (hV q).1 hq with hq | rfl
    · exact h.idV q hq.1
    · rfl
  · intro q hq
    rcases (hV q).1 hq with hq | rfl
    · exact addS_mem.2 (.inl (h.vH q hq.1))
    · exact addS_mem.2 (.inr rfl)
  · intro p hp
    obtain ⟨p0, hp0, rfl⟩ := List.mem_map.1 hp
    rcases (hmv p0.2).2.2.2 with ⟨n1, n2, n3⟩ | ⟨n1, n2, n3, n4⟩ | ⟨n1, n2, n3⟩
    · exact List.mem_map.2 ⟨_, (hV _).2 (.inr rfl), n2.symm⟩
    · exact List.mem_map.2 ⟨_, (hV _).2 (.inr rfl), n3.symm⟩
    · obtain ⟨q, hq, he⟩ := List.mem_map.1 (h.entV p0 hp0)
      refine List.mem_map.2 ⟨q, (hV q).2 (.inl ⟨hq, fun e => n2 (he.symm.trans e), fun e => n1 (he.symm.trans e)⟩), ?_⟩
      simp only
      rw [n3]; exact he
  · intro q hq
    rcases (hV q).1 hq with hq | rfl
    · obtain ⟨p, hp, he⟩ := h.volE q hq.1
      refine ⟨(p.1, m p.2), List.mem_map.2 ⟨p, hp, rfl⟩, ?_⟩
      rcases (hmv p.2).2.2.2 with ⟨n1, -, -⟩ | ⟨-, n2, -⟩ | ⟨n1, n2, n3⟩
      · exact absurd (he.symm.trans n1) hq.2.2
      · exact absurd (he.symm.trans n2) hq.2.1
      · simp only; rw [n3]; exact he
    · obtain ⟨p, hp, he⟩ := h.volE qa hqa
      refine ⟨(p.1, m p.2), List.mem_map.2 ⟨p, hp, rfl⟩, ?_⟩
      have he2 : p.2.vol = r.frm := he.trans hea
      rcases (hmv p.2).2.2.2 with ⟨-, n2, -⟩ | ⟨-, -, n3, -⟩ | ⟨-, n2, -⟩
      · exact n2
      · exact n3
      · exact absurd he2 n2
  · intro p hp q hq he
    obtain ⟨p0, hp0, rfl⟩ := List.mem_map.1 hp
    have hin := h.entV p0 hp0
    have hvid : ∀ q ∈ x.V, q.1 ≠ r.vol.id := fun q hq e => p3 (e ▸ h.vH q hq)
    obtain ⟨-, -, m3, mm⟩ := hmv p0.2
    simp only at he ⊢
    rw [m3]
    have ha0 := ha p0 hp0
    have hb0 := hb p0 hp0
    rcases mm with ⟨n1, n2, n3⟩ | ⟨n1, n2, n3, n4⟩ | ⟨n1, n2, n3⟩
    · rw [n3]
      rw [n2] at he
      rcases (hV q).1 hq with hq | rfl
      · exact absurd he (hvid q hq.1)
      · have := hb0 n1
        simp only
        omega
    · rw [n4]
      rw [n3] at he
      rcases (hV q).1 hq with hq | rfl
      · exact absurd he (hvid q hq.1)
      · have := ha0 n2
        simp only
        omega
    · rw [n3]
      rw [n3] at he
      rcases (hV q).1 hq with hq | rfl
      · exact h.within p0 hp0 q hq.1 he
      · obtain ⟨q2, hq2, he2⟩ := List.mem_map.1 hin
        exact absurd (he2.trans he.symm) (hvid q2 hq2)
theorem vget_len {x : Ix} (hf : Fit x) (d : Int) : 0 ≤ (vget d x.V).len ∧ (vget d x.V).len ≤ 384 := by
  unfold vget
  cases hq : aGet d x.V with
  | none => exact ⟨by decide, by decide⟩
  | some v => exact vol_lenD (hf.vols _ (aGet_mem hq)).2.2
/-- what a merge leaves ahead of the new volume -/
theorem fit_merged {x : Ix} (h : Inv x) {r : RecD} (g : Goes x r) (hk : r.kind = 3) : Fit { x with V := (takeL [r.frm, r.to] x.V).2, E := x.E.map fun p => (p.1, moved r.frm r.to r.vol.id (vget r.frm x.V).len p.2) } := by
  have h1 := (inv_merge h g hk).fit
  exact ⟨h1.keys, h.fit.gone, (h.fit.takeV [r.frm, r.to]).vols, h.fit.had, h.fit.next⟩
theorem inv_apply {x : Ix} (h : Inv x) (r : RecD) : Inv (x.apply r).1 := by
  unfold Ix.apply
  by_cases h0 : x.may r ≠ 0
  · rw [if_pos h0]; exact h
  rw [if_neg h0]
  have g := may_zero (Decidable.not_not.1 h0)
  by_cases k0 : r.kind = 0
  · rw [if_pos k0]; exact inv_put h g k0
  rw [if_neg k0]
  by_cases k1 : r.kind = 1
  · rw [if_pos k1]; exact inv_remove h (g.del k1)
  rw [if_neg k1]
  by_cases k2 : r.kind = 2
  · rw [if_pos k2]; exact inv_move h g k2
  rw [if_neg k2]
  exact inv_merge h g (by have := g.kinds; omega)
theorem apply_le (x : Ix) (r : RecD) : (x.apply r).1.E.length ≤ x.E.length + 1 ∧ (x.apply r).1.V.length ≤ x.V.length + 1 := by
  unfold Ix.apply
  split
  · exact ⟨Nat.le_succ _, Nat.le_succ _⟩
  split
  · exact ⟨aPut_le _, aPut_le _⟩
  split
  · unfold Ix.remove
    simp only
    have h1 := aDel_le (k := r.key) x.E
    split
    · simp only; exact ⟨by omega, by omega⟩
    · have h2 := aDel_le (k := (x.get r.key).1.vol) x.V
      simp only [takeL]; exact ⟨by omega, by omega⟩
  split
  · simp only [Ix.lay, takeL]
    have h2 := aDel_le (k := r.vol.id) x.V
    have h3 := aPut_le (k := r.vol.id) (v := r.vol) (aDel r.vol.id x.V)
    exact ⟨by omega, by omega⟩
  · simp only [Ix.merge, Ix.lay, takeL, List.length_map]
    have h2 := aDel_le (k := r.frm) x.V
    have h4 := aDel_le (k := r.to) (aDel r.frm x.V)
    have h3 := aPut_le (k := r.vol.id) (v := r.vol) (aDel r.to (aDel r.frm x.V))
    exact ⟨by omega, by omega⟩
theorem apply_code (x : Ix) (r : RecD) : (x.apply r).2.2 = x.may r := by
  unfold Ix.apply
  split
  · rfl
  rename_i h
  have h := Decidable.not_not.1 h
  repeat' split
  all_goals exact h.symm
theorem apply_same {x : Ix} {r : RecD} (h : x.may r ≠ 0) : (x.apply r).1 = x := by unfold Ix.apply; rw [if_pos h]
end Go.Proofs.YtdhhddifmkijhaaGreat
