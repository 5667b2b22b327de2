/-
  The index and the document's one go alike; in plain Lean.
  The document's index in the index's terms: May, Apply.
-/
import Derived.Test.YtdhhddifmkijhaaGreatIdxRm
import Derived.Test.YtdhhddifmkijhaaGreatIdxT
import Derived.Test.YtdhhddifmkijhaaGreatIdxPl
namespace Go.Proofs.YtdhhddifmkijhaaGreat

structure Rel (x : Ix) (k : Rx) : Prop where
  E : k.E = x.E.map (·.2)
  G : k.G = x.G
  H : k.H = x.H
  V : ∀ v, v ∈ k.V ↔ (v.id, v) ∈ x.V
  sorted : k.V.Pairwise (fun a b => a.id < b.id)
def Rx.zero : Rx := ⟨[], [], [], []⟩
theorem rel_zero : Rel Ix.zero Rx.zero := ⟨rfl, rfl, rfl, by simp [Ix.zero, Rx.zero], List.Pairwise.nil⟩

theorem find_vals (key : ByteArray) : ∀ l : List (ByteArray × EntD), (∀ p ∈ l, p.2.key = p.1) → (l.map (·.2)).find? (fun e => decide (e.key = key)) = aGet key l
  | [], _ => rfl
  | p :: r, h => by
    have h1 := h p (List.mem_cons_self ..)
    rw [List.map_cons, List.find?_cons, aGet, find_vals key r (fun q hq => h q (List.mem_cons_of_mem _ hq)), h1]
    by_cases e : p.1 = key <;> simp [e]
theorem Rel.find {x : Ix} {k : Rx} (h : Rel x k) (hi : Inv x) (key : ByteArray) : k.E.find? (fun e => decide (e.key = key)) = aGet key x.E := by rw [h.E]; exact find_vals key x.E hi.keyE
theorem Rel.entry {x : Ix} {k : Rx} (h : Rel x k) (hi : Inv x) (key : ByteArray) : (k.entry key).isSome = (aGet key x.E).isSome := by
  rw [← h.find hi]; exact find_isSome
theorem Rel.get {x : Ix} {k : Rx} (h : Rel x k) (hi : Inv x) (key : ByteArray) : k.get key = x.get key := by
  unfold Rx.get Ix.get
  rw [h.find hi]
  cases aGet key x.E <;> rfl
theorem Rel.known {x : Ix} {k : Rx} (h : Rel x k) (hi : Inv x) (key : ByteArray) : k.known key = x.known key := by
  unfold Rx.known Ix.known
  rw [h.entry hi, h.G, Bool.or_comm]
theorem Rel.findV {x : Ix} {k : Rx} (h : Rel x k) (hi : Inv x) (id : Int) : k.V.find? (fun v => decide (v.id = id)) = aGet id x.V := by
  cases hf : k.V.find? (fun v => decide (v.id = id)) with
  | some v =>
    have h1 := List.mem_of_find?_eq_some hf
    have h2 := List.find?_some hf
    have h2 : v.id = id := of_decide_eq_true h2
    have h3 := (h.V v).1 h1
    rw [h2] at h3
    exact (aGet_of_mem hi.nodV h3).symm
  | none =>
    rw [List.find?_eq_none] at hf
    cases hg : aGet id x.V with
    | none => rfl
    | some v =>
      have h1 := aGet_mem hg
      have h2 : v.id = id := hi.idV _ h1
      have h3 := (h.V v).2 (by rw [h2]; exact h1)
      exact absurd (decide_eq_true h2) (hf v h3)
theorem Rel.place {x : Ix} {k : Rx} (h : Rel x k) (hi : Inv x) (id : Int) : (k.place id).isSome = (aGet id x.V).isSome := by
  rw [← h.findV hi]; exact find_isSome
theorem Rel.vol {x : Ix} {k : Rx} (h : Rel x k) (hi : Inv x) (id : Int) : k.vol id = x.vol id := by
  unfold Rx.vol Ix.vol
  rw [h.findV hi]
  cases aGet id x.V <;> rfl
theorem Rel.next {x : Ix} {k : Rx} (h : Rel x k) (hi : Inv x) : nextOf k.H = x.N := by rw [h.H, hi.nxt]
theorem Rel.may {x : Ix} {k : Rx} (h : Rel x k) (hi : Inv x) (r : RecD) : k.may r = x.may r := by
  unfold Rx.may Ix.may
  by_cases h0 : recCheck r ≠ 0
  · rw [if_pos h0, if_pos h0]
  rw [if_neg h0, if_neg h0]
  have hk := inB_true (check_zero (Decidable.not_not.1 h0)).kind
  rw [h.known hi, h.H, h.entry hi, h.place hi, h.place hi, h.place hi, h.vol hi, h.vol hi, h.vol hi]
  have : r.kind = 0 ∨ r.kind = 1 ∨ r.kind = 2 ∨ r.kind = 3 := by omega
  rcases this with e | e | e | e
  · rw [e]; simp
  · rw [e]
    cases aGet r.key x.E <;> simp
  · rw [e]
    cases aGet r.vol.id x.V <;> simp
  · rw [e]
    cases aGet r.frm x.V <;> cases aGet r.to x.V <;> simp
    all_goals (split <;> simp_all)
theorem insD_mem (a v : VolD) : ∀ l : List VolD, v ∈ insD a l ↔ v = a ∨ v ∈ l
  | [] => by simp [insD]
  | y :: r => by
    unfold insD
    split
    · simp
    · rw [List.mem_cons, insD_mem a v r, List.mem_cons]
      constructor
      · rintro (h | h | h)
        · exact .inr (.inl h)
        · exact .inl h
        · exact .inr (.inr h)
      · rintro (h | h | h)
        · exact .inr (.inl h)
        · exact .inl h
        · exact .inr (.inr h)
theorem insD_sorted (a : VolD) : ∀ l : List VolD, l.Pairwise (fun a b => a.id < b.id) → (∀ v ∈ l, v.id ≠ a.id) → (insD a l).Pairwise (fun a b => a.id < b.id)
  | [], _, _ => by simp [insD]
  | y :: r, h, hn => by
    have h1 := List.pairwise_cons.1 h
    have hy := hn y (List.mem_cons_self ..)
    unfold insD
    split
    · rename_i hlt
      refine List.pairwise_cons.2 ⟨fun v hv => ?_, h⟩
      rcases List.mem_cons.1 hv with rfl | hv
      · exact hlt
      · have := h1.1 v hv; omega
    · refine List.pairwise_cons.2 ⟨fun v hv => ?_, insD_sorted a r h1.2 (fun v hv => hn v (List.mem_cons_of_mem _ hv))⟩
      rcases (insD_mem a v r).1 hv with rfl | hv
      · omega
      · exact h1.1 v hv
theorem vget_vol (x : Ix) (id : Int) : vget id x.V = (x.vol id).1 := by
  unfold vget Ix.vol
  cases aGet id x.V <;> rfl
theorem Rel.lay {x y : Ix} {k l : Rx} (v : VolD) (hE : l.E = y.E.map (·.2)) (hG : l.G = y.G) (hH : l.H = y.H) (hV : ∀ u, u ∈ l.V ↔ (u.id, u) ∈ y.V) (hs : l.V.Pairwise (fun a b => a.id < b.id)) (hn : v.id ∉ y.V.map (·.1)) (hh : v.id ∉ y.H) : Rel (y.lay v) { l with V := insD v l.V, H := l.H ++ [v.id] } := by
  refine ⟨hE, hG, ?_, fun u => ?_, insD_sorted v _ hs (fun u hu he => hn ?_)⟩
  · show l.H ++ [v.id] = addS y.H v.id
    rw [addS_new hh, hH]
  · show u ∈ insD v l.V ↔ (u.id, u) ∈ aPut v.id v y.V
    rw [aPut_new hn, insD_mem, List.mem_append, List.mem_singleton, hV, Prod.mk.injEq]
    constructor
    · rintro (rfl | h)
      · exact .inr ⟨rfl, rfl⟩
      · exact .inl h
    · rintro (h | ⟨-, h⟩)
      · exact .inr h
      · exact .inl h
  · exact List.mem_map.2 ⟨_, (hV u).1 hu, he⟩
theorem rel_put {x : Ix} {k : Rx} (h : Rel x k) (hi : Inv x) {r : RecD} (g : Goes x r) (hk : r.kind = 0) : Rel (Ix.lay { x with E := aPut r.ent.key r.ent x.E } r.vol) { k with E := k.E ++ [r.ent], V := insD r.vol k.V, H := k.H ++ [r.vol.id] } := by
  obtain ⟨p1, p2, p3⟩ := g.put hk
  refine Rel.lay (x := x) (k := k) (y := { x with E := aPut r.ent.key r.ent x.E }) (l := { k with E := k.E ++ [r.ent] }) r.vol ?_ h.G h.H h.V h.sorted (fun hm => ?_) p3
  · show k.E ++ [r.ent] = (aPut r.ent.key r.ent x.E).map (·.2)
    rw [aPut_new p1, List.map_append, ← h.E]; rfl
  · obtain ⟨q, hq, he⟩ := List.mem_map.1 hm
    exact p3 (he ▸ hi.vH q hq)
theorem dropE_vals (key : ByteArray) {l : List (ByteArray × EntD)} (hn : (l.map (·.1)).Nodup) (h : ∀ p ∈ l, p.2.key = p.1) : dropE key (l.map (·.2)) = (aDel key l).map (·.2) := by
  unfold dropE
  rw [aDel_eq hn, List.filter_map]
  congr 1
  apply List.filter_congr
  intro p hp
  show (!decide (p.2.key = key)) = !decide (p.1 = key)
  rw [h p hp]
theorem rel_remove {x : Ix} {k : Rx} (h : Rel x k) (hi : Inv x) {key : ByteArray} (hk : key ∈ x.E.map (·.1)) : Rel (x.remove key).2 (k.remove key (k.get key).1.vol).2 ∧ (x.remove key).1 = (k.remove key (k.get key).1.vol).1 := by
  have hng : key ∉ x.G := fun hm => hi.apart key hm hk
  have hE : dropE key k.E = (aDel key x.E).map (·.2) := by rw [h.E]; exact dropE_vals key hi.nodE hi.keyE
  have hG : k.G ++ [key] = addS x.G key := by rw [addS, if_neg hng, h.G]
  unfold Rx.remove Ix.remove
  rw [h.get hi, hE, hG]
  have hl : ((aDel key x.E).map (·.2)).any (fun e => e.vol == (x.get key).1.vol) = Ix.lives { x with E := aDel key x.E, G := addS x.G key } (x.get key).1.vol := by
    unfold Ix.lives
    rw [List.any_map]; rfl
  rw [hl]
  simp only [takeL]
  by_cases hb : Ix.lives { x with E := aDel key x.E, G := addS x.G key } (x.get key).1.vol = true
  · rw [if_pos hb, if_pos hb]
    exact ⟨⟨rfl, rfl, h.H, h.V, h.sorted⟩, rfl⟩
  · rw [if_neg hb, if_neg hb]
    refine ⟨⟨rfl, rfl, h.H, fun v => ?_, h.sorted.filter _⟩, ?_⟩
    · show v ∈ k.V.filter (fun v => !decide (v.id = (x.get key).1.vol)) ↔ (v.id, v) ∈ aDel (x.get key).1.vol x.V
      rw [List.mem_filter, mem_aDel hi.nodV, h.V]
      simp
    · rw [vget_vol]
      have := h.vol hi (x.get key).1.vol
      unfold Rx.vol at this ⊢
      rw [← this]
theorem sorted_set {l : List VolD} (r : VolD) (h : l.Pairwise (fun a b => a.id < b.id)) : (l.map fun x => if x.id = r.id then r else x).Pairwise (fun a b => a.id < b.id) := by
  rw [List.pairwise_map]
  refine h.imp ?_
  intro a b hab
  have e1 : (if a.id = r.id then r else a).id = a.id := by split <;> simp_all
  have e2 : (if b.id = r.id then r else b).id = b.id := by split <;> simp_all
  rw [e1, e2]; exact hab
theorem rel_move {x : Ix} {k : Rx} (h : Rel x k) (hi : Inv x) {r : RecD} (g : Goes x r) (hk : r.kind = 2) : Rel (Ix.lay { x with V := (takeL [r.vol.id] x.V).2 } r.vol) { k with V := k.V.map fun x => if x.id = r.vol.id then r.vol else x } := by
  obtain ⟨p1, -, p3⟩ := g.move hk
  obtain ⟨q0, hq0, he0⟩ := List.mem_map.1 p1
  have hnew := aDel_not (k := r.vol.id) hi.nodV
  have hV : ∀ q, q ∈ aPut r.vol.id r.vol (aDel r.vol.id x.V) ↔ (q ∈ x.V ∧ q.1 ≠ r.vol.id) ∨ q = (r.vol.id, r.vol) := fun q => by rw [aPut_new hnew, List.mem_append, mem_aDel hi.nodV]; simp
  refine ⟨h.E, h.G, ?_, fun v => ?_, sorted_set r.vol h.sorted⟩
  · show k.H = addS x.H r.vol.id
    have hm : r.vol.id ∈ x.H := he0 ▸ hi.vH q0 hq0
    rw [addS, if_pos hm, h.H]
  · show v ∈ k.V.map (fun x => if x.id = r.vol.id then r.vol else x) ↔ (v.id, v) ∈ aPut r.vol.id r.vol (aDel r.vol.id x.V)
    rw [hV, List.mem_map]
    constructor
    · rintro ⟨u, hu, rfl⟩
      by_cases e : u.id = r.vol.id
      · rw [if_pos e]; exact .inr rfl
      · rw [if_neg e]; exact .inl ⟨(h.V u).1 hu, e⟩
    · rintro (⟨h1, h2⟩ | h1)
      · exact ⟨v, (h.V v).2 h1, if_neg h2⟩
      · rw [Prod.mk.injEq] at h1
        have hq2 := hi.idV q0 hq0
        refine ⟨q0.2, (h.V q0.2).2 (by rw [hq2]; exact hq0), ?_⟩
        rw [if_pos (hq2.trans he0)]
        exact h1.2.symm
theorem rel_merge {x : Ix} {k : Rx} (h : Rel x k) (hi : Inv x) {r : RecD} (g : Goes x r) (hk : r.kind = 3) : Rel (x.merge r).2 (k.merge r.vol r.frm r.to).2 ∧ (x.merge r).1 = (k.merge r.vol r.frm r.to).1 := by
  obtain ⟨p1, p2, p3, p4, p5⟩ := g.merge hk
  have hnd1 := aDel_nodup (k := r.frm) hi.nodV
  have hold : ∀ q, q ∈ aDel r.to (aDel r.frm x.V) ↔ q ∈ x.V ∧ q.1 ≠ r.frm ∧ q.1 ≠ r.to := fun q => by rw [mem_aDel hnd1, mem_aDel hi.nodV, and_assoc]
  have hnew : r.vol.id ∉ (aDel r.to (aDel r.frm x.V)).map (·.1) := fun hm => by
    obtain ⟨q, hq, he⟩ := List.mem_map.1 hm
    exact p3 (he ▸ hi.vH q ((hold q).1 hq).1)
  constructor
  · have := Rel.lay (x := x) (k := k) (y := { x with V := (takeL [r.frm, r.to] x.V).2, E := x.E.map fun p => (p.1, moved r.frm r.to r.vol.id (vget r.frm x.V).len p.2) }) (l := { k with E := k.E.map (moved r.frm r.to r.vol.id (k.vol r.frm).1.len), V := (k.V.filter fun x => !decide (x.id = r.frm)).filter fun x => !decide (x.id = r.to) }) r.vol ?_ h.G h.H ?_ ((h.sorted.filter _).filter _) hnew p3
    · exact this
    · show k.E.map (moved r.frm r.to r.vol.id (k.vol r.frm).1.len) = (x.E.map fun p => (p.1, moved r.frm r.to r.vol.id (vget r.frm x.V).len p.2)).map (fun x => x.2)
      rw [h.E, List.map_map, List.map_map, h.vol hi, vget_vol]
      rfl
    · intro u
      show u ∈ (k.V.filter fun x => !decide (x.id = r.frm)).filter (fun x => !decide (x.id = r.to)) ↔ (u.id, u) ∈ aDel r.to (aDel r.frm x.V)
      rw [hold, List.mem_filter, List.mem_filter, h.V]
      simp [and_assoc]
  · show [vget r.frm x.V, vget r.to (aDel r.frm x.V)] = [(k.vol r.frm).1, (k.vol r.to).1]
    rw [h.vol hi, h.vol hi, vget_vol]
    have : aGet r.to (aDel r.frm x.V) = aGet r.to x.V := by
      obtain ⟨q, hq, he⟩ := List.mem_map.1 p2
      obtain ⟨q1, q2⟩ := q
      simp only at he
      subst he
      rw [aGet_of_mem hi.nodV hq]
      exact aGet_of_mem hnd1 ((mem_aDel hi.nodV).2 ⟨hq, fun e => p5 e.symm⟩)
    unfold vget
    rw [this]
    have := vget_vol x r.to
    unfold vget at this
    rw [this]
theorem rel_apply {x : Ix} {k : Rx} (h : Rel x k) (hi : Inv x) (r : RecD) : Rel (x.apply r).1 (k.apply r).2.2 ∧ (x.apply r).2.1 = (k.apply r).1 ∧ (x.apply r).2.2 = (k.apply r).2.1 := by
  unfold Ix.apply Rx.apply
  rw [h.may hi]
  by_cases h0 : x.may r ≠ 0
  · rw [if_pos h0, if_pos h0]; exact ⟨h, rfl, rfl⟩
  rw [if_neg h0, if_neg h0]
  have g := may_zero (Decidable.not_not.1 h0)
  by_cases k0 : r.kind = 0
  · rw [if_pos k0, if_pos k0]; exact ⟨rel_put h hi g k0, rfl, rfl⟩
  rw [if_neg k0, if_neg k0]
  by_cases k1 : r.kind = 1
  · rw [if_pos k1, if_pos k1]
    have := rel_remove h hi (g.del k1)
    exact ⟨this.1, this.2, rfl⟩
  rw [if_neg k1, if_neg k1]
  by_cases k2 : r.kind = 2
  · rw [if_pos k2, if_pos k2]
    refine ⟨rel_move h hi g k2, ?_, rfl⟩
    show [vget r.vol.id x.V] = [(k.vol r.vol.id).1]
    rw [h.vol hi, vget_vol]
  rw [if_neg k2, if_neg k2]
  have := rel_merge h hi g (by have := g.kinds; omega)
  exact ⟨this.1, this.2, rfl⟩
end Go.Proofs.YtdhhddifmkijhaaGreat

namespace Go.Proofs.YtdhhddifmkijhaaGreat
open Go.RowKit Go.ChangeMaps Go.Maps Go.WideShapes Go.WideMaps Go.WideElems Go.MapKept Go.ChangeShapes

theorem addS_le {α : Type} [DecidableEq α] (l : List α) (a : α) : (addS l a).length ≤ l.length + 1 := by
  unfold addS
  split
  · omega
  · simp
theorem apply_leGH (x : Ix) (r : RecD) : (x.apply r).1.G.length ≤ x.G.length + 1 ∧ (x.apply r).1.H.length ≤ x.H.length + 1 := by
  unfold Ix.apply
  split
  · exact ⟨Nat.le_succ _, Nat.le_succ _⟩
  split
  · exact ⟨Nat.le_succ _, addS_le _ _⟩
  split
  · unfold Ix.remove
    simp only
    split
    · exact ⟨addS_le _ _, Nat.le_succ _⟩
    · exact ⟨addS_le _ _, Nat.le_succ _⟩
  split
  · exact ⟨Nat.le_succ _, addS_le _ _⟩
  · exact ⟨Nat.le_succ _, addS_le _ _⟩
structure Few (n : Nat) (x : Ix) : Prop where
  E : x.E.length ≤ n
  V : x.V.length ≤ n
  G : x.G.length ≤ n
  H : x.H.length ≤ n
theorem few_zero : Few 0 Ix.zero := ⟨Nat.le_refl _, Nat.le_refl _, Nat.le_refl _, Nat.le_refl _⟩
theorem Few.apply {n : Nat} {x : Ix} (h : Few n x) (r : RecD) : Few (n + 1) (x.apply r).1 := by
  have h1 := apply_le x r
  have h2 := apply_leGH x r
  have := h.E
  have := h.V
  have := h.G
  have := h.H
  exact ⟨by omega, by omega, by omega, by omega⟩
theorem few_run {n : Nat} {x : Ix} (h : Few n x) (l : List RecD) : Few (n + l.length) (x.run l) := by
  induction l generalizing n x with
  | nil => exact h
  | cons r l ih =>
    have := ih (h.apply r)
    rw [List.length_cons, Nat.add_comm l.length 1, ← Nat.add_assoc]
    exact this
theorem Rel.lenV {x : Ix} {k : Rx} (h : Rel x k) (hi : Inv x) : k.V.length = x.V.length := by
  have h1 : (k.V.map fun v => (v.id, v)).Nodup := by
    unfold List.Nodup
    rw [List.pairwise_map]
    refine h.sorted.imp ?_
    intro a b hab e
    rw [Prod.mk.injEq] at e
    omega
  have h2 : x.V.Nodup := by
    have := hi.nodV
    unfold List.Nodup at this ⊢
    rw [List.pairwise_map] at this
    exact this.imp (fun hab e => hab (by rw [e]))
  have hp := (List.perm_ext_iff_of_nodup h1 h2).2 (fun q => by
    rw [List.mem_map]
    constructor
    · rintro ⟨v, hv, rfl⟩; exact (h.V v).1 hv
    · intro hq
      have e := hi.idV q hq
      exact ⟨q.2, (h.V q.2).2 (by rw [e]; exact hq), by rw [e]⟩)
  rw [← hp.length_eq, List.length_map]
theorem kmay_rel {w : World} {B kb n : Nat} {k : Rx} {x : Ix} (h : RIn B kb w k) (hr : Rel x k) (hi : Inv x) (hf : Few n x) (hn : n ≤ 900) (r : RecD) (lv : Value) (hl : LocsAt B w lv r.vol.locs) (hz : r.vol.locs.length ≤ 1000) (h6 : r.ent.key.size < 16384) (hxb : r.key.size < 16384) :
    Calls Tryz.prog 10 #[.pointer (some ⟨kb, 0, none⟩), .agg (RecV r lv)] w fun e w' => e = .returned (.int .i64 (x.may r)) ∧ Kp [] w w' := by
  rw [← hr.may hi]
  have h1 := hf.E
  have h2 := hf.V
  have h3 := hf.G
  have h4 := hf.H
  exact kmay r lv w h hl hz h6 hxb (by rw [hr.E, List.length_map]; omega) (by rw [hr.G]; omega) (by rw [hr.lenV hi]; omega) (by rw [hr.H]; omega) (fun v hv => vol_lenD (hi.fit.vols _ ((hr.V v).1 hv)).2.2)
theorem kapply_rel {w : World} {B kb n : Nat} {k : Rx} {x : Ix} (h : RIn B kb w k) (hr : Rel x k) (hi : Inv x) (hf : Few n x) (hn : n ≤ 900) (r : RecD) (lv : Value) (hl : LocsAt B w lv r.vol.locs) (hz : r.vol.locs.length ≤ 1000) (h6 : r.ent.key.size < 16384) (hxb : r.key.size < 16384) :
    Calls Tryz.prog 12 #[.pointer (some ⟨kb, 0, none⟩), .agg (RecV r lv)] w fun e w' => ∃ v k', e = .returned (.tuple #[v, .int .i64 (x.apply r).2.2]) ∧ VolsAt w'.heap.size w' v (x.apply r).2.1 ∧ RIn B kb w' k' ∧ Rel (x.apply r).1 k' ∧ Turn B w w' := by
  have h1 := hf.E
  have h2 := hf.V
  have h3 := hf.G
  have h4 := hf.H
  obtain ⟨a1, a2, a3⟩ := rel_apply hr hi r
  rw [a2, a3]
  refine (kapply r lv w h hl hz h6 hxb (by rw [hr.E, List.length_map]; omega) (by rw [hr.G]; omega) (by rw [hr.lenV hi]; omega) (by rw [hr.H]; omega) (fun v hv => vol_lenD (hi.fit.vols _ ((hr.V v).1 hv)).2.2) ?_ ?_).mono ?_
  · intro e he
    rw [hr.E] at he
    obtain ⟨p, hp, rfl⟩ := List.mem_map.1 he
    have := hi.fit.keys p hp
    exact ⟨this.2.2.2.1, this.2.2.2.2.1⟩
  · rw [hr.vol hi, ← vget_vol]
    exact vget_len hi.fit _
  · rintro e w' ⟨v, rfl, hv, hR, ht⟩
    exact ⟨v, _, rfl, hv, hR, a1, ht⟩
theorem rin_new {B : Nat} {w : World} (hb : B ≤ w.heap.size) : RIn B w.heap.size (w.alloc (.cells #[.slice none 0 0, .slice none 0 0, .slice none 0 0, .slice none 0 0] 32)) Rx.zero :=
  ⟨_, _, _, _, block_new _ _, hb, ⟨rfl, .inl ⟨rfl, rfl⟩⟩, ⟨rfl, .inl ⟨rfl, rfl⟩⟩, ⟨[], rfl, ⟨rfl, .inl ⟨rfl, rfl⟩⟩, by simp⟩, ⟨rfl, .inl ⟨rfl, rfl⟩⟩⟩
end Go.Proofs.YtdhhddifmkijhaaGreat
