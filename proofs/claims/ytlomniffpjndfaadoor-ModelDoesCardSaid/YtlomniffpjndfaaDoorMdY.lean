/-
  A model's plain laws: keys that are not named stay as they are; an error changes nothing; State tells what changed.
-/
import Derived.Test.YtlomniffpjndfaaDoorMdQ
import Derived.Test.YtlomniffpjndfaaDoorMdR
namespace Go.Proofs.YtlomniffpjndfaaDoor
open Go.ChangeShapes Go.WideShapes Go.RowKit Go.WideElems Go.Sort

theorem get_put_other {α β : Type} [DecidableEq α] {k k' : α} {v : β} (h : k' ≠ k) : ∀ l : List (α × β), aGet k (aPut k' v l) = aGet k l
  | [] => by simp [aPut, aGet, h]
  | p :: r => by
    unfold aPut
    by_cases e : p.1 = k'
    · rw [if_pos e]
      have e2 : p.1 ≠ k := by rw [e]; exact h
      simp [aGet, h, e2]
    · rw [if_neg e]
      simp only [aGet]
      rw [get_put_other h r]
theorem get_put_same {α β : Type} [DecidableEq α] {k : α} {v : β} : ∀ l : List (α × β), aGet k (aPut k v l) = some v
  | [] => by simp [aPut, aGet]
  | p :: r => by
    unfold aPut
    by_cases e : p.1 = k
    · rw [if_pos e]; simp [aGet]
    · rw [if_neg e]; simp only [aGet, if_neg e]; exact get_put_same r
theorem put_keys {α β : Type} [DecidableEq α] {k : α} {v : β} : ∀ {l : List (α × β)}, k ∈ l.map (·.1) → (aPut k v l).map (·.1) = l.map (·.1)
  | [], h => by cases h
  | p :: r, h => by
    unfold aPut
    by_cases e : p.1 = k
    · rw [if_pos e]; simp [e]
    · rw [if_neg e]
      have : k ∈ r.map (·.1) := by
        rw [List.map_cons, List.mem_cons] at h
        rcases h with h | h
        · exact absurd h.symm e
        · exact h
      simp only [List.map_cons, put_keys this]
def Nod (M : Mdl) : Prop := (M.map (·.1)).Nodup
theorem nod_put {M : Mdl} (h : Nod M) (k : ByteArray) (v : ByteArray × Bool) : Nod (aPut k v M) := by
  by_cases hk : k ∈ M.map (·.1)
  · unfold Nod; rw [put_keys hk]; exact h
  · rw [aPut_new hk]; exact nodup_snoc h hk
theorem nod_after {M : Mdl} (h : Nod M) (kind : Int) (k v : ByteArray) : Nod (M.after kind k v) := by
  unfold Mdl.after
  repeat' split
  all_goals first | exact h | exact nod_put h _ _
theorem run_nod (l : List RqD) : Nod (Mdl.run l) := by
  have : ∀ (l : List RqD) (M : Mdl), Nod M → Nod (l.foldl Mdl.step M) := by
    intro l
    induction l with
    | nil => exact fun M h => h
    | cons q l ih => exact fun M h => ih _ (nod_after h _ _ _)
  exact this l [] List.nodup_nil
theorem after_other {M : Mdl} {kind : Int} {k v k' : ByteArray} (h : k ≠ k') : aGet k' (M.after kind k v) = aGet k' M := by
  unfold Mdl.after
  repeat' split
  all_goals first | rfl | exact get_put_other h _
/-- what changes is done with success -/
theorem after_err {f : ByteArray → ByteArray} {M : Mdl} {kind : Int} {k v : ByteArray} (h : ¬ ((M.answer f kind k v).code = 0 ∧ (kind = 0 ∨ kind = 2))) : M.after kind k v = M := by
  unfold Mdl.after
  unfold Mdl.answer at h
  by_cases hc : checkE kind k v ≠ 0
  · rw [if_pos hc]
  · rw [if_neg hc] at h ⊢
    by_cases h0 : kind = 0
    · rw [if_pos h0] at h ⊢
      by_cases hs : (aGet k M).isSome = true
      · rw [if_pos hs]
      · rw [if_neg hs] at h
        exact absurd ⟨rfl, .inl h0⟩ h
    · rw [if_neg h0] at h ⊢
      by_cases h2 : kind = 2
      · rw [if_pos h2]
        rw [if_neg (by omega), if_pos h2] at h
        by_cases hs : M.has k = true
        · rw [if_pos hs] at h
          exact absurd ⟨rfl, .inr h2⟩ h
        · rw [if_neg hs]
      · rw [if_neg h2]
/-- what is put with success -/
theorem ok_put {f : ByteArray → ByteArray} {M : Mdl} {k v : ByteArray} (h : (M.answer f 0 k v).code = 0) : aGet k M = none ∧ M.after 0 k v = aPut k (v, false) M := by
  unfold Mdl.answer at h
  unfold Mdl.after
  by_cases hc : checkE 0 k v ≠ 0
  · rw [if_pos hc] at h; exact absurd h hc
  · rw [if_neg hc] at h ⊢
    rw [if_pos rfl] at h ⊢
    by_cases hs : (aGet k M).isSome = true
    · rw [if_pos hs] at h; cases h
    · rw [if_neg hs]
      exact ⟨by simpa using hs, rfl⟩
theorem ok_del {f : ByteArray → ByteArray} {M : Mdl} {k v : ByteArray} (h : (M.answer f 2 k v).code = 0) : M.has k = true ∧ M.after 2 k v = aPut k (E0, true) M := by
  unfold Mdl.answer at h
  unfold Mdl.after
  by_cases hc : checkE 2 k v ≠ 0
  · rw [if_pos hc] at h; exact absurd h hc
  · rw [if_neg hc] at h ⊢
    rw [if_neg (by decide), if_neg (by decide), if_pos rfl] at h
    rw [if_neg (by decide), if_pos rfl]
    by_cases hs : M.has k = true
    · rw [if_pos hs]; exact ⟨hs, rfl⟩
    · rw [if_neg hs] at h; cases h
theorem ok_get {f : ByteArray → ByteArray} {M : Mdl} {k v : ByteArray} (h : (M.answer f 1 k v).code = 0) : M.has k = true ∧ (M.answer f 1 k v).val = (M.at k).1 := by
  unfold Mdl.answer at h ⊢
  by_cases hc : checkE 1 k v ≠ 0
  · rw [if_pos hc] at h; exact absurd h hc
  · rw [if_neg hc] at h ⊢
    rw [if_neg (by decide), if_pos rfl] at h ⊢
    by_cases hs : M.has k = true
    · rw [if_pos hs]; exact ⟨hs, rfl⟩
    · rw [if_neg hs] at h; cases h
theorem has_get {M : Mdl} {k : ByteArray} (h : M.has k = true) : ∃ v, aGet k M = some (v, false) ∧ (M.at k).1 = v := by
  obtain ⟨h1, h2⟩ := has_true h
  cases e : aGet k M with
  | none => rw [e] at h1; cases h1
  | some x =>
    obtain ⟨v, g⟩ := x
    unfold Mdl.at at h2 ⊢
    rw [e] at h2 ⊢
    simp only [Option.getD_some] at h2 ⊢
    subst h2
    exact ⟨v, rfl, rfl⟩
theorem leL_trans (a b c : List UInt8) (h1 : decide (a ≤ b) = true) (h2 : decide (b ≤ c) = true) : decide (a ≤ c) = true := by simp only [decide_eq_true_eq] at *; exact List.le_trans h1 h2
theorem leL_total (a b : List UInt8) : (decide (a ≤ b) || decide (b ≤ a)) = true := by simp only [Bool.or_eq_true, decide_eq_true_eq]; exact List.le_total a b
theorem data_inj {a b : ByteArray} (h : a.data.toList = b.data.toList) : a = b := by
  cases a; cases b
  simp only at h
  congr 1
  exact Array.toList_inj.1 h
theorem keys_perm {M M' : Mdl} (h : (M.map (·.1)).Perm (M'.map (·.1))) : M.keys = M'.keys := by
  unfold Mdl.keys
  have e : ∀ M : Mdl, M.map (fun p => p.1.data.toList) = (M.map (·.1)).map (fun k => k.data.toList) := fun M => by rw [List.map_map]; rfl
  rw [e M, e M']
  have hp := h.map (fun k : ByteArray => k.data.toList)
  refine List.Perm.eq_of_pairwise (le := fun a b => decide (a ≤ b) = true) (fun a b _ _ h1 h2 => by simp only [decide_eq_true_eq] at h1 h2; exact List.le_antisymm h1 h2) (List.pairwise_mergeSort leL_trans leL_total _) (List.pairwise_mergeSort leL_trans leL_total _) ?_
  exact (List.mergeSort_perm _ _).trans (hp.trans (List.mergeSort_perm _ _).symm)
theorem perm_of_get {M M' : Mdl} (h : Nod M) (h' : Nod M') (hg : ∀ k, aGet k M = aGet k M') : (M.map (·.1)).Perm (M'.map (·.1)) := by
  refine (List.perm_ext_iff_of_nodup h h').2 fun k => ?_
  rw [← aGet_isSome_iff, ← aGet_isSome_iff, hg k]
/-- State tells what is known, in whatever order it came -/
theorem state_ext {M M' : Mdl} (h : Nod M) (h' : Nod M') (hg : ∀ k, aGet k M = aGet k M') : M.state = M'.state := by
  unfold Mdl.state
  rw [keys_perm (perm_of_get h h' hg)]
  congr 1
  funext k
  unfold Mdl.tell Mdl.at
  rw [hg]
theorem SB_dataK (k : ByteArray) : SB k.data.toList = k := data_inj (by rw [← ByteArray.toList_eq, SB_toList])
theorem tell_other {M M' : Mdl} {k : List UInt8} (h : aGet (SB k) M = aGet (SB k) M') : M.tell k = M'.tell k := by unfold Mdl.tell Mdl.at; rw [h]
theorem tell_pos (M : Mdl) (k : List UInt8) : 0 < (M.tell k).length := by
  unfold Mdl.tell
  split
  · simp
  · simp; omega
theorem sum_len {M M' : Mdl} : ∀ (l : List (List UInt8)), (∀ k ∈ l, M.tell k = M'.tell k) → (l.map fun k => (M.tell k).length) = l.map fun k => (M'.tell k).length
  | [], _ => rfl
  | k :: l, h => by
    rw [List.map_cons, List.map_cons, h k (List.mem_cons_self ..), sum_len l (fun k' hk => h k' (List.mem_cons_of_mem _ hk))]
/-- what is put anew is told -/
theorem state_put {M : Mdl} {k v : ByteArray} {g : Bool} (hk : k ∉ M.map (·.1)) : (Mdl.state (aPut k (v, g) M)) ≠ M.state := by
  intro e
  have e2 := congrArg List.length e
  unfold Mdl.state at e2
  rw [List.length_flatMap, List.length_flatMap] at e2
  have hp : (Mdl.keys (aPut k (v, g) M)).Perm (M.keys ++ [k.data.toList]) := by
    unfold Mdl.keys
    rw [aPut_new hk]
    refine (List.mergeSort_perm _ _).trans ?_
    rw [List.map_append]
    exact (List.mergeSort_perm _ _).symm.append_right _
  have h1 := (hp.map (fun k' => ((Mdl.tell (aPut k (v, g) M)) k').length)).sum_nat
  rw [List.map_append, List.sum_append] at h1
  have h2 : (M.keys.map fun k' => ((Mdl.tell (aPut k (v, g) M)) k').length) = M.keys.map fun k' => (M.tell k').length := by
    refine sum_len _ fun k' hk' => tell_other (get_put_other (fun e3 => hk ?_) _)
    have hm : k' ∈ M.map fun p => p.1.data.toList := (List.mergeSort_perm _ _).mem_iff.1 hk'
    obtain ⟨p, hp1, hp2⟩ := List.mem_map.1 hm
    refine List.mem_map.2 ⟨p, hp1, ?_⟩
    rw [e3, ← hp2, SB_dataK]
  have h3 := tell_pos (aPut k (v, g) M) k.data.toList
  rw [h2] at h1
  simp only [List.map_cons, List.map_nil, List.sum_cons, List.sum_nil] at h1
  have h4 : (List.map (fun k' => ((Mdl.tell (aPut k (v, g) M)) k').length) (Mdl.keys (aPut k (v, g) M))).sum = (List.map (fun k' => (M.tell k').length) M.keys).sum := e2
  omega
theorem flat_cut {M M' : Mdl} {k : List UInt8} (ho : ∀ k', k' ≠ k → M.tell k' = M'.tell k') (hne : M.tell k ≠ M'.tell k) : ∀ (l : List (List UInt8)), l.Nodup → k ∈ l → l.flatMap M.tell ≠ l.flatMap M'.tell
  | [], _, h => by cases h
  | a :: l, hn, hm => by
    intro e
    rw [List.flatMap_cons, List.flatMap_cons] at e
    by_cases ha : a = k
    · subst ha
      have hr : l.flatMap M.tell = l.flatMap M'.tell := by
        have hnm : a ∉ l := (List.nodup_cons.1 hn).1
        have : ∀ l : List (List UInt8), a ∉ l → l.flatMap M.tell = l.flatMap M'.tell := by
          intro l
          induction l with
          | nil => intro _; rfl
          | cons b l ih =>
            intro hb
            rw [List.flatMap_cons, List.flatMap_cons, ho b (fun e => hb (e ▸ List.mem_cons_self ..)), ih (fun h => hb (List.mem_cons_of_mem _ h))]
        exact this l hnm
      rw [hr] at e
      exact hne (List.append_cancel_right e)
    · rw [ho a ha] at e
      have hm2 : k ∈ l := by
        rcases List.mem_cons.1 hm with h | h
        · exact absurd h.symm ha
        · exact h
      exact flat_cut ho hne l (List.nodup_cons.1 hn).2 hm2 (List.append_cancel_left e)
theorem keys_nod {M : Mdl} (h : Nod M) : M.keys.Nodup := by
  unfold Mdl.keys
  refine (List.mergeSort_perm _ _).nodup_iff.2 ?_
  have e : M.map (fun p => p.1.data.toList) = (M.map (·.1)).map (fun k => k.data.toList) := by rw [List.map_map]; rfl
  rw [e]
  exact List.Pairwise.map _ (fun a b hab e => hab (data_inj e)) h
/-- what is deleted is told so -/
theorem state_del {M : Mdl} (hn : Nod M) {k : ByteArray} (hh : M.has k = true) : (Mdl.state (aPut k (E0, true) M)) ≠ M.state := by
  obtain ⟨v, hv, -⟩ := has_get hh
  have hk : k ∈ M.map (·.1) := aGet_isSome_iff.1 (by rw [hv]; rfl)
  have hkeys : (Mdl.keys (aPut k (E0, true) M)) = M.keys := keys_perm (by rw [put_keys hk])
  unfold Mdl.state
  rw [hkeys]
  refine flat_cut (k := k.data.toList) (fun k' hk' => tell_other (get_put_other (fun e => hk' ?_) _)) ?_ _ (keys_nod hn) ?_
  · rw [e, ← ByteArray.toList_eq, SB_toList]
  · unfold Mdl.tell Mdl.at
    rw [SB_dataK, get_put_same, hv]
    simp only [Option.getD_some, if_true, Bool.false_eq_true, if_false]
    intro e
    have := List.append_cancel_left e
    cases this
  · unfold Mdl.keys
    refine (List.mergeSort_perm _ _).mem_iff.2 ?_
    obtain ⟨p, hp1, hp2⟩ := List.mem_map.1 hk
    exact List.mem_map.2 ⟨p, hp1, by rw [hp2]⟩
/-- whether anything changed can be read off State -/
theorem state_changed {f : ByteArray → ByteArray} {M : Mdl} (hn : Nod M) (kind : Int) (k v : ByteArray) : (SB (M.after kind k v).state = SB M.state) ↔ ¬ ((M.answer f kind k v).code = 0 ∧ (kind = 0 ∨ kind = 2)) := by
  constructor
  · rintro e ⟨hc, rfl | rfl⟩
    · obtain ⟨h1, h2⟩ := ok_put hc
      rw [h2] at e
      refine state_put (M := M) (k := k) (v := v) (g := false) (aGet_none_iff.1 h1) ?_
      rw [← SB_toList (Mdl.state (aPut k (v, false) M)), e, SB_toList]
    · obtain ⟨h1, h2⟩ := ok_del hc
      rw [h2] at e
      refine state_del hn h1 ?_
      rw [← SB_toList (Mdl.state (aPut k (E0, true) M)), e, SB_toList]
  · intro h
    rw [after_err h]
theorem answer_congr {f : ByteArray → ByteArray} {M M' : Mdl} {kind : Int} {k v : ByteArray} (hk : kind ≠ 4) (h : aGet k M = aGet k M') : M.answer f kind k v = M'.answer f kind k v := by
  unfold Mdl.answer
  by_cases hc : checkE kind k v ≠ 0
  · rw [if_pos hc, if_pos hc]
  · have hkk := check_kinds (Decidable.not_not.1 hc)
    have e1 : M.has k = M'.has k := by unfold Mdl.has Mdl.at; rw [h]
    have e2 : M.at k = M'.at k := by unfold Mdl.at; rw [h]
    rw [if_neg hc, if_neg hc, h, e1, e2]
    rcases hkk with rfl | rfl | rfl | rfl | rfl
    · rfl
    · rfl
    · rfl
    · rfl
    · exact absurd rfl hk
theorem after_get {M M' : Mdl} {kind : Int} {k v : ByteArray} (h : aGet k M = aGet k M') : aGet k (M.after kind k v) = aGet k (M'.after kind k v) := by
  unfold Mdl.after
  have e1 : M.has k = M'.has k := by unfold Mdl.has Mdl.at; rw [h]
  rw [h, e1]
  split
  · exact h
  · split
    · split
      · exact h
      · rw [get_put_same, get_put_same]
    · split
      · split
        · rw [get_put_same, get_put_same]
        · exact h
      · exact h
/-- requests of two keys, in either order -/
theorem order_get {M : Mdl} {d1 d2 : Int} {k1 v1 k2 v2 : ByteArray} (h : k1 ≠ k2) (k : ByteArray) : aGet k ((M.after d1 k1 v1).after d2 k2 v2) = aGet k ((M.after d2 k2 v2).after d1 k1 v1) := by
  by_cases h2 : k2 = k
  · subst h2
    rw [after_other h]
    exact after_get (after_other h)
  · rw [after_other h2]
    by_cases h1 : k1 = k
    · subst h1
      exact after_get (after_other h2).symm
    · rw [after_other h1, after_other h1, after_other h2]
theorem order_state {M : Mdl} (hn : Nod M) {d1 d2 : Int} {k1 v1 k2 v2 : ByteArray} (h : k1 ≠ k2) : ((M.after d1 k1 v1).after d2 k2 v2).state = ((M.after d2 k2 v2).after d1 k1 v1).state :=
  state_ext (nod_after (nod_after hn _ _ _) _ _ _) (nod_after (nod_after hn _ _ _) _ _ _) (order_get h)
theorem owns_base {W : World} {base B : Nat} {e : TypeId} {sz n : Nat} {v : Value} {xs : List Value} (h : W.ownsRow base e sz v n xs) (hb : B ≤ base) : W.ownsRow B e sz v n xs := by
  obtain ⟨hl, ⟨hv, hn⟩ | ⟨g, cap, cur, hv, hg, hb', hc, hm, hs, ht⟩⟩ := h
  · exact ⟨hl, .inl ⟨hv, hn⟩⟩
  · exact ⟨hl, .inr ⟨g, cap, cur, hv, Nat.le_trans hb hg, hb', hc, hm, hs, ht⟩⟩
theorem Gave.base {B B' : Nat} {w : World} {x : Value} {r : RespD} (h : Gave B w x r) (hb : B' ≤ B) : Gave B' w x r := by
  obtain ⟨av, cv, rfl, ho⟩ := h
  exact ⟨av, cv, rfl, owns_base ho hb⟩
theorem Gave.keepX {B : Nat} {w w' : World} {x : Value} {r : RespD} (h : Gave B w x r) {X : List Nat} (k : Kp X w w') (hX : ∀ i ∈ X, i < B) : Gave B w' x r := by
  obtain ⟨av, cv, rfl, ho⟩ := h
  refine ⟨av, cv, rfl, owns_other ho k (fun g hg hm => ?_)⟩
  have h1 := hX g hm
  obtain ⟨hl, ⟨hv, hn⟩ | ⟨g', cap, cur, hv, hg', -⟩⟩ := ho
  · rw [hv] at hg; cases hg
  · rw [hv] at hg
    obtain rfl : g' = g := by simpa [Value.ownBlock] using hg
    omega
theorem answer_keys (f : ByteArray → ByteArray) (M : Mdl) (kind : Int) (k v : ByteArray) : (M.answer f kind k v).keys.length ≤ 1000 := by
  unfold Mdl.answer
  repeat' split
  all_goals first | exact Nat.zero_le _ | (show (Mdl.listed _ _).length ≤ 1000; unfold Mdl.listed; rw [List.length_take]; omega)
end Go.Proofs.YtlomniffpjndfaaDoor
