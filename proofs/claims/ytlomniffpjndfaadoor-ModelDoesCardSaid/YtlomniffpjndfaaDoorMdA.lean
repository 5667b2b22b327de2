/-
  A model, in plain Lean, and where it lies; New, put.
-/
import Derived.Test.YtlomniffpjndfaaDoorP2
import Derived.Test.YtlomniffpjndfaaDoorMapE
import Derived.Test.YtlomniffpjndfaaDoorRow
import Derived.WideMake
namespace Go.Proofs.YtlomniffpjndfaaDoor
open Go.RowKit Go.ChangeMaps Go.Maps Go.WideShapes Go.WideMaps Go.WideElems Go.MapKept Go.ChangeShapes

section
variable {α β : Type} [DecidableEq α]
def aGet (k : α) : List (α × β) → Option β
  | [] => none
  | p :: r => if p.1 = k then some p.2 else aGet k r
def aPut (k : α) (v : β) : List (α × β) → List (α × β)
  | [] => [(k, v)]
  | p :: r => if p.1 = k then (k, v) :: r else p :: aPut k v r
def aDel (k : α) : List (α × β) → List (α × β)
  | [] => []
  | p :: r => if p.1 = k then r else p :: aDel k r
def addS (l : List α) (a : α) : List α := if a ∈ l then l else l ++ [a]
def has (l : List α) (a : α) : Bool := decide (a ∈ l)
theorem kGet_map (f : β → Value) (k : α) : ∀ l : List (α × β), kGet k (l.map fun p => (p.1, f p.2)) = (aGet k l).map f
  | [] => rfl
  | p :: r => by
    simp only [List.map_cons, kGet, aGet, kGet_map f k r]
    split <;> rfl
theorem kPut_map (f : β → Value) (k : α) (v : β) : ∀ l : List (α × β), kPut k (f v) (l.map fun p => (p.1, f p.2)) = (aPut k v l).map fun p => (p.1, f p.2)
  | [] => rfl
  | p :: r => by
    simp only [List.map_cons, kPut, aPut, kPut_map f k v r]
    split <;> rfl
theorem kDel_map (f : β → Value) (k : α) : ∀ l : List (α × β), kDel k (l.map fun p => (p.1, f p.2)) = (aDel k l).map fun p => (p.1, f p.2)
  | [] => rfl
  | p :: r => by
    simp only [List.map_cons, kDel, aDel, kDel_map f k r]
    split <;> rfl
theorem kGet_set (v : Value) (k : α) (l : List α) : kGet k (l.map fun a => (a, v)) = if k ∈ l then some v else none := by
  induction l with
  | nil => rfl
  | cons a r ih =>
    simp only [List.map_cons, kGet, ih, List.mem_cons]
    by_cases h : a = k
    · subst h; simp
    · have h2 : ¬ k = a := fun e => h e.symm
      simp [h, h2]
theorem kPut_set (v : Value) (k : α) (l : List α) : kPut k v (l.map fun a => (a, v)) = (addS l k).map fun a => (a, v) := by
  unfold addS
  induction l with
  | nil => rfl
  | cons x r ih =>
    simp only [List.map_cons, kPut]
    by_cases h : x = k
    · subst h
      simp
    · rw [if_neg h, ih]
      have h2 : ¬ k = x := fun e => h e.symm
      simp only [List.mem_cons, h2, false_or]
      split <;> simp
theorem aGet_vals {γ : Type} (g : β → γ) (k : α) : ∀ l : List (α × β), aGet k (l.map fun p => (p.1, g p.2)) = (aGet k l).map g
  | [] => rfl
  | p :: r => by
    simp only [List.map_cons, aGet, aGet_vals g k r]
    split <;> rfl
theorem aPut_vals {γ : Type} (g : β → γ) (k : α) (v : β) : ∀ l : List (α × β), aPut k (g v) (l.map fun p => (p.1, g p.2)) = (aPut k v l).map fun p => (p.1, g p.2)
  | [] => rfl
  | p :: r => by
    simp only [List.map_cons, aPut, aPut_vals g k v r]
    split <;> rfl
theorem aDel_vals {γ : Type} (g : β → γ) (k : α) : ∀ l : List (α × β), aDel k (l.map fun p => (p.1, g p.2)) = (aDel k l).map fun p => (p.1, g p.2)
  | [] => rfl
  | p :: r => by
    simp only [List.map_cons, aDel, aDel_vals g k r]
    split <;> rfl
theorem aGet_mem {k : α} {v : β} : ∀ {l : List (α × β)}, aGet k l = some v → (k, v) ∈ l
  | [], h => by cases h
  | p :: r, h => by
    unfold aGet at h
    split at h
    · rename_i e
      cases h
      subst e
      exact List.mem_cons_self ..
    · exact List.mem_cons_of_mem _ (aGet_mem h)
theorem aPut_mem {k : α} {v : β} {q : α × β} : ∀ {l : List (α × β)}, q ∈ aPut k v l → q = (k, v) ∨ q ∈ l
  | [], h => by simpa [aPut] using h
  | p :: r, h => by
    unfold aPut at h
    split at h
    · rcases List.mem_cons.1 h with h | h
      · exact .inl h
      · exact .inr (List.mem_cons_of_mem _ h)
    · rcases List.mem_cons.1 h with h | h
      · exact .inr (h ▸ List.mem_cons_self ..)
      · rcases aPut_mem h with h | h
        · exact .inl h
        · exact .inr (List.mem_cons_of_mem _ h)
theorem aDel_mem {k : α} {q : α × β} : ∀ {l : List (α × β)}, q ∈ aDel k l → q ∈ l
  | [], h => h
  | p :: r, h => by
    unfold aDel at h
    split at h
    · exact List.mem_cons_of_mem _ h
    · rcases List.mem_cons.1 h with h | h
      · exact h ▸ List.mem_cons_self ..
      · exact List.mem_cons_of_mem _ (aDel_mem h)
theorem addS_mem {l : List α} {a b : α} : b ∈ addS l a ↔ b ∈ l ∨ b = a := by
  unfold addS
  split
  · rename_i h
    exact ⟨.inl, fun h' => h'.elim id (fun e => e ▸ h)⟩
  · simp
end

section
variable {α β : Type} [DecidableEq α]
theorem aGet_none_iff {k : α} : ∀ {l : List (α × β)}, aGet k l = none ↔ k ∉ l.map (·.1)
  | [] => by simp [aGet]
  | p :: r => by
    unfold aGet
    by_cases h : p.1 = k
    · rw [if_pos h]; simp [h]
    · rw [if_neg h, aGet_none_iff (l := r)]
      simp only [List.map_cons, List.mem_cons, not_or]
      exact ⟨fun h2 => ⟨fun e => h e.symm, h2⟩, fun h2 => h2.2⟩
theorem aGet_isSome_iff {k : α} {l : List (α × β)} : (aGet k l).isSome = true ↔ k ∈ l.map (·.1) := by
  have h := aGet_none_iff (k := k) (l := l)
  cases hg : aGet k l with
  | none => simp only [Option.isSome_none, Bool.false_eq_true, false_iff]; exact h.1 hg
  | some v =>
    simp only [Option.isSome_some, true_iff]
    exact Decidable.by_contra fun hn => by rw [h.2 hn] at hg; cases hg
theorem aGet_of_mem {k : α} {v : β} : ∀ {l : List (α × β)}, (l.map (·.1)).Nodup → (k, v) ∈ l → aGet k l = some v
  | p :: r, hn, h => by
    simp only [List.map_cons, List.nodup_cons] at hn
    unfold aGet
    rcases List.mem_cons.1 h with rfl | h
    · rw [if_pos rfl]
    · rw [if_neg (fun e => hn.1 (by rw [e]; exact List.mem_map.2 ⟨_, h, rfl⟩)), aGet_of_mem hn.2 h]
theorem aPut_new {k : α} {v : β} : ∀ {l : List (α × β)}, k ∉ l.map (·.1) → aPut k v l = l ++ [(k, v)]
  | [], _ => rfl
  | p :: r, h => by
    simp only [List.map_cons, List.mem_cons, not_or] at h
    unfold aPut
    rw [if_neg (fun e => h.1 e.symm), aPut_new h.2]; rfl
theorem aDel_eq {k : α} : ∀ {l : List (α × β)}, (l.map (·.1)).Nodup → aDel k l = l.filter (fun p => !decide (p.1 = k))
  | [], _ => rfl
  | p :: r, hn => by
    simp only [List.map_cons, List.nodup_cons] at hn
    unfold aDel
    by_cases h : p.1 = k
    · rw [if_pos h, List.filter_cons_of_neg (by simp [h])]
      refine (List.filter_eq_self.2 fun q hq => ?_).symm
      have : q.1 ≠ k := fun e => hn.1 (by rw [h, ← e]; exact List.mem_map.2 ⟨q, hq, rfl⟩)
      simp [this]
    · rw [if_neg h, List.filter_cons_of_pos (by simp [h]), aDel_eq hn.2]
theorem mem_aDel {k : α} {l : List (α × β)} (hn : (l.map (·.1)).Nodup) {q : α × β} : q ∈ aDel k l ↔ q ∈ l ∧ q.1 ≠ k := by
  rw [aDel_eq hn, List.mem_filter]
  simp
theorem aDel_nodup {k : α} {l : List (α × β)} (hn : (l.map (·.1)).Nodup) : ((aDel k l).map (·.1)).Nodup := by
  rw [aDel_eq hn]
  exact (List.filter_sublist.map _).nodup hn
theorem aDel_not {k : α} {l : List (α × β)} (hn : (l.map (·.1)).Nodup) : k ∉ (aDel k l).map (·.1) := fun h => by
  obtain ⟨p, hp, rfl⟩ := List.mem_map.1 h
  exact ((mem_aDel hn).1 hp).2 rfl
theorem aDel_le {k : α} : ∀ l : List (α × β), (aDel k l).length ≤ l.length
  | [] => Nat.le_refl _
  | p :: r => by
    unfold aDel
    split
    · simp
    · have := aDel_le (k := k) r
      simp only [List.length_cons]; omega
theorem aPut_le {k : α} {v : β} : ∀ l : List (α × β), (aPut k v l).length ≤ l.length + 1
  | [] => Nat.le_refl _
  | p :: r => by
    unfold aPut
    split
    · simp
    · have := aPut_le (k := k) (v := v) r
      simp only [List.length_cons]; omega
omit [DecidableEq α] in
theorem nodup_snoc {l : List (α × β)} {k : α} {v : β} (hn : (l.map (·.1)).Nodup) (h : k ∉ l.map (·.1)) : ((l ++ [(k, v)]).map (·.1)).Nodup := by
  rw [List.map_append, List.nodup_append]
  refine ⟨hn, by simp, fun a ha b hb e => ?_⟩
  simp only [List.map_cons, List.map_nil, List.mem_singleton] at hb
  subst hb
  exact h (e ▸ ha)
end

/-- what is known of each key: its value, or that it is gone; in the order of the map's block -/
abbrev Mdl := List (ByteArray × (ByteArray × Bool))
structure MdAt (mb eb : Nat) (w : World) (M : Mdl) : Prop where
  top : w.heap[mb]? = some (.cells #[.map (some eb)] 48 (0, 0))
  ents : MapK Value.string w eb (M.map fun p => (p.1, .agg #[.string p.2.1, .bool p.2.2]))
theorem MdAt.ne {mb eb : Nat} {w : World} {M : Mdl} (h : MdAt mb eb w M) : mb ≠ eb := by
  rintro rfl
  obtain ⟨es, clock, hb, -⟩ := h.ents
  rw [h.top] at hb
  cases hb
theorem MdAt.keep {mb eb : Nat} {w w' : World} {M : Mdl} (h : MdAt mb eb w M) {X : List Nat} (k : Kp X w w') (h1 : mb ∉ X) (h2 : eb ∉ X) : MdAt mb eb w' M :=
  ⟨(k.block _ (lt_of_block h.top) h1).trans h.top, h.ents.keep k h2⟩
theorem MdAt.keep0 {mb eb : Nat} {w w' : World} {M : Mdl} (h : MdAt mb eb w M) (k : Kp [] w w') : MdAt mb eb w' M := h.keep k (by simp) (by simp)
theorem MdAt.lts {mb eb : Nat} {w : World} {M : Mdl} (h : MdAt mb eb w M) : mb < w.heap.size ∧ eb < w.heap.size := ⟨lt_of_block h.top, h.ents.lt⟩
/-- the keys and values of a model are short -/
def Short (M : Mdl) : Prop := ∀ p ∈ M, p.1.size ≤ 32 ∧ p.2.1.size ≤ 384
theorem Short.kE {M : Mdl} (h : Short M) : ∀ p ∈ M.map (fun p => (p.1, Value.agg #[.string p.2.1, .bool p.2.2])), p.1.size ≤ maxLen := by
  intro p hp
  obtain ⟨q, hq, rfl⟩ := List.mem_map.1 hp
  have := (h q hq).1
  unfold maxLen
  simp only
  omega
theorem Short.put {M : Mdl} (h : Short M) {k v : ByteArray} {g : Bool} (hk : k.size ≤ 32) (hv : v.size ≤ 384) : Short (aPut k (v, g) M) := by
  intro p hp
  rcases aPut_mem hp with rfl | hp
  · exact ⟨hk, hv⟩
  · exact h p hp
theorem under_mKn : Tryd.prog.underlying 46 = some (.map 9 68) := by kernel_rfl
theorem under_str : Tryd.prog.underlying 9 = some .string := by kernel_rfl
theorem zero_known (w : World) : (zeroValue 68).run Tryd.prog w = .ok (.agg #[.string ⟨#[]⟩, .bool false]) w := by kernel_rfl
abbrev Md.p (mb : Nat) : Value := .pointer (some ⟨mb, 0, none⟩)
/-- what a look tells -/
def Mdl.at (M : Mdl) (k : ByteArray) : ByteArray × Bool := (aGet k M).getD (⟨#[]⟩, false)
theorem kn_val (M : Mdl) (k : ByteArray) : kGet k (M.map fun p => (p.1, Value.agg #[.string p.2.1, .bool p.2.2])) = (aGet k M).map (fun n => .agg #[.string n.1, .bool n.2]) := kGet_map (fun n : ByteArray × Bool => Value.agg #[.string n.1, .bool n.2]) k M
theorem look_known {mb eb : Nat} {w : World} {M : Mdl} (h : MdAt mb eb w M) (hs : Short M) {k : ByteArray} (hk : k.size ≤ maxLen) (c : Bool) :
    (Instr.lookup 46 (.map (some eb)) (.string k) c).run Tryd.prog w = .ok (if c then .tuple #[.agg #[.string (M.at k).1, .bool (M.at k).2], .bool (aGet k M).isSome] else .agg #[.string (M.at k).1, .bool (M.at k).2]) w := by
  have := MapK.look (P := Tryd.prog) (encs_str under_str) under_mKn h.ents hs.kE (k := k) hk _ (zero_known w) c
  rw [this, kn_val]
  unfold Mdl.at
  cases aGet k M <;> rfl
theorem store_known {mb eb : Nat} {w : World} {M : Mdl} (h : MdAt mb eb w M) (hs : Short M) {k : ByteArray} (hk : k.size ≤ maxLen) (v : ByteArray) (g : Bool) :
    ∃ w', (Instr.mapUpdate 46 (.map (some eb)) (.string k) (.agg #[.string v, .bool g])).run Tryd.prog w = .ok () w' ∧ MdAt mb eb w' (aPut k (v, g) M) ∧ Kp [eb] w w' := by
  obtain ⟨w', h1, h2, h3⟩ := MapK.store (P := Tryd.prog) (encs_str under_str) under_mKn h.ents hs.kE (k := k) hk (.agg #[.string v, .bool g])
  refine ⟨w', h1, ⟨(h3.block _ h.lts.1 (by simpa using h.ne)).trans h.top, ?_⟩, h3⟩
  rw [show kPut k (Value.agg #[.string v, .bool g]) (M.map fun p => (p.1, Value.agg #[.string p.2.1, .bool p.2.2])) = (aPut k (v, g) M).map fun p => (p.1, Value.agg #[.string p.2.1, .bool p.2.2]) from kPut_map (fun n : ByteArray × Bool => Value.agg #[.string n.1, .bool n.2]) k (v, g) M] at h2
  exact h2
set_option maxHeartbeats 1000000 in
set_option maxRecDepth 20000 in
theorem mnew (w : World) : Calls Tryd.prog 9 #[] w fun e w' => ∃ mb eb, e = .returned (Md.p mb) ∧ MdAt mb eb w' [] ∧ Kp [] w w' ∧ w.heap.size ≤ mb ∧ w.heap.size ≤ eb := by
  go_enter Tryd.func9, Tryd.ntmps9
  go_wp2_with fail
  rw [run_makeMap_plain]
  go_wp2_with fail
  go_ret
  have hb := block_new (w.alloc (.map #[] 0)) (.cells #[.map (some w.heap.size)] 48)
  rw [World.size_alloc] at hb
  exact ⟨_, w.heap.size, rfl, ⟨hb, (MapK.made (enc := Value.string) w).keep ((Kp.refl [] _).alloc _) (by simp)⟩, ((Kp.refl _ _).alloc _).alloc _, by omega, Nat.le_refl _⟩
end Go.Proofs.YtlomniffpjndfaaDoor
