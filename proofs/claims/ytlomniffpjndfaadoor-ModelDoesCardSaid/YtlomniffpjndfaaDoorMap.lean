/-
  A map as the list of its entries, in the order of the block: look up, store, delete. Over any program.
-/
import Derived.Test.YtlomniffpjndfaaDoorP1
import Derived.Maps.OwnSet
namespace Go.Proofs.YtlomniffpjndfaaDoor
open Go.RowKit Go.ChangeMaps Go.Maps Go.WideShapes Go.WideMaps Go.WideElems Go.MapKept Go.ChangeShapes

section
variable {α : Type}
def kGet [DecidableEq α] (k : α) : List (α × Value) → Option Value
  | [] => none
  | p :: r => if p.1 = k then some p.2 else kGet k r
def kPut [DecidableEq α] (k : α) (v : Value) : List (α × Value) → List (α × Value)
  | [] => [(k, v)]
  | p :: r => if p.1 = k then (k, v) :: r else p :: kPut k v r
def kDel [DecidableEq α] (k : α) : List (α × Value) → List (α × Value)
  | [] => []
  | p :: r => if p.1 = k then r else p :: kDel k r
theorem kGet_none [DecidableEq α] {k : α} : ∀ {l : List (α × Value)}, (∀ p ∈ l, p.1 ≠ k) → kGet k l = none
  | [], _ => rfl
  | p :: r, h => by
    unfold kGet
    rw [if_neg (h p (List.mem_cons_self ..)), kGet_none (fun q hq => h q (List.mem_cons_of_mem _ hq))]
theorem kPut_none [DecidableEq α] {k : α} {v : Value} : ∀ {l : List (α × Value)}, (∀ p ∈ l, p.1 ≠ k) → kPut k v l = l ++ [(k, v)]
  | [], _ => rfl
  | p :: r, h => by
    unfold kPut
    rw [if_neg (h p (List.mem_cons_self ..)), kPut_none (fun q hq => h q (List.mem_cons_of_mem _ hq))]; rfl
theorem kDel_none [DecidableEq α] {k : α} : ∀ {l : List (α × Value)}, (∀ p ∈ l, p.1 ≠ k) → kDel k l = l
  | [], _ => rfl
  | p :: r, h => by
    unfold kDel
    rw [if_neg (h p (List.mem_cons_self ..)), kDel_none (fun q hq => h q (List.mem_cons_of_mem _ hq))]
theorem kGet_at [DecidableEq α] {k : α} {v : Value} : ∀ {l : List (α × Value)} {j : Nat}, (l.map (·.1)).Nodup → l[j]? = some (k, v) → kGet k l = some v
  | [], _, _, h => by simp at h
  | p :: r, 0, _, h => by
    simp at h; subst h
    unfold kGet; rw [if_pos rfl]
  | p :: r, j + 1, hn, h => by
    simp only [List.map_cons, List.nodup_cons] at hn
    have h' : r[j]? = some (k, v) := by simpa using h
    unfold kGet
    rw [if_neg (fun e => hn.1 (by rw [e]; exact List.mem_map.2 ⟨(k, v), List.mem_of_getElem? h', rfl⟩)), kGet_at hn.2 h']
theorem kPut_at [DecidableEq α] {k : α} {u v : Value} : ∀ {l : List (α × Value)} {j : Nat}, (l.map (·.1)).Nodup → l[j]? = some (k, u) → kPut k v l = l.set j (k, v)
  | [], _, _, h => by simp at h
  | p :: r, 0, _, h => by
    simp at h; subst h
    unfold kPut; rw [if_pos rfl]; rfl
  | p :: r, j + 1, hn, h => by
    simp only [List.map_cons, List.nodup_cons] at hn
    have h' : r[j]? = some (k, u) := by simpa using h
    unfold kPut
    rw [if_neg (fun e => hn.1 (by rw [e]; exact List.mem_map.2 ⟨(k, u), List.mem_of_getElem? h', rfl⟩)), kPut_at hn.2 h']; rfl
theorem kDel_at [DecidableEq α] {k : α} {u : Value} : ∀ {l : List (α × Value)} {j : Nat}, (l.map (·.1)).Nodup → l[j]? = some (k, u) → kDel k l = l.eraseIdx j
  | [], _, _, h => by simp at h
  | p :: r, 0, _, h => by
    simp at h; subst h
    unfold kDel; rw [if_pos rfl]; rfl
  | p :: r, j + 1, hn, h => by
    simp only [List.map_cons, List.nodup_cons] at hn
    have h' : r[j]? = some (k, u) := by simpa using h
    unfold kDel
    rw [if_neg (fun e => hn.1 (by rw [e]; exact List.mem_map.2 ⟨(k, u), List.mem_of_getElem? h', rfl⟩)), kDel_at hn.2 h']; rfl
theorem kPut_keys [DecidableEq α] (k : α) (v : Value) : ∀ l : List (α × Value), (l.map (·.1)).Nodup → ((kPut k v l).map (·.1)).Nodup ∧ ∀ x, x ∈ (kPut k v l).map (·.1) ↔ x = k ∨ x ∈ l.map (·.1)
  | [], _ => by simp [kPut]
  | p :: r, h => by
    simp only [List.map_cons, List.nodup_cons] at h
    obtain ⟨ih1, ih2⟩ := kPut_keys k v r h.2
    unfold kPut
    by_cases e : p.1 = k
    · rw [if_pos e]
      subst e
      simp only [List.map_cons, List.nodup_cons, List.mem_cons]
      exact ⟨h, fun x => by constructor; · rintro (h | h); exact .inl h; exact .inr (.inr h)
                            · rintro (h | h | h); exact .inl h; exact .inl h; exact .inr h⟩
    · rw [if_neg e]
      simp only [List.map_cons, List.nodup_cons, List.mem_cons]
      refine ⟨⟨fun hm => ?_, ih1⟩, fun x => ?_⟩
      · rcases (ih2 _).1 hm with h' | h'
        · exact e h'
        · exact h.1 h'
      · rw [ih2]
        constructor
        · rintro (h | h | h)
          · exact .inr (.inl h)
          · exact .inl h
          · exact .inr (.inr h)
        · rintro (h | h | h)
          · exact .inr (.inl h)
          · exact .inl h
          · exact .inr (.inr h)

/-- block b is a map whose entries are kvs, in the order of the block; keys as enc says -/
def MapK (enc : α → Value) (w : World) (b : Nat) (kvs : List (α × Value)) : Prop :=
  ∃ (es : Array MapEntry) (clock : Nat), w.heap[b]? = some (.map es clock) ∧ es.toList.map (fun e => (e.key, e.val)) = kvs.map (fun p => (enc p.1, p.2)) ∧ (∀ e ∈ es.toList, e.born < clock) ∧ (es.toList.map (·.born)).Nodup ∧ (kvs.map (·.1)).Nodup
variable {enc : α → Value}
theorem MapK.lt {w : World} {b : Nat} {kvs : List (α × Value)} (h : MapK enc w b kvs) : b < w.heap.size := by
  obtain ⟨es, clock, hb, -⟩ := h
  exact lt_of_block hb
theorem MapK.keep {w w' : World} {b : Nat} {kvs : List (α × Value)} (h : MapK enc w b kvs) {X : List Nat} (k : Kp X w w') (hx : b ∉ X) : MapK enc w' b kvs := by
  obtain ⟨es, clock, hb, r⟩ := h
  exact ⟨es, clock, (k.block b (lt_of_block hb) hx).trans hb, r⟩
theorem MapK.made (w : World) : MapK enc (w.alloc (.map #[] 0)) w.heap.size [] := ⟨#[], 0, block_new _ _, rfl, by simp, by simp, by simp⟩
end

section
variable {P : Program} {α : Type} {enc : α → Value} {kt : TypeId}
/-- the keys that enc gives are read by the type kt -/
structure Encs (P : Program) (kt : TypeId) (enc : α → Value) (ok : α → Prop) : Prop where
  keyed : Keyed P kt
  reads : ∀ a, ok a → ∃ l, keyOf P kt (enc a) = some l
  inj : ∀ a b, enc a = enc b → a = b
theorem encs_str (h : P.underlying kt = some .string) : Encs P kt Value.string (fun s => s.size ≤ maxLen) :=
  ⟨string_keyed h, fun a ha => ⟨_, keyOf_string_mk h ha⟩, fun a b e => by cases e; rfl⟩
theorem encs_int (h : P.underlying kt = some (.int .i64)) : Encs P kt (Value.int .i64) (fun n => (Lit.int .i64 n).wf = true) :=
  ⟨int_keyed h, fun a ha => ⟨_, keyOf_int_mk h ha⟩, fun a b e => by cases e; rfl⟩
variable {ok : α → Prop}
theorem MapK.findKey (K : Encs P kt enc ok) {es : Array MapEntry} {kvs : List (α × Value)} (he : es.toList.map (fun e => (e.key, e.val)) = kvs.map (fun p => (enc p.1, p.2))) (hk : ∀ p ∈ kvs, ok p.1) {k : α} (hok : ok k) (w : World) :
    ((Instr.findKey kt (enc k) es.toList).run P w = .ok none w ∧ ∀ p ∈ kvs, p.1 ≠ k) ∨ ∃ j v e, (Instr.findKey kt (enc k) es.toList).run P w = .ok (some (j, v)) w ∧ kvs[j]? = some (k, v) ∧ es.toList[j]? = some e ∧ e.key = enc k ∧ e.val = v := by
  obtain ⟨lk, hlk⟩ := K.reads k hok
  have hes : ∀ e ∈ es.toList, ∃ l, keyOf P kt e.key = some l := by
    intro e hm
    have h1 : (e.key, e.val) ∈ es.toList.map (fun e => (e.key, e.val)) := List.mem_map.2 ⟨e, hm, rfl⟩
    rw [he] at h1
    obtain ⟨p, hp, e2⟩ := List.mem_map.1 h1
    simp only [Prod.mk.injEq] at e2
    rw [← e2.1]
    exact K.reads p.1 (hk p hp)
  rcases K.keyed.find w hlk es.toList hes with ⟨h1, h2⟩ | ⟨j, e, h1, h2, h3⟩
  · refine .inl ⟨h1, fun p hp hpk => ?_⟩
    have h4 : (enc p.1, p.2) ∈ kvs.map (fun p => (enc p.1, p.2)) := List.mem_map.2 ⟨p, hp, rfl⟩
    rw [← he] at h4
    obtain ⟨e, hm, e2⟩ := List.mem_map.1 h4
    simp only [Prod.mk.injEq] at e2
    exact h2 e hm (by rw [e2.1, hpk])
  · refine .inr ⟨j, e.val, e, h1, ?_, h2, h3, rfl⟩
    have h4 : (es.toList.map (fun e => (e.key, e.val)))[j]? = some (e.key, e.val) := by rw [List.getElem?_map, h2]; rfl
    rw [he, List.getElem?_map] at h4
    cases hq : kvs[j]? with
    | none => rw [hq] at h4; cases h4
    | some p =>
      rw [hq] at h4
      simp only [Option.map_some, Option.some.injEq, Prod.mk.injEq] at h4
      obtain ⟨a, v⟩ := p
      have : a = k := K.inj _ _ (h4.1.trans h3)
      subst this
      exact congrArg some (Prod.ext rfl h4.2)
/-- m[k] -/
theorem MapK.look [DecidableEq α] (K : Encs P kt enc ok) {t et : TypeId} (ht : P.underlying t = some (.map kt et)) {w : World} {b : Nat} {kvs : List (α × Value)} (h : MapK enc w b kvs) (hk : ∀ p ∈ kvs, ok p.1) {k : α} (hok : ok k) (z : Value) (hz : (zeroValue et).run P w = .ok z w) (c : Bool) :
    (Instr.lookup t (.map (some b)) (enc k) c).run P w = .ok (if c then .tuple #[(kGet k kvs).getD z, .bool (kGet k kvs).isSome] else (kGet k kvs).getD z) w := by
  obtain ⟨es, clock, hb, he, -, -, hnd⟩ := h
  obtain ⟨lk, hlk⟩ := K.reads k hok
  have hch := K.keyed.check w es.isEmpty hlk
  rcases MapK.findKey K he hk hok w with ⟨h1, h2⟩ | ⟨j, v, e, h1, h2, -, -, -⟩
  · rw [kGet_none h2]
    simp [Instr.lookup, Sem.run_bind, run_underlying ht, Result.andThen, getObj, Sem.run, hb, hch, h1, hz]
  · rw [kGet_at hnd h2]
    simp [Instr.lookup, Sem.run_bind, run_underlying ht, Result.andThen, getObj, Sem.run, hb, hch, h1]
theorem run_setObj_map {w : World} {b : Nat} {es : Array MapEntry} {clock : Nat} (hb : w.heap[b]? = some (.map es clock)) (o' : Obj) : (setObj b o').run P w = .ok () (setBlock w b o') := by
  simp [setObj, Sem.run, hb, setBlock]
theorem kp_setBlock {w : World} {b : Nat} {es : Array MapEntry} {clock : Nat} (hb : w.heap[b]? = some (.map es clock)) (o' : Obj) : Kp [b] w (setBlock w b o') :=
  ⟨rfl, rfl, rfl, by simp [setBlock], fun k _ hx => heap_setBlock_other hb _ (fun e => hx (by rw [e]; simp))⟩
/-- m[k] = v -/
theorem MapK.store [DecidableEq α] (K : Encs P kt enc ok) {t et : TypeId} (ht : P.underlying t = some (.map kt et)) {w : World} {b : Nat} {kvs : List (α × Value)} (h : MapK enc w b kvs) (hk : ∀ p ∈ kvs, ok p.1) {k : α} (hok : ok k) (v : Value) :
    ∃ w', (Instr.mapUpdate t (.map (some b)) (enc k) v).run P w = .ok () w' ∧ MapK enc w' b (kPut k v kvs) ∧ Kp [b] w w' := by
  have h0 := h
  obtain ⟨es, clock, hb, he, hc, hbn, hnd⟩ := h
  obtain ⟨lk, hlk⟩ := K.reads k hok
  have hch := K.keyed.check w false hlk
  rcases MapK.findKey K he hk hok w with ⟨h1, h2⟩ | ⟨j, u, e, h1, h2, h3, h4, h5⟩
  · refine ⟨setBlock w b (.map (es.push { key := enc k, val := v, born := clock }) (clock + 1)), ?_, ⟨_, _, heap_setBlock_same hb _, ?_, ?_, ?_, ?_⟩, kp_setBlock hb _⟩
    · simp [Instr.mapUpdate, Sem.run_bind, run_underlying ht, Result.andThen, getObj, Sem.run, hb, hch, h1, run_setObj_map hb]
    · rw [kPut_none h2, Array.toList_push, List.map_append, List.map_append, he]; rfl
    · intro x hx
      rw [Array.toList_push, List.mem_append, List.mem_singleton] at hx
      rcases hx with hx | rfl
      · have := hc x hx; omega
      · exact Nat.lt_succ_self _
    · rw [Array.toList_push, List.map_append, List.map_cons, List.map_nil, List.nodup_append]
      refine ⟨hbn, by simp, fun x hx y hy e => ?_⟩
      simp only [List.mem_singleton] at hy
      obtain ⟨z, hz, rfl⟩ := List.mem_map.1 hx
      have := hc z hz
      omega
    · exact (kPut_keys k v kvs hnd).1
  · have hst := K.keyed.stays w hlk
    have hj : j < es.size := by
      have := (List.getElem?_eq_some_iff.1 h3).1
      simpa using this
    have hej : es[j]? = some e := by rw [← Array.getElem?_toList]; exact h3
    refine ⟨setBlock w b (.map (es.modify j fun e => { e with key := enc k, val := v }) clock), ?_, ⟨_, _, heap_setBlock_same hb _, ?_, ?_, ?_, ?_⟩, kp_setBlock hb _⟩
    · have hst' : (Instr.keyThatStays e.key (enc k)).run P w = .ok (enc k) w := by rw [h4]; exact hst
      simp [Instr.mapUpdate, Sem.run_bind, run_underlying ht, Result.andThen, getObj, Sem.run, hb, hch, h1, hej, hst', run_setObj_map hb]
    · rw [kPut_at hnd h2]
      apply List.ext_getElem?
      intro i
      simp only [List.getElem?_map, Array.getElem?_toList, Array.getElem?_modify, List.getElem?_set]
      have hl : kvs.length = es.size := by
        have := congrArg List.length he
        simpa using this.symm
      have hei : ((es[i]?).map fun e => (e.key, e.val)) = (kvs[i]?).map fun p => (enc p.1, p.2) := by
        have := congrArg (fun l => l[i]?) he
        simpa [List.getElem?_map] using this
      by_cases hij : j = i
      · subst hij
        rw [if_pos rfl, if_pos rfl, if_pos (by omega), hej]; rfl
      · rw [if_neg hij, if_neg hij]
        simpa using hei
    · intro x hx
      obtain ⟨i, hi⟩ := List.mem_iff_getElem?.1 hx
      rw [Array.getElem?_toList, Array.getElem?_modify] at hi
      split at hi
      · rename_i hij
        subst hij
        rw [hej] at hi
        simp only [Option.map_some, Option.some.injEq] at hi
        rw [← hi]
        exact hc e (List.mem_of_getElem? h3)
      · exact hc x (List.mem_of_getElem? (by rw [Array.getElem?_toList]; exact hi))
    · have hmod : (es.modify j fun e => { e with key := enc k, val := v }).toList.map (·.born) = es.toList.map (·.born) := by
        apply List.ext_getElem?
        intro i
        simp only [List.getElem?_map, Array.getElem?_toList, Array.getElem?_modify]
        split
        · cases es[i]? <;> rfl
        · rfl
      rw [hmod]; exact hbn
    · exact (kPut_keys k v kvs hnd).1
/-- delete(m, k) -/
theorem MapK.drop [DecidableEq α] (K : Encs P kt enc ok) {t et : TypeId} (ht : P.underlying t = some (.map kt et)) {w : World} {b : Nat} {kvs : List (α × Value)} (h : MapK enc w b kvs) (hk : ∀ p ∈ kvs, ok p.1) {k : α} (hok : ok k) (ty : TypeId) :
    ∃ w', (Builtin.delete_ #[t, kt] ty #[.map (some b), enc k]).run P w = .ok (.tuple #[]) w' ∧ MapK enc w' b (kDel k kvs) ∧ Kp [b] w w' := by
  have h0 := h
  obtain ⟨es, clock, hb, he, hc, hbn, hnd⟩ := h
  obtain ⟨lk, hlk⟩ := K.reads k hok
  have hch := K.keyed.check w es.isEmpty hlk
  rcases MapK.findKey K he hk hok w with ⟨h1, h2⟩ | ⟨j, u, e, h1, h2, h3, h4, h5⟩
  · refine ⟨setBlock w b (.map es clock), ?_, ⟨_, _, heap_setBlock_same hb _, ?_, hc, hbn, ?_⟩, kp_setBlock hb _⟩
    · simp [Builtin.delete_, Sem.run_bind, run_underlying ht, Result.andThen, getObj, Sem.run, hb, hch, h1, run_setObj_map hb]
    · rw [kDel_none h2, he]
    · rw [kDel_none h2]; exact hnd
  · have hsub := List.eraseIdx_sublist es.toList j
    have htl : (es.eraseIdxIfInBounds j).toList = es.toList.eraseIdx j := by simp [Array.toList_eraseIdxIfInBounds]
    refine ⟨setBlock w b (.map (es.eraseIdxIfInBounds j) clock), ?_, ⟨_, _, heap_setBlock_same hb _, ?_, ?_, ?_, ?_⟩, kp_setBlock hb _⟩
    · simp [Builtin.delete_, Sem.run_bind, run_underlying ht, Result.andThen, getObj, Sem.run, hb, hch, h1, run_setObj_map hb]
    · rw [kDel_at hnd h2, htl, map_eraseIdx, map_eraseIdx, he]
    · intro x hx
      rw [htl] at hx
      exact hc x (hsub.subset hx)
    · rw [htl]
      exact (hsub.map _).nodup hbn
    · rw [kDel_at hnd h2]
      exact ((List.eraseIdx_sublist kvs j).map _).nodup hnd
theorem wpList_look [DecidableEq α] (w : World) {ops : Array Oper} {rest : List Oper} {o : Oper} {a : Act} {Q : Exit → Act → World → Prop} (hg : o.guard = none) (m x : Operand) (t : TypeId) (c : Bool) (hop : o.op = Op.lookup t m x c)
    (K : Encs P kt enc ok) {et : TypeId} (ht : P.underlying t = some (.map kt et)) {b : Nat} {kvs : List (α × Value)} (hm : a.eval m = .map (some b)) (h : MapK enc w b kvs) (hk : ∀ p ∈ kvs, ok p.1) (k : α) (hx : a.eval x = enc k) (hok : ok k) (z : Value) (hz : (zeroValue et).run P w = .ok z w)
    (hK : wpList P ops Q rest (a.put o.dst (if c then .tuple #[(kGet k kvs).getD z, .bool (kGet k kvs).isSome] else (kGet k kvs).getD z)) w) : wpList P ops Q (o :: rest) a w := by
  refine wpList_plain hg fun K' hK' => ?_
  have hrun := MapK.look K ht h hk hok z hz c
  unfold Oper.wp
  simp only [execOp, hop, hm, hx]
  simp [hrun, Result.andThen]
  exact hK' _ _ hK
theorem wpList_store [DecidableEq α] (w : World) {ops : Array Oper} {rest : List Oper} {o : Oper} {a : Act} {Q : Exit → Act → World → Prop} (hg : o.guard = none) (m x y : Operand) (t : TypeId) (hop : o.op = Op.mapUpdate t m x y)
    (K : Encs P kt enc ok) {et : TypeId} (ht : P.underlying t = some (.map kt et)) {b : Nat} {kvs : List (α × Value)} (hm : a.eval m = .map (some b)) (h : MapK enc w b kvs) (hk : ∀ p ∈ kvs, ok p.1) (k : α) (v : Value) (hx : a.eval x = enc k) (hy : a.eval y = v) (hok : ok k)
    (hK : ∀ w', MapK enc w' b (kPut k v kvs) → Kp [b] w w' → wpList P ops Q rest (a.put o.dst undef) w') : wpList P ops Q (o :: rest) a w := by
  refine wpList_plain hg fun K' hK' => ?_
  obtain ⟨w', hrun, r1, r2⟩ := MapK.store K ht h hk hok v
  unfold Oper.wp
  simp [execOp, hop, hm, hx, hy, hrun, Result.andThen]
  exact hK' _ _ (hK w' r1 r2)
theorem wpList_drop [DecidableEq α] (w : World) {ops : Array Oper} {rest : List Oper} {o : Oper} {a : Act} {Q : Exit → Act → World → Prop} (hg : o.guard = none) (m x : Operand) (t : TypeId) (hop : o.op = Op.call { callee := Callee.builtin Builtin.delete, args := #[m, x], argTypes := #[t, kt] })
    (K : Encs P kt enc ok) {et : TypeId} (ht : P.underlying t = some (.map kt et)) {b : Nat} {kvs : List (α × Value)} (hm : a.eval m = .map (some b)) (h : MapK enc w b kvs) (hk : ∀ p ∈ kvs, ok p.1) (k : α) (hx : a.eval x = enc k) (hok : ok k)
    (hK : ∀ w', MapK enc w' b (kDel k kvs) → Kp [b] w w' → wpList P ops Q rest (a.put o.dst (.tuple #[])) w') : wpList P ops Q (o :: rest) a w := by
  refine wpList_plain hg fun K' hK' => ?_
  obtain ⟨w', hrun, r1, r2⟩ := MapK.drop K ht h hk hok o.type
  unfold Oper.wp
  simp [execOp, hop, resolve, invoke, builtin, hm, hx, hrun, Result.andThen]
  exact hK' _ _ (hK w' r1 r2)
end
end Go.Proofs.YtlomniffpjndfaaDoor
