/-
  m[k], .. = v, ..: the entry is laid first, its value stored after. Over any program.
-/
import Derived.Test.YtlomniffpjndfaaDoorMap
namespace Go.Proofs.YtlomniffpjndfaaDoor
open Go.RowKit Go.ChangeMaps Go.Maps Go.WideShapes Go.WideMaps Go.WideElems Go.MapKept Go.ChangeShapes

section
variable {P : Program} {α : Type} {enc : α → Value} {kt : TypeId} {ok : α → Prop}
theorem MapK.congr {w w' : World} {b : Nat} {kvs : List (α × Value)} (h : MapK enc w b kvs) (he : w'.heap[b]? = w.heap[b]?) : MapK enc w' b kvs := by
  obtain ⟨es, clock, hb, r⟩ := h
  exact ⟨es, clock, he.trans hb, r⟩
theorem find_born {es : Array MapEntry} {j : Nat} {e : MapEntry} (hj : es[j]? = some e) (hn : (es.toList.map (·.born)).Nodup) : es.findIdx? (fun x => (x.born : Int) == (e.born : Int)) = some j := by
  have hlt : j < es.size := (Array.getElem?_eq_some_iff.1 hj).1
  have hej : es[j] = e := (Array.getElem?_eq_some_iff.1 hj).2
  rw [Array.findIdx?_eq_some_iff_getElem]
  refine ⟨hlt, by rw [hej]; simp, fun i hi h => ?_⟩
  simp only [beq_iff_eq, Int.natCast_inj] at h
  have h1 : (es.toList.map (·.born))[i]? = some e.born := by
    rw [List.getElem?_map, Array.getElem?_toList, Array.getElem?_eq_getElem (by omega)]
    simp [h]
  have h2 : (es.toList.map (·.born))[j]? = some e.born := by
    rw [List.getElem?_map, Array.getElem?_toList, hj]; rfl
  obtain ⟨l1, e1⟩ := List.getElem?_eq_some_iff.1 h1
  obtain ⟨l2, e2⟩ := List.getElem?_eq_some_iff.1 h2
  exact (List.pairwise_iff_getElem.1 hn) i j l1 l2 hi (e1.trans e2.symm)
/-- the entry m[k] is laid, and then stored into -/
theorem MapK.entry [DecidableEq α] (K : Encs P kt enc ok) {t et : TypeId} (ht : P.underlying t = some (.map kt et)) {w : World} {b : Nat} {kvs : List (α × Value)} (h : MapK enc w b kvs) (hk : ∀ p ∈ kvs, ok p.1) {k : α} (hok : ok k) (z : Value) (hz : (zeroValue et).run P w = .ok z w) (u : Value) :
    ∃ (w' : World) (v : Value) (n : Nat), (Instr.mapEntry t (.map (some b)) (enc k)).run P w = .ok (.tuple #[v, .int .i64 (n : Int)]) w' ∧ Kp [b] w w' ∧
      ∀ W, W.heap[b]? = w'.heap[b]? → ∃ w'', (Instr.entryStore t (.map (some b)) (.int .i64 (n : Int)) u).run P W = .ok () w'' ∧ MapK enc w'' b (kPut k u kvs) ∧ Kp [b] W w'' := by
  have h0 := h
  obtain ⟨es, clock, hb, he, hc, hbn, hnd⟩ := h
  obtain ⟨lk, hlk⟩ := K.reads k hok
  have hch := K.keyed.check w false hlk
  obtain ⟨ws, hs, hms, -⟩ := MapK.store K ht h0 hk hok u
  rcases MapK.findKey K he hk hok w with ⟨h1, h2⟩ | ⟨j, v, e, h1, h2, h3, h4, h5⟩
  · have hs2 : ws = setBlock w b (.map (es.push { key := enc k, val := u, born := clock }) (clock + 1)) := by
      simp [Instr.mapUpdate, Sem.run_bind, run_underlying ht, Result.andThen, getObj, Sem.run, hb, hch, h1, run_setObj_map hb] at hs
      exact hs.symm
    refine ⟨setBlock w b (.map (es.push { key := enc k, val := z, born := clock }) (clock + 1)), z, clock, ?_, kp_setBlock hb _, fun W hW => ?_⟩
    · simp [Instr.mapEntry, Sem.run_bind, run_underlying ht, Result.andThen, getObj, Sem.run, hb, hch, h1, hz, run_setObj_map hb, goInt]
    · have hWb : W.heap[b]? = some (.map (es.push { key := enc k, val := z, born := clock }) (clock + 1)) := hW.trans (heap_setBlock_same hb _)
      have hf : (es.push { key := enc k, val := z, born := clock }).findIdx? (fun x => (x.born : Int) == (clock : Int)) = some es.size := by
        refine find_born (e := { key := enc k, val := z, born := clock }) (by simp) ?_
        rw [Array.toList_push, List.map_append, List.map_cons, List.map_nil, List.nodup_append]
        refine ⟨hbn, by simp, fun x hx y hy e => ?_⟩
        simp only [List.mem_singleton] at hy
        obtain ⟨q, hq, rfl⟩ := List.mem_map.1 hx
        have := hc q hq
        omega
      refine ⟨setBlock W b (.map ((es.push { key := enc k, val := z, born := clock }).modify es.size fun e => { e with val := u }) (clock + 1)), ?_, ?_, kp_setBlock hWb _⟩
      · simp [Instr.entryStore, Sem.run_bind, Result.andThen, getObj, Sem.run, hWb, asInt, asIntOf, hf, run_setObj_map hWb]
      · refine MapK.congr hms ?_
        rw [heap_setBlock_same hWb, hs2, heap_setBlock_same hb]
        congr 2
        apply Array.ext_getElem?
        intro i
        rw [Array.getElem?_modify, Array.getElem?_push, Array.getElem?_push]
        by_cases hi : i = es.size
        · subst hi; simp
        · rw [if_neg hi, if_neg (fun e => hi e.symm), if_neg hi]
  · have hj : j < es.size := by
      have := (List.getElem?_eq_some_iff.1 h3).1
      simpa using this
    have hej : es[j]? = some e := by rw [← Array.getElem?_toList]; exact h3
    have hst := K.keyed.stays w hlk
    have hst' : (Instr.keyThatStays e.key (enc k)).run P w = .ok (enc k) w := by rw [h4]; exact hst
    have hs2 : ws = setBlock w b (.map (es.modify j fun e => { e with key := enc k, val := u }) clock) := by
      simp [Instr.mapUpdate, Sem.run_bind, run_underlying ht, Result.andThen, getObj, Sem.run, hb, hch, h1, hej, hst', run_setObj_map hb] at hs
      exact hs.symm
    refine ⟨setBlock w b (.map (es.modify j fun e => { e with key := enc k }) clock), v, e.born, ?_, kp_setBlock hb _, fun W hW => ?_⟩
    · simp [Instr.mapEntry, Sem.run_bind, run_underlying ht, Result.andThen, getObj, Sem.run, hb, hch, h1, hej, hst', run_setObj_map hb, goInt]
    · have hWb : W.heap[b]? = some (.map (es.modify j fun e => { e with key := enc k }) clock) := hW.trans (heap_setBlock_same hb _)
      have hmod : (es.modify j fun e => { e with key := enc k }).toList.map (·.born) = es.toList.map (·.born) := by
        apply List.ext_getElem?
        intro i
        simp only [List.getElem?_map, Array.getElem?_toList, Array.getElem?_modify]
        split
        · cases es[i]? <;> rfl
        · rfl
      have hf : (es.modify j fun e => { e with key := enc k }).findIdx? (fun x => (x.born : Int) == (e.born : Int)) = some j := by
        refine find_born (e := { e with key := enc k }) ?_ (by rw [hmod]; exact hbn)
        rw [Array.getElem?_modify, if_pos rfl, hej]; rfl
      refine ⟨setBlock W b (.map ((es.modify j fun e => { e with key := enc k }).modify j fun e => { e with val := u }) clock), ?_, ?_, kp_setBlock hWb _⟩
      · simp [Instr.entryStore, Sem.run_bind, Result.andThen, getObj, Sem.run, hWb, asInt, asIntOf, hf, run_setObj_map hWb]
      · refine MapK.congr hms ?_
        rw [heap_setBlock_same hWb, hs2, heap_setBlock_same hb]
        congr 2
        apply Array.ext_getElem?
        intro i
        rw [Array.getElem?_modify, Array.getElem?_modify, Array.getElem?_modify]
        by_cases hi : j = i
        · rw [if_pos hi, if_pos hi, if_pos hi]
          cases es[i]? <;> rfl
        · rw [if_neg hi, if_neg hi, if_neg hi]
end
end Go.Proofs.YtlomniffpjndfaaDoor
