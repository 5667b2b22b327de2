/-
  A map as a list of entries, as the library's iterators ask for it ('ownsMap'). Over any program.
  maps.Keys over a model's map: every key comes once.
  slices.AppendSeq, slices.Collect over an iterator that gives.
-/
import Derived.Test.YtlomniffpjndfaaDoorMap
import Derived.Shelf.SlIter.AllValuesS
import Derived.Test.YtlomniffpjndfaaDoorMdD
import Derived.RangeFuncFrom
import Derived.RangeFuncNested
import Derived.RangeFuncBound
import Derived.RangeFuncCalls
import Derived.RangeFuncLeaves
import Derived.Shelf.RegionOpen
import Derived.RangeFuncBox
import Derived.Maps.AppendAt
namespace Go.Proofs.YtlomniffpjndfaaDoor
open Go.RowKit Go.ChangeMaps Go.Maps Go.WideShapes Go.WideMaps Go.WideElems Go.MapKept Go.ChangeShapes

section
variable {P : Program} {α β : Type} {enc : α → Value} {kt : TypeId} {ok : α → Prop}
/-- how an element reads: by dec, as a token -/
def rDec (dec : Value → Option β) (v : Value) : Option (DataW β × List MemPlace) := (dec v).map fun y => (.held y, [])
/-- the key's literal -/
def litOf (P : Program) (kt : TypeId) (v : Value) : Lit := (keyOf P kt v).getD (.bool false)
def datOf (P : Program) (kt : TypeId) (enc : α → Value) (l : List (α × β)) : DataW β := .map ((l.map fun p => (litOf P kt (enc p.1), DataW.held p.2)).foldr DataW.insert [])
theorem MapK.owns (K : Encs P kt enc ok) {dec : Value → Option β} {ev : β → Value} (hd : ∀ y, dec (ev y) = some y) {w : World} {b : Nat} {l : List (α × β)} (h : MapK enc w b (l.map fun p => (p.1, ev p.2))) (hk : ∀ p ∈ l, ok p.1) (hz : l.length ≤ 1000) :
    w.ownsMap P kt (rDec dec) b l.length (datOf P kt enc l) := by
  obtain ⟨es, clock, hb, he, hc, hbn, hnd⟩ := h
  have hlen : es.size = l.length := by
    have := congrArg List.length he
    simpa using this
  have hat : ∀ x ∈ es.toList, ∃ p ∈ l, x.key = enc p.1 ∧ x.val = ev p.2 := by
    intro x hx
    have h1 : (x.key, x.val) ∈ es.toList.map (fun e => (e.key, e.val)) := List.mem_map.2 ⟨x, hx, rfl⟩
    rw [he, List.map_map] at h1
    obtain ⟨p, hp, e2⟩ := List.mem_map.1 h1
    simp only [Function.comp, Prod.mk.injEq] at e2
    exact ⟨p, hp, e2.1.symm, e2.2.symm⟩
  have hrg : ∀ (a : α) (y : β) (bn : Nat), ok a → WideElems.rd P kt (rDec dec) ⟨enc a, ev y, bn⟩ = some (litOf P kt (enc a), .held y) := by
    intro a y bn ha
    obtain ⟨lk, hlk⟩ := K.reads a ha
    simp [WideElems.rd, hlk, rDec, hd, litOf]
  refine ⟨es, clock, hb, ⟨by unfold maxLen; omega, ⟨hc, hbn, ?_⟩, fun x hx => ?_⟩, by omega, ?_⟩
  · have hkeys : es.toList.map (·.key) = l.map (fun p => enc p.1) := by
      have := congrArg (List.map Prod.fst) he
      rw [List.map_map, List.map_map, List.map_map] at this
      exact this
    rw [hkeys]
    rw [List.map_map] at hnd
    refine (List.pairwise_map.2 ?_)
    refine (List.pairwise_map.1 hnd).imp fun {p q} hne e => hne (K.inj _ _ e)
  · obtain ⟨p, hp, e1, e2⟩ := hat x hx
    obtain ⟨xk, xv, xb⟩ := x
    simp only at e1 e2
    subst e1; subst e2
    exact ⟨_, hrg p.1 p.2 xb (hk p hp)⟩
  · unfold datOf
    congr 2
    obtain ⟨G, hG⟩ : ∃ G : Value × Value → Lit × DataW β, ∀ x : MapEntry, WideElems.rg P kt (rDec dec) x = G (x.key, x.val) := ⟨fun q => WideElems.rg P kt (rDec dec) ⟨q.1, q.2, 0⟩, fun x => rfl⟩
    have h1 : es.toList.map (WideElems.rg P kt (rDec dec)) = (es.toList.map (fun e => (e.key, e.val))).map G := by
      rw [List.map_map]; exact List.map_congr_left fun x _ => hG x
    rw [h1, he, List.map_map, List.map_map]
    refine List.map_congr_left fun p hp => ?_
    simp only [Function.comp]
    have h2 := hG ⟨enc p.1, ev p.2, 0⟩
    simp only at h2
    rw [← h2]
    exact (WideElems.rg_of (hrg p.1 p.2 0 (hk p hp))).symm
theorem datOf_size (l : List (α × β)) : Maps.size (datOf P kt enc l) = l.length := by
  unfold datOf
  rw [Maps.size_eq, length_sorted, List.length_map]
theorem mem_insert {H : Type} (x p : Lit × DataW H) : ∀ l : List (Lit × DataW H), p ∈ DataW.insert x l ↔ p = x ∨ p ∈ l
  | [] => by simp [DataW.insert]
  | y :: r => by
    unfold DataW.insert
    split
    · simp
    · simp only [List.mem_cons, mem_insert x p r]
      constructor
      · rintro (h | h | h)
        · exact .inr (.inl h)
        · exact .inl h
        · exact .inr (.inr h)
      · rintro (h | h | h)
        · exact .inr (.inl h)
        · exact .inl h
        · exact .inr (.inr h)
theorem mem_sorted {H : Type} (p : Lit × DataW H) : ∀ l : List (Lit × DataW H), p ∈ l.foldr DataW.insert [] ↔ p ∈ l
  | [] => by simp
  | y :: r => by rw [List.foldr_cons, mem_insert, mem_sorted p r, List.mem_cons]
theorem datOf_has (l : List (α × β)) (k : Lit) : Maps.has (datOf P kt enc l) k = true ↔ ∃ p ∈ l, (litOf P kt (enc p.1)).sameKey k = true := by
  unfold datOf
  rw [Maps.has_eq, List.any_eq_true]
  constructor
  · rintro ⟨q, hq, h⟩
    rw [mem_sorted] at hq
    obtain ⟨p, hp, rfl⟩ := List.mem_map.1 hq
    exact ⟨p, hp, h⟩
  · rintro ⟨p, hp, h⟩
    exact ⟨_, (mem_sorted _ _).2 (List.mem_map.2 ⟨p, hp, rfl⟩), h⟩
theorem datOf_at {l : List (α × β)} {k : Lit} {y : β} (h : ∀ zd, (datOf P kt enc l).atKey k zd = .held y) : ∃ p ∈ l, (litOf P kt (enc p.1)).sameKey k = true ∧ p.2 = y := by
  have h1 := h .nil
  unfold datOf DataW.atKey at h1
  simp only at h1
  split at h1
  · rename_i q hq
    have h2 := List.mem_of_find?_eq_some hq
    have h3 := List.find?_some hq
    rw [mem_sorted] at h2
    obtain ⟨p, hp, rfl⟩ := List.mem_map.1 h2
    refine ⟨p, hp, h3, ?_⟩
    simpa using h1
  · cases h1
end
end Go.Proofs.YtlomniffpjndfaaDoor

namespace Go.Proofs.YtlomniffpjndfaaDoor
open Go.RowKit Go.Maps Go.Sort Go.Shelf

/-- the keys that have come -/
def Coll {α H : Type} (mk : α → Lit) (D0 : DataW H) (left : Lit → Bool) (ss : List α) : Prop := ss.Nodup ∧ ∀ x, x ∈ ss ↔ (Maps.has D0 (mk x) = true ∧ left (mk x) = false)
theorem Coll.start {α H : Type} (mk : α → Lit) (D0 : DataW H) : Coll mk D0 (Maps.has D0) [] := ⟨List.nodup_nil, fun x => by cases Maps.has D0 (mk x) <;> simp⟩
theorem Coll.step {α H : Type} [DecidableEq α] {mk : α → Lit} (hs : ∀ x y : α, (mk y).sameKey (mk x) = decide (y = x)) {D0 : DataW H} {left : Lit → Bool} {ss : List α} (h : Coll mk D0 left ss) {x : α} {y : DataW H} (hlk : left (mk x) = true) (hat : ∀ zd, D0.atKey (mk x) zd = y) :
    Coll mk D0 (fun z => left z && !z.sameKey (mk x)) (ss ++ [x]) := by
  have hhas : Maps.has D0 (mk x) = true := has_true_of_atKey hat
  have hnew : x ∉ ss := fun hx => by have := ((h.2 x).1 hx).2; rw [hlk] at this; cases this
  refine ⟨List.nodup_append.2 ⟨h.1, by simp, fun a ha b hb => by simp at hb; subst hb; exact fun e => hnew (e ▸ ha)⟩, fun y => ?_⟩
  by_cases hy : y = x
  · subst hy; simp [hhas, hs]
  · simp [h.2 y, hy, hs]
/-- all keys have come -/
def AllK {α H : Type} (mk : α → Lit) (D0 : DataW H) (ss : List α) : Prop := ss.Nodup ∧ ∀ x, x ∈ ss ↔ Maps.has D0 (mk x) = true
abbrev litS (k : List UInt8) : Lit := .string k
theorem sameS (x y : List UInt8) : (litS y).sameKey (litS x) = decide (y = x) := by
  by_cases h : y = x
  · subst h; simp [Lit.sameKey]
  · rw [sameKey_ne (fun e => h (by cases e; rfl)), decide_eq_false h]
theorem invS {key : Value} {kl : Lit} (h : keyOf Tryd.prog 9 key = some kl) : ∃ x, key = encStr x ∧ kl = litS x := by
  obtain ⟨x, h1, h2, _⟩ := Maps.keyOf_str under_str h
  exact ⟨x, h1, h2⟩
set_option maxRecDepth 100000 in
set_option maxHeartbeats 4000000 in
theorem keys1S {H : Type} (F : Fence) (n : Nat) (h8 : F.fn 51) (hro : F.round = none) (hn : 1 ≤ n) (l Bm b nn : Nat) (D0 : DataW H) {R : Value → Option (DataW H × List MemPlace)} (J Jx : List (List UInt8) → World → Prop)
    (hY : ∀ pre x W, J pre W → pre.length < Maps.size D0 → YieldAt F (n - 1) Tryd.prog l #[encStr x] W fun e W' =>
      (e = .returned (.bool true) ∧ J (pre ++ [x]) W' ∧ KeepsWalks W W') ∨ (e = .returned (.bool false) ∧ Jx (pre ++ [x]) W'))
    (W : World) (hJ : AbidesFrom W.heap.size J) (hm : W.cell? ⟨Bm, 0, none⟩ = some (.map (some b))) (hown : W.ownsMap Tryd.prog 9 R b nn D0) (h0 : J [] W) :
    CallsIn F n Tryd.prog 51 #[.func (.yield l) #[] #[], .pointer (some ⟨Bm, 0, none⟩)] W fun e W' => (∃ v, e = .returned v) ∧
      ((∃ xs, AllK litS D0 xs ∧ J xs W') ∨ (∃ pre, True ∧ Jx pre W')) := by
  refine callsIn_of_wp Tryd.func51 rfl h8 ?_ hro
  simp only [Tryd.ntmps51, List.size_toArray, List.length_cons, List.length_nil, Nat.reduceAdd, Nat.reduceSub, Array.replicate_succ, Array.replicate_zero, List.push_toArray, List.append_toArray, List.nil_append, List.cons_append]
  gi_wp2_with (first
    | (gi_at_range; refine wpListIn_range_own _ rfl _ 46 rfl 9 68 (string_keyed under_str) under_mKn _ b nn _ rfl hown ?_; intro w0 hrg0 hg0 hs0)
    | gi_in)
  go_frame
  gi_loopw [3] (fun _ wr => ∃ (left : Lit → Bool) (cnt : Nat) (ps : List (List UInt8)), wr.ranges Tryd.prog 9 R b W.heap.size nn D0 left cnt ∧ ps.length + cnt ≤ Maps.size D0 ∧ Coll litS D0 left ps ∧ J ps wr)
    (fun _ wr => wr.rangeLeft b W.heap.size)
  case atStart =>
    exact ⟨_, _, [], hrg0, by simp, Coll.start _ D0, hJ [] W w0 none h0 hg0 (fun r e => by cases e)⟩
  case round =>
    obtain ⟨left, cnt, ps, hrg, hcs, hC, hJs⟩ := hrel
    gi_wp2_with (first
      | (gi_at_next; refine wpListIn_next_ranges _ rfl _ rfl 9 (string_keyed under_str) R encStr id (fun key kl hk => by obtain ⟨x, hx, _⟩ := invS hk; exact ⟨x, hx⟩) (fun v _ _ => ⟨v, rfl⟩) b W.heap.size nn _ _ _ rfl hrg ?_ ?_)
      | gi_in)
    · intro hc0 hl0
      gi_wp2
      go_end0
      exact ⟨⟨_, rfl⟩, .inl ⟨ps, ⟨hC.1, fun x => by rw [hC.2 x, hl0]; simp⟩, hJs⟩⟩
    · intro x c kl yd yp w2 cnt2 hkey hlk hv hat hrg2 hlt hg2 hs2 hen
      obtain ⟨x', ex, rfl⟩ := invS hkey
      obtain rfl : x = x' := encStr_inj ex
      have hJ2 : J ps w2 := hJ _ wr w2 (some W.heap.size) hJs hg2 (fun r e => by cases e; exact ⟨Nat.le_refl _, hrg.iter_walk⟩)
      have hC2 := hC.step sameS hlk hat
      obtain ⟨fn, tmps, assign, body, hy, hR⟩ := hY ps x _ hJ2 (by omega)
      clear hs2
      gi_wp2
      refine hR.mono ?_
      rintro e W3 (⟨rfl, hJ4, hk3⟩ | ⟨rfl, hJx3⟩)
      · gi_wp2
        have hrg3 := hrg2.of_walks hk3
        go_roundw
        case rel => exact ⟨_, cnt2, ps ++ [x], hrg3, by simp; omega, hC2, hJ4⟩
        case measure => rw [hrg3.left_eq, hrg.left_eq]; exact hlt
      · gi_wp2
        refine bodyPost_ret (results_none rfl _ _ _) rfl ?_
        exact ⟨⟨_, rfl⟩, .inr ⟨ps ++ [x], trivial, hJx3⟩⟩
set_option maxHeartbeats 1000000 in
set_option maxRecDepth 20000 in
theorem keysS (F : Fence) (n : Nat) (hf : F.fn 34) (hro : F.round = none) (mb : Option Nat) (w : World) :
    CallsIn F n Tryd.prog 34 #[.map mb] w fun e w' => e = .returned (.func (.func 51) #[] #[.pointer (some ⟨w.heap.size, 0, none⟩)]) ∧ w' = w.alloc (.cells #[.map mb] 46) := by
  refine callsIn_of_wp Tryd.func34 rfl hf ?_ hro
  simp only [Tryd.ntmps34, List.size_toArray, List.length_cons, List.length_nil, Nat.reduceAdd, Nat.reduceSub, Array.replicate_succ, Array.replicate_zero, List.push_toArray, List.append_toArray, List.nil_append, List.cons_append]
  gi_wp2
  go_ret
  exact ⟨rfl, rfl⟩
theorem stopsS {H : Type} (F : Fence) (n : Nat) (h7 : F.fn 51) (hro : F.round = none) (hn : 1 ≤ n) (Bm b nn : Nat) (D0 : DataW H) {R : Value → Option (DataW H × List MemPlace)} (w : World) (hBm : Bm < w.heap.size)
    (hm : w.cell? ⟨Bm, 0, none⟩ = some (.map (some b))) (hown : w.ownsMap Tryd.prog 9 R b nn D0) :
    SeqStops F n Tryd.prog 51 #[.pointer (some ⟨Bm, 0, none⟩)] encStr (AllK litS D0) (fun _ => True) (Maps.size D0) w := fun l J Jx W hW hJ _ hY h0 =>
  keys1S F n h7 hro hn l Bm b nn D0 J Jx hY W hJ ((hW.cell (p := ⟨Bm, 0, none⟩) hBm).trans hm) (by
    have hbl := hown.lt
    obtain ⟨es, clock, hb, Ft, hs, hD⟩ := hown
    exact ⟨es, clock, (hW.block b hbl).trans hb, Ft, hs, hD⟩) h0
end Go.Proofs.YtlomniffpjndfaaDoor

namespace Go.Proofs.YtlomniffpjndfaaDoor
open Go.RowKit Go.Maps Go.Sort Go.Shelf

theorem Tryd.info9 : (Tryd.prog.info? 9).map (fun i => (i.zero, i.size, i.bytes)) = some (some (.string ByteArray.empty), 1, 16) := by kernel_rfl
attribute [local go_sem] Oper.semAt_some in
set_option maxRecDepth 100000 in
set_option maxHeartbeats 4000000 in
theorem appendS (F : Fence) (n : Nat) (hf : F.fn 67) (hro : F.round = none) (hn : 3 ≤ n) (g : Nat) (lb : Array Value) (hFg : F.fn g) (eg : ∀ args w, (callFunc g args).run Tryd.prog w = .ok (.enter g args) w) (S Sp : List (List UInt8) → Prop) (N : Nat) (hN : N ≤ maxLen) (hNb : N * 16 ≤ 140737488355328) (w : World)
    (hseq : SeqStops F (n - 1) Tryd.prog g lb encStr S Sp N w) :
    CallsIn F n Tryd.prog 67 #[.slice none 0 0, .func (.func g) #[] lb] w fun e W' => ∃ v xs, e = .returned v ∧ S xs ∧ W'.ownsRow w.heap.size 9 1 v xs.length (xs.map encStr) ∧ Below w.heap.size w W' := by
  have h1 : 1 ≤ n := by omega
  obtain ⟨i0, hi, hz0, hz1, hz2⟩ := info_parts Tryd.info9
  refine callsIn_of_wp_marks Tryd.func67 rfl hf ?_ hro
  simp only [Tryd.ntmps67, List.size_toArray, List.length_cons, List.length_nil, Nat.reduceAdd, Nat.reduceSub, Array.replicate_succ, Array.replicate_zero, List.push_toArray, List.append_toArray, List.nil_append, List.cons_append]
  gi_wp2
  have bO := Boxed.new w 35 (.slice none 0 0)
  have hB0 : Below w.heap.size w (w.alloc (.cells #[.slice none 0 0] 35)) := (Below.refl _ w).alloc (Nat.le_refl _) _
  refine wpIn_rangeFunc_ownG hro h1 (gf := g) (lb := lb) rfl hFg eg hseq walksK_t walksK_b hB0 (fun _ => rfl)
    (fun pre W => (∃ v, Boxed W w.heap.size 35 v ∧ W.ownsRow w.heap.size 9 1 v pre.length (pre.map encStr) ∧ True) ∧ Below w.heap.size w W)
    (fun _ _ _ => False)
    (OwnFrom.and (Own.from (holdsRow_own w.heap.size w.heap.size 35 9 1 (fun pre : List (List UInt8) => pre.length) (fun pre => pre.map encStr) (fun _ _ => True)) _) (ownFrom_below (Nat.le_refl _) (by simp)))
    (fun _ _ _ _ _ hs _ _ => hs)
    ⟨⟨_, bO, World.ownsRow_nil _ _ _ _, trivial⟩, hB0⟩
    (fun x => { tmps := #[.slice none 0 0, .func (.func g) #[] lb, .pointer (some ⟨w.heap.size, 0, none⟩), undef, .slice none 0 0, encStr x, .func (.func g) #[] lb, encStr x, undef, undef, undef, undef, undef], defers := [] }) ?assign ?body ?done ?stop
  case assign =>
    intro l x W K hK
    gi_wp2
    exact hK
  case body =>
    rintro l pre x W ⟨⟨v, hv, hrow, -⟩, hB⟩ hlt
    have hc := hv.cell
    gi_wp2_with (gi_at_builtin; refine wpListIn_append_own _ rfl _ _ 35 rfl w.heap.size 9 i0 (.string ByteArray.empty) 1 16 Tryd.underlying35 hi hz0 hz1 hz2 rfl (by decide) _ _ _ rfl (hrow.alloc _) ⟨W.heap.size, 0, none⟩ 1 1 [encStr x] rfl rfl (cell_one_new _ _ _) (by simp [Value.oneCell']) (by omega) (by omega) (by have := hB.size; simp; omega) ?_; intro v' w1 hown' hgrow _; obtain ⟨g', cap', rfl⟩ := ownsRow_succ hown'; obtain ⟨hv1, hv2, hr2, hk2, hb2⟩ := hv.appended (by decide) hrow hB.size (Nat.le_refl _) hown' hgrow; have hc1 := hv1.cell; have hf1 := hv1.frozen)
    exact ⟨hk2.from _, hk2.walks, ⟨_, hv2, by simpa using hr2, trivial⟩, hB.trans hb2⟩
  case done =>
    rintro D xs W hD hS ⟨⟨v, hv, hrow, -⟩, hB⟩ hK
    have hc := hv.cell
    gi_wp2
    refine ⟨by simp, .inl ⟨_, _, rfl, run_takeDeferred hK, ?_⟩⟩
    exact ⟨_, results_tmp rfl _ _ _, v, xs, rfl, hS, ownsRow_putObj hrow _ hK rfl, hB.trans (belowK_b (w := w) (Nat.le_refl _) W D _ _ (by simp at hD; omega) hK rfl rfl)⟩
  case stop =>
    rintro D c pre W _ _ h _
    exact h.elim
attribute [local go_sem] Oper.semAt_some in
set_option maxRecDepth 100000 in
set_option maxHeartbeats 4000000 in
theorem collectS (F : Fence) (n : Nat) (hf : F.fn 49) (hf2 : F.fn 67) (hro : F.round = none) (hn : 4 ≤ n) (g : Nat) (lb : Array Value) (hFg : F.fn g) (eg : ∀ args w, (callFunc g args).run Tryd.prog w = .ok (.enter g args) w) (S Sp : List (List UInt8) → Prop) (N : Nat) (hN : N ≤ maxLen) (hNb : N * 16 ≤ 140737488355328) (w : World)
    (hseq : SeqStops F (n - 1 - 1) Tryd.prog g lb encStr S Sp N w) :
    CallsIn F n Tryd.prog 49 #[.func (.func g) #[] lb] w fun e W' => ∃ v xs, e = .returned v ∧ S xs ∧ W'.ownsRow w.heap.size 9 1 v xs.length (xs.map encStr) ∧ Below w.heap.size w W' := by
  have hA := appendS F (n - 1) hf2 hro (by omega) g lb hFg eg S Sp N hN hNb w hseq
  refine callsIn_of_wp Tryd.func49 rfl hf ?_ hro
  simp only [Tryd.ntmps49, List.size_toArray, List.length_cons, List.length_nil, Nat.reduceAdd, Nat.reduceSub, Array.replicate_succ, Array.replicate_zero, List.push_toArray, List.append_toArray, List.nil_append, List.cons_append]
  gi_wp2
  refine ⟨fun _ => by omega, hA.mono ?_⟩
  rintro e w' ⟨v, xs, rfl, hS, hrow, hb⟩
  gi_wp2
  go_ret
  exact ⟨v, xs, rfl, hS, hrow, hb⟩
end Go.Proofs.YtlomniffpjndfaaDoor
