/-
  slices.AppendSeq, slices.Collect over an iterator that gives.
  slices.Sorted(maps.Keys(m)), slices.Collect(maps.Keys(m)): the keys, each once; plain.
  What comes of maps.Keys: a permutation of the map's keys.
-/
import Derived.Test.YtdhhddifmkijhaaGreatIdxS
import Derived.RangeFuncBox
import Derived.Maps.AppendAt
import Derived.Sort.OwnSorted
import Derived.Sort.OwnSortedInts
import Derived.Test.YtdhhddifmkijhaaGreatShelf
namespace Go.Proofs.YtdhhddifmkijhaaGreat
open Go.RowKit Go.Maps Go.Sort Go.Shelf

theorem Tryz.info9 : (Tryz.prog.info? 9).map (fun i => (i.zero, i.size, i.bytes)) = some (some (.string ByteArray.empty), 1, 16) := by kernel_rfl
theorem Tryz.info3 : (Tryz.prog.info? 3).map (fun i => (i.zero, i.size, i.bytes)) = some (some (.int .i64 0), 1, 8) := by kernel_rfl
attribute [local go_sem] Oper.semAt_some in
set_option maxRecDepth 100000 in
set_option maxHeartbeats 4000000 in
theorem appendS (F : Fence) (n : Nat) (hf : F.fn 77) (hro : F.round = none) (hn : 3 ≤ n) (g : Nat) (lb : Array Value) (hFg : F.fn g) (eg : ∀ args w, (callFunc g args).run Tryz.prog w = .ok (.enter g args) w) (S Sp : List (List UInt8) → Prop) (N : Nat) (hN : N ≤ maxLen) (hNb : N * 16 ≤ 140737488355328) (w : World)
    (hseq : SeqStops F (n - 1) Tryz.prog g lb encStr S Sp N w) :
    CallsIn F n Tryz.prog 77 #[.slice none 0 0, .func (.func g) #[] lb] w fun e W' => ∃ v xs, e = .returned v ∧ S xs ∧ W'.ownsRow w.heap.size 9 1 v xs.length (xs.map encStr) ∧ Below w.heap.size w W' := by
  have h1 : 1 ≤ n := by omega
  obtain ⟨i0, hi, hz0, hz1, hz2⟩ := info_parts Tryz.info9
  refine callsIn_of_wp_marks Tryz.func77 rfl hf ?_ hro
  simp only [Tryz.ntmps77, List.size_toArray, List.length_cons, List.length_nil, Nat.reduceAdd, Nat.reduceSub, Array.replicate_succ, Array.replicate_zero, List.push_toArray, List.append_toArray, List.nil_append, List.cons_append]
  gi_wp2
  have bO := Boxed.new w 23 (.slice none 0 0)
  have hB0 : Below w.heap.size w (w.alloc (.cells #[.slice none 0 0] 23)) := (Below.refl _ w).alloc (Nat.le_refl _) _
  refine wpIn_rangeFunc_ownG hro h1 (gf := g) (lb := lb) rfl hFg eg hseq walksK_t walksK_b hB0 (fun _ => rfl)
    (fun pre W => (∃ v, Boxed W w.heap.size 23 v ∧ W.ownsRow w.heap.size 9 1 v pre.length (pre.map encStr) ∧ True) ∧ Below w.heap.size w W)
    (fun _ _ _ => False)
    (OwnFrom.and (Own.from (holdsRow_own w.heap.size w.heap.size 23 9 1 (fun pre : List (List UInt8) => pre.length) (fun pre => pre.map encStr) (fun _ _ => True)) _) (ownFrom_below (Nat.le_refl _) (by simp)))
    (fun _ _ _ _ _ hs _ _ => hs)
    ⟨⟨_, bO, World.ownsRow_nil _ _ _ _, trivial⟩, hB0⟩
    (fun x => { tmps := #[.slice none 0 0, .func (.func g) #[] lb, .pointer (some ⟨w.heap.size, 0, none⟩), undef, .slice none 0 0, encStr x, .func (.func g) #[] lb, encStr x, undef, undef, undef, undef, undef], defers := [] }) ?assign ?body ?done ?stop
  case assign =>
    intro l x W K hK
    gi_wp2
    exact hK
  case body =>
    rintro l pre x W ⟨⟨v, hv, hrow, -⟩, hB⟩ hlt
    have hc := hv.cell
    gi_wp2_with (gi_at_builtin; refine wpListIn_append_own _ rfl _ _ 23 rfl w.heap.size 9 i0 (.string ByteArray.empty) 1 16 Tryz.underlying23 hi hz0 hz1 hz2 rfl (by decide) _ _ _ rfl (hrow.alloc _) ⟨W.heap.size, 0, none⟩ 1 1 [encStr x] rfl rfl (cell_one_new _ _ _) (by simp [Value.oneCell']) (by omega) (by omega) (by have := hB.size; simp; omega) ?_; intro v' w1 hown' hgrow _; obtain ⟨g', cap', rfl⟩ := ownsRow_succ hown'; obtain ⟨hv1, hv2, hr2, hk2, hb2⟩ := hv.appended (by decide) hrow hB.size (Nat.le_refl _) hown' hgrow; have hc1 := hv1.cell; have hf1 := hv1.frozen)
    exact ⟨hk2.from _, hk2.walks, ⟨_, hv2, by simpa using hr2, trivial⟩, hB.trans hb2⟩
  case done =>
    rintro D xs W hD hS ⟨⟨v, hv, hrow, -⟩, hB⟩ hK
    have hc := hv.cell
    gi_wp2
    refine ⟨by simp, .inl ⟨_, _, rfl, run_takeDeferred hK, ?_⟩⟩
    exact ⟨_, results_tmp rfl _ _ _, v, xs, rfl, hS, ownsRow_putObj hrow _ hK rfl, hB.trans (belowK_b (w := w) (Nat.le_refl _) W D _ _ (by simp at hD; omega) hK rfl rfl)⟩
  case stop =>
    rintro D c pre W _ _ h _
    exact h.elim
attribute [local go_sem] Oper.semAt_some in
set_option maxRecDepth 100000 in
set_option maxHeartbeats 4000000 in
theorem collectS (F : Fence) (n : Nat) (hf : F.fn 62) (hf2 : F.fn 77) (hro : F.round = none) (hn : 4 ≤ n) (g : Nat) (lb : Array Value) (hFg : F.fn g) (eg : ∀ args w, (callFunc g args).run Tryz.prog w = .ok (.enter g args) w) (S Sp : List (List UInt8) → Prop) (N : Nat) (hN : N ≤ maxLen) (hNb : N * 16 ≤ 140737488355328) (w : World)
    (hseq : SeqStops F (n - 1 - 1) Tryz.prog g lb encStr S Sp N w) :
    CallsIn F n Tryz.prog 62 #[.func (.func g) #[] lb] w fun e W' => ∃ v xs, e = .returned v ∧ S xs ∧ W'.ownsRow w.heap.size 9 1 v xs.length (xs.map encStr) ∧ Below w.heap.size w W' := by
  have hA := appendS F (n - 1) hf2 hro (by omega) g lb hFg eg S Sp N hN hNb w hseq
  refine callsIn_of_wp Tryz.func62 rfl hf ?_ hro
  simp only [Tryz.ntmps62, List.size_toArray, List.length_cons, List.length_nil, Nat.reduceAdd, Nat.reduceSub, Array.replicate_succ, Array.replicate_zero, List.push_toArray, List.append_toArray, List.nil_append, List.cons_append]
  gi_wp2
  refine ⟨fun _ => by omega, hA.mono ?_⟩
  rintro e w' ⟨v, xs, rfl, hS, hrow, hb⟩
  gi_wp2
  go_ret
  exact ⟨v, xs, rfl, hS, hrow, hb⟩
attribute [local go_sem] Oper.semAt_some in
set_option maxRecDepth 100000 in
set_option maxHeartbeats 4000000 in
theorem appendI (F : Fence) (n : Nat) (hf : F.fn 81) (hro : F.round = none) (hn : 3 ≤ n) (g : Nat) (lb : Array Value) (hFg : F.fn g) (eg : ∀ args w, (callFunc g args).run Tryz.prog w = .ok (.enter g args) w) (S Sp : List (Int) → Prop) (N : Nat) (hN : N ≤ maxLen) (hNb : N * 16 ≤ 140737488355328) (w : World)
    (hseq : SeqStops F (n - 1) Tryz.prog g lb encI S Sp N w) :
    CallsIn F n Tryz.prog 81 #[.slice none 0 0, .func (.func g) #[] lb] w fun e W' => ∃ v xs, e = .returned v ∧ S xs ∧ W'.ownsRow w.heap.size 3 1 v xs.length (xs.map encI) ∧ Below w.heap.size w W' := by
  have h1 : 1 ≤ n := by omega
  obtain ⟨i0, hi, hz0, hz1, hz2⟩ := info_parts Tryz.info3
  refine callsIn_of_wp_marks Tryz.func81 rfl hf ?_ hro
  simp only [Tryz.ntmps81, List.size_toArray, List.length_cons, List.length_nil, Nat.reduceAdd, Nat.reduceSub, Array.replicate_succ, Array.replicate_zero, List.push_toArray, List.append_toArray, List.nil_append, List.cons_append]
  gi_wp2
  have bO := Boxed.new w 30 (.slice none 0 0)
  have hB0 : Below w.heap.size w (w.alloc (.cells #[.slice none 0 0] 30)) := (Below.refl _ w).alloc (Nat.le_refl _) _
  refine wpIn_rangeFunc_ownG hro h1 (gf := g) (lb := lb) rfl hFg eg hseq walksK_t walksK_b hB0 (fun _ => rfl)
    (fun pre W => (∃ v, Boxed W w.heap.size 30 v ∧ W.ownsRow w.heap.size 3 1 v pre.length (pre.map encI) ∧ True) ∧ Below w.heap.size w W)
    (fun _ _ _ => False)
    (OwnFrom.and (Own.from (holdsRow_own w.heap.size w.heap.size 30 3 1 (fun pre : List (Int) => pre.length) (fun pre => pre.map encI) (fun _ _ => True)) _) (ownFrom_below (Nat.le_refl _) (by simp)))
    (fun _ _ _ _ _ hs _ _ => hs)
    ⟨⟨_, bO, World.ownsRow_nil _ _ _ _, trivial⟩, hB0⟩
    (fun x => { tmps := #[.slice none 0 0, .func (.func g) #[] lb, .pointer (some ⟨w.heap.size, 0, none⟩), undef, .slice none 0 0, encI x, .func (.func g) #[] lb, encI x, undef, undef, undef, undef, undef], defers := [] }) ?assign ?body ?done ?stop
  case assign =>
    intro l x W K hK
    gi_wp2
    exact hK
  case body =>
    rintro l pre x W ⟨⟨v, hv, hrow, -⟩, hB⟩ hlt
    have hc := hv.cell
    gi_wp2_with (gi_at_builtin; refine wpListIn_append_own _ rfl _ _ 30 rfl w.heap.size 3 i0 (.int .i64 0) 1 8 Tryz.underlying30 hi hz0 hz1 hz2 rfl (by decide) _ _ _ rfl (hrow.alloc _) ⟨W.heap.size, 0, none⟩ 1 1 [encI x] rfl rfl (cell_one_new _ _ _) (by simp [Value.oneCell']) (by omega) (by omega) (by have := hB.size; simp; omega) ?_; intro v' w1 hown' hgrow _; obtain ⟨g', cap', rfl⟩ := ownsRow_succ hown'; obtain ⟨hv1, hv2, hr2, hk2, hb2⟩ := hv.appended (by decide) hrow hB.size (Nat.le_refl _) hown' hgrow; have hc1 := hv1.cell; have hf1 := hv1.frozen)
    exact ⟨hk2.from _, hk2.walks, ⟨_, hv2, by simpa using hr2, trivial⟩, hB.trans hb2⟩
  case done =>
    rintro D xs W hD hS ⟨⟨v, hv, hrow, -⟩, hB⟩ hK
    have hc := hv.cell
    gi_wp2
    refine ⟨by simp, .inl ⟨_, _, rfl, run_takeDeferred hK, ?_⟩⟩
    exact ⟨_, results_tmp rfl _ _ _, v, xs, rfl, hS, ownsRow_putObj hrow _ hK rfl, hB.trans (belowK_b (w := w) (Nat.le_refl _) W D _ _ (by simp at hD; omega) hK rfl rfl)⟩
  case stop =>
    rintro D c pre W _ _ h _
    exact h.elim
attribute [local go_sem] Oper.semAt_some in
set_option maxRecDepth 100000 in
set_option maxHeartbeats 4000000 in
theorem collectI (F : Fence) (n : Nat) (hf : F.fn 69) (hf2 : F.fn 81) (hro : F.round = none) (hn : 4 ≤ n) (g : Nat) (lb : Array Value) (hFg : F.fn g) (eg : ∀ args w, (callFunc g args).run Tryz.prog w = .ok (.enter g args) w) (S Sp : List (Int) → Prop) (N : Nat) (hN : N ≤ maxLen) (hNb : N * 16 ≤ 140737488355328) (w : World)
    (hseq : SeqStops F (n - 1 - 1) Tryz.prog g lb encI S Sp N w) :
    CallsIn F n Tryz.prog 69 #[.func (.func g) #[] lb] w fun e W' => ∃ v xs, e = .returned v ∧ S xs ∧ W'.ownsRow w.heap.size 3 1 v xs.length (xs.map encI) ∧ Below w.heap.size w W' := by
  have hA := appendI F (n - 1) hf2 hro (by omega) g lb hFg eg S Sp N hN hNb w hseq
  refine callsIn_of_wp Tryz.func69 rfl hf ?_ hro
  simp only [Tryz.ntmps69, List.size_toArray, List.length_cons, List.length_nil, Nat.reduceAdd, Nat.reduceSub, Array.replicate_succ, Array.replicate_zero, List.push_toArray, List.append_toArray, List.nil_append, List.cons_append]
  gi_wp2
  refine ⟨fun _ => by omega, hA.mono ?_⟩
  rintro e w' ⟨v, xs, rfl, hS, hrow, hb⟩
  gi_wp2
  go_ret
  exact ⟨v, xs, rfl, hS, hrow, hb⟩
end Go.Proofs.YtdhhddifmkijhaaGreat

namespace Go.Proofs.YtdhhddifmkijhaaGreat
open Go.RowKit Go.Maps Go.Sort Go.Shelf

set_option maxRecDepth 20000 in
set_option maxHeartbeats 4000000 in
theorem sortedS (g : Nat) (lb : Array Value) (eg : ∀ args w, (callFunc g args).run Tryz.prog w = .ok (.enter g args) w) (S Sp : List (List UInt8) → Prop) (N : Nat) (hN : N ≤ 1000) (hSb : ∀ xs, S xs → xs.length ≤ 1000) (w : World)
    (hseq : SeqStops Fence.wide 2 Tryz.prog g lb encStr S Sp N w) :
    Calls Tryz.prog 67 #[.func (.func g) #[] lb] w fun e W' => ∃ v xs, e = .returned v ∧ S xs ∧ W'.ownsRow w.heap.size 9 1 v xs.length ((xs.mergeSort fun x y => decide (x ≤ y)).map encStr) ∧ Kp [] w W' := by
  have hC := callsIn_wide.1 (collectS Fence.wide 4 trivial trivial rfl (by omega) g lb trivial eg S Sp N (by unfold maxLen; omega) (by omega) w hseq)
  go_enter Tryz.func67, Tryz.ntmps67
  go_wp2_with fail
  refine hC.mono ?_
  rintro e W ⟨v, ss, rfl, hS, hrow, hb⟩
  rcases hrow.2 with ⟨rfl, hz⟩ | ⟨gb, cap, cur, rfl, hbase, hgb, r1, r2, r3, r4⟩
  · have hss : ss = [] := List.eq_nil_of_length_eq_zero hz
    subst hss
    go_wp2_with fail
    refine (Tryz.slices_Sort_string_none none 0 W).mono ?_
    rintro e w' ⟨rfl, rfl⟩
    go_wp2_with fail
    go_ret
    exact ⟨.slice none 0 0, [], rfl, hS, by simpa using hrow, Kp.of_below hb _⟩
  · have hH := holds_of_block (ss := ss) hgb (by simpa using r4)
    have hgl : gb < W.heap.size := lt_of_block hgb
    have hsz : ss.length < 4611686018427387904 := by have := hSb _ hS; omega
    go_wp2_with fail
    refine (Tryz.slices_Sort_string gb 0 cap ss W hH hgl hsz).mono ?_
    rintro e w' ⟨rfl, nn, os, rfl⟩
    have hown := ownsRow_sorted (n := nn) (os := os) (ts := ss.mergeSort fun x y => decide (x ≤ y)) (by simp) hbase hgb r1 r2 r3
    have hbel := hb.grown (grownBy_sorted (n := nn) (os := os) (ss.mergeSort fun x y => decide (x ≤ y)).toArray) hb.size (fun j hj => by cases hj; exact hbase)
    obtain ⟨Z, hZ⟩ : ∃ Z, Z = grow (putRow encStr (Sort.ahead W nn) gb 0 (ss.mergeSort fun x y => decide (x ≤ y)).toArray) os := ⟨_, rfl⟩
    rw [← hZ] at hown hbel ⊢
    clear hZ
    go_wp2_with fail
    go_ret
    exact ⟨_, ss, rfl, hS, hown, Kp.of_below hbel _⟩
set_option maxRecDepth 20000 in
set_option maxHeartbeats 4000000 in
theorem sortedI (g : Nat) (lb : Array Value) (eg : ∀ args w, (callFunc g args).run Tryz.prog w = .ok (.enter g args) w) (S Sp : List (Int) → Prop) (N : Nat) (hN : N ≤ 1000) (hSb : ∀ xs, S xs → xs.length ≤ 1000) (w : World)
    (hseq : SeqStops Fence.wide 2 Tryz.prog g lb encI S Sp N w) :
    Calls Tryz.prog 47 #[.func (.func g) #[] lb] w fun e W' => ∃ v xs, e = .returned v ∧ S xs ∧ W'.ownsRow w.heap.size 3 1 v xs.length ((xs.mergeSort fun x y => decide (x ≤ y)).map encI) ∧ Kp [] w W' := by
  have hC := callsIn_wide.1 (collectI Fence.wide 4 trivial trivial rfl (by omega) g lb trivial eg S Sp N (by unfold maxLen; omega) (by omega) w hseq)
  go_enter Tryz.func47, Tryz.ntmps47
  go_wp2_with fail
  refine hC.mono ?_
  rintro e W ⟨v, ss, rfl, hS, hrow, hb⟩
  rcases hrow.2 with ⟨rfl, hz⟩ | ⟨gb, cap, cur, rfl, hbase, hgb, r1, r2, r3, r4⟩
  · have hss : ss = [] := List.eq_nil_of_length_eq_zero hz
    subst hss
    go_wp2_with fail
    refine (Tryz.slices_Sort_int_none none 0 W).mono ?_
    rintro e w' ⟨rfl, rfl⟩
    go_wp2_with fail
    go_ret
    exact ⟨.slice none 0 0, [], rfl, hS, by simpa using hrow, Kp.of_below hb _⟩
  · have hH := holds_of_blockI (ss := ss) hgb (by simpa using r4)
    have hgl : gb < W.heap.size := lt_of_block hgb
    have hsz : ss.length < 4611686018427387904 := by have := hSb _ hS; omega
    go_wp2_with fail
    refine (Tryz.slices_Sort_int gb 0 cap ss W hH hgl hsz).mono ?_
    rintro e w' ⟨rfl, nn, os, rfl⟩
    have hown := ownsRow_sortedI (n := nn) (os := os) (ts := ss.mergeSort fun x y => decide (x ≤ y)) (by simp) hbase hgb r1 r2 r3
    have hbel := hb.grown (grownBy_sortedI (n := nn) (os := os) (ss.mergeSort fun x y => decide (x ≤ y)).toArray) hb.size (fun j hj => by cases hj; exact hbase)
    obtain ⟨Z, hZ⟩ : ∃ Z, Z = grow (putRow encI (Sort.ahead W nn) gb 0 (ss.mergeSort fun x y => decide (x ≤ y)).toArray) os := ⟨_, rfl⟩
    rw [← hZ] at hown hbel ⊢
    clear hZ
    go_wp2_with fail
    go_ret
    exact ⟨_, ss, rfl, hS, hown, Kp.of_below hbel _⟩
end Go.Proofs.YtdhhddifmkijhaaGreat

namespace Go.Proofs.YtdhhddifmkijhaaGreat
open Go.RowKit Go.Maps Go.Sort Go.Shelf

theorem lit_int {n : Int} (hn : (Lit.int .i64 n).wf = true) : litOf Tryz.prog 3 (.int .i64 n) = .int .i64 n := by
  unfold litOf
  rw [keyOf_int_mk under_int hn]
  rfl
theorem nodup_str {l : List ByteArray} (h : l.Nodup) : (l.map fun k => k.data.toList).Nodup :=
  List.pairwise_map.2 (h.imp fun hne e => hne (bytes_inj e))
theorem allk_ents {I : Ib} {w : World} {x : Ix} (h : IxAt I w x) (hf : Fit x) {xs : List (List UInt8)} (ha : AllK litS (datE x) xs) : xs.Perm (x.E.map fun p => p.1.data.toList) := by
  have hn := nodup_str h.keysE
  rw [List.map_map] at hn
  refine (List.perm_ext_iff_of_nodup ha.1 hn).2 fun k => ?_
  rw [ha.2 k]
  unfold datE
  rw [datOf_has]
  constructor
  · rintro ⟨p, hp, h1⟩
    rw [lit_str (max_key (hf.keys p hp).1)] at h1
    exact List.mem_map.2 ⟨p, hp, same_str h1⟩
  · intro hm
    obtain ⟨p, hp, he⟩ := List.mem_map.1 hm
    simp only [Function.comp] at he
    refine ⟨p, hp, ?_⟩
    rw [lit_str (max_key (hf.keys p hp).1), he]
    exact same_refl _
/-- the volumes' datum -/
noncomputable def datV (VS : List (Int × VolD × Value)) : DataW Value := datOf Tryz.prog 3 (Value.int .i64) (VS.map volF)
theorem vols_own {x : Ix} (hf : Fit x) {w : World} {b : Nat} {VS : List (Int × VolD × Value)} (hv : VS.map volP = x.V) (hm : MapK (Value.int .i64) w b (VS.map volF)) (hz : x.V.length ≤ 1000) :
    w.ownsMap Tryz.prog 3 (rDec (fun v => some v)) b (VS.map volF).length (datV VS) := by
  have hl : (VS.map volF).length = x.V.length := by rw [← hv, List.length_map, List.length_map]
  refine MapK.owns (ev := fun v => v) (encs_int under_int) (fun _ => rfl) (l := VS.map volF) ?_ (hf.kV hv) (by omega)
  have : (VS.map volF).map (fun p => (p.1, p.2)) = VS.map volF := by rw [List.map_map]; rfl
  rw [this]
  exact hm
theorem same_int {a b : Int} (h : (Lit.int .i64 a).sameKey (.int .i64 b) = true) : a = b := by
  by_cases e : a = b
  · exact e
  · have := sameI b a
    rw [decide_eq_false e] at this
    rw [this] at h
    cases h
theorem allk_vols {x : Ix} (hf : Fit x) {w : World} {b : Nat} {VS : List (Int × VolD × Value)} (hv : VS.map volP = x.V) (hm : MapK (Value.int .i64) w b (VS.map volF)) {xs : List Int} (ha : AllK litI (datV VS) xs) : xs.Perm (x.V.map (·.1)) := by
  have hn : (x.V.map (·.1)).Nodup := by
    obtain ⟨es, clock, -, -, -, -, hnd⟩ := hm
    rw [← hv, List.map_map]
    rw [List.map_map] at hnd
    exact hnd
  refine (List.perm_ext_iff_of_nodup ha.1 hn).2 fun k => ?_
  rw [ha.2 k]
  unfold datV
  rw [datOf_has]
  have hk := hf.kV hv
  constructor
  · rintro ⟨p, hp, h1⟩
    rw [lit_int (hk p hp)] at h1
    obtain ⟨q, hq, rfl⟩ := List.mem_map.1 hp
    rw [← hv, List.map_map]
    exact List.mem_map.2 ⟨q, hq, same_int h1⟩
  · intro hm'
    rw [← hv, List.map_map] at hm'
    obtain ⟨q, hq, rfl⟩ := List.mem_map.1 hm'
    refine ⟨volF q, List.mem_map.2 ⟨q, hq, rfl⟩, ?_⟩
    rw [lit_int (hk _ (List.mem_map.2 ⟨q, hq, rfl⟩))]
    exact (sameI _ _).trans (decide_eq_true rfl)
end Go.Proofs.YtdhhddifmkijhaaGreat
