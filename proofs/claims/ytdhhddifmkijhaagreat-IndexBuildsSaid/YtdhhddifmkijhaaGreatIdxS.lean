/-
  maps.Keys over the entries and over the volumes: every key comes once.
-/
import Derived.Test.YtdhhddifmkijhaaGreatIdxQ
namespace Go.Proofs.YtdhhddifmkijhaaGreat
open Go.RowKit Go.Maps Go.Sort Go.Shelf

/-- the keys that have come -/
def Coll {α H : Type} (mk : α → Lit) (D0 : DataW H) (left : Lit → Bool) (ss : List α) : Prop := ss.Nodup ∧ ∀ x, x ∈ ss ↔ (Maps.has D0 (mk x) = true ∧ left (mk x) = false)
theorem Coll.start {α H : Type} (mk : α → Lit) (D0 : DataW H) : Coll mk D0 (Maps.has D0) [] := ⟨List.nodup_nil, fun x => by cases Maps.has D0 (mk x) <;> simp⟩
theorem Coll.step {α H : Type} [DecidableEq α] {mk : α → Lit} (hs : ∀ x y : α, (mk y).sameKey (mk x) = decide (y = x)) {D0 : DataW H} {left : Lit → Bool} {ss : List α} (h : Coll mk D0 left ss) {x : α} {y : DataW H} (hlk : left (mk x) = true) (hat : ∀ zd, D0.atKey (mk x) zd = y) :
    Coll mk D0 (fun z => left z && !z.sameKey (mk x)) (ss ++ [x]) := by
  have hhas : Maps.has D0 (mk x) = true := has_true_of_atKey hat
  have hnew : x ∉ ss := fun hx => by have := ((h.2 x).1 hx).2; rw [hlk] at this; cases this
  refine ⟨List.nodup_append.2 ⟨h.1, by simp, fun a ha b hb => by simp at hb; subst hb; exact fun e => hnew (e ▸ ha)⟩, fun y => ?_⟩
  by_cases hy : y = x
  · subst hy; simp [hhas, hs]
  · simp [h.2 y, hy, hs]
/-- all keys have come -/
def AllK {α H : Type} (mk : α → Lit) (D0 : DataW H) (ss : List α) : Prop := ss.Nodup ∧ ∀ x, x ∈ ss ↔ Maps.has D0 (mk x) = true
abbrev litS (k : List UInt8) : Lit := .string k
abbrev litI (n : Int) : Lit := .int .i64 n
abbrev encI (n : Int) : Value := .int .i64 n
theorem sameS (x y : List UInt8) : (litS y).sameKey (litS x) = decide (y = x) := by
  by_cases h : y = x
  · subst h; simp [Lit.sameKey]
  · rw [sameKey_ne (fun e => h (by cases e; rfl)), decide_eq_false h]
theorem sameI (x y : Int) : (litI y).sameKey (litI x) = decide (y = x) := by
  by_cases h : y = x
  · subst h; simp [Lit.sameKey]
  · rw [sameKey_ne (fun e => h (by cases e; rfl)), decide_eq_false h]
theorem encI_inj {x y : Int} (h : encI x = encI y) : x = y := by cases h; rfl
theorem invS {key : Value} {kl : Lit} (h : keyOf Tryz.prog 9 key = some kl) : ∃ x, key = encStr x ∧ kl = litS x := by
  obtain ⟨x, h1, h2, _⟩ := Maps.keyOf_str under_str h
  exact ⟨x, h1, h2⟩
theorem invI {key : Value} {kl : Lit} (h : keyOf Tryz.prog 3 key = some kl) : ∃ x, key = encI x ∧ kl = litI x := by
  obtain ⟨x, h1, h2, _⟩ := Maps.keyOf_int_inv under_int h
  exact ⟨x, h1, h2⟩
set_option maxRecDepth 100000 in
set_option maxHeartbeats 4000000 in
theorem keys1S {H : Type} (F : Fence) (n : Nat) (h8 : F.fn 78) (hro : F.round = none) (hn : 1 ≤ n) (l Bm b nn : Nat) (D0 : DataW H) {R : Value → Option (DataW H × List MemPlace)} (J Jx : List (List UInt8) → World → Prop)
    (hY : ∀ pre x W, J pre W → pre.length < Maps.size D0 → YieldAt F (n - 1) Tryz.prog l #[encStr x] W fun e W' =>
      (e = .returned (.bool true) ∧ J (pre ++ [x]) W' ∧ KeepsWalks W W') ∨ (e = .returned (.bool false) ∧ Jx (pre ++ [x]) W'))
    (W : World) (hJ : AbidesFrom W.heap.size J) (hm : W.cell? ⟨Bm, 0, none⟩ = some (.map (some b))) (hown : W.ownsMap Tryz.prog 9 R b nn D0) (h0 : J [] W) :
    CallsIn F n Tryz.prog 78 #[.func (.yield l) #[] #[], .pointer (some ⟨Bm, 0, none⟩)] W fun e W' => (∃ v, e = .returned v) ∧
      ((∃ xs, AllK litS D0 xs ∧ J xs W') ∨ (∃ pre, True ∧ Jx pre W')) := by
  refine callsIn_of_wp Tryz.func78 rfl h8 ?_ hro
  simp only [Tryz.ntmps78, List.size_toArray, List.length_cons, List.length_nil, Nat.reduceAdd, Nat.reduceSub, Array.replicate_succ, Array.replicate_zero, List.push_toArray, List.append_toArray, List.nil_append, List.cons_append]
  gi_wp2_with (first
    | (gi_at_range; refine wpListIn_range_own _ rfl _ 65 rfl 9 38 (string_keyed under_str) under_mEnt _ b nn _ rfl hown ?_; intro w0 hrg0 hg0 hs0)
    | gi_in)
  go_frame
  gi_loopw [3] (fun _ wr => ∃ (left : Lit → Bool) (cnt : Nat) (ps : List (List UInt8)), wr.ranges Tryz.prog 9 R b W.heap.size nn D0 left cnt ∧ ps.length + cnt ≤ Maps.size D0 ∧ Coll litS D0 left ps ∧ J ps wr)
    (fun _ wr => wr.rangeLeft b W.heap.size)
  case atStart =>
    exact ⟨_, _, [], hrg0, by simp, Coll.start _ D0, hJ [] W w0 none h0 hg0 (fun r e => by cases e)⟩
  case round =>
    obtain ⟨left, cnt, ps, hrg, hcs, hC, hJs⟩ := hrel
    gi_wp2_with (first
      | (gi_at_next; refine wpListIn_next_ranges _ rfl _ rfl 9 (string_keyed under_str) R encStr id (fun key kl hk => by obtain ⟨x, hx, _⟩ := invS hk; exact ⟨x, hx⟩) (fun v _ _ => ⟨v, rfl⟩) b W.heap.size nn _ _ _ rfl hrg ?_ ?_)
      | gi_in)
    · intro hc0 hl0
      gi_wp2
      go_end0
      exact ⟨⟨_, rfl⟩, .inl ⟨ps, ⟨hC.1, fun x => by rw [hC.2 x, hl0]; simp⟩, hJs⟩⟩
    · intro x c kl yd yp w2 cnt2 hkey hlk hv hat hrg2 hlt hg2 hs2 hen
      obtain ⟨x', ex, rfl⟩ := invS hkey
      obtain rfl : x = x' := encStr_inj ex
      have hJ2 : J ps w2 := hJ _ wr w2 (some W.heap.size) hJs hg2 (fun r e => by cases e; exact ⟨Nat.le_refl _, hrg.iter_walk⟩)
      have hC2 := hC.step sameS hlk hat
      obtain ⟨fn, tmps, assign, body, hy, hR⟩ := hY ps x _ hJ2 (by omega)
      clear hs2
      gi_wp2
      refine hR.mono ?_
      rintro e W3 (⟨rfl, hJ4, hk3⟩ | ⟨rfl, hJx3⟩)
      · gi_wp2
        have hrg3 := hrg2.of_walks hk3
        go_roundw
        case rel => exact ⟨_, cnt2, ps ++ [x], hrg3, by simp; omega, hC2, hJ4⟩
        case measure => rw [hrg3.left_eq, hrg.left_eq]; exact hlt
      · gi_wp2
        refine bodyPost_ret (results_none rfl _ _ _) rfl ?_
        exact ⟨⟨_, rfl⟩, .inr ⟨ps ++ [x], trivial, hJx3⟩⟩
set_option maxHeartbeats 1000000 in
set_option maxRecDepth 20000 in
theorem keysS (F : Fence) (n : Nat) (hf : F.fn 63) (hro : F.round = none) (mb : Option Nat) (w : World) :
    CallsIn F n Tryz.prog 63 #[.map mb] w fun e w' => e = .returned (.func (.func 78) #[] #[.pointer (some ⟨w.heap.size, 0, none⟩)]) ∧ w' = w.alloc (.cells #[.map mb] 65) := by
  refine callsIn_of_wp Tryz.func63 rfl hf ?_ hro
  simp only [Tryz.ntmps63, List.size_toArray, List.length_cons, List.length_nil, Nat.reduceAdd, Nat.reduceSub, Array.replicate_succ, Array.replicate_zero, List.push_toArray, List.append_toArray, List.nil_append, List.cons_append]
  gi_wp2
  go_ret
  exact ⟨rfl, rfl⟩
theorem stopsS {H : Type} (F : Fence) (n : Nat) (h7 : F.fn 78) (hro : F.round = none) (hn : 1 ≤ n) (Bm b nn : Nat) (D0 : DataW H) {R : Value → Option (DataW H × List MemPlace)} (w : World) (hBm : Bm < w.heap.size)
    (hm : w.cell? ⟨Bm, 0, none⟩ = some (.map (some b))) (hown : w.ownsMap Tryz.prog 9 R b nn D0) :
    SeqStops F n Tryz.prog 78 #[.pointer (some ⟨Bm, 0, none⟩)] encStr (AllK litS D0) (fun _ => True) (Maps.size D0) w := fun l J Jx W hW hJ _ hY h0 =>
  keys1S F n h7 hro hn l Bm b nn D0 J Jx hY W hJ ((hW.cell (p := ⟨Bm, 0, none⟩) hBm).trans hm) (by
    have hbl := hown.lt
    obtain ⟨es, clock, hb, Ft, hs, hD⟩ := hown
    exact ⟨es, clock, (hW.block b hbl).trans hb, Ft, hs, hD⟩) h0
set_option maxRecDepth 100000 in
set_option maxHeartbeats 4000000 in
theorem keys1I {H : Type} (F : Fence) (n : Nat) (h8 : F.fn 71) (hro : F.round = none) (hn : 1 ≤ n) (l Bm b nn : Nat) (D0 : DataW H) {R : Value → Option (DataW H × List MemPlace)} (J Jx : List (Int) → World → Prop)
    (hY : ∀ pre x W, J pre W → pre.length < Maps.size D0 → YieldAt F (n - 1) Tryz.prog l #[encI x] W fun e W' =>
      (e = .returned (.bool true) ∧ J (pre ++ [x]) W' ∧ KeepsWalks W W') ∨ (e = .returned (.bool false) ∧ Jx (pre ++ [x]) W'))
    (W : World) (hJ : AbidesFrom W.heap.size J) (hm : W.cell? ⟨Bm, 0, none⟩ = some (.map (some b))) (hown : W.ownsMap Tryz.prog 3 R b nn D0) (h0 : J [] W) :
    CallsIn F n Tryz.prog 71 #[.func (.yield l) #[] #[], .pointer (some ⟨Bm, 0, none⟩)] W fun e W' => (∃ v, e = .returned v) ∧
      ((∃ xs, AllK litI D0 xs ∧ J xs W') ∨ (∃ pre, True ∧ Jx pre W')) := by
  refine callsIn_of_wp Tryz.func71 rfl h8 ?_ hro
  simp only [Tryz.ntmps71, List.size_toArray, List.length_cons, List.length_nil, Nat.reduceAdd, Nat.reduceSub, Array.replicate_succ, Array.replicate_zero, List.push_toArray, List.append_toArray, List.nil_append, List.cons_append]
  gi_wp2_with (first
    | (gi_at_range; refine wpListIn_range_own _ rfl _ 67 rfl 3 36 (int_keyed under_int) under_mVol _ b nn _ rfl hown ?_; intro w0 hrg0 hg0 hs0)
    | gi_in)
  go_frame
  gi_loopw [3] (fun _ wr => ∃ (left : Lit → Bool) (cnt : Nat) (ps : List (Int)), wr.ranges Tryz.prog 3 R b W.heap.size nn D0 left cnt ∧ ps.length + cnt ≤ Maps.size D0 ∧ Coll litI D0 left ps ∧ J ps wr)
    (fun _ wr => wr.rangeLeft b W.heap.size)
  case atStart =>
    exact ⟨_, _, [], hrg0, by simp, Coll.start _ D0, hJ [] W w0 none h0 hg0 (fun r e => by cases e)⟩
  case round =>
    obtain ⟨left, cnt, ps, hrg, hcs, hC, hJs⟩ := hrel
    gi_wp2_with (first
      | (gi_at_next; refine wpListIn_next_ranges _ rfl _ rfl 3 (int_keyed under_int) R encI id (fun key kl hk => by obtain ⟨x, hx, _⟩ := invI hk; exact ⟨x, hx⟩) (fun v _ _ => ⟨v, rfl⟩) b W.heap.size nn _ _ _ rfl hrg ?_ ?_)
      | gi_in)
    · intro hc0 hl0
      gi_wp2
      go_end0
      exact ⟨⟨_, rfl⟩, .inl ⟨ps, ⟨hC.1, fun x => by rw [hC.2 x, hl0]; simp⟩, hJs⟩⟩
    · intro x c kl yd yp w2 cnt2 hkey hlk hv hat hrg2 hlt hg2 hs2 hen
      obtain ⟨x', ex, rfl⟩ := invI hkey
      obtain rfl : x = x' := encI_inj ex
      have hJ2 : J ps w2 := hJ _ wr w2 (some W.heap.size) hJs hg2 (fun r e => by cases e; exact ⟨Nat.le_refl _, hrg.iter_walk⟩)
      have hC2 := hC.step sameI hlk hat
      obtain ⟨fn, tmps, assign, body, hy, hR⟩ := hY ps x _ hJ2 (by omega)
      clear hs2
      gi_wp2
      refine hR.mono ?_
      rintro e W3 (⟨rfl, hJ4, hk3⟩ | ⟨rfl, hJx3⟩)
      · gi_wp2
        have hrg3 := hrg2.of_walks hk3
        go_roundw
        case rel => exact ⟨_, cnt2, ps ++ [x], hrg3, by simp; omega, hC2, hJ4⟩
        case measure => rw [hrg3.left_eq, hrg.left_eq]; exact hlt
      · gi_wp2
        refine bodyPost_ret (results_none rfl _ _ _) rfl ?_
        exact ⟨⟨_, rfl⟩, .inr ⟨ps ++ [x], trivial, hJx3⟩⟩
set_option maxHeartbeats 1000000 in
set_option maxRecDepth 20000 in
theorem keysI (F : Fence) (n : Nat) (hf : F.fn 48) (hro : F.round = none) (mb : Option Nat) (w : World) :
    CallsIn F n Tryz.prog 48 #[.map mb] w fun e w' => e = .returned (.func (.func 71) #[] #[.pointer (some ⟨w.heap.size, 0, none⟩)]) ∧ w' = w.alloc (.cells #[.map mb] 67) := by
  refine callsIn_of_wp Tryz.func48 rfl hf ?_ hro
  simp only [Tryz.ntmps48, List.size_toArray, List.length_cons, List.length_nil, Nat.reduceAdd, Nat.reduceSub, Array.replicate_succ, Array.replicate_zero, List.push_toArray, List.append_toArray, List.nil_append, List.cons_append]
  gi_wp2
  go_ret
  exact ⟨rfl, rfl⟩
theorem stopsI {H : Type} (F : Fence) (n : Nat) (h7 : F.fn 71) (hro : F.round = none) (hn : 1 ≤ n) (Bm b nn : Nat) (D0 : DataW H) {R : Value → Option (DataW H × List MemPlace)} (w : World) (hBm : Bm < w.heap.size)
    (hm : w.cell? ⟨Bm, 0, none⟩ = some (.map (some b))) (hown : w.ownsMap Tryz.prog 3 R b nn D0) :
    SeqStops F n Tryz.prog 71 #[.pointer (some ⟨Bm, 0, none⟩)] encI (AllK litI D0) (fun _ => True) (Maps.size D0) w := fun l J Jx W hW hJ _ hY h0 =>
  keys1I F n h7 hro hn l Bm b nn D0 J Jx hY W hJ ((hW.cell (p := ⟨Bm, 0, none⟩) hBm).trans hm) (by
    have hbl := hown.lt
    obtain ⟨es, clock, hb, Ft, hs, hD⟩ := hown
    exact ⟨es, clock, (hW.block b hbl).trans hb, Ft, hs, hD⟩) h0
end Go.Proofs.YtdhhddifmkijhaaGreat
