/-
  slices.Sorted(maps.Keys(m)) of a model's map: its keys, rising.
-/
import Derived.Test.YtlomniffpjndfaaDoorP3
import Derived.Sort.OwnSorted
import Derived.Test.YtlomniffpjndfaaDoorShelf
namespace Go.Proofs.YtlomniffpjndfaaDoor
open Go.RowKit Go.Maps Go.Sort Go.Shelf Go.WideShapes

set_option maxRecDepth 20000 in
set_option maxHeartbeats 4000000 in
theorem sortedS (g : Nat) (lb : Array Value) (eg : ∀ args w, (callFunc g args).run Tryd.prog w = .ok (.enter g args) w) (S Sp : List (List UInt8) → Prop) (N : Nat) (hN : N ≤ 1000) (hSb : ∀ xs, S xs → xs.length ≤ 1000) (w : World)
    (hseq : SeqStops Fence.wide 2 Tryd.prog g lb encStr S Sp N w) :
    Calls Tryd.prog 33 #[.func (.func g) #[] lb] w fun e W' => ∃ v xs, e = .returned v ∧ S xs ∧ W'.ownsRow w.heap.size 9 1 v xs.length ((xs.mergeSort fun x y => decide (x ≤ y)).map encStr) ∧ Kp [] w W' := by
  have hC := callsIn_wide.1 (collectS Fence.wide 4 trivial trivial rfl (by omega) g lb trivial eg S Sp N (by unfold maxLen; omega) (by omega) w hseq)
  go_enter Tryd.func33, Tryd.ntmps33
  go_wp2_with fail
  refine hC.mono ?_
  rintro e W ⟨v, ss, rfl, hS, hrow, hb⟩
  rcases hrow.2 with ⟨rfl, hz⟩ | ⟨gb, cap, cur, rfl, hbase, hgb, r1, r2, r3, r4⟩
  · have hss : ss = [] := List.eq_nil_of_length_eq_zero hz
    subst hss
    go_wp2_with fail
    refine (Tryd.slices_Sort_string_none none 0 W).mono ?_
    rintro e w' ⟨rfl, rfl⟩
    go_wp2_with fail
    go_ret
    exact ⟨.slice none 0 0, [], rfl, hS, by simpa using hrow, Kp.of_below hb _⟩
  · have hH := holds_of_block (ss := ss) hgb (by simpa using r4)
    have hgl : gb < W.heap.size := lt_of_block hgb
    have hsz : ss.length < 4611686018427387904 := by have := hSb _ hS; omega
    go_wp2_with fail
    refine (Tryd.slices_Sort_string gb 0 cap ss W hH hgl hsz).mono ?_
    rintro e w' ⟨rfl, nn, os, rfl⟩
    have hown := ownsRow_sorted (n := nn) (os := os) (ts := ss.mergeSort fun x y => decide (x ≤ y)) (by simp) hbase hgb r1 r2 r3
    have hbel := hb.grown (grownBy_sorted (n := nn) (os := os) (ss.mergeSort fun x y => decide (x ≤ y)).toArray) hb.size (fun j hj => by cases hj; exact hbase)
    obtain ⟨Z, hZ⟩ : ∃ Z, Z = grow (putRow encStr (Sort.ahead W nn) gb 0 (ss.mergeSort fun x y => decide (x ≤ y)).toArray) os := ⟨_, rfl⟩
    rw [← hZ] at hown hbel ⊢
    clear hZ
    go_wp2_with fail
    go_ret
    exact ⟨_, ss, rfl, hS, hown, Kp.of_below hbel _⟩
theorem lit_str {k : ByteArray} (hk : k.size ≤ maxLen) : litOf Tryd.prog 9 (.string k) = .string k.data.toList := by
  unfold litOf
  rw [Go.WideMaps.keyOf_string_mk under_str hk]
  rfl
theorem nodup_str {l : List ByteArray} (h : l.Nodup) : (l.map fun k => k.data.toList).Nodup :=
  List.pairwise_map.2 (h.imp fun hne e => hne (bytes_inj e))
theorem same_str {a b : List UInt8} (h : (Lit.string a).sameKey (.string b) = true) : a = b := by
  by_cases e : a = b
  · exact e
  · have := sameKey_ne (a := Lit.string a) (b := .string b) (fun e' => e (by cases e'; rfl))
    rw [this] at h
    cases h
theorem same_refl (a : List UInt8) : (Lit.string a).sameKey (.string a) = true := by simp [Lit.sameKey]
/-- the datum of a model's map -/
noncomputable def datM (M : Mdl) : DataW (ByteArray × Bool) := datOf Tryd.prog 9 Value.string M
def decK : Value → Option (ByteArray × Bool)
  | .agg cs => match cs.toList with
    | [.string k, .bool b] => some (k, b)
    | _ => none
  | _ => none
theorem decK_ev (n : ByteArray × Bool) : decK (.agg #[.string n.1, .bool n.2]) = some n := rfl
theorem MdAt.nod {mb eb : Nat} {w : World} {M : Mdl} (h : MdAt mb eb w M) : (M.map (·.1)).Nodup := by
  obtain ⟨es, clock, -, -, -, -, hnd⟩ := h.ents
  rw [List.map_map] at hnd
  exact hnd
theorem kn_own {mb eb : Nat} {w : World} {M : Mdl} (h : MdAt mb eb w M) (hs : Short M) (hz : M.length ≤ 1000) : w.ownsMap Tryd.prog 9 (rDec decK) eb M.length (datM M) :=
  MapK.owns (ev := fun n : ByteArray × Bool => Value.agg #[.string n.1, .bool n.2]) (encs_str under_str) decK_ev h.ents (fun p hp => by have := (hs p hp).1; unfold maxLen; omega) hz
theorem allk_kn {M : Mdl} (hn0 : (M.map (·.1)).Nodup) (hs : Short M) {xs : List (List UInt8)} (ha : AllK litS (datM M) xs) : xs.Perm (M.map fun p => p.1.data.toList) := by
  have hn := nodup_str hn0
  rw [List.map_map] at hn
  have hm : ∀ p ∈ M, p.1.size ≤ maxLen := fun p hp => by have := (hs p hp).1; unfold maxLen; omega
  refine (List.perm_ext_iff_of_nodup ha.1 hn).2 fun k => ?_
  rw [ha.2 k]
  unfold datM
  rw [datOf_has]
  constructor
  · rintro ⟨p, hp, h1⟩
    rw [lit_str (hm p hp)] at h1
    exact List.mem_map.2 ⟨p, hp, same_str h1⟩
  · intro hm'
    obtain ⟨p, hp, he⟩ := List.mem_map.1 hm'
    simp only [Function.comp] at he
    refine ⟨p, hp, ?_⟩
    rw [lit_str (hm p hp), he]
    exact same_refl _
/-- a model's keys, rising -/
def Mdl.keys (M : Mdl) : List (List UInt8) := (M.map fun p => p.1.data.toList).mergeSort (fun a b => decide (a ≤ b))
theorem Mdl.keys_len (M : Mdl) : M.keys.length = M.length := by unfold Mdl.keys; rw [List.length_mergeSort, List.length_map]
theorem sorted_known {mb eb : Nat} {M : Mdl} (hs : Short M) {w : World} (h : MdAt mb eb w M) (hz : M.length ≤ 1000) (Bm : Nat) (hBm : Bm < w.heap.size) (hc : w.cell? ⟨Bm, 0, none⟩ = some (.map (some eb))) :
    Calls Tryd.prog 33 #[.func (.func 51) #[] #[.pointer (some ⟨Bm, 0, none⟩)]] w fun e W' => ∃ av cv, e = .returned (.slice av M.keys.length cv) ∧ W'.ownsRow w.heap.size 9 1 (.slice av M.keys.length cv) M.keys.length (M.keys.map encStr) ∧ Kp [] w W' := by
  have hst := stopsS (H := ByteArray × Bool) Fence.wide 2 trivial rfl (by omega) Bm eb _ (datM M) w hBm hc (kn_own h hs hz)
  have hsz : Maps.size (datM M) ≤ 1000 := by unfold datM; rw [datOf_size]; exact hz
  have hb : ∀ xs, AllK litS (datM M) xs → xs.length ≤ 1000 := fun xs hx => by
    rw [(allk_kn h.nod hs hx).length_eq, List.length_map]; exact hz
  refine (sortedS 51 _ (enters_of Tryd.func51 (by kernel_rfl) rfl) _ _ _ hsz hb w hst).mono ?_
  rintro e W' ⟨v, xs, rfl, hS, hrow, hk⟩
  have hp := allk_kn h.nod hs hS
  have he : (xs.mergeSort fun x y => decide (x ≤ y)) = M.keys := mergeSort_of_perm hp
  have hlen : xs.length = M.keys.length := by rw [← he, List.length_mergeSort]
  rw [he, hlen] at hrow
  obtain ⟨av, cv, rfl⟩ := ownsRow_ex hrow
  exact ⟨av, cv, rfl, hrow, hk⟩
end Go.Proofs.YtlomniffpjndfaaDoor
