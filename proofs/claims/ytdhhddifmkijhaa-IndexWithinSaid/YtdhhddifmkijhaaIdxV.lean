/-
  slices.Sorted(maps.Keys(m)), slices.Collect(maps.Keys(m)): the keys, each once; plain.
-/
import Derived.Test.YtdhhddifmkijhaaIdxU
import Derived.Sort.OwnSorted
import Derived.Sort.OwnSortedInts
import Derived.Test.YtdhhddifmkijhaaShelf
namespace Go.Proofs.Ytdhhddifmkijhaa
open Go.RowKit Go.Maps Go.Sort Go.Shelf

set_option maxRecDepth 20000 in
set_option maxHeartbeats 4000000 in
theorem sortedS (g : Nat) (lb : Array Value) (eg : ∀ args w, (callFunc g args).run Try.prog w = .ok (.enter g args) w) (S Sp : List (List UInt8) → Prop) (N : Nat) (hN : N ≤ 1000) (hSb : ∀ xs, S xs → xs.length ≤ 1000) (w : World)
    (hseq : SeqStops Fence.wide 2 Try.prog g lb encStr S Sp N w) :
    Calls Try.prog 33 #[.func (.func g) #[] lb] w fun e W' => ∃ v xs, e = .returned v ∧ S xs ∧ W'.ownsRow w.heap.size 9 1 v xs.length ((xs.mergeSort fun x y => decide (x ≤ y)).map encStr) ∧ Kp [] w W' := by
  have hC := callsIn_wide.1 (collectS Fence.wide 4 trivial trivial rfl (by omega) g lb trivial eg S Sp N (by unfold maxLen; omega) (by omega) w hseq)
  go_enter Try.func33, Try.ntmps33
  go_wp2_with fail
  refine hC.mono ?_
  rintro e W ⟨v, ss, rfl, hS, hrow, hb⟩
  rcases hrow.2 with ⟨rfl, hz⟩ | ⟨gb, cap, cur, rfl, hbase, hgb, r1, r2, r3, r4⟩
  · have hss : ss = [] := List.eq_nil_of_length_eq_zero hz
    subst hss
    go_wp2_with fail
    refine (Try.slices_Sort_string_none none 0 W).mono ?_
    rintro e w' ⟨rfl, rfl⟩
    go_wp2_with fail
    go_ret
    exact ⟨.slice none 0 0, [], rfl, hS, by simpa using hrow, Kp.of_below hb _⟩
  · have hH := holds_of_block (ss := ss) hgb (by simpa using r4)
    have hgl : gb < W.heap.size := lt_of_block hgb
    have hsz : ss.length < 4611686018427387904 := by have := hSb _ hS; omega
    go_wp2_with fail
    refine (Try.slices_Sort_string gb 0 cap ss W hH hgl hsz).mono ?_
    rintro e w' ⟨rfl, nn, os, rfl⟩
    have hown := ownsRow_sorted (n := nn) (os := os) (ts := ss.mergeSort fun x y => decide (x ≤ y)) (by simp) hbase hgb r1 r2 r3
    have hbel := hb.grown (grownBy_sorted (n := nn) (os := os) (ss.mergeSort fun x y => decide (x ≤ y)).toArray) hb.size (fun j hj => by cases hj; exact hbase)
    obtain ⟨Z, hZ⟩ : ∃ Z, Z = grow (putRow encStr (Sort.ahead W nn) gb 0 (ss.mergeSort fun x y => decide (x ≤ y)).toArray) os := ⟨_, rfl⟩
    rw [← hZ] at hown hbel ⊢
    clear hZ
    go_wp2_with fail
    go_ret
    exact ⟨_, ss, rfl, hS, hown, Kp.of_below hbel _⟩
set_option maxRecDepth 20000 in
set_option maxHeartbeats 4000000 in
theorem sortedI (g : Nat) (lb : Array Value) (eg : ∀ args w, (callFunc g args).run Try.prog w = .ok (.enter g args) w) (S Sp : List (Int) → Prop) (N : Nat) (hN : N ≤ 1000) (hSb : ∀ xs, S xs → xs.length ≤ 1000) (w : World)
    (hseq : SeqStops Fence.wide 2 Try.prog g lb encI S Sp N w) :
    Calls Try.prog 36 #[.func (.func g) #[] lb] w fun e W' => ∃ v xs, e = .returned v ∧ S xs ∧ W'.ownsRow w.heap.size 3 1 v xs.length ((xs.mergeSort fun x y => decide (x ≤ y)).map encI) ∧ Kp [] w W' := by
  have hC := callsIn_wide.1 (collectI Fence.wide 4 trivial trivial rfl (by omega) g lb trivial eg S Sp N (by unfold maxLen; omega) (by omega) w hseq)
  go_enter Try.func36, Try.ntmps36
  go_wp2_with fail
  refine hC.mono ?_
  rintro e W ⟨v, ss, rfl, hS, hrow, hb⟩
  rcases hrow.2 with ⟨rfl, hz⟩ | ⟨gb, cap, cur, rfl, hbase, hgb, r1, r2, r3, r4⟩
  · have hss : ss = [] := List.eq_nil_of_length_eq_zero hz
    subst hss
    go_wp2_with fail
    refine (Try.slices_Sort_int_none none 0 W).mono ?_
    rintro e w' ⟨rfl, rfl⟩
    go_wp2_with fail
    go_ret
    exact ⟨.slice none 0 0, [], rfl, hS, by simpa using hrow, Kp.of_below hb _⟩
  · have hH := holds_of_blockI (ss := ss) hgb (by simpa using r4)
    have hgl : gb < W.heap.size := lt_of_block hgb
    have hsz : ss.length < 4611686018427387904 := by have := hSb _ hS; omega
    go_wp2_with fail
    refine (Try.slices_Sort_int gb 0 cap ss W hH hgl hsz).mono ?_
    rintro e w' ⟨rfl, nn, os, rfl⟩
    have hown := ownsRow_sortedI (n := nn) (os := os) (ts := ss.mergeSort fun x y => decide (x ≤ y)) (by simp) hbase hgb r1 r2 r3
    have hbel := hb.grown (grownBy_sortedI (n := nn) (os := os) (ss.mergeSort fun x y => decide (x ≤ y)).toArray) hb.size (fun j hj => by cases hj; exact hbase)
    obtain ⟨Z, hZ⟩ : ∃ Z, Z = grow (putRow encI (Sort.ahead W nn) gb 0 (ss.mergeSort fun x y => decide (x ≤ y)).toArray) os := ⟨_, rfl⟩
    rw [← hZ] at hown hbel ⊢
    clear hZ
    go_wp2_with fail
    go_ret
    exact ⟨_, ss, rfl, hS, hown, Kp.of_below hbel _⟩
end Go.Proofs.Ytdhhddifmkijhaa
