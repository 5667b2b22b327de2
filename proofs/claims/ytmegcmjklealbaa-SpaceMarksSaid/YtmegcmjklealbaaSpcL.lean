/-
  live: some answers that the document gives, of the program's space.
-/
import Derived.Test.YtmegcmjklealbaaSpcU
namespace Go.Proofs.Ytmegcmjklealbaa
open Go.RowKit

def lf1 := takeF noneTaken 3
def lf2 := takeF lf1 3
def lf3 := markF lf2 3 1
def lf4 := giveF lf3 3 0
def lf5 := giveF lf4 3 0
def lf6 := (allGo lf5 lf5 [3, 3, 4] []).2.2
def lf7 := (allGo lf6 lf6 [3, 12] []).2.2
theorem l1 : takeR noneTaken 3 = (0, 0) := by decide +kernel
theorem l2 : takeR lf1 3 = (1, 0) := by decide +kernel
theorem l3 : markE lf2 3 1 = 13 := by decide +kernel
theorem l4 : giveE lf3 3 0 = 0 := by decide +kernel
theorem l5 : giveE lf4 3 0 = 1 := by decide +kernel
theorem l6 : (allGo lf5 lf5 [3, 3, 4] []).1 = [(3, 0), (3, 2), (4, 0)] ∧ (allGo lf5 lf5 [3, 3, 4] []).2.1 = 0 := by decide +kernel
theorem l7 : (allGo lf6 lf6 [3, 12] []).2.1 = 1 := by decide +kernel
theorem l8 : freeN lf7 3 = 45 := by decide +kernel
theorem l9 : (IsB 4 0 && lf7 4 0) = true := by decide +kernel
theorem l10 : (IsB 5 0 && lf7 5 0) = false := by decide +kernel

set_option maxHeartbeats 1000000 in
set_option maxRecDepth 100000 in
theorem live_true (w : World) : Calls Try.prog 9 #[] w fun e w' => e = .returned (.bool true) ∧ Kp [] w w' := by
  go_enter Try.func9, Try.ntmps9
  go_wp2_with fail
  refine (new_any _).mono ?_
  rintro e w1 ⟨rfl, k1, s1, z1⟩
  obtain ⟨b, hb⟩ : ∃ b, b = w.heap.size := ⟨_, rfl⟩
  rw [← hb] at s1 ⊢
  have HB := Lib.hid hb
  clear hb z1
  go_wp2_with fail
  refine (take_any b _ 3 _ s1).mono ?_
  rintro e w2 ⟨rfl, k2, s2⟩
  rw [l1]
  replace s2 : SpaceAt w2 b lf1 := s2
  go_wp2_with fail
  refine (take_any b _ 3 _ s2).mono ?_
  rintro e w3 ⟨rfl, k3, s3⟩
  rw [l2]
  replace s3 : SpaceAt w3 b lf2 := s3
  go_wp2_with fail
  refine (mark_any b _ 3 1 _ s3).mono ?_
  rintro e w4 ⟨rfl, k4, s4⟩
  rw [l3]
  replace s4 : SpaceAt w4 b lf3 := s4
  go_wp2_with fail
  refine (give_any b _ 3 0 _ s4).mono ?_
  rintro e w5 ⟨rfl, k5, s5⟩
  rw [l4]
  replace s5 : SpaceAt w5 b lf4 := s5
  go_wp2_with fail
  refine (give_any b _ 3 0 _ s5).mono ?_
  rintro e w6 ⟨rfl, k6, s6⟩
  rw [l5]
  replace s6 : SpaceAt w6 b lf5 := s6
  have kA := (((k2.trans k3).trans k4).trans k5).trans k6
  clear k2 k3 k4 k5 k6 s1 s2 s3 s4 s5
  have hb6 := s6.lt
  go_wp2_with fail
  refine (all_any b _ _ [3, 3, 4] _ (s6.keep ((Kp.refl [] _).alloc _) (by simp)) _ (slice_new _ _ _ 1 3 rfl) (fun _ b1 o c h => by
    simp only [Value.slice.injEq, Option.some.injEq, Addr.mk.injEq] at h
    omega) (by decide)).mono ?_
  rintro e w7 ⟨u7, rfl, k7, s7, o7⟩
  rw [l6.2]
  rw [l6.1] at o7
  replace s7 : SpaceAt w7 b lf6 := s7
  obtain ⟨a7, c7, rfl⟩ := ownsRow_ex o7
  have hb7 := s7.lt
  have kB : Kp [b] w1 w7 := (kA.alloc _).trans k7
  clear k7 kA s6
  go_wp2_with fail
  refine (all_any b _ _ [3, 12] _ (s7.keep ((Kp.refl [] _).alloc _) (by simp)) _ (slice_new _ _ _ 1 2 rfl) (fun _ b1 o c h => by
    simp only [Value.slice.injEq, Option.some.injEq, Addr.mk.injEq] at h
    omega) (by decide)).mono ?_
  rintro e w8 ⟨u8, rfl, k8, s8, o8⟩
  rw [l7]
  replace s8 : SpaceAt w8 b lf7 := s8
  have kC : Kp [b] w1 w8 := (kB.alloc _).trans k8
  obtain ⟨a8, c8, rfl⟩ := ownsRow_ex o8
  have o7' := ownsRow_base o7 (base' := b + 1) (by simp; omega)
  have sl7 : SliceAt w8.heap.size w8 (.slice a7 3 c7) 2 3 (Pairs [(3, 0), (3, 2), (4, 0)]) :=
    SliceAt.of_owns (ownsRow_keep (X := [b]) o7' (((Kp.refl [b] w7).alloc _).trans k8) (fun i hi => by simp; omega))
  clear o7 o7' o8 k8 s7 kB
  have hb8 := s8.lt
  go_wp2_with fail
  refine (rsame_any _ _ [(3, 0), (3, 2), (4, 0)] [(3, 0), (3, 2), (4, 0)] _ _ _ (sl7.keep0 ((Kp.refl [] _).alloc _)) (slice_new _ _ _ 2 3 rfl) (by decide) (by decide)).mono ?_
  rintro e w9 ⟨rfl, k9⟩
  rw [decide_eq_true (by rfl)]
  have s9 : SpaceAt w9 b lf7 := (s8.keep ((Kp.refl [] _).alloc _) (by simp)).keep k9 (by simp)
  have kD : Kp [b] w1 w9 := (kC.alloc _).call k9
  clear k9 kC s8 sl7
  go_wp2_with fail
  refine (free_any b _ 3 _ s9).mono ?_
  rintro e w10 ⟨rfl, k10⟩
  rw [l8]
  have s10 := s9.keep k10 (by simp)
  have kE := kD.call k10
  clear k10 kD s9
  go_wp2_with fail
  refine (taken_any b _ 4 0 _ s10).mono ?_
  rintro e w11 ⟨rfl, k11⟩
  rw [l9]
  have s11 := s10.keep k11 (by simp)
  have kF := kE.call k11
  clear k11 kE s10
  go_wp2_with fail
  refine (taken_any b _ 5 0 _ s11).mono ?_
  rintro e w12 ⟨rfl, k12⟩
  rw [l10]
  have kG := kF.call k12
  clear k12 kF s11
  go_wp2_with fail
  go_ret
  refine ⟨rfl, ?_⟩
  have hb := HB.out
  exact k1.step kG (fun i hi hm => by
    simp only [List.mem_singleton] at hm
    omega)
end Go.Proofs.Ytmegcmjklealbaa
