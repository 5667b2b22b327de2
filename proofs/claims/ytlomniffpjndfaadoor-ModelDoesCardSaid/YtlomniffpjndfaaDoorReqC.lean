/-
  What may be: Check of a request; the program's and the document's.
-/
import Derived.Test.YtlomniffpjndfaaDoorReqB
namespace Go.Proofs.YtlomniffpjndfaaDoor
open Go.RowKit

/-- what a request's Check answers -/
def checkE (kind : Int) (k v : ByteArray) : Int :=
  if kind < 0 then 1 else if 4 < kind then 1 else if kind ≠ 0 ∧ v.size ≠ 0 then 1 else if kind = 4 ∧ k.size = 0 then 0 else needleE k v
theorem kinds {kind : Int} (h1 : ¬ kind < 0) (h2 : ¬ 4 < kind) : kind = 0 ∨ kind = 1 ∨ kind = 2 ∨ kind = 3 ∨ kind = 4 := by omega
theorem empty_of {s : ByteArray} {b : Bool} (h : s.toList.isEmpty = b) : (s.size = 0) = (b = true) := by
  rw [← h, isEmpty_toList]; simp
set_option maxRecDepth 20000 in
set_option maxHeartbeats 2000000 in
theorem qcheck (kind : Int) (k v : ByteArray) (hk : k.size < 16384) (hv : v.size < 16384) (w : World) : Calls Tryd.prog 20 #[.agg #[.int .i64 kind, .string k, .string v]] w fun e w' => e = .returned (.int .i64 (checkE kind k v)) ∧ Kp [] w w' := by
  by_cases h1 : kind < 0
  · have hE : checkE kind k v = 1 := by unfold checkE; rw [if_pos h1]
    rw [hE]; clear hE
    go_enter Tryd.func20, Tryd.ntmps20
    go_wp2_with fail
    go_ret
    exact ⟨rfl, (Kp.refl _ _).alloc _⟩
  by_cases h2 : 4 < kind
  · have hE : checkE kind k v = 1 := by unfold checkE; rw [if_neg h1, if_pos h2]
    rw [hE]; clear hE
    go_enter Tryd.func20, Tryd.ntmps20
    go_wp2_with fail
    go_ret
    exact ⟨rfl, (Kp.refl _ _).alloc _⟩
  cases he : v.toList.isEmpty <;> cases hke : k.toList.isEmpty <;> rcases kinds h1 h2 with rfl | rfl | rfl | rfl | rfl <;> clear h1 h2
  · have hE : checkE 0 k v = needleE k v := by unfold checkE; first | (simp [empty_of he]; done) | simp [empty_of he, empty_of hke]
    rw [hE]; clear hE
    go_enter Tryd.func20, Tryd.ntmps20
    go_wp2_with fail
    first
      | (go_ret; exact ⟨rfl, (Kp.refl _ _).alloc _⟩)
      | (refine (ncheck k v hk hv _).mono ?_
         rintro e w1 ⟨rfl, k1⟩
         go_wp2_with fail
         go_ret
         exact ⟨rfl, ((Kp.refl _ _).alloc _).trans k1⟩)
  · have hE : checkE 1 k v = 1 := by unfold checkE; first | (simp [empty_of he]; done) | simp [empty_of he, empty_of hke]
    rw [hE]; clear hE
    go_enter Tryd.func20, Tryd.ntmps20
    go_wp2_with fail
    first
      | (go_ret; exact ⟨rfl, (Kp.refl _ _).alloc _⟩)
      | (refine (ncheck k v hk hv _).mono ?_
         rintro e w1 ⟨rfl, k1⟩
         go_wp2_with fail
         go_ret
         exact ⟨rfl, ((Kp.refl _ _).alloc _).trans k1⟩)
  · have hE : checkE 2 k v = 1 := by unfold checkE; first | (simp [empty_of he]; done) | simp [empty_of he, empty_of hke]
    rw [hE]; clear hE
    go_enter Tryd.func20, Tryd.ntmps20
    go_wp2_with fail
    first
      | (go_ret; exact ⟨rfl, (Kp.refl _ _).alloc _⟩)
      | (refine (ncheck k v hk hv _).mono ?_
         rintro e w1 ⟨rfl, k1⟩
         go_wp2_with fail
         go_ret
         exact ⟨rfl, ((Kp.refl _ _).alloc _).trans k1⟩)
  · have hE : checkE 3 k v = 1 := by unfold checkE; first | (simp [empty_of he]; done) | simp [empty_of he, empty_of hke]
    rw [hE]; clear hE
    go_enter Tryd.func20, Tryd.ntmps20
    go_wp2_with fail
    first
      | (go_ret; exact ⟨rfl, (Kp.refl _ _).alloc _⟩)
      | (refine (ncheck k v hk hv _).mono ?_
         rintro e w1 ⟨rfl, k1⟩
         go_wp2_with fail
         go_ret
         exact ⟨rfl, ((Kp.refl _ _).alloc _).trans k1⟩)
  · have hE : checkE 4 k v = 1 := by unfold checkE; first | (simp [empty_of he]; done) | simp [empty_of he, empty_of hke]
    rw [hE]; clear hE
    go_enter Tryd.func20, Tryd.ntmps20
    go_wp2_with fail
    first
      | (go_ret; exact ⟨rfl, (Kp.refl _ _).alloc _⟩)
      | (refine (ncheck k v hk hv _).mono ?_
         rintro e w1 ⟨rfl, k1⟩
         go_wp2_with fail
         go_ret
         exact ⟨rfl, ((Kp.refl _ _).alloc _).trans k1⟩)
  · have hE : checkE 0 k v = needleE k v := by unfold checkE; first | (simp [empty_of he]; done) | simp [empty_of he, empty_of hke]
    rw [hE]; clear hE
    go_enter Tryd.func20, Tryd.ntmps20
    go_wp2_with fail
    first
      | (go_ret; exact ⟨rfl, (Kp.refl _ _).alloc _⟩)
      | (refine (ncheck k v hk hv _).mono ?_
         rintro e w1 ⟨rfl, k1⟩
         go_wp2_with fail
         go_ret
         exact ⟨rfl, ((Kp.refl _ _).alloc _).trans k1⟩)
  · have hE : checkE 1 k v = 1 := by unfold checkE; first | (simp [empty_of he]; done) | simp [empty_of he, empty_of hke]
    rw [hE]; clear hE
    go_enter Tryd.func20, Tryd.ntmps20
    go_wp2_with fail
    first
      | (go_ret; exact ⟨rfl, (Kp.refl _ _).alloc _⟩)
      | (refine (ncheck k v hk hv _).mono ?_
         rintro e w1 ⟨rfl, k1⟩
         go_wp2_with fail
         go_ret
         exact ⟨rfl, ((Kp.refl _ _).alloc _).trans k1⟩)
  · have hE : checkE 2 k v = 1 := by unfold checkE; first | (simp [empty_of he]; done) | simp [empty_of he, empty_of hke]
    rw [hE]; clear hE
    go_enter Tryd.func20, Tryd.ntmps20
    go_wp2_with fail
    first
      | (go_ret; exact ⟨rfl, (Kp.refl _ _).alloc _⟩)
      | (refine (ncheck k v hk hv _).mono ?_
         rintro e w1 ⟨rfl, k1⟩
         go_wp2_with fail
         go_ret
         exact ⟨rfl, ((Kp.refl _ _).alloc _).trans k1⟩)
  · have hE : checkE 3 k v = 1 := by unfold checkE; first | (simp [empty_of he]; done) | simp [empty_of he, empty_of hke]
    rw [hE]; clear hE
    go_enter Tryd.func20, Tryd.ntmps20
    go_wp2_with fail
    first
      | (go_ret; exact ⟨rfl, (Kp.refl _ _).alloc _⟩)
      | (refine (ncheck k v hk hv _).mono ?_
         rintro e w1 ⟨rfl, k1⟩
         go_wp2_with fail
         go_ret
         exact ⟨rfl, ((Kp.refl _ _).alloc _).trans k1⟩)
  · have hE : checkE 4 k v = 1 := by unfold checkE; first | (simp [empty_of he]; done) | simp [empty_of he, empty_of hke]
    rw [hE]; clear hE
    go_enter Tryd.func20, Tryd.ntmps20
    go_wp2_with fail
    first
      | (go_ret; exact ⟨rfl, (Kp.refl _ _).alloc _⟩)
      | (refine (ncheck k v hk hv _).mono ?_
         rintro e w1 ⟨rfl, k1⟩
         go_wp2_with fail
         go_ret
         exact ⟨rfl, ((Kp.refl _ _).alloc _).trans k1⟩)
  · have hE : checkE 0 k v = needleE k v := by unfold checkE; first | (simp [empty_of he]; done) | simp [empty_of he, empty_of hke]
    rw [hE]; clear hE
    go_enter Tryd.func20, Tryd.ntmps20
    go_wp2_with fail
    first
      | (go_ret; exact ⟨rfl, (Kp.refl _ _).alloc _⟩)
      | (refine (ncheck k v hk hv _).mono ?_
         rintro e w1 ⟨rfl, k1⟩
         go_wp2_with fail
         go_ret
         exact ⟨rfl, ((Kp.refl _ _).alloc _).trans k1⟩)
  · have hE : checkE 1 k v = needleE k v := by unfold checkE; first | (simp [empty_of he]; done) | simp [empty_of he, empty_of hke]
    rw [hE]; clear hE
    go_enter Tryd.func20, Tryd.ntmps20
    go_wp2_with fail
    first
      | (go_ret; exact ⟨rfl, (Kp.refl _ _).alloc _⟩)
      | (refine (ncheck k v hk hv _).mono ?_
         rintro e w1 ⟨rfl, k1⟩
         go_wp2_with fail
         go_ret
         exact ⟨rfl, ((Kp.refl _ _).alloc _).trans k1⟩)
  · have hE : checkE 2 k v = needleE k v := by unfold checkE; first | (simp [empty_of he]; done) | simp [empty_of he, empty_of hke]
    rw [hE]; clear hE
    go_enter Tryd.func20, Tryd.ntmps20
    go_wp2_with fail
    first
      | (go_ret; exact ⟨rfl, (Kp.refl _ _).alloc _⟩)
      | (refine (ncheck k v hk hv _).mono ?_
         rintro e w1 ⟨rfl, k1⟩
         go_wp2_with fail
         go_ret
         exact ⟨rfl, ((Kp.refl _ _).alloc _).trans k1⟩)
  · have hE : checkE 3 k v = needleE k v := by unfold checkE; first | (simp [empty_of he]; done) | simp [empty_of he, empty_of hke]
    rw [hE]; clear hE
    go_enter Tryd.func20, Tryd.ntmps20
    go_wp2_with fail
    first
      | (go_ret; exact ⟨rfl, (Kp.refl _ _).alloc _⟩)
      | (refine (ncheck k v hk hv _).mono ?_
         rintro e w1 ⟨rfl, k1⟩
         go_wp2_with fail
         go_ret
         exact ⟨rfl, ((Kp.refl _ _).alloc _).trans k1⟩)
  · have hE : checkE 4 k v = needleE k v := by unfold checkE; first | (simp [empty_of he]; done) | simp [empty_of he, empty_of hke]
    rw [hE]; clear hE
    go_enter Tryd.func20, Tryd.ntmps20
    go_wp2_with fail
    first
      | (go_ret; exact ⟨rfl, (Kp.refl _ _).alloc _⟩)
      | (refine (ncheck k v hk hv _).mono ?_
         rintro e w1 ⟨rfl, k1⟩
         go_wp2_with fail
         go_ret
         exact ⟨rfl, ((Kp.refl _ _).alloc _).trans k1⟩)
  · have hE : checkE 0 k v = needleE k v := by unfold checkE; first | (simp [empty_of he]; done) | simp [empty_of he, empty_of hke]
    rw [hE]; clear hE
    go_enter Tryd.func20, Tryd.ntmps20
    go_wp2_with fail
    first
      | (go_ret; exact ⟨rfl, (Kp.refl _ _).alloc _⟩)
      | (refine (ncheck k v hk hv _).mono ?_
         rintro e w1 ⟨rfl, k1⟩
         go_wp2_with fail
         go_ret
         exact ⟨rfl, ((Kp.refl _ _).alloc _).trans k1⟩)
  · have hE : checkE 1 k v = needleE k v := by unfold checkE; first | (simp [empty_of he]; done) | simp [empty_of he, empty_of hke]
    rw [hE]; clear hE
    go_enter Tryd.func20, Tryd.ntmps20
    go_wp2_with fail
    first
      | (go_ret; exact ⟨rfl, (Kp.refl _ _).alloc _⟩)
      | (refine (ncheck k v hk hv _).mono ?_
         rintro e w1 ⟨rfl, k1⟩
         go_wp2_with fail
         go_ret
         exact ⟨rfl, ((Kp.refl _ _).alloc _).trans k1⟩)
  · have hE : checkE 2 k v = needleE k v := by unfold checkE; first | (simp [empty_of he]; done) | simp [empty_of he, empty_of hke]
    rw [hE]; clear hE
    go_enter Tryd.func20, Tryd.ntmps20
    go_wp2_with fail
    first
      | (go_ret; exact ⟨rfl, (Kp.refl _ _).alloc _⟩)
      | (refine (ncheck k v hk hv _).mono ?_
         rintro e w1 ⟨rfl, k1⟩
         go_wp2_with fail
         go_ret
         exact ⟨rfl, ((Kp.refl _ _).alloc _).trans k1⟩)
  · have hE : checkE 3 k v = needleE k v := by unfold checkE; first | (simp [empty_of he]; done) | simp [empty_of he, empty_of hke]
    rw [hE]; clear hE
    go_enter Tryd.func20, Tryd.ntmps20
    go_wp2_with fail
    first
      | (go_ret; exact ⟨rfl, (Kp.refl _ _).alloc _⟩)
      | (refine (ncheck k v hk hv _).mono ?_
         rintro e w1 ⟨rfl, k1⟩
         go_wp2_with fail
         go_ret
         exact ⟨rfl, ((Kp.refl _ _).alloc _).trans k1⟩)
  · have hE : checkE 4 k v = 0 := by unfold checkE; first | (simp [empty_of he]; done) | simp [empty_of he, empty_of hke]
    rw [hE]; clear hE
    go_enter Tryd.func20, Tryd.ntmps20
    go_wp2_with fail
    first
      | (go_ret; exact ⟨rfl, (Kp.refl _ _).alloc _⟩)
      | (refine (ncheck k v hk hv _).mono ?_
         rintro e w1 ⟨rfl, k1⟩
         go_wp2_with fail
         go_ret
         exact ⟨rfl, ((Kp.refl _ _).alloc _).trans k1⟩)
set_option maxRecDepth 20000 in
set_option maxHeartbeats 2000000 in
theorem rcheck (kind : Int) (k v : ByteArray) (hk : k.size < 16384) (hv : v.size < 16384) (w : World) : Calls Tryd.prog 26 #[.agg #[.int .i64 kind, .string k, .string v]] w fun e w' => e = .returned (.int .i64 (checkE kind k v)) ∧ Kp [] w w' := by
  by_cases h1 : kind < 0
  · have hE : checkE kind k v = 1 := by unfold checkE; rw [if_pos h1]
    rw [hE]; clear hE
    go_enter Tryd.func26, Tryd.ntmps26
    go_wp2_with fail
    go_ret
    exact ⟨rfl, (Kp.refl _ _).alloc _⟩
  by_cases h2 : 4 < kind
  · have hE : checkE kind k v = 1 := by unfold checkE; rw [if_neg h1, if_pos h2]
    rw [hE]; clear hE
    go_enter Tryd.func26, Tryd.ntmps26
    go_wp2_with fail
    go_ret
    exact ⟨rfl, (Kp.refl _ _).alloc _⟩
  cases he : v.toList.isEmpty <;> cases hke : k.toList.isEmpty <;> rcases kinds h1 h2 with rfl | rfl | rfl | rfl | rfl <;> clear h1 h2
  · have hE : checkE 0 k v = needleE k v := by unfold checkE; first | (simp [empty_of he]; done) | simp [empty_of he, empty_of hke]
    rw [hE]; clear hE
    go_enter Tryd.func26, Tryd.ntmps26
    go_wp2_with fail
    first
      | (go_ret; exact ⟨rfl, (Kp.refl _ _).alloc _⟩)
      | (refine (n8check k v hk hv _).mono ?_
         rintro e w1 ⟨rfl, k1⟩
         go_wp2_with fail
         go_ret
         exact ⟨rfl, ((Kp.refl _ _).alloc _).trans k1⟩)
  · have hE : checkE 1 k v = 1 := by unfold checkE; first | (simp [empty_of he]; done) | simp [empty_of he, empty_of hke]
    rw [hE]; clear hE
    go_enter Tryd.func26, Tryd.ntmps26
    go_wp2_with fail
    first
      | (go_ret; exact ⟨rfl, (Kp.refl _ _).alloc _⟩)
      | (refine (n8check k v hk hv _).mono ?_
         rintro e w1 ⟨rfl, k1⟩
         go_wp2_with fail
         go_ret
         exact ⟨rfl, ((Kp.refl _ _).alloc _).trans k1⟩)
  · have hE : checkE 2 k v = 1 := by unfold checkE; first | (simp [empty_of he]; done) | simp [empty_of he, empty_of hke]
    rw [hE]; clear hE
    go_enter Tryd.func26, Tryd.ntmps26
    go_wp2_with fail
    first
      | (go_ret; exact ⟨rfl, (Kp.refl _ _).alloc _⟩)
      | (refine (n8check k v hk hv _).mono ?_
         rintro e w1 ⟨rfl, k1⟩
         go_wp2_with fail
         go_ret
         exact ⟨rfl, ((Kp.refl _ _).alloc _).trans k1⟩)
  · have hE : checkE 3 k v = 1 := by unfold checkE; first | (simp [empty_of he]; done) | simp [empty_of he, empty_of hke]
    rw [hE]; clear hE
    go_enter Tryd.func26, Tryd.ntmps26
    go_wp2_with fail
    first
      | (go_ret; exact ⟨rfl, (Kp.refl _ _).alloc _⟩)
      | (refine (n8check k v hk hv _).mono ?_
         rintro e w1 ⟨rfl, k1⟩
         go_wp2_with fail
         go_ret
         exact ⟨rfl, ((Kp.refl _ _).alloc _).trans k1⟩)
  · have hE : checkE 4 k v = 1 := by unfold checkE; first | (simp [empty_of he]; done) | simp [empty_of he, empty_of hke]
    rw [hE]; clear hE
    go_enter Tryd.func26, Tryd.ntmps26
    go_wp2_with fail
    first
      | (go_ret; exact ⟨rfl, (Kp.refl _ _).alloc _⟩)
      | (refine (n8check k v hk hv _).mono ?_
         rintro e w1 ⟨rfl, k1⟩
         go_wp2_with fail
         go_ret
         exact ⟨rfl, ((Kp.refl _ _).alloc _).trans k1⟩)
  · have hE : checkE 0 k v = needleE k v := by unfold checkE; first | (simp [empty_of he]; done) | simp [empty_of he, empty_of hke]
    rw [hE]; clear hE
    go_enter Tryd.func26, Tryd.ntmps26
    go_wp2_with fail
    first
      | (go_ret; exact ⟨rfl, (Kp.refl _ _).alloc _⟩)
      | (refine (n8check k v hk hv _).mono ?_
         rintro e w1 ⟨rfl, k1⟩
         go_wp2_with fail
         go_ret
         exact ⟨rfl, ((Kp.refl _ _).alloc _).trans k1⟩)
  · have hE : checkE 1 k v = 1 := by unfold checkE; first | (simp [empty_of he]; done) | simp [empty_of he, empty_of hke]
    rw [hE]; clear hE
    go_enter Tryd.func26, Tryd.ntmps26
    go_wp2_with fail
    first
      | (go_ret; exact ⟨rfl, (Kp.refl _ _).alloc _⟩)
      | (refine (n8check k v hk hv _).mono ?_
         rintro e w1 ⟨rfl, k1⟩
         go_wp2_with fail
         go_ret
         exact ⟨rfl, ((Kp.refl _ _).alloc _).trans k1⟩)
  · have hE : checkE 2 k v = 1 := by unfold checkE; first | (simp [empty_of he]; done) | simp [empty_of he, empty_of hke]
    rw [hE]; clear hE
    go_enter Tryd.func26, Tryd.ntmps26
    go_wp2_with fail
    first
      | (go_ret; exact ⟨rfl, (Kp.refl _ _).alloc _⟩)
      | (refine (n8check k v hk hv _).mono ?_
         rintro e w1 ⟨rfl, k1⟩
         go_wp2_with fail
         go_ret
         exact ⟨rfl, ((Kp.refl _ _).alloc _).trans k1⟩)
  · have hE : checkE 3 k v = 1 := by unfold checkE; first | (simp [empty_of he]; done) | simp [empty_of he, empty_of hke]
    rw [hE]; clear hE
    go_enter Tryd.func26, Tryd.ntmps26
    go_wp2_with fail
    first
      | (go_ret; exact ⟨rfl, (Kp.refl _ _).alloc _⟩)
      | (refine (n8check k v hk hv _).mono ?_
         rintro e w1 ⟨rfl, k1⟩
         go_wp2_with fail
         go_ret
         exact ⟨rfl, ((Kp.refl _ _).alloc _).trans k1⟩)
  · have hE : checkE 4 k v = 1 := by unfold checkE; first | (simp [empty_of he]; done) | simp [empty_of he, empty_of hke]
    rw [hE]; clear hE
    go_enter Tryd.func26, Tryd.ntmps26
    go_wp2_with fail
    first
      | (go_ret; exact ⟨rfl, (Kp.refl _ _).alloc _⟩)
      | (refine (n8check k v hk hv _).mono ?_
         rintro e w1 ⟨rfl, k1⟩
         go_wp2_with fail
         go_ret
         exact ⟨rfl, ((Kp.refl _ _).alloc _).trans k1⟩)
  · have hE : checkE 0 k v = needleE k v := by unfold checkE; first | (simp [empty_of he]; done) | simp [empty_of he, empty_of hke]
    rw [hE]; clear hE
    go_enter Tryd.func26, Tryd.ntmps26
    go_wp2_with fail
    first
      | (go_ret; exact ⟨rfl, (Kp.refl _ _).alloc _⟩)
      | (refine (n8check k v hk hv _).mono ?_
         rintro e w1 ⟨rfl, k1⟩
         go_wp2_with fail
         go_ret
         exact ⟨rfl, ((Kp.refl _ _).alloc _).trans k1⟩)
  · have hE : checkE 1 k v = needleE k v := by unfold checkE; first | (simp [empty_of he]; done) | simp [empty_of he, empty_of hke]
    rw [hE]; clear hE
    go_enter Tryd.func26, Tryd.ntmps26
    go_wp2_with fail
    first
      | (go_ret; exact ⟨rfl, (Kp.refl _ _).alloc _⟩)
      | (refine (n8check k v hk hv _).mono ?_
         rintro e w1 ⟨rfl, k1⟩
         go_wp2_with fail
         go_ret
         exact ⟨rfl, ((Kp.refl _ _).alloc _).trans k1⟩)
  · have hE : checkE 2 k v = needleE k v := by unfold checkE; first | (simp [empty_of he]; done) | simp [empty_of he, empty_of hke]
    rw [hE]; clear hE
    go_enter Tryd.func26, Tryd.ntmps26
    go_wp2_with fail
    first
      | (go_ret; exact ⟨rfl, (Kp.refl _ _).alloc _⟩)
      | (refine (n8check k v hk hv _).mono ?_
         rintro e w1 ⟨rfl, k1⟩
         go_wp2_with fail
         go_ret
         exact ⟨rfl, ((Kp.refl _ _).alloc _).trans k1⟩)
  · have hE : checkE 3 k v = needleE k v := by unfold checkE; first | (simp [empty_of he]; done) | simp [empty_of he, empty_of hke]
    rw [hE]; clear hE
    go_enter Tryd.func26, Tryd.ntmps26
    go_wp2_with fail
    first
      | (go_ret; exact ⟨rfl, (Kp.refl _ _).alloc _⟩)
      | (refine (n8check k v hk hv _).mono ?_
         rintro e w1 ⟨rfl, k1⟩
         go_wp2_with fail
         go_ret
         exact ⟨rfl, ((Kp.refl _ _).alloc _).trans k1⟩)
  · have hE : checkE 4 k v = needleE k v := by unfold checkE; first | (simp [empty_of he]; done) | simp [empty_of he, empty_of hke]
    rw [hE]; clear hE
    go_enter Tryd.func26, Tryd.ntmps26
    go_wp2_with fail
    first
      | (go_ret; exact ⟨rfl, (Kp.refl _ _).alloc _⟩)
      | (refine (n8check k v hk hv _).mono ?_
         rintro e w1 ⟨rfl, k1⟩
         go_wp2_with fail
         go_ret
         exact ⟨rfl, ((Kp.refl _ _).alloc _).trans k1⟩)
  · have hE : checkE 0 k v = needleE k v := by unfold checkE; first | (simp [empty_of he]; done) | simp [empty_of he, empty_of hke]
    rw [hE]; clear hE
    go_enter Tryd.func26, Tryd.ntmps26
    go_wp2_with fail
    first
      | (go_ret; exact ⟨rfl, (Kp.refl _ _).alloc _⟩)
      | (refine (n8check k v hk hv _).mono ?_
         rintro e w1 ⟨rfl, k1⟩
         go_wp2_with fail
         go_ret
         exact ⟨rfl, ((Kp.refl _ _).alloc _).trans k1⟩)
  · have hE : checkE 1 k v = needleE k v := by unfold checkE; first | (simp [empty_of he]; done) | simp [empty_of he, empty_of hke]
    rw [hE]; clear hE
    go_enter Tryd.func26, Tryd.ntmps26
    go_wp2_with fail
    first
      | (go_ret; exact ⟨rfl, (Kp.refl _ _).alloc _⟩)
      | (refine (n8check k v hk hv _).mono ?_
         rintro e w1 ⟨rfl, k1⟩
         go_wp2_with fail
         go_ret
         exact ⟨rfl, ((Kp.refl _ _).alloc _).trans k1⟩)
  · have hE : checkE 2 k v = needleE k v := by unfold checkE; first | (simp [empty_of he]; done) | simp [empty_of he, empty_of hke]
    rw [hE]; clear hE
    go_enter Tryd.func26, Tryd.ntmps26
    go_wp2_with fail
    first
      | (go_ret; exact ⟨rfl, (Kp.refl _ _).alloc _⟩)
      | (refine (n8check k v hk hv _).mono ?_
         rintro e w1 ⟨rfl, k1⟩
         go_wp2_with fail
         go_ret
         exact ⟨rfl, ((Kp.refl _ _).alloc _).trans k1⟩)
  · have hE : checkE 3 k v = needleE k v := by unfold checkE; first | (simp [empty_of he]; done) | simp [empty_of he, empty_of hke]
    rw [hE]; clear hE
    go_enter Tryd.func26, Tryd.ntmps26
    go_wp2_with fail
    first
      | (go_ret; exact ⟨rfl, (Kp.refl _ _).alloc _⟩)
      | (refine (n8check k v hk hv _).mono ?_
         rintro e w1 ⟨rfl, k1⟩
         go_wp2_with fail
         go_ret
         exact ⟨rfl, ((Kp.refl _ _).alloc _).trans k1⟩)
  · have hE : checkE 4 k v = 0 := by unfold checkE; first | (simp [empty_of he]; done) | simp [empty_of he, empty_of hke]
    rw [hE]; clear hE
    go_enter Tryd.func26, Tryd.ntmps26
    go_wp2_with fail
    first
      | (go_ret; exact ⟨rfl, (Kp.refl _ _).alloc _⟩)
      | (refine (n8check k v hk hv _).mono ?_
         rintro e w1 ⟨rfl, k1⟩
         go_wp2_with fail
         go_ret
         exact ⟨rfl, ((Kp.refl _ _).alloc _).trans k1⟩)
end Go.Proofs.YtlomniffpjndfaaDoor
