/-
  What the program's space does, call by call: Take, Free.
-/
import Derived.Test.YtmegcmjklealbaaSpcA
import Derived.Deep.LoopGhost
namespace Go.Proofs.Ytmegcmjklealbaa
open Go.RowKit

def DiskB (d : Int) : Bool := decide (0 ≤ d ∧ d < 12)
theorem DiskB_IsB (d : Int) : IsB d 0 = DiskB d := by simp [IsB, DiskB]
/-- the least slot that is free -/
def leastFrom (f : Int → Int → Bool) (d : Int) : Nat → Nat → Option Nat
  | 0, _ => none
  | n + 1, k => if f d k then leastFrom f d n (k + 1) else some k
def takeR (f : Int → Int → Bool) (d : Int) : Int × Int := if DiskB d then (match leastFrom f d 48 0 with | some k => ((k : Int), 0) | none => (0, 7)) else (0, 1)
def takeF (f : Int → Int → Bool) (d : Int) : Int → Int → Bool := if DiskB d then (match leastFrom f d 48 0 with | some k => upd f d k true | none => f) else f

theorem take_nil (d : Int) (w : World) :
    Calls Try.prog 16 #[.pointer none, .int .i64 d] w fun e w' => e = .returned (.tuple #[.int .i64 0, .int .i64 1]) ∧ Kp [] w w' := by
  go_enter Try.func16, Try.ntmps16
  have hK := Kp.refl [] w
  go_wp2_with fail
  refine (is_nil _ _ _).mono ?_
  rintro e w1 ⟨rfl, h1⟩
  go_wp2
  go_ret2
  exact ⟨rfl, ((Kp.refl [] w).alloc _).trans h1⟩

theorem take_out (b : Nat) (d : Int) (hI : DiskB d = false) (w : World) :
    Calls Try.prog 16 #[.pointer (some ⟨b, 0, none⟩), .int .i64 d] w fun e w' => e = .returned (.tuple #[.int .i64 0, .int .i64 1]) ∧ Kp [] w w' := by
  have HI := Lib.hid ((DiskB_IsB d).trans hI)
  clear hI
  go_enter Try.func16, Try.ntmps16
  go_wp2_with fail
  refine (is_any _ _ _ _).mono ?_
  rintro e w1 ⟨rfl, h1⟩
  rw [HI.out]
  go_wp2
  go_ret2
  exact ⟨rfl, ((Kp.refl [] w).alloc _).trans h1⟩

theorem take_in (b : Nat) (f : Int → Int → Bool) (d : Nat) (hd : d < 12) (w : World) (hsp : SpaceAt w b f) :
    Calls Try.prog 16 #[.pointer (some ⟨b, 0, none⟩), .int .i64 d] w fun e w' => e = .returned (.tuple #[.int .i64 (takeR f d).1, .int .i64 (takeR f d).2]) ∧ Kp [b] w w' ∧ SpaceAt w' b (takeF f d) := by
  have hdI : (d : Int) < 12 := by omega
  have hD : DiskB (d : Int) = true := by simp [DiskB]; omega
  have HI := Lib.hid ((DiskB_IsB (d : Int)).trans hD)
  have hlt := hsp.lt
  go_enter Try.func16, Try.ntmps16
  go_wp2_with fail
  refine (is_any _ _ _ _).mono ?_
  rintro e w1 ⟨rfl, h1⟩
  rw [HI.out]
  have k1 : Kp [] w w1 := ((Kp.refl [] w).alloc _).trans h1
  have c0 : w1.cell? ⟨w.heap.size, 0, none⟩ = some (.int .i64 d) := (h1.cell (by simp) (by simp)).trans (cell_of_cells (block_new _ _) rfl)
  have c1 : w1.cell? ⟨w.heap.size, 1, none⟩ = some (.int .i64 0) := (h1.cell (by simp) (by simp)).trans (cell_of_cells (block_new _ _) rfl)
  have c2 : w1.frozen? ⟨w.heap.size, 1, none⟩ = false := (h1.frozen (by simp) (by simp)).trans (frozen_of_cells (block_new _ _) _)
  have s1 : SpaceAt w1 b f := hsp.keep k1 (by simp)
  have hz1 : w.heap.size < w1.heap.size := by have := h1.size; simp at this; omega
  go_wp2_with fail
  go_loopg [] 48 (fun g wr => ∃ k : Nat, k + g = 48 ∧ wr.cell? ⟨w.heap.size, 0, none⟩ = some (.int .i64 d) ∧ wr.cell? ⟨w.heap.size, 1, none⟩ = some (.int .i64 k) ∧ wr.frozen? ⟨w.heap.size, 1, none⟩ = false ∧ SpaceAt wr b f ∧ Kp [b] w wr ∧ leastFrom f d 48 0 = leastFrom f d g k)
  case atStart => exact ⟨0, by omega, c0, c1, c2, s1, k1.weaken (fun _ _ h => by cases h), rfl⟩
  case round =>
    clear c0 c1 c2 s1
    obtain ⟨k, hk, c0, c1, c2, s1, kr, hl⟩ := hrel
    have HL := Lib.hid hl
    clear hl
    have hkI : (k : Int) ≤ 48 := by omega
    by_cases hlt48 : k < 48
    · have hkI : (k : Int) < 48 := by omega
      obtain ⟨g', rfl⟩ : ∃ g', gk = g' + 1 := ⟨gk - 1, by omega⟩
      have hb' : b ≠ w.heap.size := by omega
      go_wp2_with fail
      refine (mark_any b f _ _ _ s1).mono ?_
      rintro e w2 ⟨rfl, h2, s2⟩
      have hI := IsB_nat d k hd hlt48
      have d0 := (h2.cell (lt_of_cell c0) (by simp; omega)).trans c0
      have d1 := (h2.cell (lt_of_cell c1) (by simp; omega)).trans c1
      have d2 := (h2.frozen (lt_of_cell c1) (by simp; omega)).trans c2
      have k2 := kr.trans h2
      simp only [markE, markF, hI, if_true] at s2 ⊢
      cases hf : f d k with
      | true =>
        simp only [hf, if_true] at s2 ⊢
        clear h2 c0 c1 c2 s1 hI
        have HF := Lib.hid hf
        clear hf
        have HK := Lib.hid hk
        clear hk
        go_wp2_with fail
        go_roundg g'
        case rel =>
          have hl := HL.out
          have hf := HF.out
          have hk := HK.out
          refine ⟨k + 1, by omega, ?_, ?_, ?_, ?_, ?_, ?_⟩
          · rw [World.cell?_setCell_other _ _ _ _ (by simp)]; exact d0
          · rw [World.cell?_setCell_same _ _ _ d1]; simp
          · rw [World.frozen?_setCell]; exact d2
          · exact s2.keep (((Kp.refl [w.heap.size] _).setCell (.inl (by simp)) _)) (by simp; omega)
          · exact k2.setCell (.inr (by simp)) _
          · rw [hl]; show (if f d k = true then _ else _) = _; rw [hf]; rfl
        case measure => omega
      | false =>
        simp only [hf, if_false, Bool.false_eq_true] at s2 ⊢
        have hl : leastFrom f d 48 0 = some k := by rw [HL.out]; show (if f d k = true then _ else _) = _; rw [hf]; rfl
        have e1 : takeR f d = ((k : Int), 0) := by simp only [takeR, hD, if_true, hl]
        have e2 : takeF f d = upd f d k true := by simp only [takeF, hD, if_true, hl]
        have E1 := Lib.hid e1
        have E2 := Lib.hid e2
        clear h2 c0 c1 c2 s1 hI hf hl e1 e2
        have HK := Lib.hid hk
        clear hk
        go_wp2_with fail
        go_ret2
        rw [E1.out, E2.out]
        exact ⟨rfl, k2, s2⟩
    · obtain rfl : k = 48 := by omega
      obtain rfl : gk = 0 := by omega
      have hl : leastFrom f d 48 0 = none := HL.out
      have e1 : takeR f d = (0, 7) := by simp only [takeR, hD, if_true, hl]
      have e2 : takeF f d = f := by simp only [takeF, hD, if_true, hl]
      have E1 := Lib.hid e1
      have E2 := Lib.hid e2
      clear hl e1 e2
      go_wp2_with fail
      go_ret2
      rw [E1.out, E2.out]
      exact ⟨rfl, kr, s1⟩

/-- Take, whatever is asked -/
theorem take_any (b : Nat) (f : Int → Int → Bool) (d : Int) (w : World) (hsp : SpaceAt w b f) :
    Calls Try.prog 16 #[.pointer (some ⟨b, 0, none⟩), .int .i64 d] w fun e w' => e = .returned (.tuple #[.int .i64 (takeR f d).1, .int .i64 (takeR f d).2]) ∧ Kp [b] w w' ∧ SpaceAt w' b (takeF f d) := by
  cases hI : DiskB d with
  | false =>
    refine (take_out b d hI w).mono ?_
    rintro e w' ⟨rfl, h⟩
    simp only [takeR, takeF, hI, Bool.false_eq_true, if_false]
    exact ⟨by trivial, h.weaken (fun _ _ h => by cases h), hsp.keep h (by simp)⟩
  | true =>
    have h2 := hI
    simp only [DiskB, decide_eq_true_eq] at h2
    obtain ⟨n, rfl⟩ : ∃ n : Nat, d = n := ⟨d.toNat, by omega⟩
    exact take_in b f n (by omega) w hsp

/-- how many are free from a slot on -/
def freeFrom (f : Int → Int → Bool) (d : Int) : Nat → Nat → Nat
  | 0, _ => 0
  | n + 1, k => (if f d k then 0 else 1) + freeFrom f d n (k + 1)
def freeN (f : Int → Int → Bool) (d : Int) : Nat := if DiskB d then freeFrom f d 48 0 else 0
theorem freeFrom_le (f : Int → Int → Bool) (d : Int) : ∀ n k : Nat, freeFrom f d n k ≤ n
  | 0, _ => Nat.le_refl _
  | n + 1, k => by
    have := freeFrom_le f d n (k + 1)
    show (if f d k = true then 0 else 1) + freeFrom f d n (k + 1) ≤ n + 1
    split <;> omega

theorem free_zero (p : Value) (d : Int) (w : World)
    (his : ∀ (k : Nat) (w : World), Calls Try.prog 26 #[p, .agg #[.int .i64 d, .int .i64 k]] w fun e w' => e = .returned (.bool false) ∧ Kp [] w w') :
    Calls Try.prog 12 #[p, .int .i64 d] w fun e w' => e = .returned (.int .i64 0) ∧ Kp [] w w' := by
  have HI := Lib.hid his
  clear his
  go_enter Try.func12, Try.ntmps12
  go_wp2_with fail
  go_loopg [5, 8] 48 (fun g n i wr => ∃ k : Nat, k + g = 48 ∧ n = .int .i64 0 ∧ i = .int .i64 k ∧ Kp [] w wr)
  case atStart => exact ⟨0, by omega, rfl, rfl, Kp.refl _ _⟩
  case round =>
    obtain ⟨k, hk, rfl, rfl, kr⟩ := hrel
    have hkI : (k : Int) ≤ 48 := by omega
    have HK := Lib.hid hk
    by_cases hlt48 : k < 48
    · have hkI : (k : Int) < 48 := by omega
      obtain ⟨g', rfl⟩ : ∃ g', gk = g' + 1 := ⟨gk - 1, by omega⟩
      clear hk
      go_wp2_with fail
      refine (HI.out k _).mono ?_
      rintro e w2 ⟨rfl, h2⟩
      have k2 := (kr.alloc _).trans h2
      go_wp2_with fail
      go_roundg g'
      case rel =>
        have hk := HK.out
        exact ⟨k + 1, by omega, rfl, by go_num, k2⟩
      case measure => omega
    · obtain rfl : k = 48 := by omega
      clear hk
      go_wp2_with fail
      go_ret
      exact ⟨rfl, kr⟩

theorem free_in (b : Nat) (f : Int → Int → Bool) (d : Nat) (hd : d < 12) (w : World) (hsp : SpaceAt w b f) :
    Calls Try.prog 12 #[.pointer (some ⟨b, 0, none⟩), .int .i64 d] w fun e w' => e = .returned (.int .i64 (freeFrom f d 48 0)) ∧ Kp [] w w' := by
  go_enter Try.func12, Try.ntmps12
  go_wp2_with fail
  go_loopg [5, 8] 48 (fun g n i wr => ∃ k m : Nat, k + g = 48 ∧ m ≤ k ∧ n = .int .i64 m ∧ i = .int .i64 k ∧ Kp [] w wr ∧ freeFrom f d 48 0 = m + freeFrom f d g k)
  case atStart => exact ⟨0, 0, by omega, by omega, rfl, rfl, Kp.refl _ _, by omega⟩
  case round =>
    obtain ⟨k, m, hk, hm, rfl, rfl, kr, hl⟩ := hrel
    have hkI : (k : Int) ≤ 48 := by omega
    have hmI : (m : Int) ≤ 48 := by omega
    have HK := Lib.hid hk
    have HL := Lib.hid hl
    by_cases hlt48 : k < 48
    · have hkI : (k : Int) < 48 := by omega
      obtain ⟨g', rfl⟩ : ∃ g', gk = g' + 1 := ⟨gk - 1, by omega⟩
      have HI := Lib.hid (IsB_nat d k hd hlt48)
      clear hk hl
      go_wp2_with fail
      refine (is_any _ _ _ _).mono ?_
      rintro e w2 ⟨rfl, h2⟩
      rw [HI.out]
      have c0 : w2.cell? ⟨wr.heap.size, 0, none⟩ = some (.int .i64 d) := (h2.cell (by simp) (by simp)).trans (cell_of_cells (block_new _ _) rfl)
      have c1 : w2.cell? ⟨wr.heap.size, 1, none⟩ = some (.int .i64 k) := (h2.cell (by simp) (by simp)).trans (cell_of_cells (block_new _ _) rfl)
      have k2 := (kr.alloc _).trans h2
      go_wp2_with fail
      refine (taken_in b f d k hd hlt48 _ (hsp.keep k2 (by simp))).mono ?_
      rintro e w3 ⟨rfl, h3⟩
      have k3 := k2.trans h3
      clear k2 h2 h3 c0 c1
      cases hf : f d k with
      | true =>
        have HF := Lib.hid hf
        clear hf
        go_wp2_with fail
        go_roundg g'
        case rel =>
          have hk := HK.out
          refine ⟨k + 1, m, by omega, by omega, rfl, by go_num, k3, ?_⟩
          rw [HL.out]; show m + ((if f d k = true then 0 else 1) + _) = _; rw [HF.out]; simp
        case measure => omega
      | false =>
        have HF := Lib.hid hf
        clear hf
        go_wp2_with fail
        go_roundg g'
        case rel =>
          have hk := HK.out
          refine ⟨k + 1, m + 1, by omega, by omega, by go_num, by go_num, k3, ?_⟩
          rw [HL.out]; show m + ((if f d k = true then 0 else 1) + _) = _; rw [HF.out]; simp; omega
        case measure => omega
    · obtain rfl : k = 48 := by omega
      obtain rfl : gk = 0 := by omega
      clear hk hl
      go_wp2_with fail
      go_ret
      rw [HL.out]
      exact ⟨rfl, kr⟩

/-- Free, whatever is asked -/
theorem free_any (b : Nat) (f : Int → Int → Bool) (d : Int) (w : World) (hsp : SpaceAt w b f) :
    Calls Try.prog 12 #[.pointer (some ⟨b, 0, none⟩), .int .i64 d] w fun e w' => e = .returned (.int .i64 (freeN f d)) ∧ Kp [] w w' := by
  cases hI : DiskB d with
  | false =>
    have e : freeN f d = 0 := by simp [freeN, hI]
    rw [e]
    refine free_zero _ d w fun k w => ?_
    refine (is_any _ _ _ _).mono ?_
    have h0 : IsB d k = false := by
      simp only [DiskB, decide_eq_false_iff_not] at hI
      simp only [IsB, decide_eq_false_iff_not]; omega
    rintro e w' ⟨rfl, h⟩
    exact ⟨by rw [h0], h⟩
  | true =>
    have e : freeN f d = freeFrom f d 48 0 := by simp [freeN, hI]
    rw [e]
    simp only [DiskB, decide_eq_true_eq] at hI
    obtain ⟨n, rfl⟩ : ∃ n : Nat, d = n := ⟨d.toNat, by omega⟩
    exact free_in b f n (by omega) w hsp
theorem free_nil (d : Int) (w : World) :
    Calls Try.prog 12 #[.pointer none, .int .i64 d] w fun e w' => e = .returned (.int .i64 0) ∧ Kp [] w w' :=
  free_zero _ d w fun _ w => is_nil _ _ w
end Go.Proofs.Ytmegcmjklealbaa
