/-
  A number's digits: the document's Number; ref02.Small.
-/
import Derived.Test.YtdbeokldpdgjmaaDoorReqP
namespace Go.Proofs.YtdbeokldpdgjmaaDoor
open Go.RowKit Go.WideShapes

theorem nDig_pow : ∀ (k u : Nat), u < 10 ^ (k + 1) → Lib.nDigits u ≤ k + 1
  | 0, u, h => by rw [Lib.nDigits, dif_pos (by simpa using h)]; exact Nat.le_refl _
  | k + 1, u, h => by
    rw [Lib.nDigits]
    split
    · omega
    · have := nDig_pow k (u / 10) (by rw [Nat.pow_succ] at h; omega)
      omega
theorem nDig_le (u : Nat) (h : u ≤ 9223372036854775807) : Lib.nDigits u ≤ 30 := nDig_pow 29 u (by have : (10 : Nat) ^ 30 = 1000000000000000000000000000000 := rfl; omega)
set_option maxHeartbeats 1000000 in
set_option maxRecDepth 20000 in
theorem rnumber (n : Nat) (hn : n ≤ 9223372036854775807) (w : World) : Calls Tryd.prog 32 #[.int .i64 n] w fun e w' => e = .returned (.string (SB (Lib.decDigits n))) ∧ Kp [] w w' := by
  obtain ⟨x, hx⟩ : ∃ x : UInt8, x = UInt8.ofNat (48 + n % 10) := ⟨_, rfl⟩
  have hxt : x.toNat = 48 + n % 10 := by rw [hx, UInt8.toNat_ofNat']; omega
  have f1 : 48 + (n : Int) % 10 = (x.toNat : Int) := by rw [hxt]; omega
  obtain ⟨D, hD⟩ : ∃ D : ByteArray, D = ⟨#[x]⟩ := ⟨_, rfl⟩
  have hDz : D.size = 1 := by rw [hD]; rfl
  have hcv : (convert 56 9 (.slice (some ⟨w.heap.size, 0, none⟩) 1 1)).run Tryd.prog (w.alloc (.cells #[BV x] 5)) = .ok (.string D) (w.alloc (.cells #[BV x] 5)) := by
    rw [hD]
    exact run_convert_bytes_back _ _ _ _ ⟨w.heap.size, 0, none⟩ 1 [x] Tryd.underlying56 Tryd.underlying5 Tryd.underlying9 (fun j hj => by
      obtain rfl : j = 0 := by simp at hj; omega
      exact cell_of_cells (block_new _ _) rfl)
  by_cases h10 : n < 10
  · have hR : SB (Lib.decDigits n) = D := by
      rw [Lib.decDigits, dif_pos h10, hD, hx, Nat.mod_eq_of_lt h10]
    rw [hR]
    have g1 : ¬ (n : Int) ≥ 10 := by omega
    clear hR hx hxt hD
    go_enter Tryd.func32, Tryd.ntmps32
    go_wp2_with fail
    go_ret
    exact ⟨rfl, (Kp.refl _ _).alloc _⟩
  · obtain ⟨q, hq⟩ : ∃ q : Nat, q = n / 10 := ⟨_, rfl⟩
    have hqn : q < n := by omega
    have ih := rnumber q (by omega) (w.alloc (.cells #[BV x] 5))
    obtain ⟨S0, hS0⟩ : ∃ S0, S0 = SB (Lib.decDigits q) := ⟨_, rfl⟩
    have hz : S0.size ≤ 30 := by
      rw [hS0, SB_size, Lib.decDigits_length]
      exact nDig_le q (by omega)
    have hR : SB (Lib.decDigits n) = S0 ++ D := by
      rw [Lib.decDigits, dif_neg h10, hS0, hD, hx, hq]
      exact bytes_inj (by simp [ByteArray.data_append])
    rw [hR]
    have hqI : (n : Int) / 10 = (q : Int) := by omega
    have g1 : (n : Int) ≥ 10 := by omega
    have hm : S0.size + D.size ≤ 9223372036854775807 := by omega
    rw [← hS0] at ih
    clear hR hx hxt hD hS0 hq hqn
    go_enter Tryd.func32, Tryd.ntmps32
    go_wp2_with fail
    refine ih.mono ?_
    rintro e w1 ⟨rfl, k1⟩
    go_wp2_with fail
    go_ret
    exact ⟨rfl, ((Kp.refl _ _).alloc _).trans k1⟩
termination_by n
decreasing_by omega

/-- element i of a list of texts -/
theorem strs_at {B : Nat} {w : World} {v : Value} {xs : List ByteArray} (h : SliceAt B w v 1 xs.length (xs.map Value.string)) (i : Nat) (hi : i < xs.length) :
    ∃ g o c, v = .slice (some ⟨g, o, none⟩) xs.length c ∧ w.cell? ⟨g, o + i, none⟩ = some (.string xs[i]) := by
  obtain ⟨av, cap, rfl⟩ := slice_ex h
  obtain ⟨g, o, rfl, hc, -, hb, hcell⟩ := h.cells (by omega)
  exact ⟨g, o, cap, rfl, hcell i _ (by rw [List.getElem?_map, List.getElem?_eq_getElem hi]; rfl)⟩
def smallB (xs : List ByteArray) (many long : Int) : Bool := xs.all (fun x => decide ((x.size : Int) ≤ long)) && decide ((xs.length : Int) ≤ many)
set_option maxRecDepth 20000 in
theorem small_any (v : Value) (xs : List ByteArray) (many long : Int) (w : World) (B : Nat) (hv : SliceAt B w v 1 xs.length (xs.map Value.string)) (hlen : xs.length ≤ 9223372036854775807) :
    Calls Tryd.prog 16 #[v, .int .i64 many, .int .i64 long] w fun e w' => e = .returned (.bool (smallB xs many long)) ∧ w' = w := by
  obtain ⟨av, cv, rfl⟩ := slice_ex hv
  go_enter Tryd.func16, Tryd.ntmps16
  go_wp2_with fail
  go_loopg [7] xs.length (fun g i wr => ∃ n : Nat, n + g = xs.length ∧ i = .int .i64 n ∧ wr = w ∧ (xs.take n).all (fun x => decide ((x.size : Int) ≤ long)) = true)
  case atStart => exact ⟨0, by omega, rfl, rfl, rfl⟩
  case round =>
    obtain ⟨n, hn, rfl, rfl, hall⟩ := hrel
    have HN := Lib.hid hn
    have HA := Lib.hid hall
    clear hall
    by_cases hlt : n < xs.length
    · obtain ⟨g', rfl⟩ : ∃ g', gk = g' + 1 := ⟨gk - 1, by omega⟩
      clear hn
      have hltI : (n : Int) < (xs.length : Int) := by omega
      obtain ⟨g, o, c, hv', e1⟩ := strs_at hv n hlt
      simp only [Value.slice.injEq] at hv'
      obtain ⟨rfl, -, rfl⟩ := hv'
      obtain ⟨x, hx⟩ : ∃ x, x = xs[n] := ⟨_, rfl⟩
      rw [← hx] at e1
      have hget : xs[n]? = some x := by rw [List.getElem?_eq_getElem hlt, hx]
      have HG := Lib.hid hget
      clear hget hx
      by_cases hb : (x.size : Int) > long
      · have hbad : smallB xs many long = false := by
          unfold smallB
          rw [all_false _ _ n x HG.out (by simp; omega)]; rfl
        have HBAD := Lib.hid hbad
        clear hbad
        go_wp2_with fail
        go_ret
        exact ⟨by rw [HBAD.out]; rfl, rfl⟩
      · have hnext : (xs.take (n + 1)).all (fun x => decide ((x.size : Int) ≤ long)) = true := by
          rw [List.take_add_one, HG.out]
          simp only [Option.toList, List.all_append, HA.out, List.all_cons, List.all_nil, Bool.true_and, Bool.and_true]
          simp; omega
        have HNX := Lib.hid hnext
        clear hnext
        go_wp2_with fail
        go_roundg g'
        case rel =>
          have hn := HN.out
          exact ⟨n + 1, by omega, by go_num, rfl, HNX.out⟩
        case measure => omega
    · obtain rfl : n = xs.length := by omega
      obtain rfl : gk = 0 := by omega
      clear hn
      have hk : smallB xs many long = decide ((xs.length : Int) ≤ many) := by
        have h1 := HA.out
        rw [List.take_length] at h1
        unfold smallB
        rw [h1, Bool.true_and]
      have HKK := Lib.hid hk
      clear hk
      go_wp2_with fail
      go_ret
      exact ⟨by rw [HKK.out]; rfl, rfl⟩
end Go.Proofs.YtdbeokldpdgjmaaDoor
