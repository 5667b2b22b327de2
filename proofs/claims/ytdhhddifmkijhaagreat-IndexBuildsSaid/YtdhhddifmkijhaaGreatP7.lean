/-
  List: the walk.
  The document's index: List.
  The document's index: List, the walk.
-/
import Derived.Test.YtdhhddifmkijhaaGreatP6
import Derived.Test.YtdhhddifmkijhaaGreatIdxT
namespace Go.Proofs.YtdhhddifmkijhaaGreat
open Go.RowKit Go.Sort Go.ChangeMaps Go.Maps Go.WideShapes Go.WideMaps Go.WideElems Go.MapKept Go.ChangeShapes

theorem keysFrom_le (f : ByteArray) (ss : List (List UInt8)) : (keysFrom f ss).length ≤ ss.length := List.length_filter_le _ _
set_option maxHeartbeats 4000000 in
set_option maxRecDepth 20000 in
theorem ilist {I : Ib} {x : Ix} (hf : Fit x) (hz : x.E.length ≤ 1000) (f : ByteArray) (many : Int) (w : World) (h : IxAt I w x) :
    Calls Tryz.prog 42 #[I.p, .string f, .int .i64 many] w fun e w' => ∃ av cv, e = .returned (.slice av (x.list f many).length cv) ∧ w'.ownsRow w.heap.size 9 1 (.slice av (x.list f many).length cv) (x.list f many).length ((x.list f many).map encStr) ∧ Kp [] w w' := by
  by_cases hm : many < 1
  · have hl : x.list f many = [] := by
      unfold Ix.list
      rw [show many.toNat = 0 by omega, List.take_zero]
    rw [hl]
    have hO : (w.alloc (.cells #[.string f] 9)).ownsRow w.heap.size 9 1 (.slice none 0 0) 0 [] := ⟨rfl, .inl ⟨rfl, rfl⟩⟩
    have hk : Kp [] w (w.alloc (.cells #[.string f] 9)) := (Kp.refl _ _).alloc _
    go_enter Tryz.func42, Tryz.ntmps42
    go_wp2_with fail
    go_ret
    exact ⟨none, 0, rfl, hO, hk⟩
  · obtain ⟨w0, hw0⟩ : ∃ w0, w0 = w.alloc (.cells #[.string f] 9) := ⟨_, rfl⟩
    have k0 : Kp [] w w0 := hw0 ▸ (Kp.refl _ _).alloc _
    have hc0 : w0.cell? ⟨w.heap.size, 0, none⟩ = some (.string f) := by rw [hw0]; exact cell_of_cells (block_new _ _) rfl
    have hs0 : w.heap.size < w0.heap.size := by rw [hw0, World.size_alloc]; exact Nat.lt_succ_self _
    have h0 := h.keep0 k0
    obtain ⟨w1, hw1⟩ : ∃ w1, w1 = w0.alloc (.cells #[.map (some I.e)] 65) := ⟨_, rfl⟩
    have k1 : Kp [] w0 w1 := hw1 ▸ (Kp.refl _ _).alloc _
    have hc1 : w1.cell? ⟨w0.heap.size, 0, none⟩ = some (.map (some I.e)) := by rw [hw1]; exact cell_of_cells (block_new _ _) rfl
    have hs1 : w0.heap.size < w1.heap.size := by rw [hw1, World.size_alloc]; exact Nat.lt_succ_self _
    have hso := sorted_ents hf (h0.keep0 k1) hz w0.heap.size hs1 hc1
    have hck := callsIn_wide.1 (keysS Fence.wide 2 trivial rfl (some I.e) w0)
    obtain ⟨c0, -, -, -, -⟩ := h0.cells
    have d0 := c0
    rw [hw0] at d0
    have Hw0 := Lib.hid hw0
    have Hw1 := Lib.hid hw1
    clear hw0 hw1
    go_enter Tryz.func42, Tryz.ntmps42
    go_wp2_with fail
    rw [← Hw0.out]
    refine hck.mono ?_
    rintro e w' ⟨rfl, rfl⟩
    rw [← Hw1.out]
    go_wp2_with fail
    refine hso.mono ?_
    rintro e w2 ⟨av, cv, rfl, hO, k2⟩
    have hd := delS_own f x.keys (by rw [keys_len]; exact hz) _ w1.heap.size w.heap.size w2 hO (by have := k2.size; have := k1.size; omega) (by omega) (((k2.cell (p := ⟨w.heap.size, 0, none⟩) (by show w.heap.size < w1.heap.size; omega) (by simp)).trans (k1.cell (p := ⟨w.heap.size, 0, none⟩) hs0 (by simp))).trans hc0)
    have hge := own_block_ge hO
    have Hhd := Lib.hid hso
    clear hso hck hO
    go_wp2_with fail
    refine hd.mono ?_
    rintro e w3 ⟨av3, cv3, rfl, hO3, k3⟩
    have hK : Kp [] w w3 := ((k0.trans k1).trans k2).step k3 (fun i hi hm => by
      rw [Option.mem_toList] at hm
      have := hge i hm
      omega)
    have hle := Nat.le_trans (keysFrom_le f x.keys) (Nat.le_of_eq (keys_len x))
    obtain ⟨n, hn⟩ : ∃ n, n = (keysFrom f x.keys).length := ⟨_, rfl⟩
    have hcap : n ≤ cv3 := by
      rw [hn]
      obtain ⟨-, ⟨hv, hz0⟩ | ⟨g, cap, cur, hv, -, -, hc, -⟩⟩ := hO3
      · simp only [Value.slice.injEq] at hv
        omega
      · simp only [Value.slice.injEq] at hv
        omega
    rw [← hn] at hle hO3 ⊢
    obtain ⟨m, hmm⟩ : ∃ m : Nat, (m : Int) = min many (n : Int) := ⟨(min many (n : Int)).toNat, by omega⟩
    have hmn : m ≤ n := by omega
    have hcut := ownsRow_cut hO3 hmn
    have hlist : x.list f many = (keysFrom f x.keys).take m := by
      unfold Ix.list
      by_cases hq : many ≤ (n : Int)
      · rw [show many.toNat = m by omega]
      · rw [List.take_of_length_le (by omega), List.take_of_length_le (by omega)]
    have hll : (x.list f many).length = m := by rw [hlist, List.length_take]; omega
    rw [← List.map_take, ← hlist] at hcut
    have HC := Lib.hid hcut
    have HL := Lib.hid hll
    have HM := Lib.hid hmm
    have HK := Lib.hid hK
    have hs3 := Nat.le_trans (Nat.le_of_lt hs0) k1.size
    clear hcut hll hmm hn hlist hO3 hd hle hge
    go_wp2_with fail
    have hmt : (min many (n : Int)).toNat = m := by have := HM.out; omega
    rw [hmt]
    go_ret
    refine ⟨av3, cv3, by rw [HL.out]; rfl, ?_, HK.out⟩
    rw [HL.out]
    exact ownsRow_base HC.out hs3
theorem list_len (x : Ix) (f : ByteArray) (many : Int) : (x.list f many).length ≤ x.E.length := by
  unfold Ix.list
  have h1 := keysFrom_le f x.keys
  rw [keys_len] at h1
  rw [List.length_take]
  omega
theorem vols_len (x : Ix) : x.volumes.length = x.V.length := by unfold Ix.volumes Ix.ids; rw [List.length_map, List.length_mergeSort, List.length_map]
theorem vols_locs {x : Ix} (h : Inv x) : ∀ v ∈ x.volumes, v.locs.length ≤ 100000 := by
  intro v hv
  unfold Ix.volumes at hv
  obtain ⟨d, hd, rfl⟩ := List.mem_map.1 hv
  have := vol_nine (vol_some h.fit (mem_ids.1 hd)).1
  omega
end Go.Proofs.YtdhhddifmkijhaaGreat

namespace Go.Proofs.YtdhhddifmkijhaaGreat
open Go.RowKit Go.ChangeMaps Go.Maps Go.WideShapes Go.WideMaps Go.WideElems Go.MapKept Go.ChangeShapes

/-- the least key so far, of those behind the last -/
def BestAt (D : List (List UInt8)) (l : List EntD) (n : Nat) : Option Nat → Prop
  | none => ∀ j (hj : j < l.length), j < n → l[j].key.toList ∉ D
  | some i => ∃ hi : i < l.length, l[i].key.toList ∈ D ∧ ∀ j (hj : j < l.length), j < n → l[j].key.toList ∈ D → ¬ l[j].key.toList < l[i].key.toList
theorem best_skip {D : List (List UInt8)} {l : List EntD} {n : Nat} {b : Option Nat} (h : BestAt D l n b) (hn : n < l.length) (hk : l[n].key.toList ∉ D) : BestAt D l (n + 1) b := by
  cases b with
  | none =>
    intro j hj hjn
    by_cases e : j = n
    · subst e; exact hk
    · exact h j hj (by omega)
  | some i =>
    obtain ⟨hi, h1, h2⟩ := h
    refine ⟨hi, h1, fun j hj hjn hd => ?_⟩
    by_cases e : j = n
    · subst e; exact absurd hd hk
    · exact h2 j hj (by omega) hd
theorem best_first {D : List (List UInt8)} {l : List EntD} {n : Nat} (h : BestAt D l n none) (hn : n < l.length) (hk : l[n].key.toList ∈ D) : BestAt D l (n + 1) (some n) := by
  refine ⟨hn, hk, fun j hj hjn hd => ?_⟩
  by_cases e : j = n
  · subst e; exact List.lt_irrefl _
  · exact absurd hd (h j hj (by omega))
theorem best_less {D : List (List UInt8)} {l : List EntD} {n i : Nat} (h : BestAt D l n (some i)) (hn : n < l.length) (hi : i < l.length) (hk : l[n].key.toList ∈ D) (hlt : l[n].key.toList < l[i].key.toList) : BestAt D l (n + 1) (some n) := by
  obtain ⟨hi', h1, h2⟩ := h
  refine ⟨hn, hk, fun j hj hjn hd hl => ?_⟩
  by_cases e : j = n
  · subst e; exact List.lt_irrefl _ hl
  · exact h2 j hj (by omega) hd (List.lt_trans hl hlt)
theorem best_more {D : List (List UInt8)} {l : List EntD} {n i : Nat} (h : BestAt D l n (some i)) (hn : n < l.length) (hi : i < l.length) (hlt : ¬ l[n].key.toList < l[i].key.toList) : BestAt D l (n + 1) (some i) := by
  obtain ⟨hi', h1, h2⟩ := h
  refine ⟨hi', h1, fun j hj hjn hd => ?_⟩
  by_cases e : j = n
  · subst e; exact hlt
  · exact h2 j hj (by omega) hd
end Go.Proofs.YtdhhddifmkijhaaGreat

namespace Go.Proofs.YtdhhddifmkijhaaGreat
open Go.RowKit Go.ChangeMaps Go.Maps Go.WideShapes Go.WideMaps Go.WideElems Go.MapKept Go.ChangeShapes

theorem cand_iff {x : Ix} {k : Rx} (hr : Rel x k) (hi : Inv x) {f : ByteArray} {y : EntD} (hy : y ∈ k.E) {S : List (List UInt8)} (hS : S = keysFrom f x.keys) {m : Nat} (hm : m ≤ S.length) :
    y.key.toList ∈ S.drop m ↔ Op.bytesLess y.key.toList f.toList = false ∧ ∀ h : 0 < m, S[m - 1] < y.key.toList := by
  have hk : y.key.toList ∈ S ↔ Op.bytesLess y.key.toList f.toList = false := by
    rw [hS, from_mem, Lib.toList_data, Lib.toList_data]
    constructor
    · exact fun h => h.2
    · intro h
      rw [hr.E] at hy
      obtain ⟨p, hp, rfl⟩ := List.mem_map.1 hy
      exact ⟨⟨p, hp, by rw [hi.keyE p hp]⟩, h⟩
  have hs : S.Pairwise (· < ·) := by rw [hS]; exact from_sorted hi.nodE f
  cases m with
  | zero => simp [hk]
  | succ n =>
    have hn : n < S.length := by omega
    constructor
    · intro h
      have h1 := List.mem_of_mem_drop h
      exact ⟨hk.1 h1, fun _ => (drop_iff (lt := (· < ·)) List.lt_irrefl (fun a b h1 h2 => List.lt_irrefl a (List.lt_trans h1 h2)) hs hn h1).1 h⟩
    · rintro ⟨h1, h2⟩
      exact (drop_iff (lt := (· < ·)) List.lt_irrefl (fun a b h1 h2 => List.lt_irrefl a (List.lt_trans h1 h2)) hs hn (hk.2 h1)).2 (h2 (by omega))
end Go.Proofs.YtdhhddifmkijhaaGreat
