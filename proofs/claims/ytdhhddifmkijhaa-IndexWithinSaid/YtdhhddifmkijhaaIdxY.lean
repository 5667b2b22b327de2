/-
  List: the keys from a key on.
-/
import Derived.Test.YtdhhddifmkijhaaIdxX
namespace Go.Proofs.Ytdhhddifmkijhaa
open Go.RowKit Go.Sort Go.ChangeMaps Go.Maps Go.WideShapes Go.WideMaps Go.WideElems Go.MapKept Go.ChangeShapes

/-- is a key less than another? -/
def lessS (f : ByteArray) (k : List UInt8) : Bool := Op.bytesLess k f.data.toList
set_option maxHeartbeats 1000000 in
set_option maxRecDepth 20000 in
theorem ilist1 (k : List UInt8) (f : ByteArray) (B : Nat) (w : World) (hc : w.cell? ⟨B, 0, none⟩ = some (.string f)) : Calls Try.prog 35 #[encStr k, .pointer (some ⟨B, 0, none⟩)] w fun e w' => e = .returned (.bool (lessS f k)) ∧ w' = w := by
  go_enter Try.func35, Try.ntmps35
  go_wp2_with fail
  go_ret
  refine ⟨?_, rfl⟩
  unfold lessS
  rw [← Lib.toList_data f]
  rfl
theorem list_at (f : ByteArray) (B : Nat) (w : World) (hB : B < w.heap.size) (hc : w.cell? ⟨B, 0, none⟩ = some (.string f)) : PredAt Try.prog 35 #[.pointer (some ⟨B, 0, none⟩)] encStr (lessS f) w :=
  fun W x hb => (ilist1 x f B W ((hb.cell (p := ⟨B, 0, none⟩) hB).trans hc)).mono fun _ _ ⟨h1, h2⟩ => ⟨h1, 0, h2⟩
theorem list_over (f : ByteArray) (B blk off size : Nat) (w : World) (hB : B < w.heap.size) (hne : B ≠ blk) (hc : w.cell? ⟨B, 0, none⟩ = some (.string f)) : PredOver Try.prog 35 #[.pointer (some ⟨B, 0, none⟩)] encStr (lessS f) blk off size w :=
  fun n os dk x _ => (ilist1 x f B _ (by
    unfold sortWorld
    rw [cell?_grow _ _ _ (by show B < (putRow _ _ _ _ _).heap.size; rw [size_putRow]; exact hB), cell?_putRow_other _ _ blk off _ _ (Or.inl hne)]
    exact hc)).mono fun e w' ⟨h1, h2⟩ => ⟨h1, 0, h2⟩
/-- a slice cut to its first elements -/
theorem ownsRow_cut {w : World} {base : Nat} {e : TypeId} {n m cap : Nat} {a : Option Addr} {xs : List Value} (h : w.ownsRow base e 1 (.slice a n cap) n xs) (hm : m ≤ n) : w.ownsRow base e 1 (.slice a m cap) m (xs.take m) := by
  obtain ⟨hl, ⟨hv, hn⟩ | ⟨g, cap', cur, hv, hg, hb, hc, hmx, hs, ht⟩⟩ := h
  · subst hn
    obtain rfl : xs = [] := by simpa using hl
    obtain rfl : m = 0 := by omega
    exact ⟨rfl, .inl ⟨hv, rfl⟩⟩
  · simp only [Value.slice.injEq] at hv
    obtain ⟨rfl, -, rfl⟩ := hv
    refine ⟨by rw [List.length_take, hl]; omega, .inr ⟨g, cap, cur, rfl, hg, hb, by omega, hmx, hs, ?_⟩⟩
    rw [← ht, List.take_take]
    congr 1
    omega
/-- the keys that are not less than f -/
def keysFrom (f : ByteArray) (ks : List (List UInt8)) : List (List UInt8) := ks.filter fun k => !lessS f k
set_option maxHeartbeats 4000000 in
set_option maxRecDepth 20000 in
/-- slices.DeleteFunc over keys of one's own -/
theorem delS_own (f : ByteArray) (ss : List (List UInt8)) (hz : ss.length ≤ 1000) (v : Value) (base B : Nat) (w : World) (hO : w.ownsRow base 9 1 v ss.length (ss.map encStr)) (hB : B < w.heap.size) (hBb : B < base) (hc : w.cell? ⟨B, 0, none⟩ = some (.string f)) :
    Calls Try.prog 32 #[v, .func (.func 35) #[] #[.pointer (some ⟨B, 0, none⟩)]] w fun e w' => ∃ av cv, e = .returned (.slice av (keysFrom f ss).length cv) ∧ w'.ownsRow base 9 1 (.slice av (keysFrom f ss).length cv) (keysFrom f ss).length ((keysFrom f ss).map encStr) ∧ Kp v.ownBlock.toList w w' := by
  have eg : ∀ args w, (callFunc 35 args).run Try.prog w = .ok (.enter 35 args) w := enters_of Try.func35 (by kernel_rfl) rfl
  have hO0 := hO
  obtain ⟨hl, ⟨hv, hn⟩ | ⟨g, cap, cur, hv, hg, hb, hcp, hmx, hs, ht⟩⟩ := hO
  · have hss : ss = [] := by simpa using hn
    subst hss
    subst hv
    have hIF := Try.slices_IndexFunc_empty (α := List UInt8) none 0 (.func (.func 35) #[] #[.pointer (some ⟨B, 0, none⟩)]) w
    go_enter Try.func32, Try.ntmps32
    go_wp2_with fail
    refine hIF.mono ?_
    rintro e w' ⟨rfl, rfl⟩
    go_wp2_with fail
    go_ret
    exact ⟨none, 0, rfl, hO0, Kp.refl _ _⟩
  · subst hv
    have hH : Holds encStr w g 0 ss.toArray := holds_of_block hb (by simpa using ht)
    have hgl := lt_of_block hb
    have hD := Try.slices_DeleteFunc encStr (fun _ => rfl) (lessS f) 35 #[.pointer (some ⟨B, 0, none⟩)] eg ([] : List UInt8) (fun w => by kernel_rfl) g 0 cap ss.toArray w (list_at f B w hB hc) (list_over f B g 0 _ w hB (by omega) hc) hH (by simp; omega) (by simpa using hcp)
    refine Calls.mono hD ?_
    rintro e w' ⟨rfl, q, rfl⟩
    have hfl : (keysFrom f ss).length ≤ ss.length := List.length_filter_le _ _
    have hk : (ss.toArray.toList.filter fun x => !lessS f x) = keysFrom f ss := rfl
    rw [hk]
    have hts : ((keysFrom f ss) ++ List.replicate (ss.toArray.size - (keysFrom f ss).length) []).length = ss.length := by simp; omega
    have h1 := ownsRow_sorted (n := q) (os := #[]) (base := base) hts hg hb hcp hmx hs
    rw [grow_empty] at h1
    have h2 := ownsRow_cut h1 hfl
    rw [← List.map_take, List.take_left'] at h2
    · refine ⟨_, cap, rfl, h2, ?_⟩
      have := grownBy_sorted (w := w) (g := g) (n := q) (os := #[]) ((keysFrom f ss) ++ List.replicate (ss.toArray.size - (keysFrom f ss).length) []).toArray
      rw [grow_empty] at this
      exact Kp.of_grown this
    · rfl
/-- the keys, rising -/
def Ix.keys (x : Ix) : List (List UInt8) := (x.E.map fun p => p.1.data.toList).mergeSort (fun a b => decide (a ≤ b))
/-- List's answer -/
def Ix.list (x : Ix) (f : ByteArray) (many : Int) : List (List UInt8) := (keysFrom f x.keys).take many.toNat
theorem sorted_ents {I : Ib} {x : Ix} (hf : Fit x) {w : World} (h : IxAt I w x) (hz : x.E.length ≤ 1000) (Bm : Nat) (hBm : Bm < w.heap.size) (hc : w.cell? ⟨Bm, 0, none⟩ = some (.map (some I.e))) :
    Calls Try.prog 33 #[.func (.func 50) #[] #[.pointer (some ⟨Bm, 0, none⟩)]] w fun e W' => ∃ av cv, e = .returned (.slice av x.keys.length cv) ∧ W'.ownsRow w.heap.size 9 1 (.slice av x.keys.length cv) x.keys.length (x.keys.map encStr) ∧ Kp [] w W' := by
  have hst := stopsS (H := EntD) Fence.wide 2 trivial rfl (by omega) Bm I.e _ (datE x) w hBm hc (ents_own h hf hz)
  have hsz : Maps.size (datE x) ≤ 1000 := by unfold datE; rw [datOf_size]; exact hz
  have hb : ∀ xs, AllK litS (datE x) xs → xs.length ≤ 1000 := fun xs hx => by
    rw [(allk_ents h hf hx).length_eq, List.length_map]; exact hz
  refine (sortedS 50 _ (enters_of Try.func50 (by kernel_rfl) rfl) _ _ _ hsz hb w hst).mono ?_
  rintro e W' ⟨v, xs, rfl, hS, hrow, hk⟩
  have hp := allk_ents h hf hS
  have he : (xs.mergeSort fun x y => decide (x ≤ y)) = x.keys := mergeSort_of_perm hp
  have hlen : xs.length = x.keys.length := by rw [← he, List.length_mergeSort]
  rw [he, hlen] at hrow
  obtain ⟨av, cv, rfl⟩ := ownsRow_ex hrow
  exact ⟨av, cv, rfl, hrow, hk⟩
theorem keys_len (x : Ix) : x.keys.length = x.E.length := by unfold Ix.keys; rw [List.length_mergeSort, List.length_map]
end Go.Proofs.Ytdhhddifmkijhaa
