/-
  The document's Build.
  The next key behind the last one; in plain Lean.
  List: the keys from a key on.
  The keys of an index, in order; in plain Lean.
-/
import Derived.Test.YtdhhddifmkijhaaGreatP5
import Derived.Test.YtdhhddifmkijhaaGreatIdxBd
import Derived.Test.YtdhhddifmkijhaaGreatIdxX
namespace Go.Proofs.YtdhhddifmkijhaaGreat
open Go.RowKit Go.ChangeMaps Go.Maps Go.WideShapes Go.WideMaps Go.WideElems Go.MapKept Go.ChangeShapes
set_option maxHeartbeats 4000000 in
set_option maxRecDepth 20000 in
theorem kbuild (rs : List (RecD × Value)) (v : Value) (w : World) (B : Nat) (hB2 : B = w.heap.size) (hr : RecsAt w.heap.size w v rs) (hz : rs.length ≤ 100) (hsm : ∀ q ∈ rs, smallR q.1 = true) :
    Calls Tryz.prog 17 #[v] w fun e w' => ∃ (kb : Nat) (k : Rx), e = .returned (.tuple #[.pointer (some ⟨kb, 0, none⟩), .int .i64 (Ix.zero.build (rs.map (·.1))).2]) ∧ RIn B kb w' k ∧ Rel (Ix.zero.build (rs.map (·.1))).1 k ∧ Turn B w w' := by
  obtain ⟨va, vc, rfl⟩ := slice_ex hr.1
  obtain ⟨w0, hw0⟩ : ∃ w0, w0 = w.alloc (.cells #[.slice none 0 0, .slice none 0 0, .slice none 0 0, .slice none 0 0] 32) := ⟨_, rfl⟩
  have k0 : Kp [] w w0 := hw0 ▸ (Kp.refl _ _).alloc _
  have hR0 : RIn B w.heap.size w0 Rx.zero := by rw [hw0]; exact rin_new (by omega)
  have t0 : Turn B w w0 := Turn.of_kp k0
  obtain ⟨kb, hkb⟩ : ∃ kb, kb = w.heap.size := ⟨_, rfl⟩
  have HW0 := Lib.hid hw0
  clear hw0
  go_enter Tryz.func17, Tryz.ntmps17
  go_wp2_with fail
  rw [← HW0.out]
  go_loopg [5] rs.length (fun g i wr => ∃ (n : Nat) (k : Rx), n + g = rs.length ∧ i = .int .i64 n ∧ Turn B w wr ∧ RIn B w.heap.size wr k ∧ Rel (Ix.zero.run ((rs.take n).map (·.1))) k ∧ AllMay Ix.zero ((rs.take n).map (·.1)))
  case atStart => exact ⟨0, Rx.zero, by omega, rfl, t0, hR0, rel_zero, trivial⟩
  case round =>
    clear hR0 t0
    obtain ⟨n, k, hn, rfl, hT, hR, hrel', hall⟩ := hrel
    have hK : Kp [] w wr := hT.kp (Kp.refl _ _) (by omega)
    have HN := Lib.hid hn
    have HA := Lib.hid hall
    have HREL := Lib.hid hrel'
    clear hall hrel'
    by_cases hlt : n < rs.length
    · obtain ⟨g', rfl⟩ : ∃ g', gk = g' + 1 := ⟨gk - 1, by omega⟩
      clear hn
      have hltI : (n : Int) < (rs.length : Int) := by omega
      obtain ⟨hs1, hs2, hs3, hs4⟩ := small_spec (hsm _ (List.getElem_mem hlt))
      have htk : (rs.take (n + 1)).map (·.1) = (rs.take n).map (·.1) ++ [rs[n].1] := by rw [take_next hlt, List.map_append]; rfl
      have hdr : rs.map (·.1) = (rs.take n).map (·.1) ++ rs[n].1 :: (rs.drop (n + 1)).map (·.1) := by
        rw [← List.map_cons, ← List.map_append, ← List.drop_eq_getElem_cons hlt, List.take_append_drop]
      have hlt2 : ((rs.take n).map (·.1)).length = n := by rw [List.length_map, List.length_take]; omega
      obtain ⟨g, o, c, hv', f0, f1, f2, f3, f4, f5, f6, f7, f8, f9, fa, fb, fc, fd⟩ := rec_at hr n hlt
      simp only [Value.slice.injEq] at hv'
      obtain ⟨rfl, -, rfl⟩ := hv'
      obtain ⟨q, hq⟩ : ∃ q, q = rs[n] := ⟨_, rfl⟩
      have hlq := hr.2 _ (List.getElem_mem hlt)
      rw [← hq] at f0 f1 f2 f3 f4 f5 f6 f7 f8 f9 fa fb fc fd hlq
      obtain ⟨⟨x0, x1, ⟨x2, x3, x4, lx⟩, ⟨x6, x7, x8, x9, xa⟩, xb, xc, xd⟩, lv⟩ := q
      simp only at f0 f1 f2 f3 f4 f5 f6 f7 f8 f9 fa fb fc fd hlq
      obtain ⟨la, lc, rfl⟩ := slice_ex hlq
      have r0 := Kp.cellAt (X := []) f0 (by simp) wr hK
      have r1 := Kp.cellAt (X := []) f1 (by simp) wr hK
      have r2 := Kp.cellAt (X := []) f2 (by simp) wr hK
      have r3 := Kp.cellAt (X := []) f3 (by simp) wr hK
      have r4 := Kp.cellAt (X := []) f4 (by simp) wr hK
      have r5 := Kp.cellAt (X := []) f5 (by simp) wr hK
      have r6 := Kp.cellAt (X := []) f6 (by simp) wr hK
      have r7 := Kp.cellAt (X := []) f7 (by simp) wr hK
      have r8 := Kp.cellAt (X := []) f8 (by simp) wr hK
      have r9 := Kp.cellAt (X := []) f9 (by simp) wr hK
      have ra := Kp.cellAt (X := []) fa (by simp) wr hK
      have rb := Kp.cellAt (X := []) fb (by simp) wr hK
      have rc := Kp.cellAt (X := []) fc (by simp) wr hK
      have rd := Kp.cellAt (X := []) fd (by simp) wr hK
      have HQR := Lib.hid hq
      have hgw := lt_of_cell f0
      clear f0 f1 f2 f3 f4 f5 f6 f7 f8 f9 fa fb fc fd hq
      rw [← HQR.out] at htk hdr hs1 hs2 hs4
      simp only at htk hdr hs1 hs2 hs4
      have hiv : Inv (Ix.zero.run ((rs.take n).map (·.1))) := inv_run inv_zero _
      have hfw := few_run few_zero ((rs.take n).map (·.1))
      rw [hlt2] at hfw
      obtain ⟨X, hXe⟩ : ∃ X, X = Ix.zero.run ((rs.take n).map (·.1)) := ⟨_, rfl⟩
      have hre := HREL.out
      rw [← hXe] at hiv hre hfw
      have HXE := Lib.hid hXe
      have HTK := Lib.hid htk
      have HDR := Lib.hid hdr
      have HL2 := Lib.hid hlt2
      have hap := kapply_rel hR hre hiv hfw (by omega) ⟨x0, x1, ⟨x2, x3, x4, lx⟩, ⟨x6, x7, x8, x9, xa⟩, xb, xc, xd⟩ (.slice la lx.length lc) (by rw [hB2]; exact hlq.keep0 hK) (by simp only; omega) (by simp only; omega) (by simp only; omega)
      simp only [RecV] at hap
      obtain ⟨C, hC⟩ : ∃ C, C = (X.apply ⟨x0, x1, ⟨x2, x3, x4, lx⟩, ⟨x6, x7, x8, x9, xa⟩, xb, xc, xd⟩).2.2 := ⟨_, rfl⟩
      rw [← hC] at hap
      rw [apply_code] at hC
      have HC := Lib.hid hC
      clear hC hdr htk hlt2 hXe
      go_wp2_with fail
      refine hap.mono ?_
      rintro e w2 ⟨ov, k2, rfl, -, hR2, hrel2, t2⟩
      have hT2 := hT.trans t2
      clear hap
      by_cases hc0 : C = 0
      · have hb : (C != 0) = false := by simp [hc0]
        have hrun : Ix.zero.run ((rs.take (n + 1)).map (·.1)) = (X.apply ⟨x0, x1, ⟨x2, x3, x4, lx⟩, ⟨x6, x7, x8, x9, xa⟩, xb, xc, xd⟩).1 := by rw [HTK.out, run_snoc, ← HXE.out]
        rw [← hrun] at hrel2
        have hall2 : AllMay Ix.zero ((rs.take (n + 1)).map (·.1)) := by
          rw [HTK.out]
          exact allMay_snoc.2 ⟨HA.out, by rw [← HXE.out, ← HC.out]; exact hc0⟩
        have HA2 := Lib.hid hall2
        have HR2 := Lib.hid hrel2
        have HRI := Lib.hid hR2
        have HT2 := Lib.hid hT2
        clear hrun hall2 hc0 hrel2 hR2 hT2 hR hT
        go_wp2_with fail
        go_roundg g'
        case rel => exact ⟨n + 1, k2, st_next HN.out, by go_num, HT2.out, HRI.out, HR2.out, HA2.out⟩
        case measure => omega
      · have hb : (C != 0) = true := by simpa using hc0
        have hsame : (X.apply ⟨x0, x1, ⟨x2, x3, x4, lx⟩, ⟨x6, x7, x8, x9, xa⟩, xb, xc, xd⟩).1 = X := apply_same (by rw [← HC.out]; exact hc0)
        rw [hsame] at hrel2
        have hbl : Ix.zero.build (rs.map (·.1)) = (X, n) := by
          rw [HDR.out, build_snoc_ok HA.out _ _ (by rw [← HXE.out, ← HC.out]; exact hc0), ← HXE.out, HL2.out]
        have HBL := Lib.hid hbl
        have HR2 := Lib.hid hrel2
        have HRI := Lib.hid hR2
        have HT2 := Lib.hid hT2
        clear hsame hbl hc0 hrel2 hR2 hT2 hR hT
        go_wp2_with fail
        go_ret2
        refine ⟨_, k2, by rw [HBL.out]; rfl, HRI.out, ?_, HT2.out⟩
        rw [HBL.out]
        exact HR2.out
    · obtain rfl : n = rs.length := by omega
      obtain rfl : gk = 0 := by omega
      have hre := HREL.out
      rw [List.take_length] at hre
      have ha := HA.out
      rw [List.take_length] at ha
      have hbl := build_all ha
      rw [List.length_map] at hbl
      have HBL := Lib.hid hbl
      have HR2 := Lib.hid hre
      have HRI := Lib.hid hR
      have HT2 := Lib.hid hT
      clear hn ha hbl HA hre hR hT
      go_wp2_with fail
      go_ret2
      refine ⟨_, by rw [HBL.out]; rfl, k, by have := HRI.out; rw [hB2] at this; exact this, ?_, by have := HT2.out; rw [hB2] at this; exact this⟩
      rw [HBL.out]
      exact HR2.out
end Go.Proofs.YtdhhddifmkijhaaGreat

namespace Go.Proofs.YtdhhddifmkijhaaGreat

theorem drop_iff {α : Type} {lt : α → α → Prop} (irr : ∀ a, ¬ lt a a) (asym : ∀ a b, lt a b → ¬ lt b a) {S : List α} (hs : S.Pairwise lt) {m : Nat} (hm : m < S.length) {key : α} (hk : key ∈ S) : key ∈ S.drop (m + 1) ↔ lt S[m] key := by
  have hsp : S.take (m + 1) ++ S.drop (m + 1) = S := List.take_append_drop _ _
  have hp := hs
  rw [← hsp, List.pairwise_append] at hp
  have hmt : S[m] ∈ S.take (m + 1) := by rw [take_next hm]; exact List.mem_append_right _ (List.mem_singleton.2 rfl)
  constructor
  · intro h
    exact hp.2.2 _ hmt _ h
  · intro h
    rw [← hsp, List.mem_append] at hk
    rcases hk with hk | hk
    · exfalso
      rw [take_next hm, List.mem_append, List.mem_singleton] at hk
      have h1 := hp.1
      rw [take_next hm, List.pairwise_append] at h1
      rcases hk with hk | rfl
      · exact asym _ _ (h1.2.2 key hk S[m] (by simp)) h
      · exact irr _ h
    · exact hk
theorem drop_least {α : Type} {lt : α → α → Prop} {S : List α} (hs : S.Pairwise lt) {m : Nat} (hm : m < S.length) {key : α} (hk : key ∈ S.drop m) : key = S[m] ∨ lt S[m] key := by
  rw [List.drop_eq_getElem_cons hm] at hk
  have hp : (S.drop m).Pairwise lt := hs.sublist (List.drop_sublist _ _)
  rw [List.drop_eq_getElem_cons hm, List.pairwise_cons] at hp
  rcases List.mem_cons.1 hk with h | h
  · exact .inl h
  · exact .inr (hp.1 _ h)
/-- the least candidate is the next of the sorted list -/
theorem next_is {α : Type} {lt : α → α → Prop} {S : List α} (hs : S.Pairwise lt) {m : Nat} {key : α} (hk : key ∈ S.drop m) (hmin : ∀ k ∈ S.drop m, ¬ lt k key) : ∃ hm : m < S.length, key = S[m] := by
  have hm : m < S.length := by
    apply Decidable.byContradiction
    intro h
    rw [List.drop_eq_nil_of_le (by omega)] at hk
    cases hk
  refine ⟨hm, ?_⟩
  rcases drop_least hs hm hk with h | h
  · exact h
  · refine absurd h (hmin _ ?_)
    rw [List.drop_eq_getElem_cons hm]
    exact List.mem_cons_self ..
theorem none_left {α : Type} {S : List α} {m : Nat} (h : ∀ k ∈ S, k ∉ S.drop m) : S.length ≤ m := by
  apply Decidable.byContradiction
  intro hm
  have hm : m < S.length := by omega
  refine h S[m] (List.getElem_mem hm) ?_
  rw [List.drop_eq_getElem_cons hm]
  exact List.mem_cons_self ..
end Go.Proofs.YtdhhddifmkijhaaGreat

namespace Go.Proofs.YtdhhddifmkijhaaGreat
open Go.RowKit Go.Sort Go.ChangeMaps Go.Maps Go.WideShapes Go.WideMaps Go.WideElems Go.MapKept Go.ChangeShapes

/-- is a key less than another? -/
def lessS (f : ByteArray) (k : List UInt8) : Bool := Op.bytesLess k f.data.toList
set_option maxHeartbeats 1000000 in
set_option maxRecDepth 20000 in
theorem ilist1 (k : List UInt8) (f : ByteArray) (B : Nat) (w : World) (hc : w.cell? ⟨B, 0, none⟩ = some (.string f)) : Calls Tryz.prog 68 #[encStr k, .pointer (some ⟨B, 0, none⟩)] w fun e w' => e = .returned (.bool (lessS f k)) ∧ w' = w := by
  go_enter Tryz.func68, Tryz.ntmps68
  go_wp2_with fail
  go_ret
  refine ⟨?_, rfl⟩
  unfold lessS
  rw [← Lib.toList_data f]
  rfl
theorem list_at (f : ByteArray) (B : Nat) (w : World) (hB : B < w.heap.size) (hc : w.cell? ⟨B, 0, none⟩ = some (.string f)) : PredAt Tryz.prog 68 #[.pointer (some ⟨B, 0, none⟩)] encStr (lessS f) w :=
  fun W x hb => (ilist1 x f B W ((hb.cell (p := ⟨B, 0, none⟩) hB).trans hc)).mono fun _ _ ⟨h1, h2⟩ => ⟨h1, 0, h2⟩
theorem list_over (f : ByteArray) (B blk off size : Nat) (w : World) (hB : B < w.heap.size) (hne : B ≠ blk) (hc : w.cell? ⟨B, 0, none⟩ = some (.string f)) : PredOver Tryz.prog 68 #[.pointer (some ⟨B, 0, none⟩)] encStr (lessS f) blk off size w :=
  fun n os dk x _ => (ilist1 x f B _ (by
    unfold sortWorld
    rw [cell?_grow _ _ _ (by show B < (putRow _ _ _ _ _).heap.size; rw [size_putRow]; exact hB), cell?_putRow_other _ _ blk off _ _ (Or.inl hne)]
    exact hc)).mono fun e w' ⟨h1, h2⟩ => ⟨h1, 0, h2⟩
/-- a slice cut to its first elements -/
theorem ownsRow_cut {w : World} {base : Nat} {e : TypeId} {n m cap : Nat} {a : Option Addr} {xs : List Value} (h : w.ownsRow base e 1 (.slice a n cap) n xs) (hm : m ≤ n) : w.ownsRow base e 1 (.slice a m cap) m (xs.take m) := by
  obtain ⟨hl, ⟨hv, hn⟩ | ⟨g, cap', cur, hv, hg, hb, hc, hmx, hs, ht⟩⟩ := h
  · subst hn
    obtain rfl : xs = [] := by simpa using hl
    obtain rfl : m = 0 := by omega
    exact ⟨rfl, .inl ⟨hv, rfl⟩⟩
  · simp only [Value.slice.injEq] at hv
    obtain ⟨rfl, -, rfl⟩ := hv
    refine ⟨by rw [List.length_take, hl]; omega, .inr ⟨g, cap, cur, rfl, hg, hb, by omega, hmx, hs, ?_⟩⟩
    rw [← ht, List.take_take]
    congr 1
    omega
/-- the keys that are not less than f -/
def keysFrom (f : ByteArray) (ks : List (List UInt8)) : List (List UInt8) := ks.filter fun k => !lessS f k
set_option maxHeartbeats 4000000 in
set_option maxRecDepth 20000 in
/-- slices.DeleteFunc over keys of one's own -/
theorem delS_own (f : ByteArray) (ss : List (List UInt8)) (hz : ss.length ≤ 1000) (v : Value) (base B : Nat) (w : World) (hO : w.ownsRow base 9 1 v ss.length (ss.map encStr)) (hB : B < w.heap.size) (hBb : B < base) (hc : w.cell? ⟨B, 0, none⟩ = some (.string f)) :
    Calls Tryz.prog 66 #[v, .func (.func 68) #[] #[.pointer (some ⟨B, 0, none⟩)]] w fun e w' => ∃ av cv, e = .returned (.slice av (keysFrom f ss).length cv) ∧ w'.ownsRow base 9 1 (.slice av (keysFrom f ss).length cv) (keysFrom f ss).length ((keysFrom f ss).map encStr) ∧ Kp v.ownBlock.toList w w' := by
  have eg : ∀ args w, (callFunc 68 args).run Tryz.prog w = .ok (.enter 68 args) w := enters_of Tryz.func68 (by kernel_rfl) rfl
  have hO0 := hO
  obtain ⟨hl, ⟨hv, hn⟩ | ⟨g, cap, cur, hv, hg, hb, hcp, hmx, hs, ht⟩⟩ := hO
  · have hss : ss = [] := by simpa using hn
    subst hss
    subst hv
    have hIF := Tryz.slices_IndexFunc_empty (α := List UInt8) none 0 (.func (.func 68) #[] #[.pointer (some ⟨B, 0, none⟩)]) w
    go_enter Tryz.func66, Tryz.ntmps66
    go_wp2_with fail
    refine hIF.mono ?_
    rintro e w' ⟨rfl, rfl⟩
    go_wp2_with fail
    go_ret
    exact ⟨none, 0, rfl, hO0, Kp.refl _ _⟩
  · subst hv
    have hH : Holds encStr w g 0 ss.toArray := holds_of_block hb (by simpa using ht)
    have hgl := lt_of_block hb
    have hD := Tryz.slices_DeleteFunc encStr (fun _ => rfl) (lessS f) 68 #[.pointer (some ⟨B, 0, none⟩)] eg ([] : List UInt8) (fun w => by kernel_rfl) g 0 cap ss.toArray w (list_at f B w hB hc) (list_over f B g 0 _ w hB (by omega) hc) hH (by simp; omega) (by simpa using hcp)
    refine Calls.mono hD ?_
    rintro e w' ⟨rfl, q, rfl⟩
    have hfl : (keysFrom f ss).length ≤ ss.length := List.length_filter_le _ _
    have hk : (ss.toArray.toList.filter fun x => !lessS f x) = keysFrom f ss := rfl
    rw [hk]
    have hts : ((keysFrom f ss) ++ List.replicate (ss.toArray.size - (keysFrom f ss).length) []).length = ss.length := by simp; omega
    have h1 := ownsRow_sorted (n := q) (os := #[]) (base := base) hts hg hb hcp hmx hs
    rw [grow_empty] at h1
    have h2 := ownsRow_cut h1 hfl
    rw [← List.map_take, List.take_left'] at h2
    · refine ⟨_, cap, rfl, h2, ?_⟩
      have := grownBy_sorted (w := w) (g := g) (n := q) (os := #[]) ((keysFrom f ss) ++ List.replicate (ss.toArray.size - (keysFrom f ss).length) []).toArray
      rw [grow_empty] at this
      exact Kp.of_grown this
    · rfl
/-- the keys, rising -/
def Ix.keys (x : Ix) : List (List UInt8) := (x.E.map fun p => p.1.data.toList).mergeSort (fun a b => decide (a ≤ b))
/-- List's answer -/
def Ix.list (x : Ix) (f : ByteArray) (many : Int) : List (List UInt8) := (keysFrom f x.keys).take many.toNat
theorem sorted_ents {I : Ib} {x : Ix} (hf : Fit x) {w : World} (h : IxAt I w x) (hz : x.E.length ≤ 1000) (Bm : Nat) (hBm : Bm < w.heap.size) (hc : w.cell? ⟨Bm, 0, none⟩ = some (.map (some I.e))) :
    Calls Tryz.prog 67 #[.func (.func 78) #[] #[.pointer (some ⟨Bm, 0, none⟩)]] w fun e W' => ∃ av cv, e = .returned (.slice av x.keys.length cv) ∧ W'.ownsRow w.heap.size 9 1 (.slice av x.keys.length cv) x.keys.length (x.keys.map encStr) ∧ Kp [] w W' := by
  have hst := stopsS (H := EntD) Fence.wide 2 trivial rfl (by omega) Bm I.e _ (datE x) w hBm hc (ents_own h hf hz)
  have hsz : Maps.size (datE x) ≤ 1000 := by unfold datE; rw [datOf_size]; exact hz
  have hb : ∀ xs, AllK litS (datE x) xs → xs.length ≤ 1000 := fun xs hx => by
    rw [(allk_ents h hf hx).length_eq, List.length_map]; exact hz
  refine (sortedS 78 _ (enters_of Tryz.func78 (by kernel_rfl) rfl) _ _ _ hsz hb w hst).mono ?_
  rintro e W' ⟨v, xs, rfl, hS, hrow, hk⟩
  have hp := allk_ents h hf hS
  have he : (xs.mergeSort fun x y => decide (x ≤ y)) = x.keys := mergeSort_of_perm hp
  have hlen : xs.length = x.keys.length := by rw [← he, List.length_mergeSort]
  rw [he, hlen] at hrow
  obtain ⟨av, cv, rfl⟩ := ownsRow_ex hrow
  exact ⟨av, cv, rfl, hrow, hk⟩
theorem keys_len (x : Ix) : x.keys.length = x.E.length := by unfold Ix.keys; rw [List.length_mergeSort, List.length_map]
end Go.Proofs.YtdhhddifmkijhaaGreat

namespace Go.Proofs.YtdhhddifmkijhaaGreat

theorem keys_mem {x : Ix} {k : List UInt8} : k ∈ x.keys ↔ ∃ p ∈ x.E, p.1.data.toList = k := by
  unfold Ix.keys
  rw [List.mem_mergeSort, List.mem_map]
theorem keys_nodup {x : Ix} (h : (x.E.map (·.1)).Nodup) : x.keys.Nodup := by
  unfold Ix.keys
  rw [(List.mergeSort_perm _ _).nodup_iff]
  unfold List.Nodup at h ⊢
  rw [List.pairwise_map] at h ⊢
  refine h.imp ?_
  intro a b hab e
  exact hab (by
    have := congrArg List.toArray e
    simp only [Array.toArray_toList] at this
    exact ByteArray.ext this)
theorem keys_sorted {x : Ix} (h : (x.E.map (·.1)).Nodup) : x.keys.Pairwise (· < ·) := by
  have h1 : x.keys.Pairwise (fun a b => decide (a ≤ b) = true) := by
    unfold Ix.keys
    exact List.pairwise_mergeSort (fun a b c h1 h2 => by simp only [decide_eq_true_eq] at *; exact List.le_trans h1 h2) (fun a b => by simp only [Bool.or_eq_true, decide_eq_true_eq]; exact List.le_total a b) _
  have h2 := keys_nodup h
  unfold List.Nodup at h2
  refine (h1.and h2).imp ?_
  rintro a b ⟨hle, hne⟩
  have hle := of_decide_eq_true hle
  apply Decidable.byContradiction
  intro hlt
  exact hne (List.le_antisymm hle (List.not_lt.1 hlt))
theorem from_sorted {x : Ix} (h : (x.E.map (·.1)).Nodup) (f : ByteArray) : (keysFrom f x.keys).Pairwise (· < ·) := (keys_sorted h).filter _
theorem from_mem {x : Ix} {f : ByteArray} {k : List UInt8} : k ∈ keysFrom f x.keys ↔ (∃ p ∈ x.E, p.1.data.toList = k) ∧ Op.bytesLess k f.data.toList = false := by
  unfold keysFrom
  rw [List.mem_filter, keys_mem]
  unfold lessS
  simp
end Go.Proofs.YtdhhddifmkijhaaGreat
