/-
  The document's index: May.
-/
import Derived.Test.YtdhhddifmkijhaaGreatIdxRj
import Derived.Test.YtdhhddifmkijhaaGreatIdxM
namespace Go.Proofs.YtdhhddifmkijhaaGreat
open Go.RowKit

def Rx.may (k : Rx) (r : RecD) : Int :=
  if recCheck r ≠ 0 then recCheck r
  else if r.kind = 0 then (if (k.known r.ent.key || has k.H r.vol.id) = true then 13 else 0)
  else if r.kind = 1 then (if (k.entry r.key).isSome = true then 0 else 9)
  else if r.kind = 2 then (if (k.place r.vol.id).isSome = true then (if r.vol.gen ≤ (k.vol r.vol.id).1.gen ∨ r.vol.len ≠ (k.vol r.vol.id).1.len then 1 else 0) else 9)
  else (if (k.place r.frm).isSome = true ∧ (k.place r.to).isSome = true then (if has k.H r.vol.id = true then 13 else if r.vol.len = (k.vol r.frm).1.len + (k.vol r.to).1.len then 0 else 1) else 9)
theorem Rx.placed {k : Rx} {d : Int} {i : Nat} (h : k.place d = some i) : ∃ hi : i < k.V.length, (k.vol d).1 = k.V[i] := by
  obtain ⟨hi, hf⟩ := find_idx (p := fun e : VolD => decide (e.id = d)) (show k.V.findIdx? _ = some i from h)
  refine ⟨hi, ?_⟩
  unfold Rx.vol
  rw [hf]
set_option maxHeartbeats 4000000 in
set_option maxRecDepth 20000 in
theorem kmay_no {B kb : Nat} {k : Rx} (x0 x1 x2 x3 x4 x7 x8 x9 xc xd : Int) (lx : List (Int × Int)) (x6 xa xb : ByteArray) (la : Option Addr) (lc : Nat) (w : World) (_ : RIn B kb w k) (hl : LocsAt B w (.slice la lx.length lc) lx) (hz : lx.length ≤ 1000) (h6 : x6.size < 16384) (hxb : xb.size < 16384) (hc : recCheck ⟨x0, x1, ⟨x2, x3, x4, lx⟩, ⟨x6, x7, x8, x9, xa⟩, xb, xc, xd⟩ ≠ 0) :
    Calls Tryz.prog 10 #[.pointer (some ⟨kb, 0, none⟩), .agg #[.int .i64 x0, .int .i64 x1, .int .i64 x2, .int .i64 x3, .int .i64 x4, .slice la lx.length lc, .string x6, .int .i64 x7, .int .i64 x8, .int .i64 x9, .string xa, .string xb, .int .i64 xc, .int .i64 xd]] w fun e w' => e = .returned (.int .i64 (k.may ⟨x0, x1, ⟨x2, x3, x4, lx⟩, ⟨x6, x7, x8, x9, xa⟩, xb, xc, xd⟩)) ∧ Kp [] w w' := by
  obtain ⟨R, hR⟩ : ∃ R, R = k.may ⟨x0, x1, ⟨x2, x3, x4, lx⟩, ⟨x6, x7, x8, x9, xa⟩, xb, xc, xd⟩ := ⟨_, rfl⟩
  rw [← hR]
  have HR := Lib.hid hR
  clear hR
  obtain ⟨w1, hw1⟩ : ∃ w1, w1 = w.alloc (.cells #[.int .i64 x0, .int .i64 x1, .int .i64 x2, .int .i64 x3, .int .i64 x4, .slice la lx.length lc, .string x6, .int .i64 x7, .int .i64 x8, .int .i64 x9, .string xa, .string xb, .int .i64 xc, .int .i64 xd] 40) := ⟨_, rfl⟩
  have k1 : Kp [] w w1 := hw1 ▸ (Kp.refl _ _).alloc _
  have b1 : w1.heap[w.heap.size]? = some (.cells #[.int .i64 x0, .int .i64 x1, .int .i64 x2, .int .i64 x3, .int .i64 x4, .slice la lx.length lc, .string x6, .int .i64 x7, .int .i64 x8, .int .i64 x9, .string xa, .string xb, .int .i64 xc, .int .i64 xd] 40 (0, 0)) := by rw [hw1]; exact block_new _ _
  have hch := rcheck11 ⟨x0, x1, ⟨x2, x3, x4, lx⟩, ⟨x6, x7, x8, x9, xa⟩, xb, xc, xd⟩ (.slice la lx.length lc) B w1 (hl.keep0 k1) hz h6 hxb
  simp only [RecV] at hch
  obtain ⟨C, hC⟩ : ∃ C, C = recCheck ⟨x0, x1, ⟨x2, x3, x4, lx⟩, ⟨x6, x7, x8, x9, xa⟩, xb, xc, xd⟩ := ⟨_, rfl⟩
  rw [← hC] at hch hc
  have hb : (C != 0) = true := by simpa using hc
  have hr : R = C := by rw [HR.out]; unfold Rx.may; rw [← hC, if_pos hc]
  rw [hr]
  obtain ⟨f0, f1, f2, f3, f4, f5, f6, f7, f8, f9, fa, fb, fc, fd⟩ := read14 b1
  have Hw1 := Lib.hid hw1
  clear hw1 b1 hC hc hr
  go_enter Tryz.func10, Tryz.ntmps10
  go_wp2_with fail
  rw [← Hw1.out]
  refine hch.mono ?_
  rintro e w2 ⟨rfl, k2⟩
  have hk := k1.trans k2
  clear hch
  go_wp2_with fail
  go_ret
  exact ⟨rfl, hk⟩
set_option maxHeartbeats 4000000 in
set_option maxRecDepth 20000 in
theorem kmay0 {B kb : Nat} {k : Rx} (x0 x2 x3 x4 x7 x8 x9 xc xd : Int) (lx : List (Int × Int)) (x6 xa xb : ByteArray) (la : Option Addr) (lc : Nat) (w : World) (h : RIn B kb w k) (hl : LocsAt B w (.slice la lx.length lc) lx) (hz : lx.length ≤ 1000) (h6 : x6.size < 16384) (hxb : xb.size < 16384) (hc : recCheck ⟨x0, 0, ⟨x2, x3, x4, lx⟩, ⟨x6, x7, x8, x9, xa⟩, xb, xc, xd⟩ = 0) (hzE : k.E.length ≤ 900) (hzG : k.G.length ≤ 900) (hzH : k.H.length ≤ 900) :
    Calls Tryz.prog 10 #[.pointer (some ⟨kb, 0, none⟩), .agg #[.int .i64 x0, .int .i64 0, .int .i64 x2, .int .i64 x3, .int .i64 x4, .slice la lx.length lc, .string x6, .int .i64 x7, .int .i64 x8, .int .i64 x9, .string xa, .string xb, .int .i64 xc, .int .i64 xd]] w fun e w' => e = .returned (.int .i64 (k.may ⟨x0, 0, ⟨x2, x3, x4, lx⟩, ⟨x6, x7, x8, x9, xa⟩, xb, xc, xd⟩)) ∧ Kp [] w w' := by
  obtain ⟨R, hR⟩ : ∃ R, R = k.may ⟨x0, 0, ⟨x2, x3, x4, lx⟩, ⟨x6, x7, x8, x9, xa⟩, xb, xc, xd⟩ := ⟨_, rfl⟩
  rw [← hR]
  have HR := Lib.hid hR
  clear hR
  obtain ⟨w1, hw1⟩ : ∃ w1, w1 = w.alloc (.cells #[.int .i64 x0, .int .i64 0, .int .i64 x2, .int .i64 x3, .int .i64 x4, .slice la lx.length lc, .string x6, .int .i64 x7, .int .i64 x8, .int .i64 x9, .string xa, .string xb, .int .i64 xc, .int .i64 xd] 40) := ⟨_, rfl⟩
  have k1 : Kp [] w w1 := hw1 ▸ (Kp.refl _ _).alloc _
  have b1 : w1.heap[w.heap.size]? = some (.cells #[.int .i64 x0, .int .i64 0, .int .i64 x2, .int .i64 x3, .int .i64 x4, .slice la lx.length lc, .string x6, .int .i64 x7, .int .i64 x8, .int .i64 x9, .string xa, .string xb, .int .i64 xc, .int .i64 xd] 40 (0, 0)) := by rw [hw1]; exact block_new _ _
  have hch := rcheck11 ⟨x0, 0, ⟨x2, x3, x4, lx⟩, ⟨x6, x7, x8, x9, xa⟩, xb, xc, xd⟩ (.slice la lx.length lc) B w1 (hl.keep0 k1) hz h6 hxb
  simp only [RecV] at hch
  rw [hc] at hch
  obtain ⟨c0, c1, c2, c3, c4, c5, c6, c7, c8, c9, ca, cb, cc, cd⟩ := cells14 b1
  have hK := Kp.refl [] w1
  have Hw1 := Lib.hid hw1
  have HCK := Lib.hid hc
  have hri := h.keep0 k1
  clear hw1 b1 hc
  go_enter Tryz.func10, Tryz.ntmps10
  go_wp2_with fail
  rw [← Hw1.out]
  refine hch.mono ?_
  rintro e w2 ⟨rfl, k2⟩
  have hK2 := hK.trans k2
  have hri2 := hri.keep0 k2
  clear hch hK
  have hkn := kknown x6 w2 hri2 (by omega) (by omega)
  have q6 := c6 _ hK2
  cases hP : k.known x6 with
  | true =>
    rw [hP] at hkn
    have hr : R = 13 := by rw [HR.out]; unfold Rx.may; rw [HCK.out]; simp [hP]
    have HR2 := Lib.hid hr
    clear hr
    go_wp2_with fail
    refine hkn.mono ?_
    rintro e w3 ⟨rfl, k3⟩
    have hr := HR2.out
    clear hkn
    have HRZ := Lib.hid hr
    clear hr
    go_wp2_with fail
    go_ret
    exact ⟨by rw [HRZ.out]; rfl, k1.trans (hK2.trans k3)⟩
  | false =>
    rw [hP] at hkn
    go_wp2_with fail
    refine hkn.mono ?_
    rintro e w3 ⟨rfl, k3⟩
    have hK3 := hK2.trans k3
    have q2 := c2 _ hK3
    have hhd := khad x2 w3 (hri2.keep0 k3) (by omega)
    clear hkn
    cases hQ : has k.H x2 with
    | true =>
      rw [hQ] at hhd
      have hr : R = 13 := by rw [HR.out]; unfold Rx.may; rw [HCK.out]; simp [hP, hQ]
      have HR2 := Lib.hid hr
      clear hr
      go_wp2_with fail
      refine hhd.mono ?_
      rintro e w4 ⟨rfl, k4⟩
      have hr := HR2.out
      clear hhd
      have HRZ := Lib.hid hr
      clear hr
      go_wp2_with fail
      go_ret
      exact ⟨by rw [HRZ.out]; rfl, k1.trans (hK3.trans k4)⟩
    | false =>
      rw [hQ] at hhd
      have hr : R = 0 := by rw [HR.out]; unfold Rx.may; rw [HCK.out]; simp [hP, hQ]
      have HR2 := Lib.hid hr
      clear hr
      go_wp2_with fail
      refine hhd.mono ?_
      rintro e w4 ⟨rfl, k4⟩
      have hr := HR2.out
      clear hhd
      have HRZ := Lib.hid hr
      clear hr
      go_wp2_with fail
      go_ret
      exact ⟨by rw [HRZ.out]; rfl, k1.trans (hK3.trans k4)⟩
set_option maxHeartbeats 4000000 in
set_option maxRecDepth 20000 in
theorem kmay1 {B kb : Nat} {k : Rx} (x0 x2 x3 x4 x7 x8 x9 xc xd : Int) (lx : List (Int × Int)) (x6 xa xb : ByteArray) (la : Option Addr) (lc : Nat) (w : World) (h : RIn B kb w k) (hl : LocsAt B w (.slice la lx.length lc) lx) (hz : lx.length ≤ 1000) (h6 : x6.size < 16384) (hxb : xb.size < 16384) (hc : recCheck ⟨x0, 1, ⟨x2, x3, x4, lx⟩, ⟨x6, x7, x8, x9, xa⟩, xb, xc, xd⟩ = 0) (hzE : k.E.length ≤ 900) :
    Calls Tryz.prog 10 #[.pointer (some ⟨kb, 0, none⟩), .agg #[.int .i64 x0, .int .i64 1, .int .i64 x2, .int .i64 x3, .int .i64 x4, .slice la lx.length lc, .string x6, .int .i64 x7, .int .i64 x8, .int .i64 x9, .string xa, .string xb, .int .i64 xc, .int .i64 xd]] w fun e w' => e = .returned (.int .i64 (k.may ⟨x0, 1, ⟨x2, x3, x4, lx⟩, ⟨x6, x7, x8, x9, xa⟩, xb, xc, xd⟩)) ∧ Kp [] w w' := by
  obtain ⟨R, hR⟩ : ∃ R, R = k.may ⟨x0, 1, ⟨x2, x3, x4, lx⟩, ⟨x6, x7, x8, x9, xa⟩, xb, xc, xd⟩ := ⟨_, rfl⟩
  rw [← hR]
  have HR := Lib.hid hR
  clear hR
  obtain ⟨w1, hw1⟩ : ∃ w1, w1 = w.alloc (.cells #[.int .i64 x0, .int .i64 1, .int .i64 x2, .int .i64 x3, .int .i64 x4, .slice la lx.length lc, .string x6, .int .i64 x7, .int .i64 x8, .int .i64 x9, .string xa, .string xb, .int .i64 xc, .int .i64 xd] 40) := ⟨_, rfl⟩
  have k1 : Kp [] w w1 := hw1 ▸ (Kp.refl _ _).alloc _
  have b1 : w1.heap[w.heap.size]? = some (.cells #[.int .i64 x0, .int .i64 1, .int .i64 x2, .int .i64 x3, .int .i64 x4, .slice la lx.length lc, .string x6, .int .i64 x7, .int .i64 x8, .int .i64 x9, .string xa, .string xb, .int .i64 xc, .int .i64 xd] 40 (0, 0)) := by rw [hw1]; exact block_new _ _
  have hch := rcheck11 ⟨x0, 1, ⟨x2, x3, x4, lx⟩, ⟨x6, x7, x8, x9, xa⟩, xb, xc, xd⟩ (.slice la lx.length lc) B w1 (hl.keep0 k1) hz h6 hxb
  simp only [RecV] at hch
  rw [hc] at hch
  obtain ⟨c0, c1, c2, c3, c4, c5, c6, c7, c8, c9, ca, cb, cc, cd⟩ := cells14 b1
  have hK := Kp.refl [] w1
  have Hw1 := Lib.hid hw1
  have HCK := Lib.hid hc
  have hri := h.keep0 k1
  clear hw1 b1 hc
  go_enter Tryz.func10, Tryz.ntmps10
  go_wp2_with fail
  rw [← Hw1.out]
  refine hch.mono ?_
  rintro e w2 ⟨rfl, k2⟩
  have hK2 := hK.trans k2
  have hri2 := hri.keep0 k2
  clear hch hK
  have hkn := kentry xb w2 hri2 (by omega)
  have qb := cb _ hK2
  cases hP : k.entry xb with
  | none =>
    rw [hP] at hkn
    simp only [placeI] at hkn
    have hr : R = 9 := by rw [HR.out]; unfold Rx.may; rw [HCK.out]; simp [hP]
    have HR2 := Lib.hid hr
    clear hr
    go_wp2_with fail
    refine hkn.mono ?_
    rintro e w3 ⟨rfl, k3⟩
    have hr := HR2.out
    clear hkn
    have HRZ := Lib.hid hr
    clear hr
    go_wp2_with fail
    go_ret
    exact ⟨by rw [HRZ.out]; rfl, k1.trans (hK2.trans k3)⟩
  | some i =>
    rw [hP] at hkn
    simp only [placeI] at hkn
    have hi0 : (0 : Int) ≤ (i : Int) := by omega
    have hr : R = 0 := by rw [HR.out]; unfold Rx.may; rw [HCK.out]; simp [hP]
    have HR2 := Lib.hid hr
    clear hr
    go_wp2_with fail
    refine hkn.mono ?_
    rintro e w3 ⟨rfl, k3⟩
    have hr := HR2.out
    clear hkn
    have HRZ := Lib.hid hr
    clear hr
    go_wp2_with fail
    go_ret
    exact ⟨by rw [HRZ.out]; rfl, k1.trans (hK2.trans k3)⟩
set_option maxHeartbeats 4000000 in
set_option maxRecDepth 20000 in
theorem kmay2 {B kb : Nat} {k : Rx} (x0 x2 x3 x4 x7 x8 x9 xc xd : Int) (lx : List (Int × Int)) (x6 xa xb : ByteArray) (la : Option Addr) (lc : Nat) (w : World) (h : RIn B kb w k) (hl : LocsAt B w (.slice la lx.length lc) lx) (hz : lx.length ≤ 1000) (h6 : x6.size < 16384) (hxb : xb.size < 16384) (hc : recCheck ⟨x0, 2, ⟨x2, x3, x4, lx⟩, ⟨x6, x7, x8, x9, xa⟩, xb, xc, xd⟩ = 0) (hzV : k.V.length ≤ 900) :
    Calls Tryz.prog 10 #[.pointer (some ⟨kb, 0, none⟩), .agg #[.int .i64 x0, .int .i64 2, .int .i64 x2, .int .i64 x3, .int .i64 x4, .slice la lx.length lc, .string x6, .int .i64 x7, .int .i64 x8, .int .i64 x9, .string xa, .string xb, .int .i64 xc, .int .i64 xd]] w fun e w' => e = .returned (.int .i64 (k.may ⟨x0, 2, ⟨x2, x3, x4, lx⟩, ⟨x6, x7, x8, x9, xa⟩, xb, xc, xd⟩)) ∧ Kp [] w w' := by
  obtain ⟨R, hR⟩ : ∃ R, R = k.may ⟨x0, 2, ⟨x2, x3, x4, lx⟩, ⟨x6, x7, x8, x9, xa⟩, xb, xc, xd⟩ := ⟨_, rfl⟩
  rw [← hR]
  have HR := Lib.hid hR
  clear hR
  obtain ⟨w1, hw1⟩ : ∃ w1, w1 = w.alloc (.cells #[.int .i64 x0, .int .i64 2, .int .i64 x2, .int .i64 x3, .int .i64 x4, .slice la lx.length lc, .string x6, .int .i64 x7, .int .i64 x8, .int .i64 x9, .string xa, .string xb, .int .i64 xc, .int .i64 xd] 40) := ⟨_, rfl⟩
  have k1 : Kp [] w w1 := hw1 ▸ (Kp.refl _ _).alloc _
  have b1 : w1.heap[w.heap.size]? = some (.cells #[.int .i64 x0, .int .i64 2, .int .i64 x2, .int .i64 x3, .int .i64 x4, .slice la lx.length lc, .string x6, .int .i64 x7, .int .i64 x8, .int .i64 x9, .string xa, .string xb, .int .i64 xc, .int .i64 xd] 40 (0, 0)) := by rw [hw1]; exact block_new _ _
  have hch := rcheck11 ⟨x0, 2, ⟨x2, x3, x4, lx⟩, ⟨x6, x7, x8, x9, xa⟩, xb, xc, xd⟩ (.slice la lx.length lc) B w1 (hl.keep0 k1) hz h6 hxb
  simp only [RecV] at hch
  rw [hc] at hch
  obtain ⟨c0, c1, c2, c3, c4, c5, c6, c7, c8, c9, ca, cb, cc, cd⟩ := cells14 b1
  have hK := Kp.refl [] w1
  have Hw1 := Lib.hid hw1
  have HCK := Lib.hid hc
  have hri := h.keep0 k1
  clear hw1 b1 hc
  go_enter Tryz.func10, Tryz.ntmps10
  go_wp2_with fail
  rw [← Hw1.out]
  refine hch.mono ?_
  rintro e w2 ⟨rfl, k2⟩
  have hK2 := hK.trans k2
  have hri2 := hri.keep0 k2
  clear hch hK
  have hkn := kplace x2 w2 hri2 (by omega)
  have q2 := c2 _ hK2
  cases hP : k.place x2 with
  | none =>
    rw [hP] at hkn
    simp only [placeI] at hkn
    have hr : R = 9 := by rw [HR.out]; unfold Rx.may; rw [HCK.out]; simp [hP]
    have HR2 := Lib.hid hr
    clear hr
    go_wp2_with fail
    refine hkn.mono ?_
    rintro e w3 ⟨rfl, k3⟩
    have hr := HR2.out
    clear hkn
    have HRZ := Lib.hid hr
    clear hr
    go_wp2_with fail
    go_ret
    exact ⟨by rw [HRZ.out]; rfl, k1.trans (hK2.trans k3)⟩
  | some i =>
    rw [hP] at hkn
    simp only [placeI] at hkn
    have hi0 : (0 : Int) ≤ (i : Int) := by omega
    obtain ⟨hi, hv⟩ := Rx.placed hP
    have hiI : (i : Int) < (k.V.length : Int) := by omega
    go_wp2_with fail
    refine hkn.mono ?_
    rintro e w3 ⟨rfl, k3⟩
    have hK3 := hK2.trans k3
    obtain ⟨eA, eC, gA, gC, vA, vC, hA, hC, hat⟩ := (hri2.keep0 k3).open
    obtain ⟨g, o, c, lv, hv', -, e0, e1, e2, e3⟩ := hat.volsAt.2 i hi
    simp only [Value.slice.injEq] at hv'
    obtain ⟨rfl, -, rfl⟩ := hv'
    have t2 := Kp.cellAt (X := []) (cell_of_cells (o := 2) hat.top rfl) (by simp)
    have y1 := Kp.cellAt (X := []) e1 (by simp)
    have y2 := Kp.cellAt (X := []) e2 (by simp)
    obtain ⟨⟨p0, p1, p2, pl⟩, hp⟩ : ∃ x, x = k.V[i] := ⟨_, rfl⟩
    rw [← hp] at y1 y2 hv
    simp only at y1 y2
    have HV := Lib.hid hv
    have m3 := Kp.cellAt (X := []) (c3 _ hK3) (by simp)
    have m4 := Kp.cellAt (X := []) (c4 _ hK3) (by simp)
    clear hkn e0 e1 e2 e3 hp hv
    go_wp2_with fail
    by_cases hg : x3 ≤ p1
    · have hgb : decide (x3 ≤ p1) = true := decide_eq_true hg
      have hr : R = 1 := by rw [HR.out]; unfold Rx.may; rw [HCK.out]; simp [hP, HV.out, hg]
      have HR2 := Lib.hid hr
      clear hr
      refine wpB_begin 999 (Kp [] w3) (by kernel_rfl) (by first | exact hK.drew | exact Kp.drew (Kp.refl _ _)) (fun hHeld => ?_)
      refine wpB_take 0 _ ?_ rfl (by kernel_rfl) (fun _ _ _ h => h) rfl hHeld ?_ ?_
      rotate_left
      · (intro W hW; go_simp; try with_reducible rfl)
      try simp only [Act.put, List.setIfInBounds_toArray, List.set_cons_zero, List.set_cons_succ]
      refine wpB_take 1 _ ?_ rfl (by kernel_rfl) (fun _ _ _ h => h) rfl hHeld ?_ ?_
      rotate_left
      · (intro W hW; go_simp; try with_reducible rfl)
      try simp only [Act.put, List.setIfInBounds_toArray, List.set_cons_zero, List.set_cons_succ]
      refine wpB_take 2 _ ?_ rfl (by kernel_rfl) (fun _ _ _ h => h) rfl hHeld ?_ ?_
      rotate_left
      · (intro W hW; go_simp; try with_reducible rfl)
      try simp only [Act.put, List.setIfInBounds_toArray, List.set_cons_zero, List.set_cons_succ]
      refine wpB_take 3 _ ?_ rfl (by kernel_rfl) (fun _ _ _ h => h) rfl hHeld ?_ ?_
      rotate_left
      · (intro W hW; go_simp; try with_reducible rfl)
      try simp only [Act.put, List.setIfInBounds_toArray, List.set_cons_zero, List.set_cons_succ]
      refine wpB_take 4 _ ?_ rfl (by kernel_rfl) (fun _ _ _ h => h) rfl hHeld ?_ ?_
      rotate_left
      · (intro W hW; go_simp; try with_reducible rfl)
      try simp only [Act.put, List.setIfInBounds_toArray, List.set_cons_zero, List.set_cons_succ]
      refine wpB_take 5 _ ?_ rfl (by kernel_rfl) (fun _ _ _ h => h) rfl hHeld ?_ ?_
      rotate_left
      · (intro W hW; go_simp; try with_reducible rfl)
      try simp only [Act.put, List.setIfInBounds_toArray, List.set_cons_zero, List.set_cons_succ]
      refine wpB_take 6 _ ?_ rfl (by kernel_rfl) (fun _ _ _ h => h) rfl hHeld ?_ ?_
      rotate_left
      · (intro W hW; go_simp; try with_reducible rfl)
      try simp only [Act.put, List.setIfInBounds_toArray, List.set_cons_zero, List.set_cons_succ]
      refine wpB_take 7 _ ?_ rfl (by kernel_rfl) (fun _ _ _ h => h) rfl hHeld ?_ ?_
      rotate_left
      · (intro W hW; go_simp; try with_reducible rfl)
      try simp only [Act.put, List.setIfInBounds_toArray, List.set_cons_zero, List.set_cons_succ]
      refine wpB_take 8 _ ?_ rfl (by kernel_rfl) (fun _ _ _ h => h) rfl hHeld ?_ ?_
      rotate_left
      · (intro W hW; go_simp; try with_reducible rfl)
      try simp only [Act.put, List.setIfInBounds_toArray, List.set_cons_zero, List.set_cons_succ]
      refine wpB_take 9 _ ?_ rfl (by kernel_rfl) (fun _ _ _ h => h) rfl hHeld ?_ ?_
      rotate_left
      · (intro W hW; go_simp; try with_reducible rfl)
      try simp only [Act.put, List.setIfInBounds_toArray, List.set_cons_zero, List.set_cons_succ]
      refine wpB_take 10 _ ?_ rfl (by kernel_rfl) (fun _ _ _ h => h) rfl hHeld ?_ ?_
      rotate_left
      · (intro W hW; go_simp; try with_reducible rfl)
      try simp only [Act.put, List.setIfInBounds_toArray, List.set_cons_zero, List.set_cons_succ]
      refine wpB_take 11 _ ?_ rfl (by kernel_rfl) (fun _ _ _ h => h) rfl hHeld ?_ ?_
      rotate_left
      · (intro W hW; go_simp; try with_reducible rfl)
      try simp only [Act.put, List.setIfInBounds_toArray, List.set_cons_zero, List.set_cons_succ]
      refine wpB_take 12 _ ?_ rfl (by kernel_rfl) (fun _ _ _ h => h) rfl hHeld ?_ ?_
      rotate_left
      · (intro W hW; go_simp; try with_reducible rfl)
      try simp only [Act.put, List.setIfInBounds_toArray, List.set_cons_zero, List.set_cons_succ]
      refine wpB_skip 13 _ rfl (by kernel_rfl) (fun _ _ _ h => h) rfl hHeld ?_
      try simp only [Act.put, List.setIfInBounds_toArray, List.set_cons_zero, List.set_cons_succ]
      refine wpB_skip 14 _ rfl (by kernel_rfl) (fun _ _ _ h => h) rfl hHeld ?_
      try simp only [Act.put, List.setIfInBounds_toArray, List.set_cons_zero, List.set_cons_succ]
      refine wpB_skip 15 _ rfl (by kernel_rfl) (fun _ _ _ h => h) rfl hHeld ?_
      try simp only [Act.put, List.setIfInBounds_toArray, List.set_cons_zero, List.set_cons_succ]
      refine wpB_skip 16 _ rfl (by kernel_rfl) (fun _ _ _ h => h) rfl hHeld ?_
      try simp only [Act.put, List.setIfInBounds_toArray, List.set_cons_zero, List.set_cons_succ]
      refine wpB_skip 17 _ rfl (by kernel_rfl) (fun _ _ _ h => h) rfl hHeld ?_
      try simp only [Act.put, List.setIfInBounds_toArray, List.set_cons_zero, List.set_cons_succ]
      refine wpB_skip 18 _ rfl (by kernel_rfl) (fun _ _ _ h => h) rfl hHeld ?_
      try simp only [Act.put, List.setIfInBounds_toArray, List.set_cons_zero, List.set_cons_succ]
      refine wpB_skip 19 _ rfl (by kernel_rfl) (fun _ _ _ h => h) rfl hHeld ?_
      try simp only [Act.put, List.setIfInBounds_toArray, List.set_cons_zero, List.set_cons_succ]
      refine wpB_skip 20 _ rfl (by kernel_rfl) (fun _ _ _ h => h) rfl hHeld ?_
      try simp only [Act.put, List.setIfInBounds_toArray, List.set_cons_zero, List.set_cons_succ]
      refine wpB_skip 21 _ rfl (by kernel_rfl) (fun _ _ _ h => h) rfl hHeld ?_
      try simp only [Act.put, List.setIfInBounds_toArray, List.set_cons_zero, List.set_cons_succ]
      refine wpB_skip 22 _ rfl (by kernel_rfl) (fun _ _ _ h => h) rfl hHeld ?_
      try simp only [Act.put, List.setIfInBounds_toArray, List.set_cons_zero, List.set_cons_succ]
      refine wpB_skip 23 _ rfl (by kernel_rfl) (fun _ _ _ h => h) rfl hHeld ?_
      try simp only [Act.put, List.setIfInBounds_toArray, List.set_cons_zero, List.set_cons_succ]
      refine wpB_skip 24 _ rfl (by kernel_rfl) (fun _ _ _ h => h) rfl hHeld ?_
      try simp only [Act.put, List.setIfInBounds_toArray, List.set_cons_zero, List.set_cons_succ]
      refine wpB_take 25 _ ?_ rfl (by kernel_rfl) (fun _ _ _ h => h) rfl hHeld ?_ ?_
      rotate_left
      · (intro W hW; go_simp; try with_reducible rfl)
      try simp only [Act.put, List.setIfInBounds_toArray, List.set_cons_zero, List.set_cons_succ]
      refine wpB_done (by kernel_rfl) ?_ _
      have hr := HR2.out
      have HRZ := Lib.hid hr
      clear hr
      go_wp2_with fail
      go_ret
      exact ⟨by rw [HRZ.out]; rfl, k1.trans (hK3.trans hHeld)⟩
    · have hgb : decide (x3 ≤ p1) = false := decide_eq_false hg
      have HG := Lib.hid hg
      clear hg
      by_cases hl2 : x4 = p2
      · have hlb : (x4 != p2) = false := by simp [hl2]
        have hr : R = 0 := by rw [HR.out]; unfold Rx.may; rw [HCK.out]; simp [hP, HV.out, HG.out, hl2]
        have HR2 := Lib.hid hr
        clear hr hl2
        refine wpB_begin 999 (Kp [] w3) (by kernel_rfl) (by first | exact hK.drew | exact Kp.drew (Kp.refl _ _)) (fun hHeld => ?_)
        refine wpB_take 0 _ ?_ rfl (by kernel_rfl) (fun _ _ _ h => h) rfl hHeld ?_ ?_
        rotate_left
        · (intro W hW; go_simp; try with_reducible rfl)
        try simp only [Act.put, List.setIfInBounds_toArray, List.set_cons_zero, List.set_cons_succ]
        refine wpB_take 1 _ ?_ rfl (by kernel_rfl) (fun _ _ _ h => h) rfl hHeld ?_ ?_
        rotate_left
        · (intro W hW; go_simp; try with_reducible rfl)
        try simp only [Act.put, List.setIfInBounds_toArray, List.set_cons_zero, List.set_cons_succ]
        refine wpB_take 2 _ ?_ rfl (by kernel_rfl) (fun _ _ _ h => h) rfl hHeld ?_ ?_
        rotate_left
        · (intro W hW; go_simp; try with_reducible rfl)
        try simp only [Act.put, List.setIfInBounds_toArray, List.set_cons_zero, List.set_cons_succ]
        refine wpB_take 3 _ ?_ rfl (by kernel_rfl) (fun _ _ _ h => h) rfl hHeld ?_ ?_
        rotate_left
        · (intro W hW; go_simp; try with_reducible rfl)
        try simp only [Act.put, List.setIfInBounds_toArray, List.set_cons_zero, List.set_cons_succ]
        refine wpB_take 4 _ ?_ rfl (by kernel_rfl) (fun _ _ _ h => h) rfl hHeld ?_ ?_
        rotate_left
        · (intro W hW; go_simp; try with_reducible rfl)
        try simp only [Act.put, List.setIfInBounds_toArray, List.set_cons_zero, List.set_cons_succ]
        refine wpB_take 5 _ ?_ rfl (by kernel_rfl) (fun _ _ _ h => h) rfl hHeld ?_ ?_
        rotate_left
        · (intro W hW; go_simp; try with_reducible rfl)
        try simp only [Act.put, List.setIfInBounds_toArray, List.set_cons_zero, List.set_cons_succ]
        refine wpB_take 6 _ ?_ rfl (by kernel_rfl) (fun _ _ _ h => h) rfl hHeld ?_ ?_
        rotate_left
        · (intro W hW; go_simp; try with_reducible rfl)
        try simp only [Act.put, List.setIfInBounds_toArray, List.set_cons_zero, List.set_cons_succ]
        refine wpB_take 7 _ ?_ rfl (by kernel_rfl) (fun _ _ _ h => h) rfl hHeld ?_ ?_
        rotate_left
        · (intro W hW; go_simp; try with_reducible rfl)
        try simp only [Act.put, List.setIfInBounds_toArray, List.set_cons_zero, List.set_cons_succ]
        refine wpB_take 8 _ ?_ rfl (by kernel_rfl) (fun _ _ _ h => h) rfl hHeld ?_ ?_
        rotate_left
        · (intro W hW; go_simp; try with_reducible rfl)
        try simp only [Act.put, List.setIfInBounds_toArray, List.set_cons_zero, List.set_cons_succ]
        refine wpB_take 9 _ ?_ rfl (by kernel_rfl) (fun _ _ _ h => h) rfl hHeld ?_ ?_
        rotate_left
        · (intro W hW; go_simp; try with_reducible rfl)
        try simp only [Act.put, List.setIfInBounds_toArray, List.set_cons_zero, List.set_cons_succ]
        refine wpB_take 10 _ ?_ rfl (by kernel_rfl) (fun _ _ _ h => h) rfl hHeld ?_ ?_
        rotate_left
        · (intro W hW; go_simp; try with_reducible rfl)
        try simp only [Act.put, List.setIfInBounds_toArray, List.set_cons_zero, List.set_cons_succ]
        refine wpB_take 11 _ ?_ rfl (by kernel_rfl) (fun _ _ _ h => h) rfl hHeld ?_ ?_
        rotate_left
        · (intro W hW; go_simp; try with_reducible rfl)
        try simp only [Act.put, List.setIfInBounds_toArray, List.set_cons_zero, List.set_cons_succ]
        refine wpB_take 12 _ ?_ rfl (by kernel_rfl) (fun _ _ _ h => h) rfl hHeld ?_ ?_
        rotate_left
        · (intro W hW; go_simp; try with_reducible rfl)
        try simp only [Act.put, List.setIfInBounds_toArray, List.set_cons_zero, List.set_cons_succ]
        refine wpB_take 13 _ ?_ rfl (by kernel_rfl) (fun _ _ _ h => h) rfl hHeld ?_ ?_
        rotate_left
        · (intro W hW; go_simp; try with_reducible rfl)
        try simp only [Act.put, List.setIfInBounds_toArray, List.set_cons_zero, List.set_cons_succ]
        refine wpB_take 14 _ ?_ rfl (by kernel_rfl) (fun _ _ _ h => h) rfl hHeld ?_ ?_
        rotate_left
        · (intro W hW; go_simp; try with_reducible rfl)
        try simp only [Act.put, List.setIfInBounds_toArray, List.set_cons_zero, List.set_cons_succ]
        refine wpB_take 15 _ ?_ rfl (by kernel_rfl) (fun _ _ _ h => h) rfl hHeld ?_ ?_
        rotate_left
        · (intro W hW; go_simp; try with_reducible rfl)
        try simp only [Act.put, List.setIfInBounds_toArray, List.set_cons_zero, List.set_cons_succ]
        refine wpB_take 16 _ ?_ rfl (by kernel_rfl) (fun _ _ _ h => h) rfl hHeld ?_ ?_
        rotate_left
        · (intro W hW; go_simp; try with_reducible rfl)
        try simp only [Act.put, List.setIfInBounds_toArray, List.set_cons_zero, List.set_cons_succ]
        refine wpB_take 17 _ ?_ rfl (by kernel_rfl) (fun _ _ _ h => h) rfl hHeld ?_ ?_
        rotate_left
        · (intro W hW; go_simp; try with_reducible rfl)
        try simp only [Act.put, List.setIfInBounds_toArray, List.set_cons_zero, List.set_cons_succ]
        refine wpB_take 18 _ ?_ rfl (by kernel_rfl) (fun _ _ _ h => h) rfl hHeld ?_ ?_
        rotate_left
        · (intro W hW; go_simp; try with_reducible rfl)
        try simp only [Act.put, List.setIfInBounds_toArray, List.set_cons_zero, List.set_cons_succ]
        refine wpB_take 19 _ ?_ rfl (by kernel_rfl) (fun _ _ _ h => h) rfl hHeld ?_ ?_
        rotate_left
        · (intro W hW; go_simp; try with_reducible rfl)
        try simp only [Act.put, List.setIfInBounds_toArray, List.set_cons_zero, List.set_cons_succ]
        refine wpB_take 20 _ ?_ rfl (by kernel_rfl) (fun _ _ _ h => h) rfl hHeld ?_ ?_
        rotate_left
        · (intro W hW; go_simp; try with_reducible rfl)
        try simp only [Act.put, List.setIfInBounds_toArray, List.set_cons_zero, List.set_cons_succ]
        refine wpB_take 21 _ ?_ rfl (by kernel_rfl) (fun _ _ _ h => h) rfl hHeld ?_ ?_
        rotate_left
        · (intro W hW; go_simp; try with_reducible rfl)
        try simp only [Act.put, List.setIfInBounds_toArray, List.set_cons_zero, List.set_cons_succ]
        refine wpB_take 22 _ ?_ rfl (by kernel_rfl) (fun _ _ _ h => h) rfl hHeld ?_ ?_
        rotate_left
        · (intro W hW; go_simp; try with_reducible rfl)
        try simp only [Act.put, List.setIfInBounds_toArray, List.set_cons_zero, List.set_cons_succ]
        refine wpB_take 23 _ ?_ rfl (by kernel_rfl) (fun _ _ _ h => h) rfl hHeld ?_ ?_
        rotate_left
        · (intro W hW; go_simp; try with_reducible rfl)
        try simp only [Act.put, List.setIfInBounds_toArray, List.set_cons_zero, List.set_cons_succ]
        refine wpB_take 24 _ ?_ rfl (by kernel_rfl) (fun _ _ _ h => h) rfl hHeld ?_ ?_
        rotate_left
        · (intro W hW; go_simp; try with_reducible rfl)
        try simp only [Act.put, List.setIfInBounds_toArray, List.set_cons_zero, List.set_cons_succ]
        refine wpB_take 25 _ ?_ rfl (by kernel_rfl) (fun _ _ _ h => h) rfl hHeld ?_ ?_
        rotate_left
        · (intro W hW; go_simp; try with_reducible rfl)
        try simp only [Act.put, List.setIfInBounds_toArray, List.set_cons_zero, List.set_cons_succ]
        refine wpB_done (by kernel_rfl) ?_ _
        have hr := HR2.out
        have HRZ := Lib.hid hr
        clear hr
        go_wp2_with fail
        go_ret
        exact ⟨by rw [HRZ.out]; rfl, k1.trans (hK3.trans hHeld)⟩
      · have hlb : (x4 != p2) = true := by simp [hl2]
        have hr : R = 1 := by rw [HR.out]; unfold Rx.may; rw [HCK.out]; simp [hP, HV.out, hl2]
        have HR2 := Lib.hid hr
        clear hr hl2
        refine wpB_begin 999 (Kp [] w3) (by kernel_rfl) (by first | exact hK.drew | exact Kp.drew (Kp.refl _ _)) (fun hHeld => ?_)
        refine wpB_take 0 _ ?_ rfl (by kernel_rfl) (fun _ _ _ h => h) rfl hHeld ?_ ?_
        rotate_left
        · (intro W hW; go_simp; try with_reducible rfl)
        try simp only [Act.put, List.setIfInBounds_toArray, List.set_cons_zero, List.set_cons_succ]
        refine wpB_take 1 _ ?_ rfl (by kernel_rfl) (fun _ _ _ h => h) rfl hHeld ?_ ?_
        rotate_left
        · (intro W hW; go_simp; try with_reducible rfl)
        try simp only [Act.put, List.setIfInBounds_toArray, List.set_cons_zero, List.set_cons_succ]
        refine wpB_take 2 _ ?_ rfl (by kernel_rfl) (fun _ _ _ h => h) rfl hHeld ?_ ?_
        rotate_left
        · (intro W hW; go_simp; try with_reducible rfl)
        try simp only [Act.put, List.setIfInBounds_toArray, List.set_cons_zero, List.set_cons_succ]
        refine wpB_take 3 _ ?_ rfl (by kernel_rfl) (fun _ _ _ h => h) rfl hHeld ?_ ?_
        rotate_left
        · (intro W hW; go_simp; try with_reducible rfl)
        try simp only [Act.put, List.setIfInBounds_toArray, List.set_cons_zero, List.set_cons_succ]
        refine wpB_take 4 _ ?_ rfl (by kernel_rfl) (fun _ _ _ h => h) rfl hHeld ?_ ?_
        rotate_left
        · (intro W hW; go_simp; try with_reducible rfl)
        try simp only [Act.put, List.setIfInBounds_toArray, List.set_cons_zero, List.set_cons_succ]
        refine wpB_take 5 _ ?_ rfl (by kernel_rfl) (fun _ _ _ h => h) rfl hHeld ?_ ?_
        rotate_left
        · (intro W hW; go_simp; try with_reducible rfl)
        try simp only [Act.put, List.setIfInBounds_toArray, List.set_cons_zero, List.set_cons_succ]
        refine wpB_take 6 _ ?_ rfl (by kernel_rfl) (fun _ _ _ h => h) rfl hHeld ?_ ?_
        rotate_left
        · (intro W hW; go_simp; try with_reducible rfl)
        try simp only [Act.put, List.setIfInBounds_toArray, List.set_cons_zero, List.set_cons_succ]
        refine wpB_take 7 _ ?_ rfl (by kernel_rfl) (fun _ _ _ h => h) rfl hHeld ?_ ?_
        rotate_left
        · (intro W hW; go_simp; try with_reducible rfl)
        try simp only [Act.put, List.setIfInBounds_toArray, List.set_cons_zero, List.set_cons_succ]
        refine wpB_take 8 _ ?_ rfl (by kernel_rfl) (fun _ _ _ h => h) rfl hHeld ?_ ?_
        rotate_left
        · (intro W hW; go_simp; try with_reducible rfl)
        try simp only [Act.put, List.setIfInBounds_toArray, List.set_cons_zero, List.set_cons_succ]
        refine wpB_take 9 _ ?_ rfl (by kernel_rfl) (fun _ _ _ h => h) rfl hHeld ?_ ?_
        rotate_left
        · (intro W hW; go_simp; try with_reducible rfl)
        try simp only [Act.put, List.setIfInBounds_toArray, List.set_cons_zero, List.set_cons_succ]
        refine wpB_take 10 _ ?_ rfl (by kernel_rfl) (fun _ _ _ h => h) rfl hHeld ?_ ?_
        rotate_left
        · (intro W hW; go_simp; try with_reducible rfl)
        try simp only [Act.put, List.setIfInBounds_toArray, List.set_cons_zero, List.set_cons_succ]
        refine wpB_take 11 _ ?_ rfl (by kernel_rfl) (fun _ _ _ h => h) rfl hHeld ?_ ?_
        rotate_left
        · (intro W hW; go_simp; try with_reducible rfl)
        try simp only [Act.put, List.setIfInBounds_toArray, List.set_cons_zero, List.set_cons_succ]
        refine wpB_take 12 _ ?_ rfl (by kernel_rfl) (fun _ _ _ h => h) rfl hHeld ?_ ?_
        rotate_left
        · (intro W hW; go_simp; try with_reducible rfl)
        try simp only [Act.put, List.setIfInBounds_toArray, List.set_cons_zero, List.set_cons_succ]
        refine wpB_take 13 _ ?_ rfl (by kernel_rfl) (fun _ _ _ h => h) rfl hHeld ?_ ?_
        rotate_left
        · (intro W hW; go_simp; try with_reducible rfl)
        try simp only [Act.put, List.setIfInBounds_toArray, List.set_cons_zero, List.set_cons_succ]
        refine wpB_take 14 _ ?_ rfl (by kernel_rfl) (fun _ _ _ h => h) rfl hHeld ?_ ?_
        rotate_left
        · (intro W hW; go_simp; try with_reducible rfl)
        try simp only [Act.put, List.setIfInBounds_toArray, List.set_cons_zero, List.set_cons_succ]
        refine wpB_take 15 _ ?_ rfl (by kernel_rfl) (fun _ _ _ h => h) rfl hHeld ?_ ?_
        rotate_left
        · (intro W hW; go_simp; try with_reducible rfl)
        try simp only [Act.put, List.setIfInBounds_toArray, List.set_cons_zero, List.set_cons_succ]
        refine wpB_take 16 _ ?_ rfl (by kernel_rfl) (fun _ _ _ h => h) rfl hHeld ?_ ?_
        rotate_left
        · (intro W hW; go_simp; try with_reducible rfl)
        try simp only [Act.put, List.setIfInBounds_toArray, List.set_cons_zero, List.set_cons_succ]
        refine wpB_take 17 _ ?_ rfl (by kernel_rfl) (fun _ _ _ h => h) rfl hHeld ?_ ?_
        rotate_left
        · (intro W hW; go_simp; try with_reducible rfl)
        try simp only [Act.put, List.setIfInBounds_toArray, List.set_cons_zero, List.set_cons_succ]
        refine wpB_take 18 _ ?_ rfl (by kernel_rfl) (fun _ _ _ h => h) rfl hHeld ?_ ?_
        rotate_left
        · (intro W hW; go_simp; try with_reducible rfl)
        try simp only [Act.put, List.setIfInBounds_toArray, List.set_cons_zero, List.set_cons_succ]
        refine wpB_take 19 _ ?_ rfl (by kernel_rfl) (fun _ _ _ h => h) rfl hHeld ?_ ?_
        rotate_left
        · (intro W hW; go_simp; try with_reducible rfl)
        try simp only [Act.put, List.setIfInBounds_toArray, List.set_cons_zero, List.set_cons_succ]
        refine wpB_take 20 _ ?_ rfl (by kernel_rfl) (fun _ _ _ h => h) rfl hHeld ?_ ?_
        rotate_left
        · (intro W hW; go_simp; try with_reducible rfl)
        try simp only [Act.put, List.setIfInBounds_toArray, List.set_cons_zero, List.set_cons_succ]
        refine wpB_take 21 _ ?_ rfl (by kernel_rfl) (fun _ _ _ h => h) rfl hHeld ?_ ?_
        rotate_left
        · (intro W hW; go_simp; try with_reducible rfl)
        try simp only [Act.put, List.setIfInBounds_toArray, List.set_cons_zero, List.set_cons_succ]
        refine wpB_take 22 _ ?_ rfl (by kernel_rfl) (fun _ _ _ h => h) rfl hHeld ?_ ?_
        rotate_left
        · (intro W hW; go_simp; try with_reducible rfl)
        try simp only [Act.put, List.setIfInBounds_toArray, List.set_cons_zero, List.set_cons_succ]
        refine wpB_take 23 _ ?_ rfl (by kernel_rfl) (fun _ _ _ h => h) rfl hHeld ?_ ?_
        rotate_left
        · (intro W hW; go_simp; try with_reducible rfl)
        try simp only [Act.put, List.setIfInBounds_toArray, List.set_cons_zero, List.set_cons_succ]
        refine wpB_take 24 _ ?_ rfl (by kernel_rfl) (fun _ _ _ h => h) rfl hHeld ?_ ?_
        rotate_left
        · (intro W hW; go_simp; try with_reducible rfl)
        try simp only [Act.put, List.setIfInBounds_toArray, List.set_cons_zero, List.set_cons_succ]
        refine wpB_take 25 _ ?_ rfl (by kernel_rfl) (fun _ _ _ h => h) rfl hHeld ?_ ?_
        rotate_left
        · (intro W hW; go_simp; try with_reducible rfl)
        try simp only [Act.put, List.setIfInBounds_toArray, List.set_cons_zero, List.set_cons_succ]
        refine wpB_done (by kernel_rfl) ?_ _
        have hr := HR2.out
        have HRZ := Lib.hid hr
        clear hr
        go_wp2_with fail
        go_ret
        exact ⟨by rw [HRZ.out]; rfl, k1.trans (hK3.trans hHeld)⟩
set_option maxHeartbeats 4000000 in
set_option maxRecDepth 20000 in
theorem kmay3 {B kb : Nat} {k : Rx} (x0 x2 x3 x4 x7 x8 x9 xc xd : Int) (lx : List (Int × Int)) (x6 xa xb : ByteArray) (la : Option Addr) (lc : Nat) (w : World) (h : RIn B kb w k) (hl : LocsAt B w (.slice la lx.length lc) lx) (hz : lx.length ≤ 1000) (h6 : x6.size < 16384) (hxb : xb.size < 16384) (hc : recCheck ⟨x0, 3, ⟨x2, x3, x4, lx⟩, ⟨x6, x7, x8, x9, xa⟩, xb, xc, xd⟩ = 0) (hzV : k.V.length ≤ 900) (hzH : k.H.length ≤ 900) (hlen : ∀ v ∈ k.V, 0 ≤ v.len ∧ v.len ≤ 384) :
    Calls Tryz.prog 10 #[.pointer (some ⟨kb, 0, none⟩), .agg #[.int .i64 x0, .int .i64 3, .int .i64 x2, .int .i64 x3, .int .i64 x4, .slice la lx.length lc, .string x6, .int .i64 x7, .int .i64 x8, .int .i64 x9, .string xa, .string xb, .int .i64 xc, .int .i64 xd]] w fun e w' => e = .returned (.int .i64 (k.may ⟨x0, 3, ⟨x2, x3, x4, lx⟩, ⟨x6, x7, x8, x9, xa⟩, xb, xc, xd⟩)) ∧ Kp [] w w' := by
  obtain ⟨R, hR⟩ : ∃ R, R = k.may ⟨x0, 3, ⟨x2, x3, x4, lx⟩, ⟨x6, x7, x8, x9, xa⟩, xb, xc, xd⟩ := ⟨_, rfl⟩
  rw [← hR]
  have HR := Lib.hid hR
  clear hR
  obtain ⟨w1, hw1⟩ : ∃ w1, w1 = w.alloc (.cells #[.int .i64 x0, .int .i64 3, .int .i64 x2, .int .i64 x3, .int .i64 x4, .slice la lx.length lc, .string x6, .int .i64 x7, .int .i64 x8, .int .i64 x9, .string xa, .string xb, .int .i64 xc, .int .i64 xd] 40) := ⟨_, rfl⟩
  have k1 : Kp [] w w1 := hw1 ▸ (Kp.refl _ _).alloc _
  have b1 : w1.heap[w.heap.size]? = some (.cells #[.int .i64 x0, .int .i64 3, .int .i64 x2, .int .i64 x3, .int .i64 x4, .slice la lx.length lc, .string x6, .int .i64 x7, .int .i64 x8, .int .i64 x9, .string xa, .string xb, .int .i64 xc, .int .i64 xd] 40 (0, 0)) := by rw [hw1]; exact block_new _ _
  have hch := rcheck11 ⟨x0, 3, ⟨x2, x3, x4, lx⟩, ⟨x6, x7, x8, x9, xa⟩, xb, xc, xd⟩ (.slice la lx.length lc) B w1 (hl.keep0 k1) hz h6 hxb
  simp only [RecV] at hch
  rw [hc] at hch
  obtain ⟨c0, c1, c2, c3, c4, c5, c6, c7, c8, c9, ca, cb, cc, cd⟩ := cells14 b1
  have hK := Kp.refl [] w1
  have Hw1 := Lib.hid hw1
  have HCK := Lib.hid hc
  have hri := h.keep0 k1
  clear hw1 b1 hc
  go_enter Tryz.func10, Tryz.ntmps10
  go_wp2_with fail
  rw [← Hw1.out]
  refine hch.mono ?_
  rintro e w2 ⟨rfl, k2⟩
  have hK2 := hK.trans k2
  have hri2 := hri.keep0 k2
  clear hch hK
  have hka := kplace xc w2 hri2 (by omega)
  have hkb := fun W (k0 : Kp [] w2 W) => kplace xd W (hri2.keep0 k0) (by omega)
  have qc := cc _ hK2
  cases hP : k.place xc with
  | none =>
    rw [hP] at hka
    simp only [placeI] at hka
    have hr : R = 9 := by rw [HR.out]; unfold Rx.may; rw [HCK.out]; simp [hP]
    have HR2 := Lib.hid hr
    clear hr
    cases hQ : k.place xd with
    | none =>
      rw [hQ] at hkb
      simp only [placeI] at hkb
      go_wp2_with fail
      refine hka.mono ?_
      rintro e w3 ⟨rfl, k3⟩
      have hK3 := hK2.trans k3
      have hkb := hkb w3 k3
      have qd := cd _ hK3
      clear hka
      go_wp2_with fail
      refine hkb.mono ?_
      rintro e w4 ⟨rfl, k4⟩
      have hK4 := hK3.trans k4
      have hri4 := (hri2.keep0 k3).keep0 k4
      clear hkb
      have hr := HR2.out
      have HRZ := Lib.hid hr
      clear hr
      go_wp2_with fail
      go_ret
      exact ⟨by rw [HRZ.out]; rfl, k1.trans (hK4)⟩
    | some j =>
      have hj0 : (0 : Int) ≤ (j : Int) := by omega
      rw [hQ] at hkb
      simp only [placeI] at hkb
      go_wp2_with fail
      refine hka.mono ?_
      rintro e w3 ⟨rfl, k3⟩
      have hK3 := hK2.trans k3
      have hkb := hkb w3 k3
      have qd := cd _ hK3
      clear hka
      go_wp2_with fail
      refine hkb.mono ?_
      rintro e w4 ⟨rfl, k4⟩
      have hK4 := hK3.trans k4
      have hri4 := (hri2.keep0 k3).keep0 k4
      clear hkb
      have hr := HR2.out
      have HRZ := Lib.hid hr
      clear hr
      go_wp2_with fail
      go_ret
      exact ⟨by rw [HRZ.out]; rfl, k1.trans (hK4)⟩
  | some i =>
    rw [hP] at hka
    simp only [placeI] at hka
    have hi0 : (0 : Int) ≤ (i : Int) := by omega
    obtain ⟨hi, hv⟩ := Rx.placed hP
    have hiI : (i : Int) < (k.V.length : Int) := by omega
    cases hQ : k.place xd with
    | none =>
      rw [hQ] at hkb
      simp only [placeI] at hkb
      have hr : R = 9 := by rw [HR.out]; unfold Rx.may; rw [HCK.out]; simp [hQ]
      have HR2 := Lib.hid hr
      clear hr
      go_wp2_with fail
      refine hka.mono ?_
      rintro e w3 ⟨rfl, k3⟩
      have hK3 := hK2.trans k3
      have hkb := hkb w3 k3
      have qd := cd _ hK3
      clear hka
      go_wp2_with fail
      refine hkb.mono ?_
      rintro e w4 ⟨rfl, k4⟩
      have hK4 := hK3.trans k4
      have hri4 := (hri2.keep0 k3).keep0 k4
      clear hkb
      have hr := HR2.out
      have HRZ := Lib.hid hr
      clear hr
      go_wp2_with fail
      go_ret
      exact ⟨by rw [HRZ.out]; rfl, k1.trans (hK4)⟩
    | some j =>
      rw [hQ] at hkb
      simp only [placeI] at hkb
      have hj0 : (0 : Int) ≤ (j : Int) := by omega
      obtain ⟨hj, hu⟩ := Rx.placed hQ
      have hjI : (j : Int) < (k.V.length : Int) := by omega
      go_wp2_with fail
      refine hka.mono ?_
      rintro e w3 ⟨rfl, k3⟩
      have hK3 := hK2.trans k3
      have hkb := hkb w3 k3
      have qd := cd _ hK3
      clear hka
      go_wp2_with fail
      refine hkb.mono ?_
      rintro e w4 ⟨rfl, k4⟩
      have hK4 := hK3.trans k4
      have hri4 := (hri2.keep0 k3).keep0 k4
      clear hkb
      have q2 := c2 _ hK4
      have hhd := khad x2 w4 hri4 (by omega)
      cases hH : has k.H x2 with
      | true =>
        rw [hH] at hhd
        have hr : R = 13 := by rw [HR.out]; unfold Rx.may; rw [HCK.out]; simp [hP, hQ, hH]
        have HR2 := Lib.hid hr
        clear hr
        go_wp2_with fail
        refine hhd.mono ?_
        rintro e w5 ⟨rfl, k5⟩
        have hr := HR2.out
        clear hhd
        have HRZ := Lib.hid hr
        clear hr
        go_wp2_with fail
        go_ret
        exact ⟨by rw [HRZ.out]; rfl, k1.trans (hK4.trans k5)⟩
      | false =>
        rw [hH] at hhd
        go_wp2_with fail
        refine hhd.mono ?_
        rintro e w5 ⟨rfl, k5⟩
        have hK5 := hK4.trans k5
        clear hhd
        obtain ⟨eA, eC, gA, gC, vA, vC, hA, hC, hat⟩ := (hri4.keep0 k5).open
        obtain ⟨g, o, c, lv, hv', -, -, -, e2, -⟩ := hat.volsAt.2 i hi
        simp only [Value.slice.injEq] at hv'
        obtain ⟨rfl, -, rfl⟩ := hv'
        obtain ⟨g', o', c', lv', hv'', -, -, -, e2', -⟩ := hat.volsAt.2 j hj
        simp only [Value.slice.injEq, Option.some.injEq, Addr.mk.injEq] at hv''
        obtain ⟨⟨rfl, rfl, -⟩, -, rfl⟩ := hv''
        have t2 := Kp.cellAt (X := []) (cell_of_cells (o := 2) hat.top rfl) (by simp)
        have y1 := Kp.cellAt (X := []) e2 (by simp)
        have y2 := Kp.cellAt (X := []) e2' (by simp)
        have hl1 := hlen _ (List.getElem_mem hi)
        have hl2 := hlen _ (List.getElem_mem hj)
        obtain ⟨⟨p0, p1, p2, pl⟩, hp⟩ : ∃ x, x = k.V[i] := ⟨_, rfl⟩
        obtain ⟨⟨q0, q1, q2', ql⟩, hq⟩ : ∃ x, x = k.V[j] := ⟨_, rfl⟩
        rw [← hp] at y1 hv hl1
        rw [← hq] at y2 hu hl2
        simp only at y1 y2 hl1 hl2
        have HV := Lib.hid hv
        have HU := Lib.hid hu
        have m4 := Kp.cellAt (X := []) (c4 _ hK5) (by simp)
        have hwr := wrap_id (p2 + q2') (by omega) (by omega)
        clear e2 e2' hp hv hq hu
        go_wp2_with fail
        by_cases hl3 : x4 = p2 + q2'
        · have hlb : (x4 != p2 + q2') = false := by simp [hl3]
          have hr : R = 0 := by rw [HR.out]; unfold Rx.may; rw [HCK.out]; simp [hP, hQ, hH, HV.out, HU.out, hl3]
          have HR2 := Lib.hid hr
          clear hr hl3
          refine wpB_begin 999 (Kp [] w5) (by kernel_rfl) (by first | exact hK.drew | exact Kp.drew (Kp.refl _ _)) (fun hHeld => ?_)
          refine wpB_take 0 _ ?_ rfl (by kernel_rfl) (fun _ _ _ h => h) rfl hHeld ?_ ?_
          rotate_left
          · (intro W hW; go_simp; try with_reducible rfl)
          try simp only [Act.put, List.setIfInBounds_toArray, List.set_cons_zero, List.set_cons_succ]
          refine wpB_take 1 _ ?_ rfl (by kernel_rfl) (fun _ _ _ h => h) rfl hHeld ?_ ?_
          rotate_left
          · (intro W hW; go_simp; try with_reducible rfl)
          try simp only [Act.put, List.setIfInBounds_toArray, List.set_cons_zero, List.set_cons_succ]
          refine wpB_take 2 _ ?_ rfl (by kernel_rfl) (fun _ _ _ h => h) rfl hHeld ?_ ?_
          rotate_left
          · (intro W hW; go_simp; try with_reducible rfl)
          try simp only [Act.put, List.setIfInBounds_toArray, List.set_cons_zero, List.set_cons_succ]
          refine wpB_take 3 _ ?_ rfl (by kernel_rfl) (fun _ _ _ h => h) rfl hHeld ?_ ?_
          rotate_left
          · (intro W hW; go_simp; try with_reducible rfl)
          try simp only [Act.put, List.setIfInBounds_toArray, List.set_cons_zero, List.set_cons_succ]
          refine wpB_take 4 _ ?_ rfl (by kernel_rfl) (fun _ _ _ h => h) rfl hHeld ?_ ?_
          rotate_left
          · (intro W hW; go_simp; try with_reducible rfl)
          try simp only [Act.put, List.setIfInBounds_toArray, List.set_cons_zero, List.set_cons_succ]
          refine wpB_take 5 _ ?_ rfl (by kernel_rfl) (fun _ _ _ h => h) rfl hHeld ?_ ?_
          rotate_left
          · (intro W hW; go_simp; try with_reducible rfl)
          try simp only [Act.put, List.setIfInBounds_toArray, List.set_cons_zero, List.set_cons_succ]
          refine wpB_take 6 _ ?_ rfl (by kernel_rfl) (fun _ _ _ h => h) rfl hHeld ?_ ?_
          rotate_left
          · (intro W hW; go_simp; try with_reducible rfl)
          try simp only [Act.put, List.setIfInBounds_toArray, List.set_cons_zero, List.set_cons_succ]
          refine wpB_take 7 _ ?_ rfl (by kernel_rfl) (fun _ _ _ h => h) rfl hHeld ?_ ?_
          rotate_left
          · (intro W hW; go_simp; try with_reducible rfl)
          try simp only [Act.put, List.setIfInBounds_toArray, List.set_cons_zero, List.set_cons_succ]
          refine wpB_take 8 _ ?_ rfl (by kernel_rfl) (fun _ _ _ h => h) rfl hHeld ?_ ?_
          rotate_left
          · (intro W hW; go_simp; try with_reducible rfl)
          try simp only [Act.put, List.setIfInBounds_toArray, List.set_cons_zero, List.set_cons_succ]
          refine wpB_take 9 _ ?_ rfl (by kernel_rfl) (fun _ _ _ h => h) rfl hHeld ?_ ?_
          rotate_left
          · (intro W hW; go_simp; try with_reducible rfl)
          try simp only [Act.put, List.setIfInBounds_toArray, List.set_cons_zero, List.set_cons_succ]
          refine wpB_take 10 _ ?_ rfl (by kernel_rfl) (fun _ _ _ h => h) rfl hHeld ?_ ?_
          rotate_left
          · (intro W hW; go_simp; try with_reducible rfl)
          try simp only [Act.put, List.setIfInBounds_toArray, List.set_cons_zero, List.set_cons_succ]
          refine wpB_take 11 _ ?_ rfl (by kernel_rfl) (fun _ _ _ h => h) rfl hHeld ?_ ?_
          rotate_left
          · (intro W hW; go_simp; try with_reducible rfl)
          try simp only [Act.put, List.setIfInBounds_toArray, List.set_cons_zero, List.set_cons_succ]
          refine wpB_take 12 _ ?_ rfl (by kernel_rfl) (fun _ _ _ h => h) rfl hHeld ?_ ?_
          rotate_left
          · (intro W hW; go_simp; try with_reducible rfl)
          try simp only [Act.put, List.setIfInBounds_toArray, List.set_cons_zero, List.set_cons_succ]
          refine wpB_take 13 _ ?_ rfl (by kernel_rfl) (fun _ _ _ h => h) rfl hHeld ?_ ?_
          rotate_left
          · (intro W hW; go_simp; try with_reducible rfl)
          try simp only [Act.put, List.setIfInBounds_toArray, List.set_cons_zero, List.set_cons_succ]
          refine wpB_take 14 _ ?_ rfl (by kernel_rfl) (fun _ _ _ h => h) rfl hHeld ?_ ?_
          rotate_left
          · (intro W hW; go_simp; try with_reducible rfl)
          try simp only [Act.put, List.setIfInBounds_toArray, List.set_cons_zero, List.set_cons_succ]
          refine wpB_take 15 _ ?_ rfl (by kernel_rfl) (fun _ _ _ h => h) rfl hHeld ?_ ?_
          rotate_left
          · (intro W hW; go_simp; try with_reducible rfl)
          try simp only [Act.put, List.setIfInBounds_toArray, List.set_cons_zero, List.set_cons_succ]
          refine wpB_take 16 _ ?_ rfl (by kernel_rfl) (fun _ _ _ h => h) rfl hHeld ?_ ?_
          rotate_left
          · (intro W hW; go_simp; try with_reducible rfl)
          try simp only [Act.put, List.setIfInBounds_toArray, List.set_cons_zero, List.set_cons_succ]
          refine wpB_take 17 _ ?_ rfl (by kernel_rfl) (fun _ _ _ h => h) rfl hHeld ?_ ?_
          rotate_left
          · (intro W hW; go_simp; try with_reducible rfl)
          try simp only [Act.put, List.setIfInBounds_toArray, List.set_cons_zero, List.set_cons_succ]
          refine wpB_take 18 _ ?_ rfl (by kernel_rfl) (fun _ _ _ h => h) rfl hHeld ?_ ?_
          rotate_left
          · (intro W hW; go_simp; try with_reducible rfl)
          try simp only [Act.put, List.setIfInBounds_toArray, List.set_cons_zero, List.set_cons_succ]
          refine wpB_take 19 _ ?_ rfl (by kernel_rfl) (fun _ _ _ h => h) rfl hHeld ?_ ?_
          rotate_left
          · (intro W hW; go_simp; try with_reducible rfl)
          try simp only [Act.put, List.setIfInBounds_toArray, List.set_cons_zero, List.set_cons_succ]
          refine wpB_take 20 _ ?_ rfl (by kernel_rfl) (fun _ _ _ h => h) rfl hHeld ?_ ?_
          rotate_left
          · (intro W hW; go_simp; try with_reducible rfl)
          try simp only [Act.put, List.setIfInBounds_toArray, List.set_cons_zero, List.set_cons_succ]
          refine wpB_done (by kernel_rfl) ?_ _
          have hr := HR2.out
          have HRZ := Lib.hid hr
          clear hr
          go_wp2_with fail
          go_ret
          exact ⟨by rw [HRZ.out]; rfl, k1.trans (hK5.trans hHeld)⟩
        · have hlb : (x4 != p2 + q2') = true := by simp [hl3]
          have hr : R = 1 := by rw [HR.out]; unfold Rx.may; rw [HCK.out]; simp [hP, hQ, hH, HV.out, HU.out, hl3]
          have HR2 := Lib.hid hr
          clear hr hl3
          refine wpB_begin 999 (Kp [] w5) (by kernel_rfl) (by first | exact hK.drew | exact Kp.drew (Kp.refl _ _)) (fun hHeld => ?_)
          refine wpB_take 0 _ ?_ rfl (by kernel_rfl) (fun _ _ _ h => h) rfl hHeld ?_ ?_
          rotate_left
          · (intro W hW; go_simp; try with_reducible rfl)
          try simp only [Act.put, List.setIfInBounds_toArray, List.set_cons_zero, List.set_cons_succ]
          refine wpB_take 1 _ ?_ rfl (by kernel_rfl) (fun _ _ _ h => h) rfl hHeld ?_ ?_
          rotate_left
          · (intro W hW; go_simp; try with_reducible rfl)
          try simp only [Act.put, List.setIfInBounds_toArray, List.set_cons_zero, List.set_cons_succ]
          refine wpB_take 2 _ ?_ rfl (by kernel_rfl) (fun _ _ _ h => h) rfl hHeld ?_ ?_
          rotate_left
          · (intro W hW; go_simp; try with_reducible rfl)
          try simp only [Act.put, List.setIfInBounds_toArray, List.set_cons_zero, List.set_cons_succ]
          refine wpB_take 3 _ ?_ rfl (by kernel_rfl) (fun _ _ _ h => h) rfl hHeld ?_ ?_
          rotate_left
          · (intro W hW; go_simp; try with_reducible rfl)
          try simp only [Act.put, List.setIfInBounds_toArray, List.set_cons_zero, List.set_cons_succ]
          refine wpB_take 4 _ ?_ rfl (by kernel_rfl) (fun _ _ _ h => h) rfl hHeld ?_ ?_
          rotate_left
          · (intro W hW; go_simp; try with_reducible rfl)
          try simp only [Act.put, List.setIfInBounds_toArray, List.set_cons_zero, List.set_cons_succ]
          refine wpB_take 5 _ ?_ rfl (by kernel_rfl) (fun _ _ _ h => h) rfl hHeld ?_ ?_
          rotate_left
          · (intro W hW; go_simp; try with_reducible rfl)
          try simp only [Act.put, List.setIfInBounds_toArray, List.set_cons_zero, List.set_cons_succ]
          refine wpB_take 6 _ ?_ rfl (by kernel_rfl) (fun _ _ _ h => h) rfl hHeld ?_ ?_
          rotate_left
          · (intro W hW; go_simp; try with_reducible rfl)
          try simp only [Act.put, List.setIfInBounds_toArray, List.set_cons_zero, List.set_cons_succ]
          refine wpB_take 7 _ ?_ rfl (by kernel_rfl) (fun _ _ _ h => h) rfl hHeld ?_ ?_
          rotate_left
          · (intro W hW; go_simp; try with_reducible rfl)
          try simp only [Act.put, List.setIfInBounds_toArray, List.set_cons_zero, List.set_cons_succ]
          refine wpB_take 8 _ ?_ rfl (by kernel_rfl) (fun _ _ _ h => h) rfl hHeld ?_ ?_
          rotate_left
          · (intro W hW; go_simp; try with_reducible rfl)
          try simp only [Act.put, List.setIfInBounds_toArray, List.set_cons_zero, List.set_cons_succ]
          refine wpB_take 9 _ ?_ rfl (by kernel_rfl) (fun _ _ _ h => h) rfl hHeld ?_ ?_
          rotate_left
          · (intro W hW; go_simp; try with_reducible rfl)
          try simp only [Act.put, List.setIfInBounds_toArray, List.set_cons_zero, List.set_cons_succ]
          refine wpB_take 10 _ ?_ rfl (by kernel_rfl) (fun _ _ _ h => h) rfl hHeld ?_ ?_
          rotate_left
          · (intro W hW; go_simp; try with_reducible rfl)
          try simp only [Act.put, List.setIfInBounds_toArray, List.set_cons_zero, List.set_cons_succ]
          refine wpB_take 11 _ ?_ rfl (by kernel_rfl) (fun _ _ _ h => h) rfl hHeld ?_ ?_
          rotate_left
          · (intro W hW; go_simp; try with_reducible rfl)
          try simp only [Act.put, List.setIfInBounds_toArray, List.set_cons_zero, List.set_cons_succ]
          refine wpB_take 12 _ ?_ rfl (by kernel_rfl) (fun _ _ _ h => h) rfl hHeld ?_ ?_
          rotate_left
          · (intro W hW; go_simp; try with_reducible rfl)
          try simp only [Act.put, List.setIfInBounds_toArray, List.set_cons_zero, List.set_cons_succ]
          refine wpB_take 13 _ ?_ rfl (by kernel_rfl) (fun _ _ _ h => h) rfl hHeld ?_ ?_
          rotate_left
          · (intro W hW; go_simp; try with_reducible rfl)
          try simp only [Act.put, List.setIfInBounds_toArray, List.set_cons_zero, List.set_cons_succ]
          refine wpB_take 14 _ ?_ rfl (by kernel_rfl) (fun _ _ _ h => h) rfl hHeld ?_ ?_
          rotate_left
          · (intro W hW; go_simp; try with_reducible rfl)
          try simp only [Act.put, List.setIfInBounds_toArray, List.set_cons_zero, List.set_cons_succ]
          refine wpB_take 15 _ ?_ rfl (by kernel_rfl) (fun _ _ _ h => h) rfl hHeld ?_ ?_
          rotate_left
          · (intro W hW; go_simp; try with_reducible rfl)
          try simp only [Act.put, List.setIfInBounds_toArray, List.set_cons_zero, List.set_cons_succ]
          refine wpB_take 16 _ ?_ rfl (by kernel_rfl) (fun _ _ _ h => h) rfl hHeld ?_ ?_
          rotate_left
          · (intro W hW; go_simp; try with_reducible rfl)
          try simp only [Act.put, List.setIfInBounds_toArray, List.set_cons_zero, List.set_cons_succ]
          refine wpB_take 17 _ ?_ rfl (by kernel_rfl) (fun _ _ _ h => h) rfl hHeld ?_ ?_
          rotate_left
          · (intro W hW; go_simp; try with_reducible rfl)
          try simp only [Act.put, List.setIfInBounds_toArray, List.set_cons_zero, List.set_cons_succ]
          refine wpB_take 18 _ ?_ rfl (by kernel_rfl) (fun _ _ _ h => h) rfl hHeld ?_ ?_
          rotate_left
          · (intro W hW; go_simp; try with_reducible rfl)
          try simp only [Act.put, List.setIfInBounds_toArray, List.set_cons_zero, List.set_cons_succ]
          refine wpB_take 19 _ ?_ rfl (by kernel_rfl) (fun _ _ _ h => h) rfl hHeld ?_ ?_
          rotate_left
          · (intro W hW; go_simp; try with_reducible rfl)
          try simp only [Act.put, List.setIfInBounds_toArray, List.set_cons_zero, List.set_cons_succ]
          refine wpB_take 20 _ ?_ rfl (by kernel_rfl) (fun _ _ _ h => h) rfl hHeld ?_ ?_
          rotate_left
          · (intro W hW; go_simp; try with_reducible rfl)
          try simp only [Act.put, List.setIfInBounds_toArray, List.set_cons_zero, List.set_cons_succ]
          refine wpB_done (by kernel_rfl) ?_ _
          have hr := HR2.out
          have HRZ := Lib.hid hr
          clear hr
          go_wp2_with fail
          go_ret
          exact ⟨by rw [HRZ.out]; rfl, k1.trans (hK5.trans hHeld)⟩
set_option maxHeartbeats 400000 in
theorem kmay {B kb : Nat} {k : Rx} (r : RecD) (lv : Value) (w : World) (h : RIn B kb w k) (hl : LocsAt B w lv r.vol.locs) (hz : r.vol.locs.length ≤ 1000) (h6 : r.ent.key.size < 16384) (hxb : r.key.size < 16384) (hzE : k.E.length ≤ 900) (hzG : k.G.length ≤ 900) (hzV : k.V.length ≤ 900) (hzH : k.H.length ≤ 900) (hlen : ∀ v ∈ k.V, 0 ≤ v.len ∧ v.len ≤ 384) :
    Calls Tryz.prog 10 #[.pointer (some ⟨kb, 0, none⟩), .agg (RecV r lv)] w fun e w' => e = .returned (.int .i64 (k.may r)) ∧ Kp [] w w' := by
  obtain ⟨la, lc, rfl⟩ := slice_ex hl
  obtain ⟨x0, x1, ⟨x2, x3, x4, lx⟩, ⟨x6, x7, x8, x9, xa⟩, xb, xc, xd⟩ := r
  simp only [RecV]
  simp only at hl hz h6 hxb
  by_cases hc : recCheck ⟨x0, x1, ⟨x2, x3, x4, lx⟩, ⟨x6, x7, x8, x9, xa⟩, xb, xc, xd⟩ = 0
  · have hb := inB_true (check_zero hc).kind
    simp only at hb
    have : x1 = 0 ∨ x1 = 1 ∨ x1 = 2 ∨ x1 = 3 := by omega
    rcases this with rfl | rfl | rfl | rfl
    · exact kmay0 x0 x2 x3 x4 x7 x8 x9 xc xd lx x6 xa xb la lc w h hl hz h6 hxb hc hzE hzG hzH
    · exact kmay1 x0 x2 x3 x4 x7 x8 x9 xc xd lx x6 xa xb la lc w h hl hz h6 hxb hc hzE
    · exact kmay2 x0 x2 x3 x4 x7 x8 x9 xc xd lx x6 xa xb la lc w h hl hz h6 hxb hc hzV
    · exact kmay3 x0 x2 x3 x4 x7 x8 x9 xc xd lx x6 xa xb la lc w h hl hz h6 hxb hc hzV hzH hlen
  · exact kmay_no x0 x1 x2 x3 x4 x7 x8 x9 xc xd lx x6 xa xb la lc w h hl hz h6 hxb hc
end Go.Proofs.YtdhhddifmkijhaaGreat
