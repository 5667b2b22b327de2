/-
  live: some answers that the document gives, of the program's index.
-/
import Derived.Test.YtdhhddifmkijhaaGreatIdxAp
import Derived.Test.YtdhhddifmkijhaaGreatIdxPl
import Derived.Test.YtdhhddifmkijhaaGreatIdxX
namespace Go.Proofs.YtdhhddifmkijhaaGreat
open Go.RowKit Go.ChangeMaps Go.Maps Go.WideShapes Go.WideMaps Go.WideElems Go.MapKept Go.ChangeShapes

abbrev kA : ByteArray := ⟨#[97]⟩
abbrev kB : ByteArray := ⟨#[98]⟩
abbrev kC : ByteArray := ⟨#[99]⟩
def mergeR : RecD := ⟨0, 3, laidV 2 0 80, zeroEnt, E0, 0, 1⟩
def delR (k : ByteArray) : RecD := ⟨0, 1, zeroVol, zeroEnt, k, 0, 0⟩
def st1 : Ix := (Ix.zero.apply (putR kA 0)).1
def st2 : Ix := (st1.apply (putR kB 1)).1
def st3 : Ix := (st2.apply mergeR).1
def st4 : Ix := (st3.apply (delR kB)).1
def st5 : Ix := (st4.apply (delR kA)).1
theorem iv1 : Inv st1 := inv_apply inv_zero _
theorem iv2 : Inv st2 := inv_apply iv1 _
theorem iv3 : Inv st3 := inv_apply iv2 _
theorem iv4 : Inv st4 := inv_apply iv3 _
theorem iv5 : Inv st5 := inv_apply iv4 _
theorem le1 : st1.E.length ≤ 1 ∧ st1.V.length ≤ 1 := apply_le _ _
theorem le2 : st2.E.length ≤ 2 ∧ st2.V.length ≤ 2 := by have h := apply_le st1 (putR kB 1); have := le1; exact ⟨by have := h.1; show (st1.apply (putR kB 1)).1.E.length ≤ 2; omega, by have := h.2; show (st1.apply (putR kB 1)).1.V.length ≤ 2; omega⟩
theorem le3 : st3.E.length ≤ 3 ∧ st3.V.length ≤ 3 := by have h := apply_le st2 mergeR; have := le2; exact ⟨by have := h.1; show (st2.apply mergeR).1.E.length ≤ 3; omega, by have := h.2; show (st2.apply mergeR).1.V.length ≤ 3; omega⟩
theorem le4 : st4.E.length ≤ 4 ∧ st4.V.length ≤ 4 := by have h := apply_le st3 (delR kB); have := le3; exact ⟨by have := h.1; show (st3.apply (delR kB)).1.E.length ≤ 4; omega, by have := h.2; show (st3.apply (delR kB)).1.V.length ≤ 4; omega⟩
theorem le5 : st5.E.length ≤ 5 ∧ st5.V.length ≤ 5 := by have h := apply_le st4 (delR kA); have := le4; exact ⟨by have := h.1; show (st4.apply (delR kA)).1.E.length ≤ 5; omega, by have := h.2; show (st4.apply (delR kA)).1.V.length ≤ 5; omega⟩
theorem lv1 : (Ix.zero.apply (putR kA 0)).2.2 = 0 := by decide +kernel
theorem lv2 : (st1.apply (putR kB 1)).2.2 = 0 := by decide +kernel
theorem lv3 : st2.may (putR kA 2) = 13 := by decide +kernel
theorem lv4 : (st2.apply mergeR).2.2 = 0 := by decide +kernel
theorem lv5 : (st2.apply mergeR).2.1.length = 2 := by decide +kernel
theorem lv6 : st3.get kB = (⟨kB, 2, 40, 40, dig13⟩, 0) := by decide +kernel
theorem lv7 : (st3.apply (delR kB)).2.2 = 0 := by decide +kernel
theorem lv8 : (st3.apply (delR kB)).2.1.length = 0 := by decide +kernel
theorem lv9 : (st4.apply (delR kA)).2.2 = 0 := by decide +kernel
theorem lv10 : (st4.apply (delR kA)).2.1.length = 1 := by decide +kernel
theorem lv11 : st5.get kA = (zeroEnt, 9) := by decide +kernel
theorem lv12 : st5.known kA = true := by decide +kernel
theorem lv13 : st5.known kC = false := by decide +kernel
theorem lv14 : st5.V = [] := by decide +kernel
theorem lv15 : st5.N = 3 := by decide +kernel
theorem lv16 : st5.volumes = [] := by unfold Ix.volumes Ix.ids; rw [lv14]; simp
theorem nil_in (X : List Nat) (w : World) : LocsIn X w (.slice none 0 0) [] := ⟨none, 0, rfl, fun h => absurd h (by decide)⟩
theorem kp_in {X : List Nat} {w a b : World} (h : Kp [] w a) (k : Kp X a b) (hX : ∀ i ∈ X, w.heap.size ≤ i) : Kp [] w b := h.step k (fun i hi hm => by have := hX i hm; omega)
set_option maxHeartbeats 4000000 in
set_option maxRecDepth 100000 in
theorem live_true (w : World) : Calls Tryz.prog 5 #[] w fun e w' => e = .returned (.bool true) ∧ Kp [] w w' := by
  go_enter Tryz.func5, Tryz.ntmps5
  go_wp2_with fail
  refine (inew w).mono ?_
  rintro e w1 ⟨I, rfl, hI, hK, hX⟩
  go_wp2_with fail
  refine (put_any kA 0 _).mono ?_
  rintro e w2 ⟨av, cv, rfl, hO, k2⟩
  have hl := LocsIn.of_owns (l := locs9 9) rfl hO hI.lts
  replace hI := hI.keep0 k2
  replace hK := hK.trans k2
  clear k2
  clear hO
  go_wp2_with fail
  have hap := iapply inv_zero (by decide) (putR kA 0) _ _ hI hl (by decide) (by decide) (by decide)
  have HAP := Lib.hid hap
  clear hap
  refine HAP.out.mono ?_
  rintro e w3 ⟨ov, rfl, hO, hI2, k2⟩
  rw [lv1]
  obtain ⟨-, oa, oc, rfl, -⟩ := id hO
  replace hI : IxAt I w3 st1 := hI2
  replace hK := kp_in hK k2 hX
  clear hO hI2 k2 HAP
  go_wp2_with fail
  refine (put_any kB 1 _).mono ?_
  rintro e w4 ⟨av, cv, rfl, hO, k2⟩
  have hl := LocsIn.of_owns (l := locs9 9) rfl hO hI.lts
  replace hI := hI.keep0 k2
  replace hK := hK.trans k2
  clear k2
  clear hO
  go_wp2_with fail
  have hap := iapply iv1 (by have := le1; omega) (putR kB 1) _ _ hI hl (by decide) (by decide) (by decide)
  have HAP := Lib.hid hap
  clear hap
  refine HAP.out.mono ?_
  rintro e w5 ⟨ov, rfl, hO, hI2, k2⟩
  rw [lv2]
  obtain ⟨-, oa, oc, rfl, -⟩ := id hO
  replace hI : IxAt I w5 st2 := hI2
  replace hK := kp_in hK k2 hX
  clear hO hI2 k2 HAP
  go_wp2_with fail
  refine (put_any kA 2 _).mono ?_
  rintro e w6 ⟨av, cv, rfl, hO, k2⟩
  have hl := LocsIn.of_owns (l := locs9 9) rfl hO hI.lts
  replace hI := hI.keep0 k2
  replace hK := hK.trans k2
  clear k2
  clear hO
  go_wp2_with fail
  refine (imay iv2.fit (putR kA 2) _ _ _ hI hl.at (by decide) (by decide) (by decide)).mono ?_
  rintro e w7 ⟨rfl, k2⟩
  rw [lv3]
  replace hI := hI.keep0 k2
  replace hK := hK.trans k2
  clear k2
  go_wp2_with fail
  refine (laid_any 2 0 80 _).mono ?_
  rintro e w8 ⟨av, cv, rfl, hO, k2⟩
  have hl := LocsIn.of_owns (l := locs9 9) rfl hO hI.lts
  replace hI := hI.keep0 k2
  replace hK := hK.trans k2
  clear k2
  clear hO
  go_wp2_with fail
  have hap := iapply iv2 (by have := le2; omega) mergeR _ _ hI hl (by decide) (by decide) (by decide)
  have HAP := Lib.hid hap
  clear hap
  refine HAP.out.mono ?_
  rintro e w9 ⟨ov, rfl, hO, hI2, k2⟩
  rw [lv4]
  obtain ⟨-, oa, oc, rfl, -⟩ := id hO
  replace hI : IxAt I w9 st3 := hI2
  replace hK := kp_in hK k2 hX
  clear hO hI2 k2 HAP
  rw [lv5]
  go_wp2_with fail
  refine (iget iv3.fit kB (by decide) _ hI).mono ?_
  rintro e w10 ⟨rfl, k2⟩
  rw [lv6]
  simp only [EntVA]
  replace hI := hI.keep0 k2
  replace hK := hK.trans k2
  clear k2
  go_wp2_with fail
  obtain ⟨wn, hwn⟩ : ∃ wn, wn = w10.alloc (.cells #[.string kB, .int .i64 2, .int .i64 40, .int .i64 40, .string dig13] 38) := ⟨_, rfl⟩
  have kn : Kp [] w10 wn := hwn ▸ (Kp.refl _ _).alloc _
  have bn : wn.heap[w10.heap.size]? = some (.cells #[.string kB, .int .i64 2, .int .i64 40, .int .i64 40, .string dig13] 38 (0, 0)) := by rw [hwn]; exact block_new _ _
  have hnX : w10.heap.size ∉ I.X := fun hm => Nat.lt_irrefl _ (hI.lts _ hm)
  have g1 := Kp.cellAt (X := I.X) (w0 := wn) (p := ⟨w10.heap.size, 1, none⟩) (v := .int .i64 2) (cell_of_cells bn rfl) hnX
  have g2 := Kp.cellAt (X := I.X) (w0 := wn) (p := ⟨w10.heap.size, 2, none⟩) (v := .int .i64 40) (cell_of_cells bn rfl) hnX
  rw [← hwn]
  have HWN := Lib.hid hwn
  replace hI := hI.keep0 kn
  replace hK := hK.trans kn
  clear kn
  have hKn := Kp.refl I.X wn
  clear hwn bn
  have hap := iapply iv3 (by have := le3; omega) (delR kB) _ _ hI (nil_in _ _) (by decide) (by decide) (by decide)
  have HAP := Lib.hid hap
  clear hap
  refine HAP.out.mono ?_
  rintro e w11 ⟨ov, rfl, hO, hI2, k2⟩
  rw [lv7]
  obtain ⟨-, oa, oc, rfl, -⟩ := id hO
  replace hI : IxAt I w11 st4 := hI2
  replace hK := kp_in hK k2 hX
  replace hKn := hKn.trans k2
  clear hO hI2 k2 HAP
  rw [lv8]
  go_wp2_with fail
  have hap := iapply iv4 (by have := le4; omega) (delR kA) _ _ hI (nil_in _ _) (by decide) (by decide) (by decide)
  have HAP := Lib.hid hap
  clear hap
  refine HAP.out.mono ?_
  rintro e w12 ⟨ov, rfl, hO, hI2, k2⟩
  rw [lv9]
  obtain ⟨-, oa, oc, rfl, -⟩ := id hO
  replace hI : IxAt I w12 st5 := hI2
  replace hK := kp_in hK k2 hX
  replace hKn := hKn.trans k2
  clear hO hI2 k2 HAP
  rw [lv10]
  go_wp2_with fail
  refine (iget iv5.fit kA (by decide) _ hI).mono ?_
  rintro e w13 ⟨rfl, k2⟩
  rw [lv11]
  simp only [EntVA]
  replace hI := hI.keep0 k2
  replace hK := hK.trans k2
  replace hKn := hKn.call k2
  clear k2
  have k9 : Kp [] w13 (w13.alloc (.cells #[.string E0, .int .i64 0, .int .i64 0, .int .i64 0, .string E0] 38)) := (Kp.refl _ _).alloc _
  replace hI := hI.keep0 k9
  replace hK := hK.trans k9
  replace hKn := hKn.call k9
  clear k9
  go_wp2_with fail
  refine (iknown iv5.fit kA (by decide) _ hI).mono ?_
  rintro e w14 ⟨rfl, k2⟩
  rw [lv12]
  replace hI := hI.keep0 k2
  replace hK := hK.trans k2
  replace hKn := hKn.call k2
  clear k2
  go_wp2_with fail
  refine (iknown iv5.fit kC (by decide) _ hI).mono ?_
  rintro e w15 ⟨rfl, k2⟩
  rw [lv13]
  replace hI := hI.keep0 k2
  replace hK := hK.trans k2
  replace hKn := hKn.call k2
  clear k2
  go_wp2_with fail
  refine (ivolumes iv5.fit (by have := le5; omega) _ hI).mono ?_
  rintro e w16 ⟨ov, rfl, hO, k2⟩
  rw [lv16] at hO
  obtain ⟨-, oa, oc, rfl, -⟩ := id hO
  clear hO
  replace hI := hI.keep0 k2
  replace hK := hK.trans k2
  replace hKn := hKn.call k2
  clear k2
  go_wp2_with fail
  refine (inext _ hI).mono ?_
  rintro e w17 ⟨rfl, k2⟩
  rw [lv15]
  replace hI := hI.keep0 k2
  replace hK := hK.trans k2
  replace hKn := hKn.call k2
  clear k2
  go_wp2_with fail
  go_ret
  exact ⟨rfl, hK⟩
end Go.Proofs.YtdhhddifmkijhaaGreat
