/-
  The laws' own records one behind the other; Build.
-/
import Derived.Test.YtdhhddifmkijhaaGreatIdxAp
import Derived.Test.YtdhhddifmkijhaaGreatIdxPl
import Derived.Test.YtdhhddifmkijhaaGreatIdxRd
import Derived.Test.YtdhhddifmkijhaaGreatApp
namespace Go.Proofs.YtdhhddifmkijhaaGreat
open Go.RowKit Go.ChangeMaps Go.Maps Go.WideShapes Go.WideMaps Go.WideElems Go.MapKept Go.ChangeShapes

theorem Tryz.info43 : (Tryz.prog.info? 43).map (fun i => (i.zero, i.size, i.bytes)) = some (some (.agg (RecV ⟨0, 0, zeroVol, zeroEnt, E0, 0, 0⟩ (.slice none 0 0))), 14, 152) := by kernel_rfl
theorem small_spec {r : RecD} (h : smallR r = true) : r.vol.locs.length ≤ 20 ∧ r.ent.key.size ≤ 100 ∧ r.ent.dig.size ≤ 100 ∧ r.key.size ≤ 100 := by
  unfold smallR at h
  simp only [Bool.and_eq_true, decide_eq_true_eq] at h
  exact ⟨h.1.1.1, h.1.1.2, h.1.2, h.2⟩
theorem locs_in {X : List Nat} {B : Nat} {w w' : World} {v : Value} {l : List (Int × Int)} (h : LocsAt B w v l) (k : Kp [] w w') (hx : ∀ i ∈ X, B ≤ i) : LocsIn X w' v l := LocsIn.of_at (h.keep0 k) hx
set_option maxHeartbeats 1000000 in
set_option maxRecDepth 20000 in
theorem owns_any (rs : List (RecD × Value)) (v : Value) (B : Nat) (w : World) (hr : RecsAt B w v rs) (hz : rs.length ≤ 1000) :
    Calls Tryz.prog 16 #[v] w fun e w' => ∃ av cv, e = .returned (.slice av rs.length cv) ∧ w'.ownsRow w.heap.size 43 14 (.slice av rs.length cv) rs.length (rs.flatMap RecC) ∧ Kp [] w w' := by
  obtain ⟨va, vc, rfl⟩ := slice_ex hr.1
  obtain ⟨i0, hi, hz0, hz1, hz2⟩ := info_parts Tryz.info43
  have hK := Kp.refl [] w
  have hO : w.ownsRow w.heap.size 43 14 (.slice none 0 0) 0 [] := ⟨rfl, .inl ⟨rfl, rfl⟩⟩
  go_enter Tryz.func16, Tryz.ntmps16
  go_wp2_with fail
  go_loopg [3, 4] rs.length (fun g o i wr => ∃ (n : Nat) (av : Option Addr) (cv : Nat), n + g = rs.length ∧ i = .int .i64 n ∧ o = .slice av n cv ∧ Kp [] w wr ∧ wr.ownsRow w.heap.size 43 14 (.slice av n cv) n ((rs.take n).flatMap RecC))
  case atStart => exact ⟨0, none, 0, by omega, rfl, rfl, hK, hO⟩
  case round =>
    clear hK hO
    obtain ⟨n, av, cv, hn, rfl, rfl, hK, hO⟩ := hrel
    have HN := Lib.hid hn
    by_cases hlt : n < rs.length
    · obtain ⟨g', rfl⟩ : ∃ g', gk = g' + 1 := ⟨gk - 1, by omega⟩
      clear hn
      have hltI : (n : Int) < (rs.length : Int) := by omega
      have htk : (rs.take (n + 1)).flatMap RecC = (rs.take n).flatMap RecC ++ RecC rs[n] := by rw [take_next hlt, List.flatMap_append]; simp
      obtain ⟨g, o, c, hv', f0, f1, f2, f3, f4, f5, f6, f7, f8, f9, fa, fb, fc, fd⟩ := rec_at hr n hlt
      simp only [Value.slice.injEq] at hv'
      obtain ⟨rfl, -, rfl⟩ := hv'
      obtain ⟨q, hq⟩ : ∃ q, q = rs[n] := ⟨_, rfl⟩
      have hlq := hr.2 _ (List.getElem_mem hlt)
      rw [← hq] at f0 f1 f2 f3 f4 f5 f6 f7 f8 f9 fa fb fc fd hlq
      obtain ⟨⟨x0, x1, ⟨x2, x3, x4, lx⟩, ⟨x6, x7, x8, x9, xa⟩, xb, xc, xd⟩, lv⟩ := q
      simp only at f0 f1 f2 f3 f4 f5 f6 f7 f8 f9 fa fb fc fd hlq
      obtain ⟨la, lc, rfl⟩ := slice_ex hlq
      have r0 := Kp.cellAt (X := []) f0 (by simp) wr hK
      have r1 := Kp.cellAt (X := []) f1 (by simp) wr hK
      have r2 := Kp.cellAt (X := []) f2 (by simp) wr hK
      have r3 := Kp.cellAt (X := []) f3 (by simp) wr hK
      have r4 := Kp.cellAt (X := []) f4 (by simp) wr hK
      have r5 := Kp.cellAt (X := []) f5 (by simp) wr hK
      have r6 := Kp.cellAt (X := []) f6 (by simp) wr hK
      have r7 := Kp.cellAt (X := []) f7 (by simp) wr hK
      have r8 := Kp.cellAt (X := []) f8 (by simp) wr hK
      have r9 := Kp.cellAt (X := []) f9 (by simp) wr hK
      have ra := Kp.cellAt (X := []) fa (by simp) wr hK
      have rb := Kp.cellAt (X := []) fb (by simp) wr hK
      have rc := Kp.cellAt (X := []) fc (by simp) wr hK
      have rd := Kp.cellAt (X := []) fd (by simp) wr hK
      have HQR := Lib.hid hq
      have hgw := lt_of_cell f0
      clear f0 f1 f2 f3 f4 f5 f6 f7 f8 f9 fa fb fc fd hq
      rw [← HQR.out] at htk
      have hcl := fun W => own_any ⟨x0, x1, ⟨x2, x3, x4, lx⟩, ⟨x6, x7, x8, x9, xa⟩, xb, xc, xd⟩ la lx.length lc W
      simp only [RecV] at hcl
      have HO := Lib.hid hO
      have HTK := Lib.hid htk
      have hge := own_block_ge hO
      clear hO htk
      go_wp2_with fail
      refine (hcl _).mono ?_
      rintro e w2 ⟨rfl, k2⟩
      have hO2 := ownsRow_keep HO.out k2 (fun _ _ => by simp)
      have hs2 := k2.size
      have hsK := hK.size
      clear hcl
      go_wp2_with (first | (at_builtin; refine wpList_append_mine _ rfl (.tmp 11) (.tmp 17) 54 rfl w.heap.size 43 i0 (.agg (RecV ⟨0, 0, zeroVol, zeroEnt, E0, 0, 0⟩ (.slice none 0 0))) 14 152 Tryz.underlying54 hi hz0 hz1 hz2 rfl (by decide) (.slice av n cv) n ((rs.take n).flatMap RecC) rfl (ownsRow_keep (X := []) hO2 ((Kp.refl _ w2).alloc _) (fun _ _ => by simp)) ⟨w2.heap.size, 0, none⟩ 1 1 (RecC (⟨x0, x1, ⟨x2, x3, x4, lx⟩, ⟨x6, x7, x8, x9, xa⟩, xb, xc, xd⟩, .slice la lx.length lc)) rfl rfl (new_cells w2 _ _) (by intro u hu; simp only [RecC, RecV, List.mem_cons, List.not_mem_nil, or_false] at hu; rcases hu with rfl | rfl | rfl | rfl | rfl | rfl | rfl | rfl | rfl | rfl | rfl | rfl | rfl | rfl <;> rfl) (by unfold maxLen; omega) (by omega) (by simp; omega) ?_))
      intro v' w3 hown' hkp _ _
      obtain ⟨av', cv', rfl⟩ := ownsRow_ex hown'
      have k3 : Kp (Value.slice av n cv).ownBlock.toList w2 w3 := ((Kp.refl _ w2).alloc _).trans hkp
      have hx : ∀ i, i < w.heap.size → i ∉ (Value.slice av n cv).ownBlock.toList := fun i hi hm => by
        simp only [Option.mem_toList] at hm
        have := hge _ hm; omega
      have hK3 : Kp [] w w3 := (hK.trans k2).step k3 (fun i hi hm => absurd hm (hx i hi))
      rw [← HTK.out] at hown'
      have HOW := Lib.hid hown'
      clear hkp hown' k3 hge hO2
      go_wp2_with fail
      go_roundg g'
      case rel => exact ⟨n + 1, av', cv', st_next HN.out, by go_num, rfl, hK3, HOW.out⟩
      case measure => omega
    · obtain rfl : n = rs.length := by omega
      obtain rfl : gk = 0 := by omega
      rw [List.take_length] at hO
      have HO := Lib.hid hO
      have HK := Lib.hid hK
      clear hn hO
      go_wp2_with fail
      go_ret
      exact ⟨av, cv, rfl, HO.out, HK.out⟩
set_option maxHeartbeats 2000000 in
set_option maxRecDepth 20000 in
theorem ibuild (rs : List (RecD × Value)) (v : Value) (w : World) (hr : RecsAt w.heap.size w v rs) (hz : rs.length ≤ 100) (hsm : ∀ q ∈ rs, smallR q.1 = true) :
    Calls Tryz.prog 15 #[v] w fun e w' => ∃ I : Ib, e = .returned (.tuple #[I.p, .int .i64 (Ix.zero.build (rs.map (·.1))).2]) ∧ IxAt I w' (Ix.zero.build (rs.map (·.1))).1 ∧ Kp [] w w' ∧ ∀ i ∈ I.X, w.heap.size ≤ i := by
  obtain ⟨va, vc, rfl⟩ := slice_ex hr.1
  have hK := Kp.refl [] w
  go_enter Tryz.func15, Tryz.ntmps15
  go_wp2_with fail
  refine (inew w).mono ?_
  rintro e w1 ⟨I, rfl, hI, k1, hX⟩
  have hs1 := k1.size
  go_wp2_with fail
  go_loopg [12] rs.length (fun g i wr => ∃ n : Nat, n + g = rs.length ∧ i = .int .i64 n ∧ Kp [] w wr ∧ IxAt I wr (Ix.zero.run ((rs.take n).map (·.1))) ∧ AllMay Ix.zero ((rs.take n).map (·.1)))
  case atStart => exact ⟨0, by omega, rfl, k1, hI, trivial⟩
  case round =>
    clear hI k1
    obtain ⟨n, hn, rfl, hK, hIr, hall⟩ := hrel
    have HN := Lib.hid hn
    have HA := Lib.hid hall
    clear hall
    by_cases hlt : n < rs.length
    · obtain ⟨g', rfl⟩ : ∃ g', gk = g' + 1 := ⟨gk - 1, by omega⟩
      clear hn
      have hltI : (n : Int) < (rs.length : Int) := by omega
      obtain ⟨hs1, hs2, hs3, hs4⟩ := small_spec (hsm _ (List.getElem_mem hlt))
      have htk : (rs.take (n + 1)).map (·.1) = (rs.take n).map (·.1) ++ [rs[n].1] := by rw [take_next hlt, List.map_append]; rfl
      have hdr : rs.map (·.1) = (rs.take n).map (·.1) ++ rs[n].1 :: (rs.drop (n + 1)).map (·.1) := by
        rw [← List.map_cons, ← List.map_append, ← List.drop_eq_getElem_cons hlt, List.take_append_drop]
      have hlt2 : ((rs.take n).map (·.1)).length = n := by rw [List.length_map, List.length_take]; omega
      obtain ⟨g, o, c, hv', f0, f1, f2, f3, f4, f5, f6, f7, f8, f9, fa, fb, fc, fd⟩ := rec_at hr n hlt
      simp only [Value.slice.injEq] at hv'
      obtain ⟨rfl, -, rfl⟩ := hv'
      obtain ⟨q, hq⟩ : ∃ q, q = rs[n] := ⟨_, rfl⟩
      have hlq := hr.2 _ (List.getElem_mem hlt)
      rw [← hq] at f0 f1 f2 f3 f4 f5 f6 f7 f8 f9 fa fb fc fd hlq
      obtain ⟨⟨x0, x1, ⟨x2, x3, x4, lx⟩, ⟨x6, x7, x8, x9, xa⟩, xb, xc, xd⟩, lv⟩ := q
      simp only at f0 f1 f2 f3 f4 f5 f6 f7 f8 f9 fa fb fc fd hlq
      obtain ⟨la, lc, rfl⟩ := slice_ex hlq
      have r0 := Kp.cellAt (X := []) f0 (by simp) wr hK
      have r1 := Kp.cellAt (X := []) f1 (by simp) wr hK
      have r2 := Kp.cellAt (X := []) f2 (by simp) wr hK
      have r3 := Kp.cellAt (X := []) f3 (by simp) wr hK
      have r4 := Kp.cellAt (X := []) f4 (by simp) wr hK
      have r5 := Kp.cellAt (X := []) f5 (by simp) wr hK
      have r6 := Kp.cellAt (X := []) f6 (by simp) wr hK
      have r7 := Kp.cellAt (X := []) f7 (by simp) wr hK
      have r8 := Kp.cellAt (X := []) f8 (by simp) wr hK
      have r9 := Kp.cellAt (X := []) f9 (by simp) wr hK
      have ra := Kp.cellAt (X := []) fa (by simp) wr hK
      have rb := Kp.cellAt (X := []) fb (by simp) wr hK
      have rc := Kp.cellAt (X := []) fc (by simp) wr hK
      have rd := Kp.cellAt (X := []) fd (by simp) wr hK
      have HQR := Lib.hid hq
      have hgw := lt_of_cell f0
      clear f0 f1 f2 f3 f4 f5 f6 f7 f8 f9 fa fb fc fd hq
      rw [← HQR.out] at htk hdr hs1 hs2 hs4
      simp only at htk hdr hs1 hs2 hs4
      have hiv : Inv (Ix.zero.run ((rs.take n).map (·.1))) := inv_run inv_zero _
      have hze := (run_le Ix.zero ((rs.take n).map (·.1))).1
      rw [hlt2] at hze
      simp only [Ix.zero, List.length_nil] at hze
      obtain ⟨X, hXe⟩ : ∃ X, X = Ix.zero.run ((rs.take n).map (·.1)) := ⟨_, rfl⟩
      rw [show Ix.mk [] [] [] [] 0 = Ix.zero from rfl, ← hXe] at hze
      rw [← hXe] at hiv hIr
      have HXE := Lib.hid hXe
      have HTK := Lib.hid htk
      have HDR := Lib.hid hdr
      have HL2 := Lib.hid hlt2
      obtain ⟨wb, hwb⟩ : ∃ wb, wb = wr.alloc (.cells #[.int .i64 x0, .int .i64 x1, .int .i64 x2, .int .i64 x3, .int .i64 x4, .slice la lx.length lc, .string x6, .int .i64 x7, .int .i64 x8, .int .i64 x9, .string xa, .string xb, .int .i64 xc, .int .i64 xd] 43) := ⟨_, rfl⟩
      have kb : Kp [] wr wb := hwb ▸ (Kp.refl _ _).alloc _
      have hap := iapply hiv (by omega) ⟨x0, x1, ⟨x2, x3, x4, lx⟩, ⟨x6, x7, x8, x9, xa⟩, xb, xc, xd⟩ (.slice la lx.length lc) wb (hIr.keep0 kb) (locs_in hlq (hK.trans kb) hX) (by simp only; omega) (by simp only; omega) (by simp only; omega)
      simp only [RecV] at hap
      have Hwb := Lib.hid hwb
      obtain ⟨C, hC⟩ : ∃ C, C = (X.apply ⟨x0, x1, ⟨x2, x3, x4, lx⟩, ⟨x6, x7, x8, x9, xa⟩, xb, xc, xd⟩).2.2 := ⟨_, rfl⟩
      rw [← hC] at hap
      rw [apply_code] at hC
      have HC := Lib.hid hC
      clear hC hwb hdr htk hlt2 hXe
      go_wp2_with fail
      rw [← Hwb.out]
      refine hap.mono ?_
      rintro e w2 ⟨ov, rfl, hO, hI2, k2⟩
      obtain ⟨vls, oa, oc, rfl, -⟩ := id hO
      have hK2 : Kp [] w w2 := (hK.trans kb).step k2 (fun i hi hm => by have := hX i hm; omega)
      clear hap hO
      by_cases hc0 : C = 0
      · have hb : (C != 0) = false := by simp [hc0]
        have hrun : Ix.zero.run ((rs.take (n + 1)).map (·.1)) = (X.apply ⟨x0, x1, ⟨x2, x3, x4, lx⟩, ⟨x6, x7, x8, x9, xa⟩, xb, xc, xd⟩).1 := by rw [HTK.out, run_snoc, ← HXE.out]
        rw [← hrun] at hI2
        have hall2 : AllMay Ix.zero ((rs.take (n + 1)).map (·.1)) := by
          rw [HTK.out]
          exact allMay_snoc.2 ⟨HA.out, by rw [← HXE.out, ← HC.out]; exact hc0⟩
        have HA2 := Lib.hid hall2
        have HI2 := Lib.hid hI2
        clear hrun hall2 hc0 hI2
        go_wp2_with fail
        go_roundg g'
        case rel => exact ⟨n + 1, st_next HN.out, by go_num, hK2, HI2.out, HA2.out⟩
        case measure => omega
      · have hb : (C != 0) = true := by simpa using hc0
        have hsame : (X.apply ⟨x0, x1, ⟨x2, x3, x4, lx⟩, ⟨x6, x7, x8, x9, xa⟩, xb, xc, xd⟩).1 = X := apply_same (by rw [← HC.out]; exact hc0)
        rw [hsame] at hI2
        have hbl : Ix.zero.build (rs.map (·.1)) = (X, n) := by
          rw [HDR.out, build_snoc_ok HA.out _ _ (by rw [← HXE.out, ← HC.out]; exact hc0), ← HXE.out, HL2.out]
        have HBL := Lib.hid hbl
        have HI2 := Lib.hid hI2
        have HK2 := Lib.hid hK2
        clear hsame hbl hc0 hI2
        go_wp2_with fail
        go_ret2
        refine ⟨I, by rw [HBL.out]; rfl, ?_, HK2.out, hX⟩
        rw [HBL.out]
        exact HI2.out
    · obtain rfl : n = rs.length := by omega
      obtain rfl : gk = 0 := by omega
      rw [List.take_length] at hIr
      have ha := HA.out
      rw [List.take_length] at ha
      have hbl := build_all ha
      rw [List.length_map] at hbl
      have HBL := Lib.hid hbl
      have HI := Lib.hid hIr
      have HK := Lib.hid hK
      clear hn ha hbl hIr HA
      go_wp2_with fail
      go_ret2
      refine ⟨I, by rw [HBL.out]; rfl, ?_, HK.out, hX⟩
      rw [HBL.out]
      exact HI.out
end Go.Proofs.YtdhhddifmkijhaaGreat
