/-
  The document's index: List, the walk.
-/
import Derived.Test.YtdhhddifmkijhaaGreatP7
namespace Go.Proofs.YtdhhddifmkijhaaGreat
open Go.RowKit Go.ChangeMaps Go.Maps Go.WideShapes Go.WideMaps Go.WideElems Go.MapKept Go.ChangeShapes
theorem gtr_iff {a b : List UInt8} : (Op.bytesLess a b || a == b) = false ↔ b < a := by
  rw [Bool.or_eq_false_iff, bytesLess_eq, decide_eq_false_iff_not, beq_eq_false_iff_ne]
  constructor
  · rintro ⟨h1, h2⟩
    apply Decidable.byContradiction
    intro h3
    exact h2 (List.le_antisymm h3 h1)
  · intro h
    exact ⟨fun h' => List.lt_irrefl a (List.lt_trans h' h), fun e => List.lt_irrefl b (by rw [e] at h; exact h)⟩
theorem toB_toList (l : List UInt8) : (toB l).toList = l := by rw [Lib.toList_data]; rfl
theorem encStr_toList (b : ByteArray) : encStr b.toList = .string b := by rw [Lib.toList_data]
theorem s_ent {x : Ix} {k : Rx} (hr : Rel x k) (hi : Inv x) {f : ByteArray} {S : List (List UInt8)} (hS : S = keysFrom f x.keys) {s : List UInt8} (hs : s ∈ S) : ∃ j, ∃ hj : j < k.E.length, k.E[j].key.toList = s := by
  rw [hS, from_mem] at hs
  obtain ⟨⟨p, hp, h⟩, -⟩ := hs
  have hm : p.2 ∈ k.E := by rw [hr.E]; exact List.mem_map_of_mem hp
  obtain ⟨j, hj, e⟩ := List.getElem_of_mem hm
  exact ⟨j, hj, by rw [e, hi.keyE p hp, Lib.toList_data]; exact h⟩
theorem list_take {x : Ix} {f : ByteArray} {S : List (List UInt8)} (hS : S = keysFrom f x.keys) {many : Int} {m : Nat} (h : (m : Int) ≤ max many 0) (hb : many ≤ m ∨ S.length ≤ m) : x.list f many = S.take m := by
  unfold Ix.list
  rw [← hS]
  rcases hb with hb | hb
  · rw [show many.toNat = m by omega]
  · rw [List.take_of_length_le hb, List.take_of_length_le (by omega)]
set_option maxHeartbeats 4000000 in
set_option maxRecDepth 20000 in
theorem klist {B kb : Nat} {k : Rx} {x : Ix} (w : World) (h : RIn B kb w k) (hr : Rel x k) (hi : Inv x) (hz : k.E.length ≤ 900) (f : ByteArray) (many : Int) (hm2 : many ≤ 1000) :
    Calls Tryz.prog 43 #[.pointer (some ⟨kb, 0, none⟩), .string f, .int .i64 many] w fun e w' => ∃ av cv, e = .returned (.slice av (x.list f many).length cv) ∧ w'.ownsRow w.heap.size 9 1 (.slice av (x.list f many).length cv) (x.list f many).length ((x.list f many).map encStr) ∧ Kp [] w w' := by
  obtain ⟨j0, hj, hy0, hy1, hy2⟩ := info_parts Tryz.infoS'
  obtain ⟨eA, eC, gA, gC, vA, vC, hA, hC, hat⟩ := h.open
  have hes := SliceAt.of_owns hat.ents
  have t0 := Kp.cellAt (X := []) (cell_of_cells (o := 0) hat.top rfl) (by simp)
  have hkl := lt_of_block hat.top
  obtain ⟨S, hS⟩ : ∃ S, S = keysFrom f x.keys := ⟨_, rfl⟩
  have hSl : S.length ≤ 900 := by
    rw [hS]
    refine Nat.le_trans (List.length_filter_le _ _) ?_
    unfold Ix.keys
    rw [List.length_mergeSort, List.length_map]
    rw [hr.E, List.length_map] at hz
    exact hz
  have hK := Kp.refl [] w
  have hO0 : w.ownsRow w.heap.size 9 1 (.slice none 0 0) 0 ((S.take 0).map encStr) := ⟨rfl, .inl ⟨rfl, rfl⟩⟩
  have HS := Lib.hid hS
  clear hS
  go_enter Tryz.func43, Tryz.ntmps43
  go_wp2_with fail
  go_loopg [7] (S.length + 1) (fun g o wr => ∃ (m : Nat) (av : Option Addr) (cv : Nat), m + g = S.length + 1 ∧ m ≤ S.length ∧ (m : Int) ≤ max many 0 ∧ o = .slice av m cv ∧ Kp [] w wr ∧ wr.ownsRow w.heap.size 9 1 (.slice av m cv) m ((S.take m).map encStr))
  case atStart => exact ⟨0, none, 0, by omega, by omega, by omega, rfl, hK, hO0⟩
  case round =>
    clear hK hO0
    obtain ⟨m, av, cv, hg, hmS, hmm, rfl, hK, hO⟩ := hrel
    have HG := Lib.hid hg
    clear hg
    by_cases hmany : (m : Int) < many
    · obtain ⟨g', rfl⟩ : ∃ g', gk = g' + 1 := ⟨gk - 1, by have := HG.out; omega⟩
      have hB0 : BestAt (S.drop m) k.E 0 none := fun j _ h => absurd h (Nat.not_lt_zero _)
      obtain ⟨wo, rfl⟩ : ∃ wo, wo = wr := ⟨_, rfl⟩
      have hKr := Kp.refl [] wo
      have hlast : ∀ (h0 : 0 < m), ∃ (gl ol : Nat), av = some ⟨gl, ol, none⟩ ∧ ∀ W, Kp [] wo W → W.cell? ⟨gl, ol + (m - 1), none⟩ = some (encStr S[m - 1]) := fun h0 => by
        have hs1 := SliceAt.of_owns hO
        rw [map_toB] at hs1
        have hlen : ((S.take m).map toB).length = m := by rw [List.length_map, List.length_take]; omega
        rw [show m = ((S.take m).map toB).length from hlen.symm] at hs1
        rw [hlen] at hs1
        obtain ⟨gl, ol, c, hv, hc⟩ := strv_at (l := (S.take m).map toB) (by rw [hlen]; exact hs1) (m - 1) (by rw [hlen]; omega)
        simp only [Value.slice.injEq] at hv
        refine ⟨gl, ol, hv.1, fun W k1 => (k1.cell (lt_of_cell hc) (by simp)).trans ?_⟩
        rw [hc]
        simp only [List.getElem_map, List.getElem_take]
        rfl
      have HO := Lib.hid hO
      clear hO
      go_wp2_with fail
      go_loopg [8, 9] k.E.length (fun g b i w2 => ∃ (n : Nat) (bo : Option Nat), n + g = k.E.length ∧ i = .int .i64 n ∧ b = .int .i64 (placeI bo) ∧ Kp [] wo w2 ∧ BestAt (S.drop m) k.E n bo)
      case atStart => exact ⟨0, none, by omega, rfl, rfl, hKr, hB0⟩
      case round =>
        clear hB0 hKr
        obtain ⟨n, bo, hn, rfl, rfl, hK2, hB⟩ := hrel
        have HN := Lib.hid hn
        have hKw := hK.trans hK2
        by_cases hlt : n < k.E.length
        · obtain ⟨g2, rfl⟩ : ∃ g2, gk = g2 + 1 := ⟨gk - 1, by omega⟩
          clear hn
          have hltI : (n : Int) < (k.E.length : Int) := by omega
          obtain ⟨g3, o3, c3, hv', f0, -, -, -, -⟩ := ent_at hes n hlt
          simp only [Value.slice.injEq] at hv'
          obtain ⟨rfl, -, rfl⟩ := hv'
          have d0 := Kp.cellAt (X := []) f0 (by simp) _ hKw
          have hcand := cand_iff hr hi (List.getElem_mem hlt) HS.out hmS
          obtain ⟨y0, hy⟩ : ∃ y0, y0 = k.E[n].key := ⟨_, rfl⟩
          rw [← hy] at d0 hcand
          have HY := Lib.hid hy
          have HB := Lib.hid hB
          clear f0 hy hB
          by_cases h1 : Op.bytesLess y0.toList f.toList = true
          · have hnot : k.E[n].key.toList ∉ S.drop m := fun hm => by rw [← HY.out] at hm; rw [(hcand.1 hm).1] at h1; cases h1
            clear hcand
            have hst := best_skip HB.out hlt hnot
            have HST := Lib.hid hst
            clear hst
            go_wp2_with fail
            go_roundg g2
            case rel => exact ⟨n + 1, bo, st_next HN.out, by go_num, rfl, hK2, HST.out⟩
            case measure => omega
          · rw [Bool.not_eq_true] at h1
            by_cases hm0 : m = 0
            · have hb2 : ((m : Int) == 0) = true := by simp [hm0]
              have hin := hcand.2 ⟨h1, fun h => absurd hm0 (Nat.ne_of_gt h)⟩
              clear hm0
              rw [HY.out] at hin
              have HIN := Lib.hid hin
              clear hcand hin
              cases bo with
              | none =>
                have hst := best_first HB.out hlt HIN.out
                have HST := Lib.hid hst
                clear hst
                go_wp2_with fail
                go_roundg g2
                case rel => exact ⟨n + 1, some n, st_next HN.out, by go_num, rfl, hK2, HST.out⟩
                case measure => omega
              | some i =>
                obtain ⟨hil, -, -⟩ := id HB.out
                have hi0 : (0 : Int) ≤ (i : Int) := by omega
                have hiI : (i : Int) < (k.E.length : Int) := by omega
                obtain ⟨g4, o4, c4, hv'', f1, -, -, -, -⟩ := ent_at hes i hil
                simp only [Value.slice.injEq, Option.some.injEq, Addr.mk.injEq] at hv''
                obtain ⟨⟨rfl, rfl, -⟩, -, rfl⟩ := hv''
                have d1 := Kp.cellAt (X := []) f1 (by simp) _ hKw
                obtain ⟨z0, hzz⟩ : ∃ z0, z0 = k.E[i].key := ⟨_, rfl⟩
                rw [← hzz] at d1
                have HZZ := Lib.hid hzz
                clear f1 hzz
                simp only [placeI]
                by_cases h5 : Op.bytesLess y0.toList z0.toList = true
                · have hst := best_less HB.out hlt hil HIN.out (by rw [← HY.out, ← HZZ.out]; rw [bytesLess_eq] at h5; exact of_decide_eq_true h5)
                  have HST := Lib.hid hst
                  clear hst
                  go_wp2_with fail
                  go_roundg g2
                  case rel => exact ⟨n + 1, some n, st_next HN.out, by go_num, rfl, hK2, HST.out⟩
                  case measure => omega
                · rw [Bool.not_eq_true] at h5
                  have hst := best_more HB.out hlt hil (by rw [← HY.out, ← HZZ.out]; rw [bytesLess_eq] at h5; exact of_decide_eq_false h5)
                  have HST := Lib.hid hst
                  clear hst
                  go_wp2_with fail
                  go_roundg g2
                  case rel => exact ⟨n + 1, some i, st_next HN.out, by go_num, rfl, hK2, HST.out⟩
                  case measure => omega
            · have hb2 : ((m : Int) == 0) = false := by simp [hm0]
              have hmp : 0 < m := Nat.pos_of_ne_zero hm0
              have hm1 : (1 : Int) ≤ m := by omega
              obtain ⟨gl, ol, rfl, hcl⟩ := hlast hmp
              have d9 := hcl _ hK2
              obtain ⟨l0, hl0⟩ : ∃ l0, l0 = toB S[m - 1] := ⟨_, rfl⟩
              rw [show encStr S[m - 1] = Value.string l0 from by rw [hl0]; rfl] at d9
              have hl1 : l0.toList = S[m - 1] := by rw [hl0]; exact toB_toList _
              clear hm0 hl0 hcl hlast
              by_cases c3 : (Op.bytesLess y0.toList l0.toList || y0.toList == l0.toList) = true
              · have hnot : k.E[n].key.toList ∉ S.drop m := fun hm => by
                  rw [← HY.out] at hm
                  have h2 := (hcand.1 hm).2 hmp
                  rw [← hl1, ← gtr_iff] at h2
                  rw [h2] at c3
                  cases c3
                clear hcand hl1
                have hst := best_skip HB.out hlt hnot
                have HST := Lib.hid hst
                clear hst
                go_wp2_with fail
                go_roundg g2
                case rel => exact ⟨n + 1, bo, st_next HN.out, by go_num, rfl, hK2, HST.out⟩
                case measure => omega
              · rw [Bool.not_eq_true] at c3
                have hin := hcand.2 ⟨h1, fun _ => by rw [← hl1]; exact gtr_iff.1 c3⟩
                clear hl1
                rw [HY.out] at hin
                have HIN := Lib.hid hin
                clear hcand hin
                cases bo with
                | none =>
                  have hst := best_first HB.out hlt HIN.out
                  have HST := Lib.hid hst
                  clear hst
                  go_wp2_with fail
                  go_roundg g2
                  case rel => exact ⟨n + 1, some n, st_next HN.out, by go_num, rfl, hK2, HST.out⟩
                  case measure => omega
                | some i =>
                  obtain ⟨hil, -, -⟩ := id HB.out
                  have hi0 : (0 : Int) ≤ (i : Int) := by omega
                  have hiI : (i : Int) < (k.E.length : Int) := by omega
                  obtain ⟨g4, o4, c4, hv'', f1, -, -, -, -⟩ := ent_at hes i hil
                  simp only [Value.slice.injEq, Option.some.injEq, Addr.mk.injEq] at hv''
                  obtain ⟨⟨rfl, rfl, -⟩, -, rfl⟩ := hv''
                  have d1 := Kp.cellAt (X := []) f1 (by simp) _ hKw
                  obtain ⟨z0, hzz⟩ : ∃ z0, z0 = k.E[i].key := ⟨_, rfl⟩
                  rw [← hzz] at d1
                  have HZZ := Lib.hid hzz
                  clear f1 hzz
                  simp only [placeI]
                  by_cases h5 : Op.bytesLess y0.toList z0.toList = true
                  · have hst := best_less HB.out hlt hil HIN.out (by rw [← HY.out, ← HZZ.out]; rw [bytesLess_eq] at h5; exact of_decide_eq_true h5)
                    have HST := Lib.hid hst
                    clear hst
                    go_wp2_with fail
                    go_roundg g2
                    case rel => exact ⟨n + 1, some n, st_next HN.out, by go_num, rfl, hK2, HST.out⟩
                    case measure => omega
                  · rw [Bool.not_eq_true] at h5
                    have hst := best_more HB.out hlt hil (by rw [← HY.out, ← HZZ.out]; rw [bytesLess_eq] at h5; exact of_decide_eq_false h5)
                    have HST := Lib.hid hst
                    clear hst
                    go_wp2_with fail
                    go_roundg g2
                    case rel => exact ⟨n + 1, some i, st_next HN.out, by go_num, rfl, hK2, HST.out⟩
                    case measure => omega
        · obtain rfl : n = k.E.length := by omega
          clear hn
          cases bo with
          | none =>
            have hml : S.length ≤ m := none_left (fun s hs hd => by
              obtain ⟨j, hj, rfl⟩ := s_ent hr hi HS.out hs
              exact hB j hj hj hd)
            have hl := list_take HS.out hmm (.inr hml)
            have hll : (x.list f many).length = m := by rw [hl, List.length_take]; omega
            have HL := Lib.hid hl
            have HLL := Lib.hid hll
            have hO2 := ownsRow_keep (X := []) HO.out hK2 (fun _ _ => by simp)
            have HO2 := Lib.hid hO2
            clear hl hll hml hO2
            go_wp2_with fail
            go_ret
            refine ⟨av, cv, by rw [HLL.out]; rfl, ?_, hKw⟩
            rw [HLL.out, HL.out]
            exact HO2.out
          | some i =>
            obtain ⟨hil, hin, hmin⟩ := id hB
            have hsp : S.Pairwise (· < ·) := by rw [HS.out]; exact from_sorted hi.nodE f
            obtain ⟨hms, hkey⟩ := next_is (lt := (· < ·)) hsp hin (fun s hs hl => by
              obtain ⟨j, hj, rfl⟩ := s_ent hr hi HS.out (List.mem_of_mem_drop hs)
              exact hmin j hj hj hs hl)
            have hi0 : (0 : Int) ≤ (i : Int) := by omega
            have hiI : (i : Int) < (k.E.length : Int) := by omega
            have hin0 : ((i : Int) < 0) = False := by simp
            obtain ⟨g4, o4, c4, hv'', f1, -, -, -, -⟩ := ent_at hes i hil
            simp only [Value.slice.injEq, Option.some.injEq, Addr.mk.injEq] at hv''
            obtain ⟨rfl, -, rfl⟩ := hv''
            have d1 := Kp.cellAt (X := []) f1 (by simp) _ hKw
            obtain ⟨z0, hzz⟩ : ∃ z0, z0 = k.E[i].key := ⟨_, rfl⟩
            rw [← hzz] at d1 hkey
            have HKEY := Lib.hid hkey
            clear f1 hzz hkey hmin hin hB hsp
            simp only [placeI]
            have hO2 := ownsRow_keep (X := []) HO.out hK2 (fun _ _ => by simp)
            have hge := own_block_ge hO2
            have hBs : w.heap.size ≤ wr.heap.size := hKw.size
            have hl4 : (S.take (m + 1)).map encStr = (S.take m).map encStr ++ [Value.string z0] := by
              rw [take_next hms, List.map_append, ← HKEY.out, List.map_cons, List.map_nil, encStr_toList]
            obtain ⟨Ls, hLs⟩ : ∃ Ls, Ls = (S.take m).map encStr := ⟨_, rfl⟩
            rw [← hLs] at hl4 hO2
            have HL4 := Lib.hid hl4
            clear hlast HKEY hl4 hLs HO
            go_wp2_with (first | (at_builtin; refine wpList_append_mine _ rfl (.tmp 70) (.tmp 79) 23 rfl w.heap.size 9 j0 (.string ByteArray.empty) 1 16 Tryz.underlyingS' hj hy0 hy1 hy2 rfl (by decide) (.slice av m cv) m Ls rfl (ownsRow_keep (X := []) hO2 ((Kp.refl _ wr).alloc _) (fun _ _ => by simp)) ⟨wr.heap.size, 0, none⟩ 1 1 [.string z0] rfl rfl (new_cells wr _ _) one_str1 (by unfold maxLen; omega) (by omega) (by simp; omega) ?_))
            intro v' w3 hown' hkp _ _
            obtain ⟨av3, cv3, rfl⟩ := ownsRow_ex hown'
            have k3 : Kp (Value.slice av m cv).ownBlock.toList wr w3 := ((Kp.refl _ wr).alloc _).trans hkp
            have hK3 : Kp [] w w3 := hKw.step k3 (fun i hi hm => by
              rw [Option.mem_toList] at hm
              have := hge i hm
              omega)
            rw [← HL4.out] at hown'
            have HO4 := Lib.hid hown'
            clear hown' hkp k3 hge hO2
            go_wp2_with fail
            go_roundg g'
            case rel => exact ⟨m + 1, av3, cv3, by have := HG.out; omega, by omega, by omega, rfl, hK3, HO4.out⟩
            case measure => omega
    · have hl := list_take HS.out hmm (.inl (by omega))
      have hll : (x.list f many).length = m := by rw [hl, List.length_take]; omega
      have HL := Lib.hid hl
      have HLL := Lib.hid hll
      have HO := Lib.hid hO
      clear hl hll hO
      go_wp2_with fail
      go_ret
      refine ⟨av, cv, by rw [HLL.out]; rfl, ?_, hK⟩
      rw [HLL.out, HL.out]
      exact HO.out
end Go.Proofs.YtdhhddifmkijhaaGreat
