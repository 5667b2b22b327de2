/-
  A model's list.
-/
import Derived.Test.YtlomniffpjndfaaDoorMdM
namespace Go.Proofs.YtlomniffpjndfaaDoor
open Go.RowKit Go.ChangeMaps Go.Maps Go.WideShapes Go.WideMaps Go.WideElems Go.MapKept Go.ChangeShapes Go.Sort

set_option maxRecDepth 20000 in
theorem ret3_mList (t : Array Value) (Z : World) (R : Nat) {v0 v1 v2 : Value} (h2 : t.getD 4 undef = .pointer (some ⟨R, 0, none⟩)) (z0 : Z.cell? ⟨R, 0, none⟩ = some v0) (z1 : Z.cell? ⟨R, 1, none⟩ = some v1) (z2 : Z.cell? ⟨R, 2, none⟩ = some v2) :
    (results Tryd.f25 t).run Tryd.prog Z = .ok (.agg #[v0, v1, v2]) Z := by
  have h2' : t[4]?.getD undef = .pointer (some ⟨R, 0, none⟩) := by rw [← h2]; simp [Array.getD_eq_getD_getElem?]
  simp [results, Tryd.results25, go_sem, z0, z1, z2, h2']
  try rfl
theorem owns_other {W W' : World} {base : Nat} {e : TypeId} {sz n : Nat} {v : Value} {xs : List Value} (h : W.ownsRow base e sz v n xs) {Y : List Nat} (k : Kp Y W W') (hy : ∀ g, v.ownBlock = some g → g ∉ Y) : W'.ownsRow base e sz v n xs := by
  obtain ⟨hl, ⟨hv, hn⟩ | ⟨g, cap, cur, hv, hg, hb, hc, hm, hs, ht⟩⟩ := h
  · exact ⟨hl, .inl ⟨hv, hn⟩⟩
  · exact ⟨hl, .inr ⟨g, cap, cur, hv, hg, (k.block g (lt_of_block hb) (hy g (by rw [hv]; rfl))).trans hb, hc, hm, hs, ht⟩⟩
theorem st_next {n g N : Nat} (h : n + (g + 1) = N) : n + 1 + g = N := by omega
/-- is a key told? -/
def Mdl.tells (M : Mdl) (f : ByteArray) (k : List UInt8) : Bool := !(M.at (SB k)).2 && !(Op.bytesLess k f.toList)
def Mdl.listed (M : Mdl) (f : ByteArray) : List (List UInt8) := (M.keys.filter (M.tells f)).take 16
theorem SB_toList (l : List UInt8) : (SB l).toList = l := by rw [Lib.toList_data]
theorem one_strS {s : ByteArray} : ∀ u, u ∈ [Value.string s] → u.oneCell' = true := by
  intro u hu
  simp only [List.mem_singleton] at hu
  subst hu; rfl
theorem take_nextS {α : Type} {l : List α} {n : Nat} (h : n < l.length) : l.take (n + 1) = l.take n ++ [l[n]] := by rw [List.take_add_one, List.getElem?_eq_getElem h]; rfl
theorem filt_next {c : List UInt8 → Bool} {l : List (List UInt8)} {n : Nat} (h : n < l.length) : (l.take (n + 1)).filter c = if c l[n] then (l.take n).filter c ++ [l[n]] else (l.take n).filter c := by
  rw [take_nextS h, List.filter_append]
  by_cases hc : c l[n] = true
  · rw [if_pos hc, List.filter_cons_of_pos hc]; rfl
  · rw [if_neg hc, List.filter_cons_of_neg hc]; simp
theorem out_skip {c : List UInt8 → Bool} {l o : List (List UInt8)} {n : Nat} (h : n < l.length) (ho : o = ((l.take n).filter c).take 16) (hc : c l[n] = false) : o = ((l.take (n + 1)).filter c).take 16 := by
  rw [filt_next h, if_neg (by rw [hc]; simp)]; exact ho
theorem out_full {c : List UInt8 → Bool} {l o : List (List UInt8)} {n : Nat} (h : n < l.length) (ho : o = ((l.take n).filter c).take 16) (hf : 16 ≤ o.length) : o = ((l.take (n + 1)).filter c).take 16 := by
  rw [filt_next h]
  have hl : 16 ≤ ((l.take n).filter c).length := by rw [ho, List.length_take] at hf; omega
  split
  · rw [List.take_append_of_le_length hl]; exact ho
  · exact ho
theorem out_more {c : List UInt8 → Bool} {l o : List (List UInt8)} {n : Nat} (h : n < l.length) (ho : o = ((l.take n).filter c).take 16) (hc : c l[n] = true) (hf : o.length < 16) : o ++ [l[n]] = ((l.take (n + 1)).filter c).take 16 := by
  rw [filt_next h, if_pos hc]
  have hl : ((l.take n).filter c).length < 16 := by rw [ho, List.length_take] at hf; omega
  rw [List.take_of_length_le (by rw [List.length_append, List.length_singleton]; omega)]
  rw [List.take_of_length_le (by omega)] at ho
  rw [ho]
theorem key_short {M : Mdl} (hs : Short M) {k : List UInt8} (h : k ∈ M.keys) : (SB k).size ≤ 32 := by
  unfold Mdl.keys at h
  rw [List.mem_mergeSort] at h
  obtain ⟨p, hp, rfl⟩ := List.mem_map.1 h
  rw [SB_data]
  exact (hs p hp).1
set_option maxHeartbeats 4000000 in
set_option maxRecDepth 20000 in
theorem mlist {mb eb : Nat} {M : Mdl} (hs : Short M) (hz : M.length ≤ 1000) (kind : Int) (k v : ByteArray) (w : World) (h : MdAt mb eb w M) :
    Calls Tryd.prog 25 #[Md.p mb, ReqV kind k v] w fun e w' => ∃ av cv, e = .returned (RespV 0 E0 (.slice av (M.listed k).length cv)) ∧ w'.ownsRow w.heap.size 9 1 (.slice av (M.listed k).length cv) (M.listed k).length ((M.listed k).map encStr) ∧ Kp [] w w' := by
  obtain ⟨j0, hj, hy0, hy1, hy2⟩ := info_parts Tryd.info9
  obtain ⟨w0, hw0⟩ : ∃ w0, w0 = w.alloc (.cells #[.int .i64 kind, .string k, .string v] 32) := ⟨_, rfl⟩
  have k0 : Kp [] w w0 := hw0 ▸ (Kp.refl _ _).alloc _
  have b0 : w0.heap[w.heap.size]? = some (.cells #[.int .i64 kind, .string k, .string v] 32 (0, 0)) := by rw [hw0]; exact block_new _ _
  obtain ⟨R, hR⟩ : ∃ R, R = w0.heap.size := ⟨_, rfl⟩
  have hR2 : R = w.heap.size + 1 := by rw [hR, hw0, World.size_alloc]
  obtain ⟨w1, hw1⟩ : ∃ w1, w1 = w0.alloc (.cells #[.int .i64 0, .string ⟨#[]⟩, .slice none 0 0] 37) := ⟨_, rfl⟩
  have k1 : Kp [] w0 w1 := hw1 ▸ (Kp.refl _ _).alloc _
  have b1 : w1.heap[R]? = some (.cells #[.int .i64 0, .string ⟨#[]⟩, .slice none 0 0] 37 (0, 0)) := by rw [hw1, hR]; exact block_new _ _
  have k01 := k0.trans k1
  have h1 := h.keep0 k01
  have hRlt : w.heap.size ≤ R := by omega
  have b01 := (k1.block _ (lt_of_block b0) (by simp)).trans b0
  have c0 := Kp.cellAt (X := []) (cell_of_cells (o := 0) h1.top rfl) (by simp)
  have cr0 := Kp.cellAt (X := []) (cell_of_cells (o := 0) (v := .int .i64 kind) b01 rfl) (by simp)
  have cr1 := Kp.cellAt (X := []) (cell_of_cells (o := 1) (v := .string k) b01 rfl) (by simp)
  have cr2 := Kp.cellAt (X := []) (cell_of_cells (o := 2) (v := .string v) b01 rfl) (by simp)
  have HW0 := Lib.hid hw0
  have HW1 := Lib.hid hw1
  have HR := Lib.hid hR2
  clear hw0 hw1 hR hR2 b01
  have hck := callsIn_wide.1 (keysS Fence.wide 2 trivial rfl (some eb) w1)
  obtain ⟨w2, hw2⟩ : ∃ w2, w2 = w1.alloc (.cells #[.map (some eb)] 46) := ⟨_, rfl⟩
  have k2 : Kp [] w1 w2 := hw2 ▸ (Kp.refl _ _).alloc _
  have m2 : w2.cell? ⟨w1.heap.size, 0, none⟩ = some (.map (some eb)) := by rw [hw2]; exact cell_of_cells (block_new _ _) rfl
  have hs2 : w1.heap.size < w2.heap.size := by rw [hw2, World.size_alloc]; exact Nat.lt_succ_self _
  have hso := sorted_known hs (h1.keep0 k2) hz w1.heap.size hs2 m2
  obtain ⟨S, hS⟩ : ∃ S, S = M.keys := ⟨_, rfl⟩
  have hSl : S.length ≤ 1000 := by rw [hS, M.keys_len]; exact hz
  have hsk := fun x (hx : x ∈ S) => key_short hs (k := x) (by rw [← hS]; exact hx)
  rw [← hS] at hso
  have HW2 := Lib.hid hw2
  have HS := Lib.hid hS
  clear hw2 hS
  have d0 : w1.cell? ⟨mb, 0, none⟩ = some (.map (some eb)) := c0 _ (Kp.refl [] w1)
  rw [HW1.out, HW0.out] at d0
  go_enter Tryd.func25, Tryd.ntmps25
  go_wp2_with fail
  rw [← HW0.out, ← HW1.out, ← HR.out]
  refine hck.mono ?_
  rintro e w' ⟨rfl, rfl⟩
  rw [← HW2.out]
  go_wp2_with fail
  refine hso.mono ?_
  rintro e w3 ⟨sv, sc, rfl, hO, k3⟩
  have hsl := SliceAt.of_owns hO
  have hk13 := k2.trans k3
  have hK := Kp.refl [] w3
  have hO0 : w3.ownsRow w3.heap.size 9 1 (.slice none 0 0) 0 (([] : List (List UInt8)).map encStr) := ⟨rfl, .inl ⟨rfl, rfl⟩⟩
  have hL0 : ([] : List (List UInt8)) = ((S.take 0).filter (M.tells k)).take 16 := rfl
  have hsl3 := hsl.keep0 (Kp.refl _ _)
  clear hck hso hO d0
  go_wp2_with fail
  go_loopg [5, 15] S.length (fun g o i wr => ∃ (n : Nat) (L : List (List UInt8)) (av : Option Addr) (cv : Nat), n + g = S.length ∧ i = .int .i64 n ∧ o = .slice av L.length cv ∧ Kp [] w3 wr ∧ wr.ownsRow w3.heap.size 9 1 (.slice av L.length cv) L.length (L.map encStr) ∧ L = ((S.take n).filter (M.tells k)).take 16)
  case atStart => exact ⟨0, [], none, 0, by omega, rfl, rfl, hK, hO0, hL0⟩
  case round =>
    clear hK hO0 hL0
    obtain ⟨n, L, av, cv, hn, rfl, rfl, hK, hOr, hL⟩ := hrel
    have HN := Lib.hid hn
    have HL := Lib.hid hL
    have hL16 : L.length ≤ 16 := by rw [hL, List.length_take]; omega
    clear hL
    by_cases hlt : n < S.length
    · obtain ⟨g', rfl⟩ : ∃ g', gk = g' + 1 := ⟨gk - 1, by omega⟩
      clear hn
      have hltI : (n : Int) < (S.length : Int) := by omega
      obtain ⟨sg, so, rfl, hc, -, -, hcell⟩ := hsl3.cells (by omega)
      have f0 : w3.cell? ⟨sg, so + n, none⟩ = some (.string (SB S[n])) := hcell n _ (by rw [List.getElem?_map, List.getElem?_eq_getElem hlt]; rfl)
      obtain ⟨y, hy⟩ : ∃ y, y = S[n] := ⟨_, rfl⟩
      have hysz := hsk _ (List.getElem_mem hlt)
      rw [← hy] at f0 hysz
      have d1 := Kp.cellAt (X := []) f0 (by simp) _ hK
      have kw := hk13.trans hK
      have hlk := look_known (h1.keep0 kw) hs (k := SB y) (by unfold maxLen; omega) false
      have d0 : wr.cell? ⟨mb, 0, none⟩ = some (.map (some eb)) := c0 _ kw
      have e1 := cr1 _ kw
      obtain ⟨al, hal⟩ : ∃ al, al = M.at (SB y) := ⟨_, rfl⟩
      rw [← hal] at hlk
      simp only [Bool.false_eq_true, if_false] at hlk
      have hte : M.tells k y = (!al.2 && !(Op.bytesLess y k.toList)) := by rw [hal]; rfl
      have hyl : (SB y).toList = y := SB_toList y
      obtain ⟨yB, hyB⟩ : ∃ yB, yB = SB y := ⟨_, rfl⟩
      rw [← hyB] at d1 hlk hyl
      replace hte : M.tells k y = (!al.2 && !(Op.bytesLess yB.toList k.toList)) := by rw [hyl]; exact hte
      have hfd : (Instr.field 68 (.agg #[.string al.1, .bool al.2]) 1).run Tryd.prog wr = .ok (.bool al.2) wr := rfl
      have HY := Lib.hid hy
      have HYL := Lib.hid hyl
      clear f0 hy hal hyB hyl
      cases hg : al.2 with
      | true =>
        rw [hg] at hlk hte hfd
        have hsk2 := out_skip hlt HL.out (by rw [← HY.out, hte]; rfl)
        have HSK := Lib.hid hsk2
        clear hsk2 hte
        go_wp2_with fail
        go_roundg g'
        case rel => exact ⟨n + 1, L, av, cv, st_next HN.out, by go_num, rfl, hK, hOr, HSK.out⟩
        case measure => omega
      | false =>
        rw [hg] at hlk hte hfd
        by_cases h1b : Op.bytesLess yB.toList k.toList = true
        · have hsk2 := out_skip hlt HL.out (by rw [← HY.out, hte, h1b]; rfl)
          have HSK := Lib.hid hsk2
          clear hsk2 hte
          go_wp2_with fail
          go_roundg g'
          case rel => exact ⟨n + 1, L, av, cv, st_next HN.out, by go_num, rfl, hK, hOr, HSK.out⟩
          case measure => omega
        · rw [Bool.not_eq_true] at h1b
          by_cases hf : L.length < 16
          · have hfI : (L.length : Int) < 16 := by omega
            have hmo := out_more hlt HL.out (by rw [← HY.out, hte, h1b]; rfl) hf
            rw [← HY.out] at hmo
            have hge := own_block_ge hOr
            have hBs : w3.heap.size ≤ wr.heap.size := hK.size
            obtain ⟨Ls, hLs⟩ : ∃ Ls, Ls = L.map encStr := ⟨_, rfl⟩
            have hl4 : (L ++ [y]).map encStr = Ls ++ [Value.string yB] := by
              rw [List.map_append, hLs, ← HYL.out, Lib.toList_data]; rfl
            rw [← hLs] at hOr
            obtain ⟨q, hq⟩ : ∃ q, q = L.length := ⟨_, rfl⟩
            have hq2 : (L ++ [y]).length = q + 1 := by rw [List.length_append, hq]; rfl
            rw [← hq] at hOr hfI hf hge ⊢
            have HMO := Lib.hid hmo
            have HL4 := Lib.hid hl4
            have HQ := Lib.hid hq2
            clear hmo hte hl4 hLs hq2 hq
            go_wp2_with (first | (at_builtin; refine wpList_append_mine _ rfl (.tmp 38) (.tmp 40) 35 rfl w3.heap.size 9 j0 (.string ByteArray.empty) 1 16 Tryd.underlying35 hj hy0 hy1 hy2 rfl (by decide) (.slice av q cv) q Ls rfl (ownsRow_keep (X := []) hOr ((Kp.refl _ wr).alloc _) (fun _ _ => by simp)) ⟨wr.heap.size, 0, none⟩ 1 1 [.string yB] rfl rfl (new_cells wr _ _) one_strS (by unfold maxLen; omega) (by omega) (by simp; omega) ?_))
            intro v' w4 hown' hkp _ _
            obtain ⟨av4, cv4, rfl⟩ := ownsRow_ex hown'
            have k4 : Kp (Value.slice av q cv).ownBlock.toList wr w4 := ((Kp.refl _ wr).alloc _).trans hkp
            have hK4 : Kp [] w3 w4 := hK.step k4 (fun i hi hm => by
              rw [Option.mem_toList] at hm
              have := hge i hm
              omega)
            rw [← HL4.out] at hown'
            have HO4 := Lib.hid hown'
            clear hown' hkp k4 hge hOr
            go_wp2_with fail
            go_roundg g'
            case rel => exact ⟨n + 1, L ++ [y], av4, cv4, st_next HN.out, by go_num, by rw [HQ.out], hK4, by rw [HQ.out]; exact HO4.out, HMO.out⟩
            case measure => omega
          · have hfI : ¬ (L.length : Int) < 16 := by omega
            have hsk2 := out_full hlt HL.out (by omega)
            have HSK := Lib.hid hsk2
            clear hsk2 hte
            go_wp2_with fail
            go_roundg g'
            case rel => exact ⟨n + 1, L, av, cv, st_next HN.out, by go_num, rfl, hK, hOr, HSK.out⟩
            case measure => omega
    · obtain rfl : n = S.length := by omega
      obtain rfl : gk = 0 := by omega
      clear hn
      have hfin : M.listed k = L := by
        rw [HL.out, List.take_length, HS.out]; rfl
      have kw := hk13.trans hK
      have b4 := (kw.block _ (lt_of_block b1) (by simp)).trans b1
      have z0 := cell_of_cells (o := 0) b4 rfl
      have z1 := cell_of_cells (o := 1) b4 rfl
      have z2 := cell_of_cells (o := 2) b4 rfl
      have zf0 := frozen_of_cells b4 0
      have zf1 := frozen_of_cells b4 1
      have zf2 := frozen_of_cells b4 2
      have HF := Lib.hid hfin
      obtain ⟨q, hq⟩ : ∃ q, q = L.length := ⟨_, rfl⟩
      obtain ⟨Ls, hLs⟩ : ∃ Ls, Ls = L.map encStr := ⟨_, rfl⟩
      have HQ := Lib.hid hq
      have HLs := Lib.hid hLs
      rw [← hq, ← hLs] at hOr
      rw [← hq]
      clear hfin hq hLs
      go_wp2_with fail
      have hz := box3Put' (b4) (.int .i64 0) (.string ⟨#[]⟩) (.slice av q cv)
      have hkz : Kp [R] wr (((wr.setCell ⟨R, 0, none⟩ (.int .i64 0)).setCell ⟨R, 1, none⟩ (.string ⟨#[]⟩)).setCell ⟨R, 2, none⟩ (.slice av q cv)) := (((Kp.refl _ _).setCell (.inl (by simp)) _).setCell (.inl (by simp)) _).setCell (.inl (by simp)) _
      obtain ⟨Z, hZ⟩ : ∃ Z, Z = (((wr).setCell ⟨R, 0, none⟩ (.int .i64 0)).setCell ⟨R, 1, none⟩ (.string ⟨#[]⟩)).setCell ⟨R, 2, none⟩ (.slice av q cv) := ⟨_, rfl⟩
      rw [← hZ] at hz hkz ⊢
      obtain ⟨hz0, hz1, hz2⟩ := hz
      refine bodyPost_ret (ret3_mList _ _ R (by kernel_rfl) hz0 hz1 hz2) rfl ?_
      have hkw := kp_past (k01.trans kw) hkz hRlt
      have hne : ∀ g, (Value.slice av q cv).ownBlock = some g → g ∉ [R] := fun g hg => by
        have := own_block_ge hOr g hg
        have := lt_of_block b1
        have := hk13.size
        simp only [List.mem_singleton]
        omega
      refine ⟨av, cv, by rw [HF.out, HQ.out], ?_, hkw⟩
      rw [HF.out, ← HQ.out, ← HLs.out]
      exact ownsRow_base (owns_other hOr hkz hne) (by have := (k01.trans hk13).size; omega)
end Go.Proofs.YtlomniffpjndfaaDoor
