/-
  The document's model: its keys; at, list.
-/
import Derived.Test.YtlomniffpjndfaaDoorMdY
namespace Go.Proofs.YtlomniffpjndfaaDoor
open Go.RowKit Go.ChangeMaps Go.Maps Go.WideShapes Go.WideMaps Go.WideElems Go.MapKept Go.ChangeShapes Go.Sort

abbrev KeyD := ByteArray × (ByteArray × Bool)
instance : Inhabited KeyD := ⟨(E0, E0, false)⟩
def KeyC (q : KeyD) : List Value := [.string q.1, .string q.2.1, .bool q.2.2]
theorem keyC_len (q : KeyD) : (KeyC q).length = 3 := rfl
def RmAt (rb : Nat) (w : World) (L : List KeyD) : Prop :=
  ∃ (av : Option Addr) (cv : Nat), w.heap[rb]? = some (.cells #[.slice av L.length cv] 29 (0, 0)) ∧ w.ownsRow (rb + 1) 56 3 (.slice av L.length cv) L.length (L.flatMap KeyC)
theorem RmAt.keep {rb : Nat} {w w' : World} {L : List KeyD} (h : RmAt rb w L) {X : List Nat} (k : Kp X w w') (hX : ∀ i ∈ X, i < rb) : RmAt rb w' L := by
  obtain ⟨av, cv, ht, ho⟩ := h
  refine ⟨av, cv, (k.block rb (lt_of_block ht) (fun hm => by have := hX _ hm; omega)).trans ht, owns_other ho k (fun g hg hm => ?_)⟩
  have := own_block_ge ho g hg
  have := hX g hm
  omega
theorem RmAt.keep0 {rb : Nat} {w w' : World} {L : List KeyD} (h : RmAt rb w L) (k : Kp [] w w') : RmAt rb w' L := h.keep k (fun _ hm => by cases hm)
abbrev Rm.p (rb : Nat) : Value := .pointer (some ⟨rb, 0, none⟩)
/-- the cells of key i -/
theorem key_at {B : Nat} {w : World} {av : Option Addr} {cv : Nat} {L : List KeyD} (h : w.ownsRow B 56 3 (.slice av L.length cv) L.length (L.flatMap KeyC)) (i : Nat) (hi : i < L.length) :
    ∃ g o, av = some ⟨g, o, none⟩ ∧ w.cell? ⟨g, o + i * 3, none⟩ = some (.string L[i].1) ∧ w.cell? ⟨g, o + i * 3 + 1, none⟩ = some (.string L[i].2.1) ∧ w.cell? ⟨g, o + i * 3 + 2, none⟩ = some (.bool L[i].2.2) := by
  obtain ⟨g, o, rfl, hc, -, hb, hcell⟩ := SliceAt.cells (SliceAt.of_owns h) (by omega)
  have hp := fun r hr => flat_at KeyC 3 keyC_len L i r hi hr
  refine ⟨g, o, rfl, hcell (i * 3 + 0) _ (hp 0 (by decide)), ?_, ?_⟩
  all_goals rw [Nat.add_assoc]
  · exact hcell (i * 3 + 1) _ (hp 1 (by decide))
  · exact hcell (i * 3 + 2) _ (hp 2 (by decide))
/-- the place of a key -/
def atL (key : ByteArray) : List KeyD → Nat → Int
  | [], _ => -1
  | q :: l, i => if q.1 = key then i else atL key l (i + 1)
theorem atL_drop {key : ByteArray} {L : List KeyD} {n : Nat} (h : n < L.length) : atL key (L.drop n) n = if L[n].1 = key then (n : Int) else atL key (L.drop (n + 1)) (n + 1) := by
  rw [List.drop_eq_getElem_cons h, atL]
set_option maxHeartbeats 1000000 in
set_option maxRecDepth 20000 in
theorem rat {rb : Nat} {L : List KeyD} (hz : L.length ≤ 1000) (key : ByteArray) (w : World) (h : RmAt rb w L) : Calls Tryd.prog 28 #[Rm.p rb, .string key] w fun e w' => e = .returned (.int .i64 (atL key L 0)) ∧ Kp [] w w' := by
  obtain ⟨av, cv, ht, ho⟩ := h
  have hK := Kp.refl [] w
  have d0 := Kp.cellAt (X := []) (cell_of_cells (o := 0) (v := .slice av L.length cv) ht rfl) (by simp)
  obtain ⟨R, hR⟩ : ∃ R, R = atL key L 0 := ⟨_, rfl⟩
  rw [← hR]
  go_enter Tryd.func28, Tryd.ntmps28
  go_wp2_with fail
  go_loopg [5] L.length (fun g i wr => ∃ n : Nat, n + g = L.length ∧ i = .int .i64 n ∧ Kp [] w wr ∧ R = atL key (L.drop n) n)
  case atStart => exact ⟨0, by omega, rfl, hK, hR⟩
  case round =>
    clear hK hR
    obtain ⟨n, hn, rfl, hK, hA⟩ := hrel
    have HN := Lib.hid hn
    by_cases hlt : n < L.length
    · obtain ⟨g', rfl⟩ : ∃ g', gk = g' + 1 := ⟨gk - 1, by omega⟩
      clear hn
      have hltI : (n : Int) < (L.length : Int) := by omega
      obtain ⟨g, o, rfl, f0, -, -⟩ := key_at ho n hlt
      rw [atL_drop hlt] at hA
      obtain ⟨y, hy⟩ : ∃ y, y = L[n].1 := ⟨_, rfl⟩
      rw [← hy] at f0 hA
      have r0 := Kp.cellAt (X := []) f0 (by simp)
      clear hy f0
      by_cases he : y = key
      · subst he
        rw [if_pos rfl] at hA
        subst hA
        go_wp2_with fail
        go_ret
        exact ⟨rfl, hK⟩
      · rw [if_neg he] at hA
        have hb := bytes_ne he
        have HA := Lib.hid hA
        clear he hA
        go_wp2_with fail
        go_roundg g'
        case rel => exact ⟨n + 1, st_next HN.out, by go_num, hK, HA.out⟩
        case measure => omega
    · obtain rfl : n = L.length := by omega
      obtain rfl : gk = 0 := by omega
      rw [List.drop_length] at hA
      obtain rfl : R = -1 := hA
      clear hn
      go_wp2_with fail
      go_ret
      exact ⟨rfl, hK⟩
theorem encStr_back (b : ByteArray) : encStr b.toList = .string b := by rw [Lib.toList_data]
/-- is a key told? -/
def rtell (f : ByteArray) (q : KeyD) : Bool := !q.2.2 && !(Op.bytesLess q.1.toList f.toList)
def rlisted (f : ByteArray) (L : List KeyD) : List KeyD := (L.filter (rtell f)).take 16
def keyV (q : KeyD) : Value := .string q.1
theorem g_filt {α : Type} {c : α → Bool} {l : List α} {n : Nat} (h : n < l.length) : (l.take (n + 1)).filter c = if c l[n] then (l.take n).filter c ++ [l[n]] else (l.take n).filter c := by
  rw [take_nextS h, List.filter_append]
  by_cases hc : c l[n] = true
  · rw [if_pos hc, List.filter_cons_of_pos hc]; rfl
  · rw [if_neg hc, List.filter_cons_of_neg hc]; simp
theorem g_skip {α : Type} {c : α → Bool} {l o : List α} {n : Nat} (h : n < l.length) (ho : o = ((l.take n).filter c).take 16) (hc : c l[n] = false) : o = ((l.take (n + 1)).filter c).take 16 := by
  rw [g_filt h, if_neg (by rw [hc]; simp)]; exact ho
theorem g_more {α : Type} {c : α → Bool} {l o : List α} {n : Nat} (h : n < l.length) (ho : o = ((l.take n).filter c).take 16) (hc : c l[n] = true) (hf : o.length < 16) : o ++ [l[n]] = ((l.take (n + 1)).filter c).take 16 := by
  rw [g_filt h, if_pos hc]
  have hl : ((l.take n).filter c).length < 16 := by rw [ho, List.length_take] at hf; omega
  rw [List.take_of_length_le (by rw [List.length_append, List.length_singleton]; omega)]
  rw [List.take_of_length_le (by omega)] at ho
  rw [ho]
theorem g_full {α : Type} {c : α → Bool} {l o : List α} {n : Nat} (ho : o = ((l.take n).filter c).take 16) (hf : 16 ≤ o.length) : o = (l.filter c).take 16 := by
  have hl : 16 ≤ ((l.take n).filter c).length := by rw [ho, List.length_take] at hf; omega
  rw [← List.take_append_drop n l, List.filter_append, List.take_append_of_le_length hl]
  exact ho
set_option maxHeartbeats 2000000 in
set_option maxRecDepth 20000 in
theorem rlist {rb : Nat} {L : List KeyD} (hz : L.length ≤ 1000) (key : ByteArray) (w : World) (h : RmAt rb w L) : Calls Tryd.prog 27 #[Rm.p rb, .string key] w fun e w' =>
    ∃ av cv, e = .returned (.slice av (rlisted key L).length cv) ∧ w'.ownsRow w.heap.size 9 1 (.slice av (rlisted key L).length cv) (rlisted key L).length ((rlisted key L).map keyV) ∧ Kp [] w w' := by
  obtain ⟨j0, hj, hy0, hy1, hy2⟩ := info_parts Tryd.info9
  obtain ⟨av, cv, ht, ho⟩ := h
  have hK := Kp.refl [] w
  have d0 := Kp.cellAt (X := []) (cell_of_cells (o := 0) (v := .slice av L.length cv) ht rfl) (by simp)
  obtain ⟨T, hT⟩ : ∃ T, T = rlisted key L := ⟨_, rfl⟩
  rw [← hT]
  have HT := Lib.hid hT
  have hO0 : w.ownsRow w.heap.size 9 1 (.slice none 0 0) 0 (([] : List KeyD).map keyV) := ⟨rfl, .inl ⟨rfl, rfl⟩⟩
  have hL0 : ([] : List KeyD) = ((L.take 0).filter (rtell key)).take 16 := rfl
  clear hT
  go_enter Tryd.func27, Tryd.ntmps27
  go_wp2_with fail
  go_loopg [5, 6] L.length (fun g o i wr => ∃ (n : Nat) (O : List KeyD) (ao : Option Addr) (co : Nat), n + g = L.length ∧ i = .int .i64 n ∧ o = .slice ao O.length co ∧ Kp [] w wr ∧ wr.ownsRow w.heap.size 9 1 (.slice ao O.length co) O.length (O.map keyV) ∧ O = ((L.take n).filter (rtell key)).take 16)
  case atStart => exact ⟨0, [], none, 0, by omega, rfl, rfl, hK, hO0, hL0⟩
  case round =>
    clear hK hO0 hL0
    obtain ⟨n, O, ao, co, hn, rfl, rfl, hK, hO, hL⟩ := hrel
    have HN := Lib.hid hn
    have HL := Lib.hid hL
    have hL16 : O.length ≤ 16 := by rw [hL, List.length_take]; omega
    clear hL
    by_cases hlt : n < L.length
    · by_cases hf : O.length < 16
      · obtain ⟨g', rfl⟩ : ∃ g', gk = g' + 1 := ⟨gk - 1, by omega⟩
        clear hn
        have hltI : (n : Int) < (L.length : Int) := by omega
        have hfI : (O.length : Int) < 16 := by omega
        obtain ⟨g, o, rfl, f0, -, f2⟩ := key_at ho n hlt
        have r0 := Kp.cellAt (X := []) f0 (by simp)
        have r2 := Kp.cellAt (X := []) f2 (by simp)
        have hskip := fun hc => g_skip (c := rtell key) hlt HL.out hc
        have hmore := fun hc => g_more (c := rtell key) hlt HL.out hc hf
        obtain ⟨y, hy⟩ : ∃ y, y = L[n] := ⟨_, rfl⟩
        rw [← hy] at r0 r2 hskip hmore
        obtain ⟨y0, y1, y2⟩ := y
        simp only at r0 r2
        have hte : rtell key (y0, y1, y2) = (!y2 && !(Op.bytesLess y0.toList key.toList)) := rfl
        clear hy f0 f2
        cases y2 with
        | true =>
          have hsk2 := hskip (by rw [hte]; rfl)
          have HSK := Lib.hid hsk2
          clear hsk2 hte hskip hmore
          go_wp2_with fail
          go_roundg g'
          case rel => exact ⟨n + 1, O, ao, co, st_next HN.out, by go_num, rfl, hK, hO, HSK.out⟩
          case measure => omega
        | false =>
          by_cases h1b : Op.bytesLess y0.toList key.toList = true
          · have hsk2 := hskip (by rw [hte, h1b]; rfl)
            have HSK := Lib.hid hsk2
            clear hsk2 hte hskip hmore
            go_wp2_with fail
            go_roundg g'
            case rel => exact ⟨n + 1, O, ao, co, st_next HN.out, by go_num, rfl, hK, hO, HSK.out⟩
            case measure => omega
          · rw [Bool.not_eq_true] at h1b
            have hmo := hmore (by rw [hte, h1b]; rfl)
            have hge := own_block_ge hO
            have hBs : w.heap.size ≤ wr.heap.size := hK.size
            obtain ⟨Ls, hLs⟩ : ∃ Ls, Ls = O.map keyV := ⟨_, rfl⟩
            have hl4 : (O ++ [(y0, y1, false)]).map keyV = Ls ++ [Value.string y0] := by
              rw [List.map_append, hLs]; rfl
            rw [← hLs] at hO
            obtain ⟨q, hq⟩ : ∃ q, q = O.length := ⟨_, rfl⟩
            have hq2 : (O ++ [(y0, y1, false)]).length = q + 1 := by rw [List.length_append, hq]; rfl
            rw [← hq] at hO hfI hf hge hL16 ⊢
            have HMO := Lib.hid hmo
            have HL4 := Lib.hid hl4
            have HQ := Lib.hid hq2
            clear hmo hte hskip hmore hl4 hLs hq2 hq
            go_wp2_with (first | (at_builtin; refine wpList_append_mine _ rfl (.tmp 42) (.tmp 51) 35 rfl w.heap.size 9 j0 (.string ByteArray.empty) 1 16 Tryd.underlying35 hj hy0 hy1 hy2 rfl (by decide) (.slice ao q co) q Ls rfl (ownsRow_keep (X := []) hO ((Kp.refl _ wr).alloc _) (fun _ _ => by simp)) ⟨wr.heap.size, 0, none⟩ 1 1 [.string y0] rfl rfl (new_cells wr _ _) one_strS (by unfold maxLen; omega) (by omega) (by simp; omega) ?_))
            intro v' w4 hown' hkp _ _
            obtain ⟨av4, cv4, rfl⟩ := ownsRow_ex hown'
            have k4 : Kp (Value.slice ao q co).ownBlock.toList wr w4 := ((Kp.refl _ wr).alloc _).trans hkp
            have hK4 : Kp [] w w4 := hK.step k4 (fun i hi hm => by
              rw [Option.mem_toList] at hm
              have := hge i hm
              omega)
            rw [← HL4.out] at hown'
            have HO4 := Lib.hid hown'
            clear hown' hkp k4 hge hO
            go_wp2_with fail
            go_roundg g'
            case rel => exact ⟨n + 1, O ++ [(y0, y1, false)], av4, cv4, st_next HN.out, by go_num, by rw [HQ.out], hK4, by rw [HQ.out]; exact HO4.out, HMO.out⟩
            case measure => omega
      · have hltI : (n : Int) < (L.length : Int) := by omega
        have hfI : ¬ (O.length : Int) < 16 := by omega
        obtain rfl : T = O := HT.out.trans (g_full HL.out (by omega)).symm
        clear hn
        go_wp2_with fail
        go_ret
        exact ⟨ao, co, rfl, hO, hK⟩
    · obtain rfl : n = L.length := by omega
      obtain rfl : gk = 0 := by omega
      obtain rfl : T = O := by rw [HT.out, HL.out, List.take_length]; rfl
      clear hn
      go_wp2_with fail
      go_ret
      exact ⟨ao, co, rfl, hO, hK⟩
end Go.Proofs.YtlomniffpjndfaaDoor
