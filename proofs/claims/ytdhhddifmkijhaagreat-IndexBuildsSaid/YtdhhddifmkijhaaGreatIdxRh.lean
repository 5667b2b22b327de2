/-
  The document's index: lay.
-/
import Derived.Test.YtdhhddifmkijhaaGreatIdxRg
namespace Go.Proofs.YtdhhddifmkijhaaGreat
def fun_true : World → Prop := fun _ => True
open Go.RowKit Go.ChangeMaps Go.Maps Go.WideShapes Go.WideMaps Go.WideElems Go.MapKept Go.ChangeShapes

def insV (q : VolD × Value) : List (VolD × Value) → List (VolD × Value)
  | [] => [q]
  | x :: r => if q.1.id < x.1.id then q :: x :: r else x :: insV q r
def insD (v : VolD) : List VolD → List VolD
  | [] => [v]
  | x :: r => if v.id < x.id then v :: x :: r else x :: insD v r
theorem insV_map (q : VolD × Value) : ∀ l : List (VolD × Value), (insV q l).map (·.1) = insD q.1 (l.map (·.1))
  | [] => rfl
  | x :: r => by
    simp only [insV, insD, List.map_cons]
    split
    · rfl
    · rw [List.map_cons, insV_map q r]
theorem insV_mem (q : VolD × Value) : ∀ (l : List (VolD × Value)) (x : VolD × Value), x ∈ insV q l → x = q ∨ x ∈ l
  | [], x, h => .inl (by simpa [insV] using h)
  | y :: r, x, h => by
    unfold insV at h
    split at h
    · rcases List.mem_cons.1 h with h | h
      · exact .inl h
      · exact .inr h
    · rcases List.mem_cons.1 h with h | h
      · exact .inr (h ▸ List.mem_cons_self ..)
      · rcases insV_mem q r x h with h | h
        · exact .inl h
        · exact .inr (List.mem_cons_of_mem _ h)
theorem insV_len (q : VolD × Value) : ∀ l : List (VolD × Value), (insV q l).length = l.length + 1
  | [] => rfl
  | y :: r => by
    unfold insV
    split
    · rfl
    · simp [insV_len q r]
theorem insV_none (q : VolD × Value) : ∀ l : List (VolD × Value), (∀ x ∈ l, ¬ q.1.id < x.1.id) → insV q l = l ++ [q]
  | [], _ => rfl
  | y :: r, h => by
    unfold insV
    rw [if_neg (h y (List.mem_cons_self ..)), insV_none q r (fun x hx => h x (List.mem_cons_of_mem _ hx))]; rfl
theorem insV_old (q y : VolD × Value) : ∀ l : List (VolD × Value), (∃ x ∈ l, q.1.id < x.1.id) → insV q (l ++ [y]) = insV q l ++ [y]
  | [], h => by obtain ⟨x, hx, -⟩ := h; cases hx
  | z :: r, h => by
    simp only [List.cons_append, insV]
    by_cases hz : q.1.id < z.1.id
    · rw [if_pos hz, if_pos hz, List.cons_append, List.cons_append]
    · rw [if_neg hz, if_neg hz, insV_old q y r]
      · rfl
      · obtain ⟨x, hx, hlt⟩ := h
        rcases List.mem_cons.1 hx with rfl | hx
        · exact absurd hlt hz
        · exact ⟨x, hx, hlt⟩
theorem insV_new (q y : VolD × Value) : ∀ l : List (VolD × Value), (∀ x ∈ l, ¬ q.1.id < x.1.id) → q.1.id < y.1.id → insV q (l ++ [y]) = l ++ [q] ++ [y]
  | [], _, hy => by
    show (if q.1.id < y.1.id then _ else _) = _
    rw [if_pos hy]; rfl
  | z :: r, h, hy => by
    simp only [List.cons_append, insV]
    rw [if_neg (h z (List.mem_cons_self ..)), insV_new q y r (fun x hx => h x (List.mem_cons_of_mem _ hx)) hy]
/-- how far lay has come -/
def LaidTo (q : VolD × Value) (l : List (VolD × Value)) (b : Bool) (L : List (VolD × Value)) : Prop :=
  (b = false ∧ L = l ∧ ∀ x ∈ l, ¬ q.1.id < x.1.id) ∨ (b = true ∧ L = insV q l ∧ ∃ x ∈ l, q.1.id < x.1.id)
theorem LaidTo.len {q : VolD × Value} {l : List (VolD × Value)} {b : Bool} {L : List (VolD × Value)} (h : LaidTo q l b L) : L.length ≤ l.length + 1 := by
  rcases h with ⟨-, rfl, -⟩ | ⟨-, rfl, -⟩
  · omega
  · rw [insV_len]; omega
theorem LaidTo.next {q y : VolD × Value} {l : List (VolD × Value)} {L : List (VolD × Value)} (h : LaidTo q l true L) : LaidTo q (l ++ [y]) true (L ++ [y]) := by
  rcases h with ⟨h, -, -⟩ | ⟨-, rfl, hx⟩
  · cases h
  · obtain ⟨x, hx, hlt⟩ := hx
    exact .inr ⟨rfl, (insV_old q y l ⟨x, hx, hlt⟩).symm, x, List.mem_append_left _ hx, hlt⟩
theorem LaidTo.now {q y : VolD × Value} {l : List (VolD × Value)} {L : List (VolD × Value)} (h : LaidTo q l false L) (hy : q.1.id < y.1.id) : LaidTo q (l ++ [y]) true (L ++ [q] ++ [y]) := by
  rcases h with ⟨-, rfl, hx⟩ | ⟨h, -, -⟩
  · exact .inr ⟨rfl, (insV_new q y L hx hy).symm, y, by simp, hy⟩
  · cases h
theorem LaidTo.still {q y : VolD × Value} {l : List (VolD × Value)} {L : List (VolD × Value)} (h : LaidTo q l false L) (hy : ¬ q.1.id < y.1.id) : LaidTo q (l ++ [y]) false (L ++ [y]) := by
  rcases h with ⟨-, rfl, hx⟩ | ⟨h, -, -⟩
  · refine .inl ⟨rfl, rfl, fun x hm => ?_⟩
    rcases List.mem_append.1 hm with hm | hm
    · exact hx x hm
    · rw [List.mem_singleton] at hm; rw [hm]; exact hy
  · cases h
theorem LaidTo.all {q : VolD × Value} {l : List (VolD × Value)} {L : List (VolD × Value)} (h : LaidTo q l true L) : insV q l = L := by
  rcases h with ⟨h, -, -⟩ | ⟨-, rfl, -⟩
  · cases h
  · rfl
theorem LaidTo.last {q : VolD × Value} {l : List (VolD × Value)} {L : List (VolD × Value)} (h : LaidTo q l false L) : insV q l = L ++ [q] := by
  rcases h with ⟨-, rfl, hx⟩ | ⟨h, -, -⟩
  · exact insV_none q L hx
  · cases h
theorem owns_snoc {W : World} {base : Nat} {L : List (VolD × Value)} {av : Option Addr} {cv : Nat} {q : VolD × Value} {vals : List Value} (hv : volC q = vals) (h : W.ownsRow base 36 4 (.slice av (L.length + 1) cv) (L.length + 1) (L.flatMap volC ++ vals)) : W.ownsRow base 36 4 (.slice av (L ++ [q]).length cv) (L ++ [q]).length ((L ++ [q]).flatMap volC) := by
  have e1 : (L ++ [q]).length = L.length + 1 := by simp
  have e2 : (L ++ [q]).flatMap volC = L.flatMap volC ++ vals := by rw [List.flatMap_append, ← hv]; simp
  rw [e1, e2]
  exact h
theorem vols_slices {B : Nat} {w : World} {vls : List (VolD × Value)} (h : ∀ q ∈ vls, LocsAt B w q.2 q.1.locs) : ∀ q ∈ vls, ∃ a n c, q.2 = .slice a n c := fun q hq => by
  obtain ⟨a, c, e⟩ := slice_ex (h q hq)
  exact ⟨a, _, c, e⟩
theorem Tryz.underlying30' : Tryz.prog.underlying 30 = some (.slice 3) := by kernel_rfl
theorem Tryz.infoI' : (Tryz.prog.info? 3).map (fun i => (i.zero, i.size, i.bytes)) = some (some (.int .i64 0), 1, 8) := by kernel_rfl
set_option maxHeartbeats 4000000 in
set_option maxRecDepth 20000 in
theorem klay {B kb : Nat} {k : Rx} (v : VolD) (lv : Value) (w : World) (h : RIn B kb w k) (hzV : k.V.length ≤ 900) (hzH : k.H.length ≤ 900) (hl : LocsAt B w lv v.locs) :
    Calls Tryz.prog 35 #[.pointer (some ⟨kb, 0, none⟩), .agg (VolVA v lv)] w fun e w' => e = .returned (.tuple #[]) ∧ RIn B kb w' { k with V := insD v k.V, H := k.H ++ [v.id] } ∧ Turn B w w' := by
  obtain ⟨la, lc, rfl⟩ := slice_ex hl
  obtain ⟨x0, x1, x2, ls⟩ := v
  simp only at hl
  simp only [VolVA]
  obtain ⟨i0, hi, hz0, hz1, hz2⟩ := info_parts Tryz.info36
  obtain ⟨j0, hj, hy0, hy1, hy2⟩ := info_parts Tryz.infoI'
  obtain ⟨w0, hw0⟩ : ∃ w0, w0 = w.alloc (.cells #[.int .i64 x0, .int .i64 x1, .int .i64 x2, .slice la ls.length lc] 36) := ⟨_, rfl⟩
  have k0 : Kp [] w w0 := hw0 ▸ (Kp.refl _ _).alloc _
  have b0 : w0.heap[w.heap.size]? = some (.cells #[.int .i64 x0, .int .i64 x1, .int .i64 x2, .slice la ls.length lc] 36 (0, 0)) := by rw [hw0]; exact block_new _ _
  obtain ⟨f0, f1, f2, f3⟩ := read4 b0
  have c0 := Kp.cellAt (X := []) f0 (by simp)
  have c1 := Kp.cellAt (X := []) f1 (by simp)
  have c2 := Kp.cellAt (X := []) f2 (by simp)
  have c3 := Kp.cellAt (X := []) f3 (by simp)
  have hri := h.keep0 k0
  have hl0 := hl.keep0 k0
  obtain ⟨eA, eC, gA, gC, vA, vC, hA, hC, hat⟩ := hri.open
  obtain ⟨vls, hvm, hvo, hvl⟩ := hat.vols
  have hvn : vls.length = k.V.length := by rw [← hvm, List.length_map]
  have hvs := SliceAt.of_owns hvo
  have hsl := vols_slices hvl
  rw [← hvn] at hvs
  have d2 := Kp.cellAt (X := []) (cell_of_cells (o := 2) hat.top rfl) (by simp)
  have hK := Kp.refl [] w0
  obtain ⟨q, hq⟩ : ∃ q : VolD × Value, q = (⟨x0, x1, x2, ls⟩, .slice la ls.length lc) := ⟨_, rfl⟩
  have hqi : q.1.id = x0 := by rw [hq]
  have hqc : volC q = [.int .i64 x0, .int .i64 x1, .int .i64 x2, .slice la ls.length lc] := by rw [hq]; rfl
  have hL0 : LaidTo q (vls.take 0) false [] := .inl ⟨rfl, rfl, by simp⟩
  have hO0 : w0.ownsRow w0.heap.size 36 4 (.slice none 0 0) 0 [] := ⟨rfl, .inl ⟨rfl, rfl⟩⟩
  have hlow := hat.low
  have hkl := lt_of_block hat.top
  have hkw : kb < w.heap.size := by
    obtain ⟨_, _, _, _, hh⟩ := h
    exact lt_of_block hh.top
  have hws : w.heap.size < w0.heap.size := by rw [hw0, World.size_alloc]; exact Nat.lt_succ_self _
  have Hw0 := Lib.hid hw0
  have HBX := Lib.hid b0
  have HQI := Lib.hid hqi
  have HQC := Lib.hid hqc
  have HQ := Lib.hid hq
  have HVN := Lib.hid hvn
  have hvz : vls.length ≤ 900 := by omega
  rw [← hvn] at d2
  clear hw0 b0 f0 f1 f2 f3 hqi hqc hq hvn
  go_enter Tryz.func35, Tryz.ntmps35
  go_wp2_with fail
  rw [← Hw0.out]
  go_loopg [4, 5, 6] vls.length (fun g o b i wr => ∃ (n : Nat) (av : Option Addr) (cv : Nat) (L : List (VolD × Value)) (bb : Bool), n + g = vls.length ∧ i = .int .i64 n ∧ o = .slice av L.length cv ∧ b = .bool bb ∧ Kp [] w0 wr ∧ wr.ownsRow w0.heap.size 36 4 (.slice av L.length cv) L.length (L.flatMap volC) ∧ LaidTo q (vls.take n) bb L)
  case atStart => exact ⟨0, none, 0, [], false, by omega, rfl, rfl, rfl, hK, hO0, hL0⟩
  case round =>
    clear hK hO0 hL0
    obtain ⟨n, av, cv, L, bb, hn, rfl, rfl, rfl, hK, hO, hL⟩ := hrel
    have HN := Lib.hid hn
    have hLl := hL.len
    rw [List.length_take] at hLl
    have hLz : L.length ≤ 901 := by omega
    have HL := Lib.hid hL
    clear hL hLl
    have hsK := hK.size
    by_cases hlt : n < vls.length
    · obtain ⟨g', rfl⟩ : ∃ g', gk = g' + 1 := ⟨gk - 1, by omega⟩
      clear hn
      have hltI : (n : Int) < (vls.length : Int) := by omega
      obtain ⟨g, o, c, hv', e0, e1, e2, e3⟩ := vols_cell hvs n hlt
      simp only [Value.slice.injEq] at hv'
      obtain ⟨rfl, -, rfl⟩ := hv'
      obtain ⟨ya, yn, yc, hy2'⟩ := hsl _ (List.getElem_mem hlt)
      have htn := take_next hlt
      rw [hy2'] at e3
      have u0 := Kp.cellAt (X := []) e0 (by simp)
      have u1 := Kp.cellAt (X := []) e1 (by simp)
      have u2 := Kp.cellAt (X := []) e2 (by simp)
      have u3 := Kp.cellAt (X := []) e3 (by simp)
      obtain ⟨⟨⟨y0, y1, y2, yl⟩, yv⟩, hy⟩ : ∃ y, y = vls[n] := ⟨_, rfl⟩
      rw [← hy] at u0 u1 u2 htn hy2'
      simp only at u0 u1 u2 hy2'
      subst hy2'
      have HTN := Lib.hid htn
      clear e0 e1 e2 e3 hy htn
      cases bb with
      | true =>
        go_wp2_with fail
        refine wpB_begin 999 (Kp [] w0) (by kernel_rfl) (by exact hK.drew) (fun hHeld => ?_)
        refine wpB_take 0 _ ?_ rfl (by kernel_rfl) (fun _ _ _ h => h) rfl hHeld ?_ ?_
        rotate_left
        · (intro W hW; go_simp; try with_reducible rfl)
        try simp only [Act.put, List.setIfInBounds_toArray, List.set_cons_zero, List.set_cons_succ]
        refine wpB_take 1 _ ?_ rfl (by kernel_rfl) (fun _ _ _ h => h) rfl hHeld ?_ ?_
        rotate_left
        · (intro W hW; go_simp; try with_reducible rfl)
        try simp only [Act.put, List.setIfInBounds_toArray, List.set_cons_zero, List.set_cons_succ]
        refine wpB_take 2 _ ?_ rfl (by kernel_rfl) (fun _ _ _ h => h) rfl hHeld ?_ ?_
        rotate_left
        · (intro W hW; go_simp; try with_reducible rfl)
        try simp only [Act.put, List.setIfInBounds_toArray, List.set_cons_zero, List.set_cons_succ]
        refine wpB_skip 3 _ rfl (by kernel_rfl) (fun _ _ _ h => h) rfl hHeld ?_
        try simp only [Act.put, List.setIfInBounds_toArray, List.set_cons_zero, List.set_cons_succ]
        refine wpB_skip 4 _ rfl (by kernel_rfl) (fun _ _ _ h => h) rfl hHeld ?_
        try simp only [Act.put, List.setIfInBounds_toArray, List.set_cons_zero, List.set_cons_succ]
        refine wpB_skip 5 _ rfl (by kernel_rfl) (fun _ _ _ h => h) rfl hHeld ?_
        try simp only [Act.put, List.setIfInBounds_toArray, List.set_cons_zero, List.set_cons_succ]
        refine wpB_skip 6 _ rfl (by kernel_rfl) (fun _ _ _ h => h) rfl hHeld ?_
        try simp only [Act.put, List.setIfInBounds_toArray, List.set_cons_zero, List.set_cons_succ]
        refine wpB_skip 7 _ rfl (by kernel_rfl) (fun _ _ _ h => h) rfl hHeld ?_
        try simp only [Act.put, List.setIfInBounds_toArray, List.set_cons_zero, List.set_cons_succ]
        refine wpB_skip 8 _ rfl (by kernel_rfl) (fun _ _ _ h => h) rfl hHeld ?_
        try simp only [Act.put, List.setIfInBounds_toArray, List.set_cons_zero, List.set_cons_succ]
        refine wpB_skip 9 _ rfl (by kernel_rfl) (fun _ _ _ h => h) rfl hHeld ?_
        try simp only [Act.put, List.setIfInBounds_toArray, List.set_cons_zero, List.set_cons_succ]
        refine wpB_skip 10 _ rfl (by kernel_rfl) (fun _ _ _ h => h) rfl hHeld ?_
        try simp only [Act.put, List.setIfInBounds_toArray, List.set_cons_zero, List.set_cons_succ]
        refine wpB_skip 11 _ rfl (by kernel_rfl) (fun _ _ _ h => h) rfl hHeld ?_
        try simp only [Act.put, List.setIfInBounds_toArray, List.set_cons_zero, List.set_cons_succ]
        refine wpB_skip 12 _ rfl (by kernel_rfl) (fun _ _ _ h => h) rfl hHeld ?_
        try simp only [Act.put, List.setIfInBounds_toArray, List.set_cons_zero, List.set_cons_succ]
        refine wpB_skip 13 _ rfl (by kernel_rfl) (fun _ _ _ h => h) rfl hHeld ?_
        try simp only [Act.put, List.setIfInBounds_toArray, List.set_cons_zero, List.set_cons_succ]
        refine wpB_take 14 _ ?_ rfl (by kernel_rfl) (fun _ _ _ h => h) rfl hHeld ?_ ?_
        rotate_left
        · (intro W hW; go_simp; try with_reducible rfl)
        try simp only [Act.put, List.setIfInBounds_toArray, List.set_cons_zero, List.set_cons_succ]
        refine wpB_done (by kernel_rfl) ?_ _
        obtain ⟨wd, hwd⟩ : ∃ wd, wd = wr.drew := ⟨_, rfl⟩
        have hOd : wd.ownsRow w0.heap.size 36 4 (.slice av L.length cv) L.length (L.flatMap volC) := by rw [hwd]; exact hO
        rw [← hwd] at hHeld ⊢
        have hK := hHeld
        have hsK := hK.size
        clear hwd hO hHeld
        have hge_w3 := own_block_ge (hOd)
        go_wp2_with (first | (at_builtin; refine wpList_append_mine _ rfl (.tmp 35) (.tmp 43) 29 rfl w0.heap.size 36 i0 (.agg #[.int .i64 0, .int .i64 0, .int .i64 0, .slice none 0 0]) 4 48 Tryz.underlying29 hi hz0 hz1 hz2 rfl (by decide) (.slice av (L).length cv) (L).length ((L).flatMap volC) rfl (ownsRow_keep (X := []) (hOd) ((Kp.refl _ wd).alloc _) (fun _ _ => by simp)) ⟨(wd).heap.size, 0, none⟩ 1 1 [.int .i64 y0, .int .i64 y1, .int .i64 y2, .slice ya yn yc] rfl rfl (new_cells wd _ _) (oneCell_vol _ _ _ _ _ _) (by unfold maxLen; omega) (by omega) (by simp; omega) ?_))
        intro v' w3 hown' hkp _ _
        obtain ⟨av3, cv3, rfl⟩ := ownsRow_ex hown'
        have hK3 : Kp [] w0 w3 := hK.step (((Kp.refl _ wd).alloc _).trans hkp) (fun i hi hm => by
          rw [Option.mem_toList] at hm
          have := hge_w3 i hm
          omega)
        have hO3 := hown'
        clear hkp hown'
        have hO4 := owns_snoc (q := (⟨y0, y1, y2, yl⟩, .slice ya yn yc)) rfl hO3
        have HO4 := Lib.hid hO4
        have HL4 := Lib.hid (HL.out.next (y := (⟨y0, y1, y2, yl⟩, .slice ya yn yc)))
        clear hO3 hO4 hge_w3
        go_wp2_with fail
        go_roundg g'
        case rel => exact ⟨n + 1, av3, cv3, _, true, st_next HN.out, by go_num, by simp, rfl, hK3, HO4.out, by rw [HTN.out]; exact HL4.out⟩
        case measure => omega
      | false =>
        by_cases hyx : x0 < y0
        · have hb : decide (x0 < y0) = true := decide_eq_true hyx
          have hL4 := HL.out.now (y := (⟨y0, y1, y2, yl⟩, .slice ya yn yc)) (by rw [HQI.out]; exact hyx)
          have HL4 := Lib.hid hL4
          clear hL4
          go_wp2_with fail
          refine wpB_begin 999 (Kp [] w0) (by kernel_rfl) (by exact hK.drew) (fun hHeld => ?_)
          refine wpB_take 0 _ ?_ rfl (by kernel_rfl) (fun _ _ _ h => h) rfl hHeld ?_ ?_
          rotate_left
          · (intro W hW; go_simp; try with_reducible rfl)
          try simp only [Act.put, List.setIfInBounds_toArray, List.set_cons_zero, List.set_cons_succ]
          refine wpB_take 1 _ ?_ rfl (by kernel_rfl) (fun _ _ _ h => h) rfl hHeld ?_ ?_
          rotate_left
          · (intro W hW; go_simp; try with_reducible rfl)
          try simp only [Act.put, List.setIfInBounds_toArray, List.set_cons_zero, List.set_cons_succ]
          refine wpB_take 2 _ ?_ rfl (by kernel_rfl) (fun _ _ _ h => h) rfl hHeld ?_ ?_
          rotate_left
          · (intro W hW; go_simp; try with_reducible rfl)
          try simp only [Act.put, List.setIfInBounds_toArray, List.set_cons_zero, List.set_cons_succ]
          refine wpB_take 3 _ ?_ rfl (by kernel_rfl) (fun _ _ _ h => h) rfl hHeld ?_ ?_
          rotate_left
          · (intro W hW; go_simp; try with_reducible rfl)
          try simp only [Act.put, List.setIfInBounds_toArray, List.set_cons_zero, List.set_cons_succ]
          refine wpB_take 4 _ ?_ rfl (by kernel_rfl) (fun _ _ _ h => h) rfl hHeld ?_ ?_
          rotate_left
          · (intro W hW; go_simp; try with_reducible rfl)
          try simp only [Act.put, List.setIfInBounds_toArray, List.set_cons_zero, List.set_cons_succ]
          refine wpB_take 5 _ ?_ rfl (by kernel_rfl) (fun _ _ _ h => h) rfl hHeld ?_ ?_
          rotate_left
          · (intro W hW; go_simp; try with_reducible rfl)
          try simp only [Act.put, List.setIfInBounds_toArray, List.set_cons_zero, List.set_cons_succ]
          refine wpB_take 6 _ ?_ rfl (by kernel_rfl) (fun _ _ _ h => h) rfl hHeld ?_ ?_
          rotate_left
          · (intro W hW; go_simp; try with_reducible rfl)
          try simp only [Act.put, List.setIfInBounds_toArray, List.set_cons_zero, List.set_cons_succ]
          refine wpB_take 7 _ ?_ rfl (by kernel_rfl) (fun _ _ _ h => h) rfl hHeld ?_ ?_
          rotate_left
          · (intro W hW; go_simp; try with_reducible rfl)
          try simp only [Act.put, List.setIfInBounds_toArray, List.set_cons_zero, List.set_cons_succ]
          refine wpB_take 8 _ ?_ rfl (by kernel_rfl) (fun _ _ _ h => h) rfl hHeld ?_ ?_
          rotate_left
          · (intro W hW; go_simp; try with_reducible rfl)
          try simp only [Act.put, List.setIfInBounds_toArray, List.set_cons_zero, List.set_cons_succ]
          refine wpB_take 9 _ ?_ rfl (by kernel_rfl) (fun _ _ _ h => h) rfl hHeld ?_ ?_
          rotate_left
          · (intro W hW; go_simp; try with_reducible rfl)
          try simp only [Act.put, List.setIfInBounds_toArray, List.set_cons_zero, List.set_cons_succ]
          refine wpB_take 10 _ ?_ rfl (by kernel_rfl) (fun _ _ _ h => h) rfl hHeld ?_ ?_
          rotate_left
          · (intro W hW; go_simp; try with_reducible rfl)
          try simp only [Act.put, List.setIfInBounds_toArray, List.set_cons_zero, List.set_cons_succ]
          refine wpB_take 11 _ ?_ rfl (by kernel_rfl) (fun _ _ _ h => h) rfl hHeld ?_ ?_
          rotate_left
          · (intro W hW; go_simp; try with_reducible rfl)
          try simp only [Act.put, List.setIfInBounds_toArray, List.set_cons_zero, List.set_cons_succ]
          refine wpB_take 12 _ ?_ rfl (by kernel_rfl) (fun _ _ _ h => h) rfl hHeld ?_ ?_
          rotate_left
          · (intro W hW; go_simp; try with_reducible rfl)
          try simp only [Act.put, List.setIfInBounds_toArray, List.set_cons_zero, List.set_cons_succ]
          refine wpB_take 13 _ ?_ rfl (by kernel_rfl) (fun _ _ _ h => h) rfl hHeld ?_ ?_
          rotate_left
          · (intro W hW; go_simp; try with_reducible rfl)
          try simp only [Act.put, List.setIfInBounds_toArray, List.set_cons_zero, List.set_cons_succ]
          refine wpB_take 14 _ ?_ rfl (by kernel_rfl) (fun _ _ _ h => h) rfl hHeld ?_ ?_
          rotate_left
          · (intro W hW; go_simp; try with_reducible rfl)
          try simp only [Act.put, List.setIfInBounds_toArray, List.set_cons_zero, List.set_cons_succ]
          refine wpB_done (by kernel_rfl) ?_ _
          obtain ⟨wd, hwd⟩ : ∃ wd, wd = wr.drew := ⟨_, rfl⟩
          have hOd : wd.ownsRow w0.heap.size 36 4 (.slice av L.length cv) L.length (L.flatMap volC) := by rw [hwd]; exact hO
          rw [← hwd] at hHeld ⊢
          have hK := hHeld
          have hsK := hK.size
          clear hwd hO hHeld
          have hge_w3 := own_block_ge (hOd)
          go_wp2_with (first | (at_builtin; refine wpList_append_mine _ rfl (.tmp 31) (.tmp 33) 29 rfl w0.heap.size 36 i0 (.agg #[.int .i64 0, .int .i64 0, .int .i64 0, .slice none 0 0]) 4 48 Tryz.underlying29 hi hz0 hz1 hz2 rfl (by decide) (.slice av (L).length cv) (L).length ((L).flatMap volC) rfl (ownsRow_keep (X := []) (hOd) ((Kp.refl _ wd).alloc _) (fun _ _ => by simp)) ⟨(wd).heap.size, 0, none⟩ 1 1 [.int .i64 x0, .int .i64 x1, .int .i64 x2, .slice la ls.length lc] rfl rfl (new_cells wd _ _) (oneCell_vol _ _ _ _ _ _) (by unfold maxLen; omega) (by omega) (by simp; omega) ?_))
          intro v' w3 hown' hkp _ _
          obtain ⟨av3, cv3, rfl⟩ := ownsRow_ex hown'
          have hK3 : Kp [] w0 w3 := hK.step (((Kp.refl _ wd).alloc _).trans hkp) (fun i hi hm => by
            rw [Option.mem_toList] at hm
            have := hge_w3 i hm
            omega)
          have hO3 := hown'
          clear hkp hown'
          have hO4 := owns_snoc (q := q) HQC.out hO3
          obtain ⟨L2, hL2⟩ : ∃ L2, L2 = L ++ [q] := ⟨_, rfl⟩
          have hlen2 : L.length + 1 = L2.length := by rw [hL2]; simp
          rw [← hL2] at hO4 HL4
          have hL2z : L2.length ≤ 902 := by omega
          rw [hlen2]
          have hK := hK3
          have hsK := hK.size
          clear hO3 hge_w3 hL2 hlen2
          have hge_w5 := own_block_ge (hO4)
          go_wp2_with (first | (at_builtin; refine wpList_append_mine _ rfl (.tmp 35) (.tmp 43) 29 rfl w0.heap.size 36 i0 (.agg #[.int .i64 0, .int .i64 0, .int .i64 0, .slice none 0 0]) 4 48 Tryz.underlying29 hi hz0 hz1 hz2 rfl (by decide) (.slice av3 (L2).length cv3) (L2).length ((L2).flatMap volC) rfl (ownsRow_keep (X := []) (hO4) ((Kp.refl _ w3).alloc _) (fun _ _ => by simp)) ⟨(w3).heap.size, 0, none⟩ 1 1 [.int .i64 y0, .int .i64 y1, .int .i64 y2, .slice ya yn yc] rfl rfl (new_cells w3 _ _) (oneCell_vol _ _ _ _ _ _) (by unfold maxLen; omega) (by omega) (by simp; omega) ?_))
          intro v' w5 hown' hkp _ _
          obtain ⟨av5, cv5, rfl⟩ := ownsRow_ex hown'
          have hK5 : Kp [] w0 w5 := hK.step (((Kp.refl _ w3).alloc _).trans hkp) (fun i hi hm => by
            rw [Option.mem_toList] at hm
            have := hge_w5 i hm
            omega)
          have hO5 := hown'
          clear hkp hown'
          have hO6 := owns_snoc (q := (⟨y0, y1, y2, yl⟩, .slice ya yn yc)) rfl hO5
          have HO6 := Lib.hid hO6
          clear hO5 hO6 hge_w5
          go_wp2_with fail
          go_roundg g'
          case rel => exact ⟨n + 1, av5, cv5, _, true, st_next HN.out, by go_num, by simp, rfl, hK5, HO6.out, by rw [HTN.out]; exact HL4.out⟩
          case measure => omega
        · have hb : decide (x0 < y0) = false := decide_eq_false hyx
          have hL4 := HL.out.still (y := (⟨y0, y1, y2, yl⟩, .slice ya yn yc)) (by rw [HQI.out]; exact hyx)
          have HL4 := Lib.hid hL4
          clear hL4
          go_wp2_with fail
          refine wpB_begin 999 (Kp [] w0) (by kernel_rfl) (by exact hK.drew) (fun hHeld => ?_)
          refine wpB_take 0 _ ?_ rfl (by kernel_rfl) (fun _ _ _ h => h) rfl hHeld ?_ ?_
          rotate_left
          · (intro W hW; go_simp; try with_reducible rfl)
          try simp only [Act.put, List.setIfInBounds_toArray, List.set_cons_zero, List.set_cons_succ]
          refine wpB_take 1 _ ?_ rfl (by kernel_rfl) (fun _ _ _ h => h) rfl hHeld ?_ ?_
          rotate_left
          · (intro W hW; go_simp; try with_reducible rfl)
          try simp only [Act.put, List.setIfInBounds_toArray, List.set_cons_zero, List.set_cons_succ]
          refine wpB_take 2 _ ?_ rfl (by kernel_rfl) (fun _ _ _ h => h) rfl hHeld ?_ ?_
          rotate_left
          · (intro W hW; go_simp; try with_reducible rfl)
          try simp only [Act.put, List.setIfInBounds_toArray, List.set_cons_zero, List.set_cons_succ]
          refine wpB_take 3 _ ?_ rfl (by kernel_rfl) (fun _ _ _ h => h) rfl hHeld ?_ ?_
          rotate_left
          · (intro W hW; go_simp; try with_reducible rfl)
          try simp only [Act.put, List.setIfInBounds_toArray, List.set_cons_zero, List.set_cons_succ]
          refine wpB_take 4 _ ?_ rfl (by kernel_rfl) (fun _ _ _ h => h) rfl hHeld ?_ ?_
          rotate_left
          · (intro W hW; go_simp; try with_reducible rfl)
          try simp only [Act.put, List.setIfInBounds_toArray, List.set_cons_zero, List.set_cons_succ]
          refine wpB_take 5 _ ?_ rfl (by kernel_rfl) (fun _ _ _ h => h) rfl hHeld ?_ ?_
          rotate_left
          · (intro W hW; go_simp; try with_reducible rfl)
          try simp only [Act.put, List.setIfInBounds_toArray, List.set_cons_zero, List.set_cons_succ]
          refine wpB_take 6 _ ?_ rfl (by kernel_rfl) (fun _ _ _ h => h) rfl hHeld ?_ ?_
          rotate_left
          · (intro W hW; go_simp; try with_reducible rfl)
          try simp only [Act.put, List.setIfInBounds_toArray, List.set_cons_zero, List.set_cons_succ]
          refine wpB_take 7 _ ?_ rfl (by kernel_rfl) (fun _ _ _ h => h) rfl hHeld ?_ ?_
          rotate_left
          · (intro W hW; go_simp; try with_reducible rfl)
          try simp only [Act.put, List.setIfInBounds_toArray, List.set_cons_zero, List.set_cons_succ]
          refine wpB_take 8 _ ?_ rfl (by kernel_rfl) (fun _ _ _ h => h) rfl hHeld ?_ ?_
          rotate_left
          · (intro W hW; go_simp; try with_reducible rfl)
          try simp only [Act.put, List.setIfInBounds_toArray, List.set_cons_zero, List.set_cons_succ]
          refine wpB_take 9 _ ?_ rfl (by kernel_rfl) (fun _ _ _ h => h) rfl hHeld ?_ ?_
          rotate_left
          · (intro W hW; go_simp; try with_reducible rfl)
          try simp only [Act.put, List.setIfInBounds_toArray, List.set_cons_zero, List.set_cons_succ]
          refine wpB_take 10 _ ?_ rfl (by kernel_rfl) (fun _ _ _ h => h) rfl hHeld ?_ ?_
          rotate_left
          · (intro W hW; go_simp; try with_reducible rfl)
          try simp only [Act.put, List.setIfInBounds_toArray, List.set_cons_zero, List.set_cons_succ]
          refine wpB_take 11 _ ?_ rfl (by kernel_rfl) (fun _ _ _ h => h) rfl hHeld ?_ ?_
          rotate_left
          · (intro W hW; go_simp; try with_reducible rfl)
          try simp only [Act.put, List.setIfInBounds_toArray, List.set_cons_zero, List.set_cons_succ]
          refine wpB_take 12 _ ?_ rfl (by kernel_rfl) (fun _ _ _ h => h) rfl hHeld ?_ ?_
          rotate_left
          · (intro W hW; go_simp; try with_reducible rfl)
          try simp only [Act.put, List.setIfInBounds_toArray, List.set_cons_zero, List.set_cons_succ]
          refine wpB_take 13 _ ?_ rfl (by kernel_rfl) (fun _ _ _ h => h) rfl hHeld ?_ ?_
          rotate_left
          · (intro W hW; go_simp; try with_reducible rfl)
          try simp only [Act.put, List.setIfInBounds_toArray, List.set_cons_zero, List.set_cons_succ]
          refine wpB_take 14 _ ?_ rfl (by kernel_rfl) (fun _ _ _ h => h) rfl hHeld ?_ ?_
          rotate_left
          · (intro W hW; go_simp; try with_reducible rfl)
          try simp only [Act.put, List.setIfInBounds_toArray, List.set_cons_zero, List.set_cons_succ]
          refine wpB_done (by kernel_rfl) ?_ _
          obtain ⟨wd, hwd⟩ : ∃ wd, wd = wr.drew := ⟨_, rfl⟩
          have hOd : wd.ownsRow w0.heap.size 36 4 (.slice av L.length cv) L.length (L.flatMap volC) := by rw [hwd]; exact hO
          rw [← hwd] at hHeld ⊢
          have hK := hHeld
          have hsK := hK.size
          clear hwd hO hHeld
          have hge_w3 := own_block_ge (hOd)
          go_wp2_with (first | (at_builtin; refine wpList_append_mine _ rfl (.tmp 35) (.tmp 43) 29 rfl w0.heap.size 36 i0 (.agg #[.int .i64 0, .int .i64 0, .int .i64 0, .slice none 0 0]) 4 48 Tryz.underlying29 hi hz0 hz1 hz2 rfl (by decide) (.slice av (L).length cv) (L).length ((L).flatMap volC) rfl (ownsRow_keep (X := []) (hOd) ((Kp.refl _ wd).alloc _) (fun _ _ => by simp)) ⟨(wd).heap.size, 0, none⟩ 1 1 [.int .i64 y0, .int .i64 y1, .int .i64 y2, .slice ya yn yc] rfl rfl (new_cells wd _ _) (oneCell_vol _ _ _ _ _ _) (by unfold maxLen; omega) (by omega) (by simp; omega) ?_))
          intro v' w3 hown' hkp _ _
          obtain ⟨av3, cv3, rfl⟩ := ownsRow_ex hown'
          have hK3 : Kp [] w0 w3 := hK.step (((Kp.refl _ wd).alloc _).trans hkp) (fun i hi hm => by
            rw [Option.mem_toList] at hm
            have := hge_w3 i hm
            omega)
          have hO3 := hown'
          clear hkp hown'
          have hO4 := owns_snoc (q := (⟨y0, y1, y2, yl⟩, .slice ya yn yc)) rfl hO3
          have HO4 := Lib.hid hO4
          clear hO3 hO4 hge_w3
          go_wp2_with fail
          go_roundg g'
          case rel => exact ⟨n + 1, av3, cv3, _, false, st_next HN.out, by go_num, by simp, rfl, hK3, HO4.out, by rw [HTN.out]; exact HL4.out⟩
          case measure => omega
    · obtain rfl : n = vls.length := by omega
      obtain rfl : gk = 0 := by omega
      have hL := HL.out
      rw [List.take_length] at hL
      clear hn HL
      cases bb with
      | true =>
        have hia := hL.all
        have HIA := Lib.hid hia
        clear hL hia
        have bt := ((hK).block kb hkl (by simp)).trans hat.top
        have ct := cell_of_cells (o := 2) bt rfl
        have ft := frozen_of_cells bt 2
        obtain ⟨w5, hw5⟩ : ∃ w5, w5 = (wr).setCell ⟨kb, 2, none⟩ (.slice av (L).length cv) := ⟨_, rfl⟩
        have b5 : w5.heap[kb]? = some (.cells #[.slice eA k.E.length eC, .slice gA k.G.length gC, .slice av (L).length cv, .slice hA k.H.length hC] 32 (0, 0)) := by rw [hw5, block_setCell bt]; rfl
        have k5 : Kp [kb] (wr) w5 := hw5 ▸ (Kp.refl _ _).setCell (.inl (by simp)) _
        have hH5 : w5.ownsRow B 3 1 (.slice hA k.H.length hC) k.H.length (k.H.map (Value.int .i64)) := by
          have h1 := owns_other hat.had (hK) (fun _ _ => by simp)
          exact owns_other h1 k5 (owns_not h1 bt (by decide))
        have x5 : w5.cell? ⟨w.heap.size, 0, none⟩ = some (.int .i64 x0) := (k5.cell (p := ⟨w.heap.size, 0, none⟩) (by have := (hK).size; have := hws; show w.heap.size < (wr).heap.size; omega) (by simp only [List.mem_singleton]; omega)).trans (c0 _ (hK))
        obtain ⟨OWN, hOWN⟩ : ∃ OWN : List Nat, OWN = (Value.slice hA k.H.length hC).ownBlock.toList := ⟨_, rfl⟩
        have hob : ∀ g ∈ OWN, ∃ cur, w5.heap[g]? = some (.cells cur 3 (0, 0)) := fun g hg => by
          rw [hOWN, Option.mem_toList] at hg
          exact (owns_cells hH5 g hg).2
        have nkb : kb ∉ OWN := fun hm => by
          obtain ⟨cur, hc⟩ := hob _ hm
          rw [b5] at hc
          simp only [Option.some.injEq, Obj.cells.injEq] at hc
          exact absurd hc.2.1 (by decide)
        have nbx : w.heap.size ∉ OWN := fun hm => by
          obtain ⟨cur, hc⟩ := hob _ hm
          have hbx := (k5.block w.heap.size (by have := (hK).size; omega) (by simp only [List.mem_singleton]; omega)).trans (((hK).block w.heap.size hws (by simp)).trans HBX.out)
          rw [hbx] at hc
          simp only [Option.some.injEq, Obj.cells.injEq] at hc
          exact absurd hc.2.1 (by decide)
        have g0 := Kp.cellAt (X := OWN) x5 nbx
        have g3 := Kp.cellAt (X := OWN) (cell_of_cells (o := 3) b5 rfl) nkb
        have HOWN := Lib.hid hOWN
        clear hOWN hob
        have hBW : B ≤ w5.heap.size := by have := lt_of_block b5; omega
        have HW5 := Lib.hid hw5
        clear hw5 x5
        go_wp2_with fail
        rw [← HW5.out]
        refine wpB_begin 11 (Kp OWN w5) (by kernel_rfl) (by exact (Kp.refl _ _).drew) (fun hHeld => ?_)
        refine wpB_take 0 _ ?_ rfl (by kernel_rfl) (fun _ _ _ h => h) rfl hHeld ?_ ?_
        rotate_left
        · (intro W hW; go_simp; try with_reducible rfl)
        try simp only [Act.put, List.setIfInBounds_toArray, List.set_cons_zero, List.set_cons_succ]
        refine wpB_take 1 _ ?_ rfl (by kernel_rfl) (fun _ _ _ h => h) rfl hHeld ?_ ?_
        rotate_left
        · (intro W hW; go_simp; try with_reducible rfl)
        try simp only [Act.put, List.setIfInBounds_toArray, List.set_cons_zero, List.set_cons_succ]
        refine wpB_take 2 _ ?_ rfl (by kernel_rfl) (fun _ _ _ h => h) rfl hHeld ?_ ?_
        rotate_left
        · (intro W hW; go_simp; try with_reducible rfl)
        try simp only [Act.put, List.setIfInBounds_toArray, List.set_cons_zero, List.set_cons_succ]
        refine wpB_take 3 _ ?_ rfl (by kernel_rfl) (fun _ _ _ h => h) rfl hHeld ?_ ?_
        rotate_left
        · (intro W hW; go_simp; try with_reducible rfl)
        try simp only [Act.put, List.setIfInBounds_toArray, List.set_cons_zero, List.set_cons_succ]
        refine wpB_take 4 _ ?_ rfl (by kernel_rfl) (fun _ _ _ h => h) rfl hHeld ?_ ?_
        rotate_left
        · (intro W hW; go_simp; try with_reducible rfl)
        try simp only [Act.put, List.setIfInBounds_toArray, List.set_cons_zero, List.set_cons_succ]
        refine wpB_take 5 _ ?_ rfl (by kernel_rfl) (fun _ _ _ h => h) rfl hHeld ?_ ?_
        rotate_left
        · (intro W hW; go_simp; try with_reducible rfl)
        try simp only [Act.put, List.setIfInBounds_toArray, List.set_cons_zero, List.set_cons_succ]
        refine wpB_take 6 _ ?_ rfl (by kernel_rfl) (fun _ _ _ h => h) rfl hHeld ?_ ?_
        rotate_left
        · (intro W hW; go_simp; try with_reducible rfl)
        try simp only [Act.put, List.setIfInBounds_toArray, List.set_cons_zero, List.set_cons_succ]
        refine wpB_step 7 _ rfl (by kernel_rfl) rfl rfl (fun K hK_ => ?_)
        go_simp
        refine hK_.out _ _ (by first | exact hHeld | exact hHeld.call ‹_› | exact hHeld.alloc _) (fun hHeld => ?_)
        clear hK_ K
        try simp only [Act.put, List.setIfInBounds_toArray, List.set_cons_zero, List.set_cons_succ]
        refine wpB_step 8 _ rfl (by kernel_rfl) rfl rfl (fun K hK_ => ?_)
        have hk56 : Kp [] w5 ((w5.alloc (.cells #[.int .i64 x0] 3)).drew) := ((Kp.refl _ _).alloc _).drew
        refine wp_append_mine _ (.tmp 59) (.tmp 62) 30 rfl B 3 j0 (.int .i64 0) 1 8 Tryz.underlying30' hj hy0 hy1 hy2 rfl (by decide) (.slice hA k.H.length hC) k.H.length (k.H.map (Value.int .i64)) rfl (owns_other hH5 hk56 (fun _ _ => by simp)) ⟨w5.heap.size, 0, none⟩ 1 1 [.int .i64 x0] rfl rfl (new_cells w5 _ _) (by intro u hu; simp only [List.mem_singleton] at hu; subst hu; rfl) (by unfold maxLen; omega) (by omega) (by have := hHeld.size; omega) ?_
        intro v' w7 hown' hkp _ _
        refine hK_.out _ _ (by exact hHeld.trans (HOWN.out ▸ hkp)) (fun hHeld => ?_)
        clear hK_ K
        try simp only [Act.put, List.setIfInBounds_toArray, List.set_cons_zero, List.set_cons_succ]
        refine wpB_take 9 _ ?_ rfl (by kernel_rfl) (fun _ _ _ h => h) rfl hHeld ?_ ?_
        rotate_left
        · (intro W hW; go_simp; try with_reducible rfl)
        try simp only [Act.put, List.setIfInBounds_toArray, List.set_cons_zero, List.set_cons_succ]
        refine wpB_take 10 _ ?_ rfl (by kernel_rfl) (fun _ _ _ h => h) rfl hHeld ?_ ?_
        rotate_left
        · (intro W hW; go_simp; try with_reducible rfl)
        try simp only [Act.put, List.setIfInBounds_toArray, List.set_cons_zero, List.set_cons_succ]
        refine wpB_bar (fun_true) 999 _ rfl (by kernel_rfl) rfl (fun K hK_ => ?_)
        obtain ⟨ha7, hc7, rfl⟩ := ownsRow_ex hown'
        have hH6 := owns_other hH5 hk56 (fun _ _ => by simp)
        have b6 := (hk56.block kb (lt_of_block b5) (by simp)).trans b5
        have b7 := (hkp.block kb (lt_of_block b6) (fun hm => by rw [Option.mem_toList] at hm; exact owns_not hH6 b6 (by decide) kb hm (by simp))).trans b6
        have c7 := cell_of_cells (o := 3) b7 rfl
        have f7 := frozen_of_cells b7 3
        go_simp
        refine hK_.out _ _ (by trivial) (fun hHeld => ?_)
        clear hK_ K
        try simp only [Act.put, List.setIfInBounds_toArray, List.set_cons_zero, List.set_cons_succ]
        refine wpB_done (by kernel_rfl) ?_ _
        obtain ⟨w6, hw6⟩ : ∃ w6, w6 = w5 := ⟨_, rfl⟩
        have b8 : (w7.setCell ⟨kb, 3, none⟩ (.slice ha7 (k.H.length + 1) hc7)).heap[kb]? = some (.cells #[.slice eA k.E.length eC, .slice gA k.G.length gC, .slice av (L).length cv, .slice ha7 (k.H.length + 1) hc7] 32 (0, 0)) := by rw [block_setCell b7]; rfl
        have k8 : Kp [kb] w7 (w7.setCell ⟨kb, 3, none⟩ (.slice ha7 (k.H.length + 1) hc7)) := (Kp.refl _ _).setCell (.inl (by simp)) _
        obtain ⟨w8, hw8⟩ : ∃ w8, w8 = w7.setCell ⟨kb, 3, none⟩ (.slice ha7 (k.H.length + 1) hc7) := ⟨_, rfl⟩
        have HW8 := Lib.hid hw8
        rw [← hw8] at b8 k8
        have keep : ∀ {e : TypeId} {b sz n : Nat} {v : Value} {xs : List Value}, (wr).ownsRow b e sz v n xs → e ≠ 32 → e ≠ 3 → w8.ownsRow b e sz v n xs := fun hr he1 he2 => by
          have r5 := owns_other hr k5 (owns_not hr bt he1)
          have r6 := owns_other r5 hk56 (fun _ _ => by simp)
          have r7 := owns_other r6 hkp (owns_apart r6 hH6 he2)
          exact owns_other r7 k8 (owns_not r7 b7 he1)
        have t08 : Turn B w0 w8 := (Turn.of_kp (hK)).trans ((Turn.of_block hlow bt k5 ⟨by decide, by decide, by decide⟩).trans ((Turn.of_kp hk56).trans ((Turn.of_own hH6 (Nat.le_refl _) hkp ⟨by decide, by decide, by decide⟩).trans (Turn.of_block hlow b7 k8 ⟨by decide, by decide, by decide⟩))))
        have tw8 : Turn B w w8 := (Turn.of_kp k0).trans t08
        have hVm : (L).map (·.1) = insD ⟨x0, x1, x2, ls⟩ k.V := by rw [← HIA.out, insV_map, hvm, HQ.out]
        have hVl : (L).length = (insD ⟨x0, x1, x2, ls⟩ k.V).length := by rw [← hVm, List.length_map]
        have hVe := keep (hO) (by decide) (by decide)
        have hfin : RIn B kb w8 { k with V := insD ⟨x0, x1, x2, ls⟩ k.V, H := k.H ++ [x0] } := by
          refine ⟨_, _, _, _, b8, hlow, keep (owns_other hat.ents (hK) (fun _ _ => by simp)) (by decide) (by decide), keep (owns_other hat.gone (hK) (fun _ _ => by simp)) (by decide) (by decide), ⟨L, hVm, ?_, fun x hx => ?_⟩, ?_⟩
          · rw [← hVl]
            exact ownsRow_base hVe (by omega)
          · rw [← HIA.out] at hx
            rcases insV_mem _ _ _ hx with rfl | hx
            · rw [HQ.out]; exact t08.locs hl0
            · exact t08.locs (hvl x hx)
          · have e1 : (k.H ++ [x0]).length = k.H.length + 1 := by simp
            show w8.ownsRow B 3 1 _ (k.H ++ [x0]).length ((k.H ++ [x0]).map (Value.int .i64))
            rw [e1, List.map_append]
            exact owns_other hown' k8 (owns_not hown' b7 (by decide))
        have HFIN := Lib.hid hfin
        have HTW := Lib.hid tw8
        clear hfin tw8 t08 keep hVe hVl hVm hw8 hw6 b8 k8 b7 c7 f7 hkp hown' hH6 b6
        go_wp2_with fail
        rw [← HW8.out]
        exact bodyPost_end (results_none rfl _ _ _) rfl ⟨rfl, HFIN.out, HTW.out⟩
      | false =>
        have hia := hL.last
        have HIA := Lib.hid hia
        clear hL hia
        have hge_w3 := own_block_ge (hO)
        go_wp2_with (first | (at_builtin; refine wpList_append_mine _ rfl (.tmp 47) (.tmp 49) 29 rfl w0.heap.size 36 i0 (.agg #[.int .i64 0, .int .i64 0, .int .i64 0, .slice none 0 0]) 4 48 Tryz.underlying29 hi hz0 hz1 hz2 rfl (by decide) (.slice av (L).length cv) (L).length ((L).flatMap volC) rfl (ownsRow_keep (X := []) (hO) ((Kp.refl _ wr).alloc _) (fun _ _ => by simp)) ⟨(wr).heap.size, 0, none⟩ 1 1 [.int .i64 x0, .int .i64 x1, .int .i64 x2, .slice la ls.length lc] rfl rfl (new_cells wr _ _) (oneCell_vol _ _ _ _ _ _) (by unfold maxLen; omega) (by omega) (by simp; omega) ?_))
        intro v' w3 hown' hkp _ _
        obtain ⟨av3, cv3, rfl⟩ := ownsRow_ex hown'
        have hK3 : Kp [] w0 w3 := hK.step (((Kp.refl _ wr).alloc _).trans hkp) (fun i hi hm => by
          rw [Option.mem_toList] at hm
          have := hge_w3 i hm
          omega)
        have hO3 := hown'
        clear hkp hown'
        have hO4 := owns_snoc (q := q) HQC.out hO3
        obtain ⟨L2, hL2⟩ : ∃ L2, L2 = L ++ [q] := ⟨_, rfl⟩
        have hlen2 : L.length + 1 = L2.length := by rw [hL2]; simp
        rw [← hL2] at hO4 HIA
        rw [hlen2]
        clear hO3 hge_w3 hL2 hlen2
        have bt := ((hK3).block kb hkl (by simp)).trans hat.top
        have ct := cell_of_cells (o := 2) bt rfl
        have ft := frozen_of_cells bt 2
        obtain ⟨w5, hw5⟩ : ∃ w5, w5 = (w3).setCell ⟨kb, 2, none⟩ (.slice av3 (L2).length cv3) := ⟨_, rfl⟩
        have b5 : w5.heap[kb]? = some (.cells #[.slice eA k.E.length eC, .slice gA k.G.length gC, .slice av3 (L2).length cv3, .slice hA k.H.length hC] 32 (0, 0)) := by rw [hw5, block_setCell bt]; rfl
        have k5 : Kp [kb] (w3) w5 := hw5 ▸ (Kp.refl _ _).setCell (.inl (by simp)) _
        have hH5 : w5.ownsRow B 3 1 (.slice hA k.H.length hC) k.H.length (k.H.map (Value.int .i64)) := by
          have h1 := owns_other hat.had (hK3) (fun _ _ => by simp)
          exact owns_other h1 k5 (owns_not h1 bt (by decide))
        have x5 : w5.cell? ⟨w.heap.size, 0, none⟩ = some (.int .i64 x0) := (k5.cell (p := ⟨w.heap.size, 0, none⟩) (by have := (hK3).size; have := hws; show w.heap.size < (w3).heap.size; omega) (by simp only [List.mem_singleton]; omega)).trans (c0 _ (hK3))
        obtain ⟨OWN, hOWN⟩ : ∃ OWN : List Nat, OWN = (Value.slice hA k.H.length hC).ownBlock.toList := ⟨_, rfl⟩
        have hob : ∀ g ∈ OWN, ∃ cur, w5.heap[g]? = some (.cells cur 3 (0, 0)) := fun g hg => by
          rw [hOWN, Option.mem_toList] at hg
          exact (owns_cells hH5 g hg).2
        have nkb : kb ∉ OWN := fun hm => by
          obtain ⟨cur, hc⟩ := hob _ hm
          rw [b5] at hc
          simp only [Option.some.injEq, Obj.cells.injEq] at hc
          exact absurd hc.2.1 (by decide)
        have nbx : w.heap.size ∉ OWN := fun hm => by
          obtain ⟨cur, hc⟩ := hob _ hm
          have hbx := (k5.block w.heap.size (by have := (hK3).size; omega) (by simp only [List.mem_singleton]; omega)).trans (((hK3).block w.heap.size hws (by simp)).trans HBX.out)
          rw [hbx] at hc
          simp only [Option.some.injEq, Obj.cells.injEq] at hc
          exact absurd hc.2.1 (by decide)
        have g0 := Kp.cellAt (X := OWN) x5 nbx
        have g3 := Kp.cellAt (X := OWN) (cell_of_cells (o := 3) b5 rfl) nkb
        have HOWN := Lib.hid hOWN
        clear hOWN hob
        have hBW : B ≤ w5.heap.size := by have := lt_of_block b5; omega
        have HW5 := Lib.hid hw5
        clear hw5 x5
        go_wp2_with fail
        rw [← HW5.out]
        refine wpB_begin 11 (Kp OWN w5) (by kernel_rfl) (by exact (Kp.refl _ _).drew) (fun hHeld => ?_)
        refine wpB_take 0 _ ?_ rfl (by kernel_rfl) (fun _ _ _ h => h) rfl hHeld ?_ ?_
        rotate_left
        · (intro W hW; go_simp; try with_reducible rfl)
        try simp only [Act.put, List.setIfInBounds_toArray, List.set_cons_zero, List.set_cons_succ]
        refine wpB_take 1 _ ?_ rfl (by kernel_rfl) (fun _ _ _ h => h) rfl hHeld ?_ ?_
        rotate_left
        · (intro W hW; go_simp; try with_reducible rfl)
        try simp only [Act.put, List.setIfInBounds_toArray, List.set_cons_zero, List.set_cons_succ]
        refine wpB_take 2 _ ?_ rfl (by kernel_rfl) (fun _ _ _ h => h) rfl hHeld ?_ ?_
        rotate_left
        · (intro W hW; go_simp; try with_reducible rfl)
        try simp only [Act.put, List.setIfInBounds_toArray, List.set_cons_zero, List.set_cons_succ]
        refine wpB_take 3 _ ?_ rfl (by kernel_rfl) (fun _ _ _ h => h) rfl hHeld ?_ ?_
        rotate_left
        · (intro W hW; go_simp; try with_reducible rfl)
        try simp only [Act.put, List.setIfInBounds_toArray, List.set_cons_zero, List.set_cons_succ]
        refine wpB_take 4 _ ?_ rfl (by kernel_rfl) (fun _ _ _ h => h) rfl hHeld ?_ ?_
        rotate_left
        · (intro W hW; go_simp; try with_reducible rfl)
        try simp only [Act.put, List.setIfInBounds_toArray, List.set_cons_zero, List.set_cons_succ]
        refine wpB_take 5 _ ?_ rfl (by kernel_rfl) (fun _ _ _ h => h) rfl hHeld ?_ ?_
        rotate_left
        · (intro W hW; go_simp; try with_reducible rfl)
        try simp only [Act.put, List.setIfInBounds_toArray, List.set_cons_zero, List.set_cons_succ]
        refine wpB_take 6 _ ?_ rfl (by kernel_rfl) (fun _ _ _ h => h) rfl hHeld ?_ ?_
        rotate_left
        · (intro W hW; go_simp; try with_reducible rfl)
        try simp only [Act.put, List.setIfInBounds_toArray, List.set_cons_zero, List.set_cons_succ]
        refine wpB_step 7 _ rfl (by kernel_rfl) rfl rfl (fun K hK_ => ?_)
        go_simp
        refine hK_.out _ _ (by first | exact hHeld | exact hHeld.call ‹_› | exact hHeld.alloc _) (fun hHeld => ?_)
        clear hK_ K
        try simp only [Act.put, List.setIfInBounds_toArray, List.set_cons_zero, List.set_cons_succ]
        refine wpB_step 8 _ rfl (by kernel_rfl) rfl rfl (fun K hK_ => ?_)
        have hk56 : Kp [] w5 ((w5.alloc (.cells #[.int .i64 x0] 3)).drew) := ((Kp.refl _ _).alloc _).drew
        refine wp_append_mine _ (.tmp 59) (.tmp 62) 30 rfl B 3 j0 (.int .i64 0) 1 8 Tryz.underlying30' hj hy0 hy1 hy2 rfl (by decide) (.slice hA k.H.length hC) k.H.length (k.H.map (Value.int .i64)) rfl (owns_other hH5 hk56 (fun _ _ => by simp)) ⟨w5.heap.size, 0, none⟩ 1 1 [.int .i64 x0] rfl rfl (new_cells w5 _ _) (by intro u hu; simp only [List.mem_singleton] at hu; subst hu; rfl) (by unfold maxLen; omega) (by omega) (by have := hHeld.size; omega) ?_
        intro v' w7 hown' hkp _ _
        refine hK_.out _ _ (by exact hHeld.trans (HOWN.out ▸ hkp)) (fun hHeld => ?_)
        clear hK_ K
        try simp only [Act.put, List.setIfInBounds_toArray, List.set_cons_zero, List.set_cons_succ]
        refine wpB_take 9 _ ?_ rfl (by kernel_rfl) (fun _ _ _ h => h) rfl hHeld ?_ ?_
        rotate_left
        · (intro W hW; go_simp; try with_reducible rfl)
        try simp only [Act.put, List.setIfInBounds_toArray, List.set_cons_zero, List.set_cons_succ]
        refine wpB_take 10 _ ?_ rfl (by kernel_rfl) (fun _ _ _ h => h) rfl hHeld ?_ ?_
        rotate_left
        · (intro W hW; go_simp; try with_reducible rfl)
        try simp only [Act.put, List.setIfInBounds_toArray, List.set_cons_zero, List.set_cons_succ]
        refine wpB_bar (fun_true) 999 _ rfl (by kernel_rfl) rfl (fun K hK_ => ?_)
        obtain ⟨ha7, hc7, rfl⟩ := ownsRow_ex hown'
        have hH6 := owns_other hH5 hk56 (fun _ _ => by simp)
        have b6 := (hk56.block kb (lt_of_block b5) (by simp)).trans b5
        have b7 := (hkp.block kb (lt_of_block b6) (fun hm => by rw [Option.mem_toList] at hm; exact owns_not hH6 b6 (by decide) kb hm (by simp))).trans b6
        have c7 := cell_of_cells (o := 3) b7 rfl
        have f7 := frozen_of_cells b7 3
        go_simp
        refine hK_.out _ _ (by trivial) (fun hHeld => ?_)
        clear hK_ K
        try simp only [Act.put, List.setIfInBounds_toArray, List.set_cons_zero, List.set_cons_succ]
        refine wpB_done (by kernel_rfl) ?_ _
        obtain ⟨w6, hw6⟩ : ∃ w6, w6 = w5 := ⟨_, rfl⟩
        have b8 : (w7.setCell ⟨kb, 3, none⟩ (.slice ha7 (k.H.length + 1) hc7)).heap[kb]? = some (.cells #[.slice eA k.E.length eC, .slice gA k.G.length gC, .slice av3 (L2).length cv3, .slice ha7 (k.H.length + 1) hc7] 32 (0, 0)) := by rw [block_setCell b7]; rfl
        have k8 : Kp [kb] w7 (w7.setCell ⟨kb, 3, none⟩ (.slice ha7 (k.H.length + 1) hc7)) := (Kp.refl _ _).setCell (.inl (by simp)) _
        obtain ⟨w8, hw8⟩ : ∃ w8, w8 = w7.setCell ⟨kb, 3, none⟩ (.slice ha7 (k.H.length + 1) hc7) := ⟨_, rfl⟩
        have HW8 := Lib.hid hw8
        rw [← hw8] at b8 k8
        have keep : ∀ {e : TypeId} {b sz n : Nat} {v : Value} {xs : List Value}, (w3).ownsRow b e sz v n xs → e ≠ 32 → e ≠ 3 → w8.ownsRow b e sz v n xs := fun hr he1 he2 => by
          have r5 := owns_other hr k5 (owns_not hr bt he1)
          have r6 := owns_other r5 hk56 (fun _ _ => by simp)
          have r7 := owns_other r6 hkp (owns_apart r6 hH6 he2)
          exact owns_other r7 k8 (owns_not r7 b7 he1)
        have t08 : Turn B w0 w8 := (Turn.of_kp (hK3)).trans ((Turn.of_block hlow bt k5 ⟨by decide, by decide, by decide⟩).trans ((Turn.of_kp hk56).trans ((Turn.of_own hH6 (Nat.le_refl _) hkp ⟨by decide, by decide, by decide⟩).trans (Turn.of_block hlow b7 k8 ⟨by decide, by decide, by decide⟩))))
        have tw8 : Turn B w w8 := (Turn.of_kp k0).trans t08
        have hVm : (L2).map (·.1) = insD ⟨x0, x1, x2, ls⟩ k.V := by rw [← HIA.out, insV_map, hvm, HQ.out]
        have hVl : (L2).length = (insD ⟨x0, x1, x2, ls⟩ k.V).length := by rw [← hVm, List.length_map]
        have hVe := keep (hO4) (by decide) (by decide)
        have hfin : RIn B kb w8 { k with V := insD ⟨x0, x1, x2, ls⟩ k.V, H := k.H ++ [x0] } := by
          refine ⟨_, _, _, _, b8, hlow, keep (owns_other hat.ents (hK3) (fun _ _ => by simp)) (by decide) (by decide), keep (owns_other hat.gone (hK3) (fun _ _ => by simp)) (by decide) (by decide), ⟨L2, hVm, ?_, fun x hx => ?_⟩, ?_⟩
          · rw [← hVl]
            exact ownsRow_base hVe (by omega)
          · rw [← HIA.out] at hx
            rcases insV_mem _ _ _ hx with rfl | hx
            · rw [HQ.out]; exact t08.locs hl0
            · exact t08.locs (hvl x hx)
          · have e1 : (k.H ++ [x0]).length = k.H.length + 1 := by simp
            show w8.ownsRow B 3 1 _ (k.H ++ [x0]).length ((k.H ++ [x0]).map (Value.int .i64))
            rw [e1, List.map_append]
            exact owns_other hown' k8 (owns_not hown' b7 (by decide))
        have HFIN := Lib.hid hfin
        have HTW := Lib.hid tw8
        clear hfin tw8 t08 keep hVe hVl hVm hw8 hw6 b8 k8 b7 c7 f7 hkp hown' hH6 b6
        go_wp2_with fail
        rw [← HW8.out]
        exact bodyPost_end (results_none rfl _ _ _) rfl ⟨rfl, HFIN.out, HTW.out⟩
end Go.Proofs.YtdhhddifmkijhaaGreat
