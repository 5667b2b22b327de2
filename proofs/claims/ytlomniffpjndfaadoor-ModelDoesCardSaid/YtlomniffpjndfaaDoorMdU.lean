/-
  A digest: New, Add.
-/
import Derived.Test.YtlomniffpjndfaaDoorMdT
import Derived.Test.YtlomniffpjndfaaDoorP4
namespace Go.Proofs.YtlomniffpjndfaaDoor
open Go.RowKit Go.WideShapes

def chunk (m : ByteArray) (i : Nat) : ByteArray := m.extract (64 * i) (64 * i + 64)
/-- the state behind n blocks of a text -/
def stN (m : ByteArray) : Nat → List Int
  | 0 => beginL
  | n + 1 => blockF (chunk m n) (stN m n)
def dCells (s : List Int) (rest : ByteArray) (sz : Int) : Array Value := (uV s) ++ #[.string rest, .int .i64 sz]
/-- a digest's block -/
def DAt (w : World) (g : Nat) (s : List Int) (rest : ByteArray) (sz : Int) : Prop := w.heap[g]? = some (.cells (dCells s rest sz) 110 (0, 0))
theorem begin_lit : uV beginL = #[.int .u32 1779033703, .int .u32 3144134277, .int .u32 1013904242, .int .u32 2773480762, .int .u32 1359893119, .int .u32 2600822924, .int .u32 528734635, .int .u32 1541459225] := by simp [uV, beginL]
set_option maxHeartbeats 1000000 in
set_option maxRecDepth 20000 in
theorem dnew (w : World) : Calls Tryd.prog 59 #[] w fun e w' => ∃ g, e = .returned (.pointer (some ⟨g, 0, none⟩)) ∧ DAt w' g beginL ⟨#[]⟩ 0 ∧ Kp [] w w' ∧ w.heap.size ≤ g := by
  go_enter Tryd.func59, Tryd.ntmps59
  go_wp2_with fail
  refine (dbegin w).mono ?_
  rintro e w1 ⟨rfl, k1⟩
  rw [begin_lit]
  go_wp2_with fail
  go_ret
  refine ⟨_, rfl, ?_, k1.alloc _, k1.size⟩
  unfold DAt dCells
  rw [begin_lit]
  exact block_new _ _
theorem dCells_lit (a b c d e f i j : Int) (rest : ByteArray) (sz : Int) : dCells [a, b, c, d, e, f, i, j] rest sz = #[.int .u32 a, .int .u32 b, .int .u32 c, .int .u32 d, .int .u32 e, .int .u32 f, .int .u32 i, .int .u32 j, .string rest, .int .i64 sz] := by simp [dCells, uV]
set_option maxHeartbeats 2000000 in
theorem dat_store {W : World} {g : Nat} {S S' : List Int} {rest : ByteArray} {sz : Int} (h : DAt W g S rest sz) (hS : S.length = 8) (hS' : S'.length = 8) : DAt (W.setCells g 0 (S'.map (Value.int .u32))) g S' rest sz := by
  obtain ⟨a, b, c, d, e, f, i, j, rfl⟩ := eight hS
  obtain ⟨a', b', c', d', e', f', i', j', rfl⟩ := eight hS'
  unfold DAt at h ⊢
  rw [dCells_lit] at h ⊢
  have h1 := block_setCell h 0 (.int .u32 a')
  have h2 := block_setCell h1 1 (.int .u32 b')
  have h3 := block_setCell h2 2 (.int .u32 c')
  have h4 := block_setCell h3 3 (.int .u32 d')
  have h5 := block_setCell h4 4 (.int .u32 e')
  have h6 := block_setCell h5 5 (.int .u32 f')
  have h7 := block_setCell h6 6 (.int .u32 i')
  have h8 := block_setCell h7 7 (.int .u32 j')
  simp only [List.map_cons, List.map_nil, World.setCells, Nat.zero_add, Nat.reduceAdd]
  rw [h8]
  rfl
theorem dat_rest {W : World} {g : Nat} {S : List Int} {rest r2 : ByteArray} {sz : Int} (h : DAt W g S rest sz) (hS : S.length = 8) : DAt (W.setCell ⟨g, 8, none⟩ (.string r2)) g S r2 sz := by
  obtain ⟨a, b, c, d, e, f, i, j, rfl⟩ := eight hS
  exact block_setCell h 8 (.string r2)
theorem dat_cell {W : World} {g : Nat} {S : List Int} {rest : ByteArray} {sz : Int} (h : DAt W g S rest sz) (hS : S.length = 8) : W.cell? ⟨g, 8, none⟩ = some (.string rest) ∧ W.cell? ⟨g, 9, none⟩ = some (.int .i64 sz) ∧ W.rangeAt g 0 (S.map (Value.int .u32)) ∧ W.there g 0 8 := by
  obtain ⟨a, b, c, d, e, f, i, j, rfl⟩ := eight hS
  refine ⟨cell_of_cells h rfl, cell_of_cells h rfl, fun k u hk => ?_, fun k hk => ?_⟩
  · rw [Nat.zero_add]
    refine cell_of_cells h ?_
    match k, hk with
    | 0, hk | 1, hk | 2, hk | 3, hk | 4, hk | 5, hk | 6, hk | 7, hk => exact hk
    | n + 8, hk => simp at hk
  · rw [Nat.zero_add]
    refine ⟨?_, frozen_of_cells h _⟩
    match k, hk with
    | 0, _ | 1, _ | 2, _ | 3, _ | 4, _ | 5, _ | 6, _ | 7, _ => rw [cell_of_cells h rfl]; rfl
theorem exec_load_mid {P : Program} {a : Act} {o : Oper} {W : World} {ty : TypeId} {x : Operand} {b off : Nat} {cs : List Value} {d : TypeDesc} (ho : o.op = .load ty x) (hx : a.eval x = .pointer (some ⟨b, off, none⟩)) (hc : W.rangeAt b off cs)
    (hu : P.underlying ty = some d) (hd : d.isRow = true) (hi : (P.info? ty).map (·.size) = some cs.length) : (execOp a.eval o).run P W = .ok (.value (.agg cs.toArray)) W := by
  unfold execOp
  simp only [ho, hx, Instr.loadAt, Instr.sureAddr, Sem.run_bind, Sem.run_pure, Result.andThen_ok, run_loadVar_mid W b off ty cs d hc hu hd hi]
theorem Kp.setCells' {X : List Nat} {a w : World} (h : Kp X a w) {b : Nat} (hb : b ∈ X ∨ a.heap.size ≤ b) (o : Nat) (vs : List Value) : Kp X a (w.setCells b o vs) := Kp.setCells hb vs o h
theorem DAt.to {w : World} {g : Nat} {S S' : List Int} {r r' : ByteArray} {sz : Int} (h : DAt w g S r sz) (e1 : S = S') (e2 : r = r') : DAt w g S' r' sz := by subst e1; subst e2; exact h
def SA (g : Nat) (r : ByteArray) (w W : World) : Prop := Kp [g] w W ∧ W.cell? ⟨g, 8, none⟩ = some (.string r)
def DW (g : Nat) (w : World) (S : List Int) (rest : ByteArray) (sz : Int) (W : World) : Prop := Kp [g] w W ∧ DAt W g S rest sz
theorem DAt.keep0 {w w' : World} {g : Nat} {S : List Int} {rest : ByteArray} {sz : Int} (h : DAt w g S rest sz) (k : Kp [] w w') : DAt w' g S rest sz := (k.block g (lt_of_block h) (by simp)).trans h
theorem ext_ext (s : ByteArray) (n : Nat) (h : 64 * n + 64 ≤ s.size) : (s.extract (64 * n) s.size).extract 0 64 = chunk s n ∧ (s.extract (64 * n) s.size).extract 64 (s.size - 64 * n) = s.extract (64 * (n + 1)) s.size := by
  unfold chunk
  constructor
  · apply bytes_inj
    simp only [ByteArray.data_extract, Array.toList_extract, List.extract_eq_take_drop]
    rw [List.drop_take, List.take_take, List.drop_drop]
    congr 1
    · omega
  · apply bytes_inj
    simp only [ByteArray.data_extract, Array.toList_extract, List.extract_eq_take_drop]
    rw [List.drop_take, List.drop_drop, List.take_take]
    congr 1
    · omega
set_option maxHeartbeats 4000000 in
set_option maxRecDepth 20000 in
theorem dadd (s : ByteArray) (hs : s.size ≤ 1000) (g : Nat) (w : World) (h : DAt w g beginL ⟨#[]⟩ 0) : Calls Tryd.prog 60 #[.pointer (some ⟨g, 0, none⟩), .string s] w fun e w' => (∃ v, e = .returned v) ∧ (stN s (s.size / 64)).length = 8 ∧ DAt w' g (stN s (s.size / 64)) (s.extract (64 * (s.size / 64)) s.size) s.size ∧ Kp [g] w w' := by
  have c9 : w.cell? ⟨g, 9, none⟩ = some (.int .i64 0) := cell_of_cells h rfl
  have c8 : w.cell? ⟨g, 8, none⟩ = some (.string ⟨#[]⟩) := cell_of_cells h rfl
  have f9 := frozen_of_cells h 9
  have f8 := frozen_of_cells h 8
  have e0 : (⟨#[]⟩ : ByteArray).size = 0 := rfl
  have e1 : (⟨#[]⟩ : ByteArray) ++ s = s := bytes_inj (by simp [ByteArray.data_append])
  have hb2 : DAt ((w.setCell ⟨g, 9, none⟩ (.int .i64 s.size)).setCell ⟨g, 8, none⟩ (.string s)) g (stN s 0) (s.extract (64 * 0) s.size) s.size := by
    have : s.extract (64 * 0) s.size = s := by apply bytes_inj; simp
    rw [this]
    exact block_setCell (block_setCell h 9 (.int .i64 s.size)) 8 (.string s)
  have hK2 : Kp [g] w ((w.setCell ⟨g, 9, none⟩ (.int .i64 s.size)).setCell ⟨g, 8, none⟩ (.string s)) := ((Kp.refl _ _).setCell (.inl (by simp)) _).setCell (.inl (by simp)) _
  obtain ⟨w2, hw2⟩ : ∃ w2, w2 = (w.setCell ⟨g, 9, none⟩ (.int .i64 s.size)).setCell ⟨g, 8, none⟩ (.string s) := ⟨_, rfl⟩
  rw [← hw2] at hb2 hK2
  have HW2 := Lib.hid hw2
  clear hw2
  go_enter Tryd.func60, Tryd.ntmps60
  go_wp2_with fail
  rw [← HW2.out]
  go_loopg [] (s.size / 64) (fun g' wr => ∃ n : Nat, n + g' = s.size / 64 ∧ Kp [g] w wr ∧ DAt wr g (stN s n) (s.extract (64 * n) s.size) s.size ∧ (stN s n).length = 8)
  case atStart => exact ⟨0, by omega, hK2, hb2, rfl⟩
  case round =>
    clear hK2 hb2
    obtain ⟨n, hn, hK, hD, hl⟩ := hrel
    have HN := Lib.hid hn
    obtain ⟨S, hS⟩ : ∃ S, S = stN s n := ⟨_, rfl⟩
    obtain ⟨r, hr⟩ : ∃ r, r = s.extract (64 * n) s.size := ⟨_, rfl⟩
    have hrz : r.size = s.size - 64 * n := by rw [hr, ByteArray.size_extract]; omega
    rw [← hS, ← hr] at hD
    rw [← hS] at hl
    obtain ⟨q8, q9, hrg, hth⟩ := dat_cell hD hl
    have HS := Lib.hid hS
    have HR := Lib.hid hr
    clear hS hr
    by_cases hlt : n < s.size / 64
    · obtain ⟨g', rfl⟩ : ∃ g', gk = g' + 1 := ⟨gk - 1, by omega⟩
      clear hn
      have hle : 64 * n + 64 ≤ s.size := by omega
      have hrI : (64 : Int) ≤ (r.size : Int) := by omega
      obtain ⟨x1, x2⟩ := ext_ext s n hle
      rw [← HR.out] at x1 x2
      have c8' : ∀ W, SA g r wr W → W.cell? ⟨g, 8, none⟩ = some (.string r) := fun _ h => h.2
      have hDk := fun W (k : Kp [] wr W) => (dat_cell (hD.keep0 k) hl).2.2.1
      have hcz : (chunk s n).size = 64 := by unfold chunk; rw [ByteArray.size_extract]; omega
      have hm8 : (Tryd.prog.info? 107).map (·.size) = some (S.map (Value.int .u32)).length := by rw [List.length_map, hl]; exact size8
      obtain ⟨S2, hS2⟩ : ∃ S2, S2 = blockF (chunk s n) S := ⟨_, rfl⟩
      obtain ⟨r2, hr2⟩ : ∃ r2, r2 = s.extract (64 * (n + 1)) s.size := ⟨_, rfl⟩
      have hdb := fun W => dblock S hl (chunk s n) hcz W
      rw [← hS2] at hdb
      rw [← hr2] at x2
      have X2 := Lib.hid x2
      have HD := Lib.hid hD
      have HL := Lib.hid hl
      have HS2 := Lib.hid hS2
      have HR2 := Lib.hid hr2
      have hsh : ∀ W, Kp [] wr W → W.there g 0 8 := fun W k => (dat_cell (HD.out.keep0 k) HL.out).2.2.2
      have hDk2 := hDk
      clear hD hl hS2 hr2 hcz hrg hth x2
      go_wp2_with fail
      refine wpB_begin 22 (SA g r wr) (by kernel_rfl) (by exact ⟨(Kp.refl _ _).drew, q8⟩) (fun hHeld => ?_)
      refine wpB_take 0 _ ?_ rfl (by kernel_rfl) (fun _ _ _ h => h) rfl hHeld ?_ ?_
      rotate_left
      · (intro W hW; go_simp; try with_reducible rfl)
      try simp only [Act.put, List.setIfInBounds_toArray, List.set_cons_zero, List.set_cons_succ]
      refine wpB_take 1 _ ?_ rfl (by kernel_rfl) (fun _ _ _ h => h) rfl hHeld ?_ ?_
      rotate_left
      · (intro W hW; go_simp; try with_reducible rfl)
      try simp only [Act.put, List.setIfInBounds_toArray, List.set_cons_zero, List.set_cons_succ]
      refine wpB_take 2 _ ?_ rfl (by kernel_rfl) (fun _ _ _ h => h) rfl hHeld ?_ ?_
      rotate_left
      · (intro W hW; go_simp; try with_reducible rfl)
      try simp only [Act.put, List.setIfInBounds_toArray, List.set_cons_zero, List.set_cons_succ]
      refine wpB_take 3 _ ?_ rfl (by kernel_rfl) (fun _ _ _ h => h) rfl hHeld ?_ ?_
      rotate_left
      · (intro W hW; go_simp; try with_reducible rfl)
      try simp only [Act.put, List.setIfInBounds_toArray, List.set_cons_zero, List.set_cons_succ]
      refine wpB_take 4 _ ?_ rfl (by kernel_rfl) (fun _ _ _ h => h) rfl hHeld ?_ ?_
      rotate_left
      · (intro W hW; go_simp; try with_reducible rfl)
      try simp only [Act.put, List.setIfInBounds_toArray, List.set_cons_zero, List.set_cons_succ]
      refine wpB_take 6 _ ?_ rfl (by kernel_rfl) (fun _ _ _ h => h) rfl hHeld ?_ ?_
      rotate_left
      · (intro W hW; go_simp; try with_reducible rfl)
      try simp only [Act.put, List.setIfInBounds_toArray, List.set_cons_zero, List.set_cons_succ]
      refine wpB_take 7 _ ?_ rfl (by kernel_rfl) (fun _ _ _ h => h) rfl hHeld ?_ ?_
      rotate_left
      · (intro W hW; go_simp; try with_reducible rfl)
      try simp only [Act.put, List.setIfInBounds_toArray, List.set_cons_zero, List.set_cons_succ]
      refine wpB_take 8 _ ?_ rfl (by kernel_rfl) (fun _ _ _ h => h) rfl hHeld ?_ ?_
      rotate_left
      · (intro W hW; go_simp; try with_reducible rfl)
      try simp only [Act.put, List.setIfInBounds_toArray, List.set_cons_zero, List.set_cons_succ]
      refine wpB_take 9 _ ?_ rfl (by kernel_rfl) (fun _ _ _ h => h) rfl hHeld ?_ ?_
      rotate_left
      · (intro W hW; go_simp; try with_reducible rfl)
      try simp only [Act.put, List.setIfInBounds_toArray, List.set_cons_zero, List.set_cons_succ]
      refine wpB_take 10 _ ?_ rfl (by kernel_rfl) (fun _ _ _ h => h) rfl hHeld ?_ ?_
      rotate_left
      · (intro W hW; go_simp; try with_reducible rfl)
      try simp only [Act.put, List.setIfInBounds_toArray, List.set_cons_zero, List.set_cons_succ]
      refine wpB_take 12 _ ?_ rfl (by kernel_rfl) (fun _ _ _ h => h) rfl hHeld ?_ ?_
      rotate_left
      · (intro W hW; go_simp; try with_reducible rfl)
      try simp only [Act.put, List.setIfInBounds_toArray, List.set_cons_zero, List.set_cons_succ]
      refine wpB_take 13 _ ?_ rfl (by kernel_rfl) (fun _ _ _ h => h) rfl hHeld ?_ ?_
      rotate_left
      · (intro W hW; go_simp; try with_reducible rfl)
      try simp only [Act.put, List.setIfInBounds_toArray, List.set_cons_zero, List.set_cons_succ]
      refine wpB_take 14 _ ?_ rfl (by kernel_rfl) (fun _ _ _ h => h) rfl hHeld ?_ ?_
      rotate_left
      · (intro W hW; go_simp; try with_reducible rfl)
      try simp only [Act.put, List.setIfInBounds_toArray, List.set_cons_zero, List.set_cons_succ]
      refine wpB_take 15 _ ?_ rfl (by kernel_rfl) (fun _ _ _ h => h) rfl hHeld ?_ ?_
      rotate_left
      · (intro W hW; go_simp; try with_reducible rfl)
      try simp only [Act.put, List.setIfInBounds_toArray, List.set_cons_zero, List.set_cons_succ]
      refine wpB_take 16 _ ?_ rfl (by kernel_rfl) (fun _ _ _ h => h) rfl hHeld ?_ ?_
      rotate_left
      · (intro W hW; go_simp; try with_reducible rfl)
      try simp only [Act.put, List.setIfInBounds_toArray, List.set_cons_zero, List.set_cons_succ]
      refine wpB_step 5 _ rfl (by kernel_rfl) rfl rfl (fun K hK_ => ?_)
      refine wp_load_mid 107 (.tmp 34) rfl g 0 rfl (S.map (Value.int .u32)) _ (hDk _ (Kp.refl _ _).drew) under8 rfl hm8 ?_
      refine hK_.out _ _ (by exact hHeld) (fun hHeld => ?_)
      clear hK_ K
      try simp only [Act.put, List.setIfInBounds_toArray, List.set_cons_zero, List.set_cons_succ]
      refine wpB_step 11 _ rfl (by kernel_rfl) rfl rfl (fun K hK_ => ?_)
      go_simp
      refine (hdb _).mono ?_
      rintro e wq ⟨rfl, hl2, kq⟩
      refine hK_.out _ _ (by exact ⟨hHeld.1.trans (kq.weaken (fun _ _ h => by cases h)), (kq.cell (lt_of_cell hHeld.2) (by simp)).trans hHeld.2⟩) (fun hHeld => ?_)
      clear hK_ K
      try simp only [Act.put, List.setIfInBounds_toArray, List.set_cons_zero, List.set_cons_succ]
      refine wpB_take 17 _ ?_ rfl (by kernel_rfl) (fun _ _ _ h => h) rfl hHeld ?_ ?_
      rotate_left
      · (intro W hW; go_simp; try with_reducible rfl)
      try simp only [Act.put, List.setIfInBounds_toArray, List.set_cons_zero, List.set_cons_succ]
      refine wpB_take 18 _ ?_ rfl (by kernel_rfl) (fun _ _ _ h => h) rfl hHeld ?_ ?_
      rotate_left
      · (intro W hW; go_simp; try with_reducible rfl)
      try simp only [Act.put, List.setIfInBounds_toArray, List.set_cons_zero, List.set_cons_succ]
      refine wpB_step 19 _ rfl (by kernel_rfl) rfl rfl (fun K hK_ => ?_)
      have hq : Kp [] wr wq := ((Kp.refl _ _).drew).trans kq
      have hD2 : DAt (wq.setCells g 0 (uV S2).toList) g S2 r s.size := dat_store (HD.out.keep0 hq) HL.out hl2
      refine wp_store_mid 107 (.tmp 48) (.tmp 41) rfl g 0 (uV S2) rfl rfl (by rw [uV_len, hl2]; exact hsh _ hq) (by rw [uV_len, hl2]; exact size8) (uV_one _) ?_
      refine hK_.out _ _ (by exact ⟨hHeld.1.setCells' (.inl (by simp)) _ _, (dat_cell hD2 hl2).1⟩) (fun hHeld => ?_)
      clear hK_ K
      try simp only [Act.put, List.setIfInBounds_toArray, List.set_cons_zero, List.set_cons_succ]
      refine wpB_take 20 _ ?_ rfl (by kernel_rfl) (fun _ _ _ h => h) rfl hHeld ?_ ?_
      rotate_left
      · (intro W hW; go_simp; try with_reducible rfl)
      try simp only [Act.put, List.setIfInBounds_toArray, List.set_cons_zero, List.set_cons_succ]
      refine wpB_take 21 _ ?_ rfl (by kernel_rfl) (fun _ _ _ h => h) rfl hHeld ?_ ?_
      rotate_left
      · (intro W hW; go_simp; try with_reducible rfl)
      try simp only [Act.put, List.setIfInBounds_toArray, List.set_cons_zero, List.set_cons_succ]
      refine wpB_bar (DW g wr S2 (r.extract 64 (s.size - 64 * n)) s.size) 999 _ rfl (by kernel_rfl) rfl (fun K hK_ => ?_)
      have q8b : (wq.setCells g 0 (uV S2).toList).cell? ⟨g, 8, none⟩ = some (.string r) := (dat_cell hD2 hl2).1
      have qf8 : (wq.setCells g 0 (uV S2).toList).frozen? ⟨g, 8, none⟩ = false := frozen_of_cells hD2 8
      go_simp
      refine hK_.out _ _ (by exact ⟨hHeld.1.setCell (.inl (by simp)) _, dat_rest hD2 hl2⟩) (fun hHeld => ?_)
      clear hK_ K
      try simp only [Act.put, List.setIfInBounds_toArray, List.set_cons_zero, List.set_cons_succ]
      refine wpB_done (by kernel_rfl) ?_ _
      obtain ⟨hKx, hDx⟩ := hHeld
      have hKn := hK.trans hKx
      have hSn : stN s (n + 1) = S2 := by rw [HS2.out, HS.out]; rfl
      have hDx' := hDx.to hSn.symm (X2.out.trans HR2.out)
      rw [← hSn] at hl2
      have HDX := Lib.hid hDx'
      have HL2 := Lib.hid hl2
      clear hDx'
      clear hKx c8' hdb hDk hsh hDx hSn hl2
      go_wp2_with fail
      go_roundg g'
      case rel => exact ⟨n + 1, by have := HN.out; omega, hKn, HDX.out, HL2.out⟩
      case measure => omega
    · obtain rfl : n = s.size / 64 := by omega
      obtain rfl : gk = 0 := by omega
      clear hn
      have hrI : ¬ (64 : Int) ≤ (r.size : Int) := by omega
      rw [HS.out, HR.out] at hD
      rw [HS.out] at hl
      have HD := Lib.hid hD
      have HL := Lib.hid hl
      clear hD hl hrg hth
      go_wp2_with fail
      go_ret
      exact ⟨⟨_, rfl⟩, HL.out, HD.out, hK⟩
end Go.Proofs.YtlomniffpjndfaaDoor
