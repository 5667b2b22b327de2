/-
  A command with what its line has alone; whether a command may be.
-/
import Derived.Test.YtmihnakapnoefaaGreatDoorScrC
namespace Go.Proofs.YtmihnakapnoefaaGreatDoor
open Go.RowKit Go.WideShapes

/-- the list's slice of a command that only has its line's -/
def onlyV (act : Int) (v : Value) : Value := if act = 7 then v else .slice none 0 0
theorem onlyV_slice (act : Int) (a : Option Addr) (n c : Nat) : ∃ a' n' c', onlyV act (.slice a n c) = .slice a' n' c' := by
  unfold onlyV; split
  · exact ⟨_, _, _, rfl⟩
  · exact ⟨_, _, _, rfl⟩
/-- a command's cells, of each part the other's laid over -/
def laidOver (cc : Array Value) : List (Nat × Nat) → Array Value → Array Value
  | [], x => x
  | p :: ps, x => laidOver cc ps (x.setIfInBounds p.2 (cc.getD p.2 undef))
theorem laidOver_size (cc : Array Value) : ∀ (ps : List (Nat × Nat)) (x : Array Value), (laidOver cc ps x).size = x.size
  | [], _ => rfl
  | _ :: ps, x => by rw [laidOver, laidOver_size cc ps]; simp
theorem laidOver_snoc (cc : Array Value) : ∀ (ps : List (Nat × Nat)) (p : Nat × Nat) (x : Array Value), laidOver cc (ps ++ [p]) x = (laidOver cc ps x).setIfInBounds p.2 (cc.getD p.2 undef)
  | [], _, _ => rfl
  | _ :: ps, p, _ => laidOver_snoc cc ps p _
def startV (c : Cmd) : Array Value :=
  if c.act = 0 then #[.int .i64 c.act, .int .i64 c.rk, .string c.rs, .string c.rv, .int .i64 0, .int .i64 0, .int .i64 0, .string E0, .slice none 0 0, .slice none 0 0]
  else #[.int .i64 c.act, .int .i64 0, .string E0, .string E0, .int .i64 0, .int .i64 0, .int .i64 0, .string E0, .slice none 0 0, .slice none 0 0]
theorem laid_only (c : Cmd) (kv tv : Value) : laidOver (CmdV c kv tv) (partsK c.act) (startV c) = CmdV (onlyC c) (onlyV c.act kv) (onlyV c.act tv) := by
  obtain ⟨a0, a1, a2, a3, a4, a5, a6, a7, l1, l2⟩ := c
  simp only [startV]
  by_cases e0 : a0 = 0
  · subst e0; rfl
  rw [if_neg e0]
  by_cases e1 : a0 = 1
  · subst e1; rfl
  by_cases e2 : a0 = 2
  · subst e2; rfl
  by_cases e3 : a0 = 3
  · subst e3; rfl
  by_cases e4 : a0 = 4
  · subst e4; rfl
  by_cases e5 : a0 = 5
  · subst e5; rfl
  by_cases e6 : a0 = 6
  · subst e6; rfl
  by_cases e7 : a0 = 7
  · subst e7; rfl
  unfold partsK onlyC onlyV
  simp only
  rw [if_neg e1, if_neg e2, if_neg e3, if_neg e4, if_neg e5, if_neg e6, if_neg e7, if_neg e0, if_neg e1, if_neg e2, if_neg e3, if_neg e4, if_neg e5, if_neg e6, if_neg e7, if_neg e7, if_neg e7]
  rfl
theorem part_cases {act : Int} {p : Nat × Nat} (h : p ∈ partsK act) : p = (0, 4) ∨ p = (0, 5) ∨ p = (0, 6) ∨ p = (1, 7) ∨ p = (2, 8) ∨ p = (2, 9) := by
  unfold partsK at h
  split at h
  · simp only [List.mem_cons, List.not_mem_nil, or_false] at h; rcases h with h | h | h <;> simp [h]
  split at h
  · simp only [List.mem_cons, List.not_mem_nil, or_false] at h; simp [h]
  split at h
  · simp only [List.mem_cons, List.not_mem_nil, or_false] at h; simp [h]
  split at h
  · simp only [List.mem_cons, List.not_mem_nil, or_false] at h; rcases h with h | h | h <;> simp [h]
  split at h
  · simp only [List.mem_cons, List.not_mem_nil, or_false] at h; simp [h]
  split at h
  · simp only [List.mem_cons, List.not_mem_nil, or_false] at h; simp [h]
  split at h
  · simp only [List.mem_cons, List.not_mem_nil, or_false] at h; rcases h with h | h <;> simp [h]
  · cases h
theorem parts_le (act : Int) : (partsK act).length ≤ 3 := by
  unfold partsK
  repeat' split
  all_goals decide
theorem tri_len (b : Nat) (p : Nat × Nat) : (tri b p).length = 3 := rfl
theorem flat3 {α : Type} (f : α → List Value) (hf : ∀ a, (f a).length = 3) : ∀ (xs : List α) (i r : Nat) (x : α), xs[i]? = some x → r < 3 → (xs.flatMap f)[i * 3 + r]? = (f x)[r]?
  | [], i, r, x, h, _ => by simp at h
  | y :: ys, 0, r, x, h, hr => by
    simp only [List.getElem?_cons_zero, Option.some.injEq] at h
    subst h
    rw [List.flatMap_cons, List.getElem?_append_left (by rw [hf]; omega), Nat.zero_mul, Nat.zero_add]
  | y :: ys, i + 1, r, x, h, hr => by
    rw [List.flatMap_cons, List.getElem?_append_right (by rw [hf, Nat.add_mul]; omega), hf, show (i + 1) * 3 + r - 3 = i * 3 + r from by omega]
    exact flat3 f hf ys i r x (by simpa using h) hr
/-- a part's three cells -/
theorem part_at {B : Nat} {W : World} {v : Value} {b : Nat} {ps : List (Nat × Nat)} (h : PartsAt B W v b ps) (n : Nat) (p : Nat × Nat) (hp : ps[n]? = some p) :
    ∃ g, v = .slice (some ⟨g, 0, none⟩) ps.length ps.length ∧ B ≤ g ∧ g < W.heap.size ∧ W.cell? ⟨g, n * 3, none⟩ = some (ptrV b p.1 0 p.2) ∧ W.cell? ⟨g, n * 3 + 1, none⟩ = some (ptrV b p.1 1 p.2) ∧ W.cell? ⟨g, n * 3 + 2, none⟩ = some (ptrV b p.1 2 p.2) := by
  obtain ⟨a, rfl, h⟩ := h
  have hlt : n < ps.length := (List.getElem?_eq_some_iff.1 hp).1
  obtain ⟨g, rfl, hB, hb⟩ := h (by omega)
  refine ⟨g, rfl, hB, lt_of_block hb, ?_, ?_, ?_⟩
  · refine cell_of_cells hb ?_
    rw [List.getElem?_toArray]
    exact flat3 (tri b) (tri_len b) ps n 0 p hp (by decide)
  · refine cell_of_cells hb ?_
    rw [List.getElem?_toArray]
    exact flat3 (tri b) (tri_len b) ps n 1 p hp (by decide)
  · refine cell_of_cells hb ?_
    rw [List.getElem?_toArray]
    exact flat3 (tri b) (tri_len b) ps n 2 p hp (by decide)
theorem put10 {W : World} {R : Nat} {a0 a1 a2 a3 a4 a5 a6 a7 a8 a9 : Value} {t : TypeId} (h : W.heap[R]? = some (.cells #[a0, a1, a2, a3, a4, a5, a6, a7, a8, a9] t (0, 0))) (v0 v1 v2 v3 v4 v5 v6 v7 v8 v9 : Value) :
    ((((((((((W.setCell ⟨R, 0, none⟩ v0).setCell ⟨R, 1, none⟩ v1).setCell ⟨R, 2, none⟩ v2).setCell ⟨R, 3, none⟩ v3).setCell ⟨R, 4, none⟩ v4).setCell ⟨R, 5, none⟩ v5).setCell ⟨R, 6, none⟩ v6).setCell ⟨R, 7, none⟩ v7).setCell ⟨R, 8, none⟩ v8).setCell ⟨R, 9, none⟩ v9).heap[R]? = some (.cells #[v0, v1, v2, v3, v4, v5, v6, v7, v8, v9] t (0, 0)) := by
  have h0 : (W.setCell ⟨R, 0, none⟩ v0).heap[R]? = some (.cells #[v0, a1, a2, a3, a4, a5, a6, a7, a8, a9] t (0, 0)) := by rw [block_setCell h 0 v0]; rfl
  have h1 : ((W.setCell ⟨R, 0, none⟩ v0).setCell ⟨R, 1, none⟩ v1).heap[R]? = some (.cells #[v0, v1, a2, a3, a4, a5, a6, a7, a8, a9] t (0, 0)) := by rw [block_setCell h0 1 v1]; rfl
  have h2 : (((W.setCell ⟨R, 0, none⟩ v0).setCell ⟨R, 1, none⟩ v1).setCell ⟨R, 2, none⟩ v2).heap[R]? = some (.cells #[v0, v1, v2, a3, a4, a5, a6, a7, a8, a9] t (0, 0)) := by rw [block_setCell h1 2 v2]; rfl
  have h3 : ((((W.setCell ⟨R, 0, none⟩ v0).setCell ⟨R, 1, none⟩ v1).setCell ⟨R, 2, none⟩ v2).setCell ⟨R, 3, none⟩ v3).heap[R]? = some (.cells #[v0, v1, v2, v3, a4, a5, a6, a7, a8, a9] t (0, 0)) := by rw [block_setCell h2 3 v3]; rfl
  have h4 : (((((W.setCell ⟨R, 0, none⟩ v0).setCell ⟨R, 1, none⟩ v1).setCell ⟨R, 2, none⟩ v2).setCell ⟨R, 3, none⟩ v3).setCell ⟨R, 4, none⟩ v4).heap[R]? = some (.cells #[v0, v1, v2, v3, v4, a5, a6, a7, a8, a9] t (0, 0)) := by rw [block_setCell h3 4 v4]; rfl
  have h5 : ((((((W.setCell ⟨R, 0, none⟩ v0).setCell ⟨R, 1, none⟩ v1).setCell ⟨R, 2, none⟩ v2).setCell ⟨R, 3, none⟩ v3).setCell ⟨R, 4, none⟩ v4).setCell ⟨R, 5, none⟩ v5).heap[R]? = some (.cells #[v0, v1, v2, v3, v4, v5, a6, a7, a8, a9] t (0, 0)) := by rw [block_setCell h4 5 v5]; rfl
  have h6 : (((((((W.setCell ⟨R, 0, none⟩ v0).setCell ⟨R, 1, none⟩ v1).setCell ⟨R, 2, none⟩ v2).setCell ⟨R, 3, none⟩ v3).setCell ⟨R, 4, none⟩ v4).setCell ⟨R, 5, none⟩ v5).setCell ⟨R, 6, none⟩ v6).heap[R]? = some (.cells #[v0, v1, v2, v3, v4, v5, v6, a7, a8, a9] t (0, 0)) := by rw [block_setCell h5 6 v6]; rfl
  have h7 : ((((((((W.setCell ⟨R, 0, none⟩ v0).setCell ⟨R, 1, none⟩ v1).setCell ⟨R, 2, none⟩ v2).setCell ⟨R, 3, none⟩ v3).setCell ⟨R, 4, none⟩ v4).setCell ⟨R, 5, none⟩ v5).setCell ⟨R, 6, none⟩ v6).setCell ⟨R, 7, none⟩ v7).heap[R]? = some (.cells #[v0, v1, v2, v3, v4, v5, v6, v7, a8, a9] t (0, 0)) := by rw [block_setCell h6 7 v7]; rfl
  have h8 : (((((((((W.setCell ⟨R, 0, none⟩ v0).setCell ⟨R, 1, none⟩ v1).setCell ⟨R, 2, none⟩ v2).setCell ⟨R, 3, none⟩ v3).setCell ⟨R, 4, none⟩ v4).setCell ⟨R, 5, none⟩ v5).setCell ⟨R, 6, none⟩ v6).setCell ⟨R, 7, none⟩ v7).setCell ⟨R, 8, none⟩ v8).heap[R]? = some (.cells #[v0, v1, v2, v3, v4, v5, v6, v7, v8, a9] t (0, 0)) := by rw [block_setCell h7 8 v8]; rfl
  have h9 : ((((((((((W.setCell ⟨R, 0, none⟩ v0).setCell ⟨R, 1, none⟩ v1).setCell ⟨R, 2, none⟩ v2).setCell ⟨R, 3, none⟩ v3).setCell ⟨R, 4, none⟩ v4).setCell ⟨R, 5, none⟩ v5).setCell ⟨R, 6, none⟩ v6).setCell ⟨R, 7, none⟩ v7).setCell ⟨R, 8, none⟩ v8).setCell ⟨R, 9, none⟩ v9).heap[R]? = some (.cells #[v0, v1, v2, v3, v4, v5, v6, v7, v8, v9] t (0, 0)) := by rw [block_setCell h8 9 v9]; rfl
  exact h9
theorem read10 {W : World} {b : Nat} {t : TypeId} {v0 v1 v2 v3 v4 v5 v6 v7 v8 v9 : Value} (h : W.heap[b]? = some (.cells #[v0, v1, v2, v3, v4, v5, v6, v7, v8, v9] t (0, 0))) :
    (W.cell? ⟨b, 0, none⟩ = some v0 ∧ W.cell? ⟨b, 1, none⟩ = some v1 ∧ W.cell? ⟨b, 2, none⟩ = some v2 ∧ W.cell? ⟨b, 3, none⟩ = some v3 ∧ W.cell? ⟨b, 4, none⟩ = some v4 ∧
    W.cell? ⟨b, 5, none⟩ = some v5 ∧ W.cell? ⟨b, 6, none⟩ = some v6 ∧ W.cell? ⟨b, 7, none⟩ = some v7 ∧ W.cell? ⟨b, 8, none⟩ = some v8 ∧ W.cell? ⟨b, 9, none⟩ = some v9) ∧ ∀ o, W.frozen? ⟨b, o, none⟩ = false :=
  ⟨⟨cell_of_cells h rfl, cell_of_cells h rfl, cell_of_cells h rfl, cell_of_cells h rfl, cell_of_cells h rfl, cell_of_cells h rfl, cell_of_cells h rfl, cell_of_cells h rfl, cell_of_cells h rfl, cell_of_cells h rfl⟩, frozen_of_cells h⟩
theorem Kp.put10 {Y : List Nat} {a W : World} {R : Nat} (k : Kp Y a W) (hR : R ∈ Y ∨ a.heap.size ≤ R) (v0 v1 v2 v3 v4 v5 v6 v7 v8 v9 : Value) :
    Kp Y a ((((((((((W.setCell ⟨R, 0, none⟩ v0).setCell ⟨R, 1, none⟩ v1).setCell ⟨R, 2, none⟩ v2).setCell ⟨R, 3, none⟩ v3).setCell ⟨R, 4, none⟩ v4).setCell ⟨R, 5, none⟩ v5).setCell ⟨R, 6, none⟩ v6).setCell ⟨R, 7, none⟩ v7).setCell ⟨R, 8, none⟩ v8).setCell ⟨R, 9, none⟩ v9) :=
  (((((((((k.setCell hR _).setCell hR _).setCell hR _).setCell hR _).setCell hR _).setCell hR _).setCell hR _).setCell hR _).setCell hR _).setCell hR _
set_option maxHeartbeats 1000000 in
set_option maxRecDepth 20000 in
theorem named_any (c : Cmd) (ka ta : Option Addr) (kn kc tn tc : Nat) (w : World) : Calls Tryz.prog 26 #[.agg (CmdV c (.slice ka kn kc) (.slice ta tn tc))] w fun e w' => e = .returned (.agg (CmdV (onlyC c) (onlyV c.act (.slice ka kn kc)) (onlyV c.act (.slice ta tn tc)))) ∧ Kp [] w w' := by
  have hfin := laid_only c (.slice ka kn kc) (.slice ta tn tc)
  obtain ⟨pa, pn, pc, hko⟩ : ∃ pa pn pc, onlyV c.act (.slice ka kn kc) = .slice pa pn pc := onlyV_slice _ _ _ _
  obtain ⟨qa, qn, qc, hto⟩ : ∃ qa qn qc, onlyV c.act (.slice ta tn tc) = .slice qa qn qc := onlyV_slice _ _ _ _
  obtain ⟨oc, hoc⟩ : ∃ oc, oc = onlyC c := ⟨_, rfl⟩
  rw [hko, hto, ← hoc] at hfin ⊢
  clear hko hto hoc
  obtain ⟨o0, o1, o2, o3, o4, o5, o6, o7, ol, ot⟩ := oc
  obtain ⟨C, hC⟩ : ∃ C, C = w.heap.size := ⟨_, rfl⟩
  obtain ⟨W0, hW0⟩ : ∃ W0, W0 = ((w.alloc (.cells (CmdV c (.slice ka kn kc) (.slice ta tn tc)) 32)).alloc (.cells #[.int .i64 0, .int .i64 0, .string E0, .string E0, .int .i64 0, .int .i64 0, .int .i64 0, .string E0, .slice none 0 0, .slice none 0 0] 32)).alloc (.cells (startV c) 32) := ⟨_, rfl⟩
  have kW0 : Kp [] w W0 := hW0 ▸ (((Kp.refl _ _).alloc _).alloc _).alloc _
  have hbC : W0.heap[C]? = some (.cells (CmdV c (.slice ka kn kc) (.slice ta tn tc)) 32 (0, 0)) := by rw [hW0, hC]; exact block_alloc (block_alloc (block_new _ _) _) _
  have hbR : W0.heap[C + 1]? = some (.cells #[.int .i64 0, .int .i64 0, .string E0, .string E0, .int .i64 0, .int .i64 0, .int .i64 0, .string E0, .slice none 0 0, .slice none 0 0] 32 (0, 0)) := by rw [hW0, hC]; exact block_alloc (two_new _ _ _) _
  have hbX : W0.heap[C + 2]? = some (.cells (startV c) 32 (0, 0)) := by
    rw [hW0, hC]
    have := block_new ((w.alloc (.cells (CmdV c (.slice ka kn kc) (.slice ta tn tc)) 32)).alloc (.cells #[.int .i64 0, .int .i64 0, .string E0, .string E0, .int .i64 0, .int .i64 0, .int .i64 0, .string E0, .slice none 0 0, .slice none 0 0] 32)) (.cells (startV c) 32)
    simpa [World.size_alloc] using this
  have HFIN := Lib.hid hfin
  have HW0 := Lib.hid hW0
  have HC := Lib.hid hC
  obtain ⟨act, rk, rs, rv, n', a', b', text, keep, torn⟩ := c
  simp only [CmdV, startV] at HFIN HW0 hbC hbX ⊢
  clear hfin hW0 hC
  by_cases ha : act = 0
  · have hab : (act == 0) = true := by simpa using ha
    rw [if_pos ha] at HW0 hbX HFIN
    clear ha
    go_enter Tryz.func26, Tryz.ntmps26
    go_wp2_with fail
    obtain ⟨X, hX⟩ : ∃ X, X = w.heap.size + 1 + 1 := ⟨_, rfl⟩
    obtain ⟨R, hR⟩ : ∃ R, R = w.heap.size + 1 := ⟨_, rfl⟩
    rw [← HW0.out, ← hX, ← hR, ← HC.out]
    have hX0 : C + 2 = X := by rw [hX, HC.out]
    have hR0 : C + 1 = R := by rw [hR, HC.out]
    rw [hX0] at hbX
    rw [hR0] at hbR
    have hCX : C ≠ X := by omega
    have hXC : X ≠ C := by omega
    have hRX : R ≠ X := by omega
    have hXlt := lt_of_block hbX
    have hCXl : C < X := by omega
    have HX := Lib.hid hX
    have HRR := Lib.hid hR
    clear hX hR hX0 hR0
    refine (parts_any act C W0 (cell_of_cells hbC rfl)).mono ?_
    rintro e W1 ⟨v1, rfl, hp1, k1⟩
    go_wp2_with fail
    have hbX1 := Kp.blockAt (X := []) hbX (by simp) _ k1
    have hcX1 : W1.cell? ⟨X, 0, none⟩ = some (.int .i64 act) := cell_of_cells hbX1 rfl
    clear hbX1
    refine (parts_any act X W1 hcX1).mono ?_
    rintro e W2 ⟨v2, rfl, hp2, k2⟩
    have k02 := k1.trans k2
    have hbX2 := Kp.blockAt (X := []) hbX (by simp) _ k02
    have hbC2 := Kp.blockAt (X := []) hbC (by simp) _ k02
    have hbR2 := Kp.blockAt (X := []) hbR (by simp) _ k02
    have hkW := kW0.trans k02
    obtain ⟨a2, rfl, -⟩ := id hp2
    obtain ⟨a1, rfl, -⟩ := id hp1
    obtain ⟨ps, hps⟩ : ∃ ps, ps = partsK act := ⟨_, rfl⟩
    rw [← hps] at hp1 hp2 HFIN ⊢
    have hps3 : ps.length ≤ 3 := by rw [hps]; exact parts_le act
    have hk1s := k1.size
    have HPS := Lib.hid hps
    have HBX := Lib.hid hbX2
    have HBC := Lib.hid hbC2
    have HBR := Lib.hid hbR2
    clear hps hbX hbC hbR hbX2 hbC2 hbR2
    go_wp2_with fail
    go_loopg [29] ps.length (fun g i wr => ∃ n : Nat, n + g = ps.length ∧ i = .int .i64 n ∧ Kp [X] W2 wr ∧ wr.heap[X]? = some (.cells (laidOver #[.int .i64 act, .int .i64 rk, .string rs, .string rv, .int .i64 n', .int .i64 a', .int .i64 b', .string text, .slice ka kn kc, .slice ta tn tc] (ps.take n) #[.int .i64 act, .int .i64 rk, .string rs, .string rv, .int .i64 0, .int .i64 0, .int .i64 0, .string E0, .slice none 0 0, .slice none 0 0]) 32 (0, 0)))
    case atStart => exact ⟨0, by omega, rfl, Kp.refl _ _, HBX.out⟩
    case round =>
      obtain ⟨n, hn, rfl, hK, hbx⟩ := hrel
      have HN := Lib.hid hn
      have HBX := Lib.hid hbx
      have hbC' := (hK.block C (lt_of_block HBC.out) (by simp; omega)).trans HBC.out
      by_cases hlt : n < ps.length
      · obtain ⟨g', rfl⟩ : ∃ g', gk = g' + 1 := ⟨gk - 1, by omega⟩
        clear hn hbx
        have hltI : (n : Int) < (ps.length : Int) := by omega
        obtain ⟨p, hp⟩ : ∃ p, p = ps[n] := ⟨_, rfl⟩
        have hpn : ps[n]? = some p := by rw [List.getElem?_eq_getElem hlt, hp]
        have hmem : p ∈ partsK act := by rw [← HPS.out, hp]; exact List.getElem_mem hlt
        have hst : ps.take (n + 1) = ps.take n ++ [p] := by rw [List.take_add_one, hpn]; rfl
        obtain ⟨g1, hv1, hB1, hg1, q10, q11, q12⟩ := part_at hp1 n p hpn
        obtain ⟨g2, hv2, hB2, hg2, f20, f21, f22⟩ := part_at hp2 n p hpn
        simp only [Value.slice.injEq] at hv1 hv2
        obtain ⟨rfl, -, -⟩ := hv1
        obtain ⟨rfl, -, -⟩ := hv2
        have f10 := (k2.cell (lt_of_cell q10) (by simp)).trans q10
        have f11 := (k2.cell (lt_of_cell q11) (by simp)).trans q11
        have f12 := (k2.cell (lt_of_cell q12) (by simp)).trans q12
        have HST := Lib.hid hst
        clear hst hp hpn q10 q11 q12
        rcases part_cases hmem with hpc | hpc | hpc | hpc | hpc | hpc
        · subst hpc
          have e20 : wr.cell? ⟨g2, n * 3, none⟩ = some (ptrV X _ 0 4) := (hK.cell (lt_of_cell f20) (by simp; omega)).trans f20
          have e21 : wr.cell? ⟨g2, n * 3 + 1, none⟩ = some (ptrV X _ 1 4) := (hK.cell (lt_of_cell f21) (by simp; omega)).trans f21
          have e22 : wr.cell? ⟨g2, n * 3 + 2, none⟩ = some (ptrV X _ 2 4) := (hK.cell (lt_of_cell f22) (by simp; omega)).trans f22
          have e10 : wr.cell? ⟨g1, n * 3, none⟩ = some (ptrV C _ 0 4) := (hK.cell (lt_of_cell f10) (by simp; omega)).trans f10
          have e11 : wr.cell? ⟨g1, n * 3 + 1, none⟩ = some (ptrV C _ 1 4) := (hK.cell (lt_of_cell f11) (by simp; omega)).trans f11
          have e12 : wr.cell? ⟨g1, n * 3 + 2, none⟩ = some (ptrV C _ 2 4) := (hK.cell (lt_of_cell f12) (by simp; omega)).trans f12
          have ec : wr.cell? ⟨C, 4, none⟩ = some (Value.int IntKind.i64 n') := cell_of_cells hbC' rfl
          simp only [ptrV] at e20 e21 e22 e10 e11 e12
          obtain ⟨u, hu⟩ : ∃ u, (laidOver #[.int .i64 act, .int .i64 rk, .string rs, .string rv, .int .i64 n', .int .i64 a', .int .i64 b', .string text, .slice ka kn kc, .slice ta tn tc] (ps.take n) #[.int .i64 act, .int .i64 rk, .string rs, .string rv, .int .i64 0, .int .i64 0, .int .i64 0, .string E0, .slice none 0 0, .slice none 0 0])[4]? = some u := ⟨_, Array.getElem?_eq_getElem (by rw [laidOver_size]; exact (by decide : 4 < 10))⟩
          have xc : wr.cell? ⟨X, 4, none⟩ = some u := cell_of_cells HBX.out hu
          have xf : wr.frozen? ⟨X, 4, none⟩ = false := frozen_of_cells HBX.out _
          clear f20 f21 f22 f10 f11 f12 hu
          have hXwr := lt_of_cell xc
          go_wp2_with fail
          obtain ⟨wb, hwb⟩ : ∃ wb, wb = wr.alloc (.cells #[.pointer (some ⟨X, 4, none⟩), .pointer none, .pointer none] 54) := ⟨_, rfl⟩
          have kb : Kp [] wr wb := by rw [hwb]; exact (Kp.refl _ _).alloc _
          have hbb : wb.heap[wr.heap.size]? = some (.cells #[.pointer (some ⟨X, 4, none⟩), .pointer none, .pointer none] 54 (0, 0)) := by rw [hwb]; exact block_new _ _
          rw [← hwb]
          have hXn : wr.heap.size ≠ X := by omega
          have bx0 := boxAt hbb (X := [X]) (by simpa using hXn) 0 _ rfl
          have bx1 := boxAt hbb (X := [X]) (by simpa using hXn) 1 _ rfl
          have bx2 := boxAt hbb (X := [X]) (by simpa using hXn) 2 _ rfl
          have bg1 := Kp.cellAt (X := [X]) (w0 := wb) ((kb.cell (lt_of_cell e10) (by simp)).trans e10) (by simp; omega)
          have bc := Kp.cellAt (X := [X]) (w0 := wb) ((kb.cell (lt_of_cell ec) (by simp)).trans ec) (by simpa using hCX)
          have bxc := (kb.cell (lt_of_cell xc) (by simp)).trans xc
          have bxf := (kb.frozen (lt_of_cell xc) (by simp)).trans xf
          have hbx2 := (kb.block X hXwr (by simp)).trans HBX.out
          have hKb : Kp [X] W2 wb := hK.call kb
          have HBX2 := Lib.hid hbx2
          have hK0 := Kp.refl [X] wb
          clear hwb hbb e20 e21 e22 e10 e11 e12 ec xc xf hbx2 kb
          refine wpB_begin 999 (Kp [X] wb) (by kernel_rfl) (by exact (Kp.refl _ _).drew) (fun hHeld => ?_)
          refine wpB_take 0 _ ?_ rfl (by kernel_rfl) (fun _ _ _ h => h) rfl hHeld ?_ ?_
          rotate_left
          · (intro W hW; go_simp; try with_reducible rfl)
          try simp only [Act.put, List.setIfInBounds_toArray, List.set_cons_zero, List.set_cons_succ]
          refine wpB_take 1 _ ?_ rfl (by kernel_rfl) (fun _ _ _ h => h) rfl hHeld ?_ ?_
          rotate_left
          · (intro W hW; go_simp; try with_reducible rfl)
          try simp only [Act.put, List.setIfInBounds_toArray, List.set_cons_zero, List.set_cons_succ]
          refine wpB_take 2 _ ?_ rfl (by kernel_rfl) (fun _ _ _ h => h) rfl hHeld ?_ ?_
          rotate_left
          · (intro W hW; go_simp; try with_reducible rfl)
          try simp only [Act.put, List.setIfInBounds_toArray, List.set_cons_zero, List.set_cons_succ]
          refine wpB_take 3 _ ?_ rfl (by kernel_rfl) (fun _ _ _ h => h) rfl hHeld ?_ ?_
          rotate_left
          · (intro W hW; go_simp; try with_reducible rfl)
          try simp only [Act.put, List.setIfInBounds_toArray, List.set_cons_zero, List.set_cons_succ]
          refine wpB_take 4 _ ?_ rfl (by kernel_rfl) (fun _ _ _ h => h) rfl hHeld ?_ ?_
          rotate_left
          · (intro W hW; go_simp; try with_reducible rfl)
          try simp only [Act.put, List.setIfInBounds_toArray, List.set_cons_zero, List.set_cons_succ]
          refine wpB_take 5 _ ?_ rfl (by kernel_rfl) (fun _ _ _ h => h) rfl hHeld ?_ ?_
          rotate_left
          · (intro W hW; go_simp; try with_reducible rfl)
          try simp only [Act.put, List.setIfInBounds_toArray, List.set_cons_zero, List.set_cons_succ]
          refine wpB_take 6 _ ?_ rfl (by kernel_rfl) (fun _ _ _ h => h) rfl hHeld ?_ ?_
          rotate_left
          · (intro W hW; go_simp; try with_reducible rfl)
          try simp only [Act.put, List.setIfInBounds_toArray, List.set_cons_zero, List.set_cons_succ]
          refine wpB_take 7 _ ?_ rfl (by kernel_rfl) (fun _ _ _ h => h) rfl hHeld ?_ ?_
          rotate_left
          · (intro W hW; go_simp; try with_reducible rfl)
          try simp only [Act.put, List.setIfInBounds_toArray, List.set_cons_zero, List.set_cons_succ]
          refine wpB_take 8 _ ?_ rfl (by kernel_rfl) (fun _ _ _ h => h) rfl hHeld ?_ ?_
          rotate_left
          · (intro W hW; go_simp; try with_reducible rfl)
          try simp only [Act.put, List.setIfInBounds_toArray, List.set_cons_zero, List.set_cons_succ]
          refine wpB_take 9 _ ?_ rfl (by kernel_rfl) (fun _ _ _ h => h) rfl hHeld ?_ ?_
          rotate_left
          · (intro W hW; go_simp; try with_reducible rfl)
          try simp only [Act.put, List.setIfInBounds_toArray, List.set_cons_zero, List.set_cons_succ]
          refine wpB_step 10 _ rfl (by kernel_rfl) rfl rfl (fun K hK_ => ?_)
          go_simp
          refine hK_.out _ _ (by exact hHeld.setCell (.inl (by simp)) _) (fun hHeld => ?_)
          clear hK_ K
          try simp only [Act.put, List.setIfInBounds_toArray, List.set_cons_zero, List.set_cons_succ]
          refine wpB_done (by kernel_rfl) ?_ _
          go_wp2_with fail
          go_roundg g'
          case rel =>
            have hn := HN.out
            refine ⟨n + 1, by omega, by go_num, hKb.drew.setCell (.inl (by simp)) _, ?_⟩
            rw [HST.out, laidOver_snoc]
            exact block_setCell HBX2.out _ _
          case measure => omega
        · subst hpc
          have e20 : wr.cell? ⟨g2, n * 3, none⟩ = some (ptrV X _ 0 5) := (hK.cell (lt_of_cell f20) (by simp; omega)).trans f20
          have e21 : wr.cell? ⟨g2, n * 3 + 1, none⟩ = some (ptrV X _ 1 5) := (hK.cell (lt_of_cell f21) (by simp; omega)).trans f21
          have e22 : wr.cell? ⟨g2, n * 3 + 2, none⟩ = some (ptrV X _ 2 5) := (hK.cell (lt_of_cell f22) (by simp; omega)).trans f22
          have e10 : wr.cell? ⟨g1, n * 3, none⟩ = some (ptrV C _ 0 5) := (hK.cell (lt_of_cell f10) (by simp; omega)).trans f10
          have e11 : wr.cell? ⟨g1, n * 3 + 1, none⟩ = some (ptrV C _ 1 5) := (hK.cell (lt_of_cell f11) (by simp; omega)).trans f11
          have e12 : wr.cell? ⟨g1, n * 3 + 2, none⟩ = some (ptrV C _ 2 5) := (hK.cell (lt_of_cell f12) (by simp; omega)).trans f12
          have ec : wr.cell? ⟨C, 5, none⟩ = some (Value.int IntKind.i64 a') := cell_of_cells hbC' rfl
          simp only [ptrV] at e20 e21 e22 e10 e11 e12
          obtain ⟨u, hu⟩ : ∃ u, (laidOver #[.int .i64 act, .int .i64 rk, .string rs, .string rv, .int .i64 n', .int .i64 a', .int .i64 b', .string text, .slice ka kn kc, .slice ta tn tc] (ps.take n) #[.int .i64 act, .int .i64 rk, .string rs, .string rv, .int .i64 0, .int .i64 0, .int .i64 0, .string E0, .slice none 0 0, .slice none 0 0])[5]? = some u := ⟨_, Array.getElem?_eq_getElem (by rw [laidOver_size]; exact (by decide : 5 < 10))⟩
          have xc : wr.cell? ⟨X, 5, none⟩ = some u := cell_of_cells HBX.out hu
          have xf : wr.frozen? ⟨X, 5, none⟩ = false := frozen_of_cells HBX.out _
          clear f20 f21 f22 f10 f11 f12 hu
          have hXwr := lt_of_cell xc
          go_wp2_with fail
          obtain ⟨wb, hwb⟩ : ∃ wb, wb = wr.alloc (.cells #[.pointer (some ⟨X, 5, none⟩), .pointer none, .pointer none] 54) := ⟨_, rfl⟩
          have kb : Kp [] wr wb := by rw [hwb]; exact (Kp.refl _ _).alloc _
          have hbb : wb.heap[wr.heap.size]? = some (.cells #[.pointer (some ⟨X, 5, none⟩), .pointer none, .pointer none] 54 (0, 0)) := by rw [hwb]; exact block_new _ _
          rw [← hwb]
          have hXn : wr.heap.size ≠ X := by omega
          have bx0 := boxAt hbb (X := [X]) (by simpa using hXn) 0 _ rfl
          have bx1 := boxAt hbb (X := [X]) (by simpa using hXn) 1 _ rfl
          have bx2 := boxAt hbb (X := [X]) (by simpa using hXn) 2 _ rfl
          have bg1 := Kp.cellAt (X := [X]) (w0 := wb) ((kb.cell (lt_of_cell e10) (by simp)).trans e10) (by simp; omega)
          have bc := Kp.cellAt (X := [X]) (w0 := wb) ((kb.cell (lt_of_cell ec) (by simp)).trans ec) (by simpa using hCX)
          have bxc := (kb.cell (lt_of_cell xc) (by simp)).trans xc
          have bxf := (kb.frozen (lt_of_cell xc) (by simp)).trans xf
          have hbx2 := (kb.block X hXwr (by simp)).trans HBX.out
          have hKb : Kp [X] W2 wb := hK.call kb
          have HBX2 := Lib.hid hbx2
          have hK0 := Kp.refl [X] wb
          clear hwb hbb e20 e21 e22 e10 e11 e12 ec xc xf hbx2 kb
          refine wpB_begin 999 (Kp [X] wb) (by kernel_rfl) (by exact (Kp.refl _ _).drew) (fun hHeld => ?_)
          refine wpB_take 0 _ ?_ rfl (by kernel_rfl) (fun _ _ _ h => h) rfl hHeld ?_ ?_
          rotate_left
          · (intro W hW; go_simp; try with_reducible rfl)
          try simp only [Act.put, List.setIfInBounds_toArray, List.set_cons_zero, List.set_cons_succ]
          refine wpB_take 1 _ ?_ rfl (by kernel_rfl) (fun _ _ _ h => h) rfl hHeld ?_ ?_
          rotate_left
          · (intro W hW; go_simp; try with_reducible rfl)
          try simp only [Act.put, List.setIfInBounds_toArray, List.set_cons_zero, List.set_cons_succ]
          refine wpB_take 2 _ ?_ rfl (by kernel_rfl) (fun _ _ _ h => h) rfl hHeld ?_ ?_
          rotate_left
          · (intro W hW; go_simp; try with_reducible rfl)
          try simp only [Act.put, List.setIfInBounds_toArray, List.set_cons_zero, List.set_cons_succ]
          refine wpB_take 3 _ ?_ rfl (by kernel_rfl) (fun _ _ _ h => h) rfl hHeld ?_ ?_
          rotate_left
          · (intro W hW; go_simp; try with_reducible rfl)
          try simp only [Act.put, List.setIfInBounds_toArray, List.set_cons_zero, List.set_cons_succ]
          refine wpB_take 4 _ ?_ rfl (by kernel_rfl) (fun _ _ _ h => h) rfl hHeld ?_ ?_
          rotate_left
          · (intro W hW; go_simp; try with_reducible rfl)
          try simp only [Act.put, List.setIfInBounds_toArray, List.set_cons_zero, List.set_cons_succ]
          refine wpB_take 5 _ ?_ rfl (by kernel_rfl) (fun _ _ _ h => h) rfl hHeld ?_ ?_
          rotate_left
          · (intro W hW; go_simp; try with_reducible rfl)
          try simp only [Act.put, List.setIfInBounds_toArray, List.set_cons_zero, List.set_cons_succ]
          refine wpB_take 6 _ ?_ rfl (by kernel_rfl) (fun _ _ _ h => h) rfl hHeld ?_ ?_
          rotate_left
          · (intro W hW; go_simp; try with_reducible rfl)
          try simp only [Act.put, List.setIfInBounds_toArray, List.set_cons_zero, List.set_cons_succ]
          refine wpB_take 7 _ ?_ rfl (by kernel_rfl) (fun _ _ _ h => h) rfl hHeld ?_ ?_
          rotate_left
          · (intro W hW; go_simp; try with_reducible rfl)
          try simp only [Act.put, List.setIfInBounds_toArray, List.set_cons_zero, List.set_cons_succ]
          refine wpB_take 8 _ ?_ rfl (by kernel_rfl) (fun _ _ _ h => h) rfl hHeld ?_ ?_
          rotate_left
          · (intro W hW; go_simp; try with_reducible rfl)
          try simp only [Act.put, List.setIfInBounds_toArray, List.set_cons_zero, List.set_cons_succ]
          refine wpB_take 9 _ ?_ rfl (by kernel_rfl) (fun _ _ _ h => h) rfl hHeld ?_ ?_
          rotate_left
          · (intro W hW; go_simp; try with_reducible rfl)
          try simp only [Act.put, List.setIfInBounds_toArray, List.set_cons_zero, List.set_cons_succ]
          refine wpB_step 10 _ rfl (by kernel_rfl) rfl rfl (fun K hK_ => ?_)
          go_simp
          refine hK_.out _ _ (by exact hHeld.setCell (.inl (by simp)) _) (fun hHeld => ?_)
          clear hK_ K
          try simp only [Act.put, List.setIfInBounds_toArray, List.set_cons_zero, List.set_cons_succ]
          refine wpB_done (by kernel_rfl) ?_ _
          go_wp2_with fail
          go_roundg g'
          case rel =>
            have hn := HN.out
            refine ⟨n + 1, by omega, by go_num, hKb.drew.setCell (.inl (by simp)) _, ?_⟩
            rw [HST.out, laidOver_snoc]
            exact block_setCell HBX2.out _ _
          case measure => omega
        · subst hpc
          have e20 : wr.cell? ⟨g2, n * 3, none⟩ = some (ptrV X _ 0 6) := (hK.cell (lt_of_cell f20) (by simp; omega)).trans f20
          have e21 : wr.cell? ⟨g2, n * 3 + 1, none⟩ = some (ptrV X _ 1 6) := (hK.cell (lt_of_cell f21) (by simp; omega)).trans f21
          have e22 : wr.cell? ⟨g2, n * 3 + 2, none⟩ = some (ptrV X _ 2 6) := (hK.cell (lt_of_cell f22) (by simp; omega)).trans f22
          have e10 : wr.cell? ⟨g1, n * 3, none⟩ = some (ptrV C _ 0 6) := (hK.cell (lt_of_cell f10) (by simp; omega)).trans f10
          have e11 : wr.cell? ⟨g1, n * 3 + 1, none⟩ = some (ptrV C _ 1 6) := (hK.cell (lt_of_cell f11) (by simp; omega)).trans f11
          have e12 : wr.cell? ⟨g1, n * 3 + 2, none⟩ = some (ptrV C _ 2 6) := (hK.cell (lt_of_cell f12) (by simp; omega)).trans f12
          have ec : wr.cell? ⟨C, 6, none⟩ = some (Value.int IntKind.i64 b') := cell_of_cells hbC' rfl
          simp only [ptrV] at e20 e21 e22 e10 e11 e12
          obtain ⟨u, hu⟩ : ∃ u, (laidOver #[.int .i64 act, .int .i64 rk, .string rs, .string rv, .int .i64 n', .int .i64 a', .int .i64 b', .string text, .slice ka kn kc, .slice ta tn tc] (ps.take n) #[.int .i64 act, .int .i64 rk, .string rs, .string rv, .int .i64 0, .int .i64 0, .int .i64 0, .string E0, .slice none 0 0, .slice none 0 0])[6]? = some u := ⟨_, Array.getElem?_eq_getElem (by rw [laidOver_size]; exact (by decide : 6 < 10))⟩
          have xc : wr.cell? ⟨X, 6, none⟩ = some u := cell_of_cells HBX.out hu
          have xf : wr.frozen? ⟨X, 6, none⟩ = false := frozen_of_cells HBX.out _
          clear f20 f21 f22 f10 f11 f12 hu
          have hXwr := lt_of_cell xc
          go_wp2_with fail
          obtain ⟨wb, hwb⟩ : ∃ wb, wb = wr.alloc (.cells #[.pointer (some ⟨X, 6, none⟩), .pointer none, .pointer none] 54) := ⟨_, rfl⟩
          have kb : Kp [] wr wb := by rw [hwb]; exact (Kp.refl _ _).alloc _
          have hbb : wb.heap[wr.heap.size]? = some (.cells #[.pointer (some ⟨X, 6, none⟩), .pointer none, .pointer none] 54 (0, 0)) := by rw [hwb]; exact block_new _ _
          rw [← hwb]
          have hXn : wr.heap.size ≠ X := by omega
          have bx0 := boxAt hbb (X := [X]) (by simpa using hXn) 0 _ rfl
          have bx1 := boxAt hbb (X := [X]) (by simpa using hXn) 1 _ rfl
          have bx2 := boxAt hbb (X := [X]) (by simpa using hXn) 2 _ rfl
          have bg1 := Kp.cellAt (X := [X]) (w0 := wb) ((kb.cell (lt_of_cell e10) (by simp)).trans e10) (by simp; omega)
          have bc := Kp.cellAt (X := [X]) (w0 := wb) ((kb.cell (lt_of_cell ec) (by simp)).trans ec) (by simpa using hCX)
          have bxc := (kb.cell (lt_of_cell xc) (by simp)).trans xc
          have bxf := (kb.frozen (lt_of_cell xc) (by simp)).trans xf
          have hbx2 := (kb.block X hXwr (by simp)).trans HBX.out
          have hKb : Kp [X] W2 wb := hK.call kb
          have HBX2 := Lib.hid hbx2
          have hK0 := Kp.refl [X] wb
          clear hwb hbb e20 e21 e22 e10 e11 e12 ec xc xf hbx2 kb
          refine wpB_begin 999 (Kp [X] wb) (by kernel_rfl) (by exact (Kp.refl _ _).drew) (fun hHeld => ?_)
          refine wpB_take 0 _ ?_ rfl (by kernel_rfl) (fun _ _ _ h => h) rfl hHeld ?_ ?_
          rotate_left
          · (intro W hW; go_simp; try with_reducible rfl)
          try simp only [Act.put, List.setIfInBounds_toArray, List.set_cons_zero, List.set_cons_succ]
          refine wpB_take 1 _ ?_ rfl (by kernel_rfl) (fun _ _ _ h => h) rfl hHeld ?_ ?_
          rotate_left
          · (intro W hW; go_simp; try with_reducible rfl)
          try simp only [Act.put, List.setIfInBounds_toArray, List.set_cons_zero, List.set_cons_succ]
          refine wpB_take 2 _ ?_ rfl (by kernel_rfl) (fun _ _ _ h => h) rfl hHeld ?_ ?_
          rotate_left
          · (intro W hW; go_simp; try with_reducible rfl)
          try simp only [Act.put, List.setIfInBounds_toArray, List.set_cons_zero, List.set_cons_succ]
          refine wpB_take 3 _ ?_ rfl (by kernel_rfl) (fun _ _ _ h => h) rfl hHeld ?_ ?_
          rotate_left
          · (intro W hW; go_simp; try with_reducible rfl)
          try simp only [Act.put, List.setIfInBounds_toArray, List.set_cons_zero, List.set_cons_succ]
          refine wpB_take 4 _ ?_ rfl (by kernel_rfl) (fun _ _ _ h => h) rfl hHeld ?_ ?_
          rotate_left
          · (intro W hW; go_simp; try with_reducible rfl)
          try simp only [Act.put, List.setIfInBounds_toArray, List.set_cons_zero, List.set_cons_succ]
          refine wpB_take 5 _ ?_ rfl (by kernel_rfl) (fun _ _ _ h => h) rfl hHeld ?_ ?_
          rotate_left
          · (intro W hW; go_simp; try with_reducible rfl)
          try simp only [Act.put, List.setIfInBounds_toArray, List.set_cons_zero, List.set_cons_succ]
          refine wpB_take 6 _ ?_ rfl (by kernel_rfl) (fun _ _ _ h => h) rfl hHeld ?_ ?_
          rotate_left
          · (intro W hW; go_simp; try with_reducible rfl)
          try simp only [Act.put, List.setIfInBounds_toArray, List.set_cons_zero, List.set_cons_succ]
          refine wpB_take 7 _ ?_ rfl (by kernel_rfl) (fun _ _ _ h => h) rfl hHeld ?_ ?_
          rotate_left
          · (intro W hW; go_simp; try with_reducible rfl)
          try simp only [Act.put, List.setIfInBounds_toArray, List.set_cons_zero, List.set_cons_succ]
          refine wpB_take 8 _ ?_ rfl (by kernel_rfl) (fun _ _ _ h => h) rfl hHeld ?_ ?_
          rotate_left
          · (intro W hW; go_simp; try with_reducible rfl)
          try simp only [Act.put, List.setIfInBounds_toArray, List.set_cons_zero, List.set_cons_succ]
          refine wpB_take 9 _ ?_ rfl (by kernel_rfl) (fun _ _ _ h => h) rfl hHeld ?_ ?_
          rotate_left
          · (intro W hW; go_simp; try with_reducible rfl)
          try simp only [Act.put, List.setIfInBounds_toArray, List.set_cons_zero, List.set_cons_succ]
          refine wpB_step 10 _ rfl (by kernel_rfl) rfl rfl (fun K hK_ => ?_)
          go_simp
          refine hK_.out _ _ (by exact hHeld.setCell (.inl (by simp)) _) (fun hHeld => ?_)
          clear hK_ K
          try simp only [Act.put, List.setIfInBounds_toArray, List.set_cons_zero, List.set_cons_succ]
          refine wpB_done (by kernel_rfl) ?_ _
          go_wp2_with fail
          go_roundg g'
          case rel =>
            have hn := HN.out
            refine ⟨n + 1, by omega, by go_num, hKb.drew.setCell (.inl (by simp)) _, ?_⟩
            rw [HST.out, laidOver_snoc]
            exact block_setCell HBX2.out _ _
          case measure => omega
        · subst hpc
          have e20 : wr.cell? ⟨g2, n * 3, none⟩ = some (ptrV X _ 0 7) := (hK.cell (lt_of_cell f20) (by simp; omega)).trans f20
          have e21 : wr.cell? ⟨g2, n * 3 + 1, none⟩ = some (ptrV X _ 1 7) := (hK.cell (lt_of_cell f21) (by simp; omega)).trans f21
          have e22 : wr.cell? ⟨g2, n * 3 + 2, none⟩ = some (ptrV X _ 2 7) := (hK.cell (lt_of_cell f22) (by simp; omega)).trans f22
          have e10 : wr.cell? ⟨g1, n * 3, none⟩ = some (ptrV C _ 0 7) := (hK.cell (lt_of_cell f10) (by simp; omega)).trans f10
          have e11 : wr.cell? ⟨g1, n * 3 + 1, none⟩ = some (ptrV C _ 1 7) := (hK.cell (lt_of_cell f11) (by simp; omega)).trans f11
          have e12 : wr.cell? ⟨g1, n * 3 + 2, none⟩ = some (ptrV C _ 2 7) := (hK.cell (lt_of_cell f12) (by simp; omega)).trans f12
          have ec : wr.cell? ⟨C, 7, none⟩ = some (Value.string text) := cell_of_cells hbC' rfl
          simp only [ptrV] at e20 e21 e22 e10 e11 e12
          obtain ⟨u, hu⟩ : ∃ u, (laidOver #[.int .i64 act, .int .i64 rk, .string rs, .string rv, .int .i64 n', .int .i64 a', .int .i64 b', .string text, .slice ka kn kc, .slice ta tn tc] (ps.take n) #[.int .i64 act, .int .i64 rk, .string rs, .string rv, .int .i64 0, .int .i64 0, .int .i64 0, .string E0, .slice none 0 0, .slice none 0 0])[7]? = some u := ⟨_, Array.getElem?_eq_getElem (by rw [laidOver_size]; exact (by decide : 7 < 10))⟩
          have xc : wr.cell? ⟨X, 7, none⟩ = some u := cell_of_cells HBX.out hu
          have xf : wr.frozen? ⟨X, 7, none⟩ = false := frozen_of_cells HBX.out _
          clear f20 f21 f22 f10 f11 f12 hu
          have hXwr := lt_of_cell xc
          go_wp2_with fail
          obtain ⟨wb, hwb⟩ : ∃ wb, wb = wr.alloc (.cells #[.pointer none, .pointer (some ⟨X, 7, none⟩), .pointer none] 54) := ⟨_, rfl⟩
          have kb : Kp [] wr wb := by rw [hwb]; exact (Kp.refl _ _).alloc _
          have hbb : wb.heap[wr.heap.size]? = some (.cells #[.pointer none, .pointer (some ⟨X, 7, none⟩), .pointer none] 54 (0, 0)) := by rw [hwb]; exact block_new _ _
          rw [← hwb]
          have hXn : wr.heap.size ≠ X := by omega
          have bx0 := boxAt hbb (X := [X]) (by simpa using hXn) 0 _ rfl
          have bx1 := boxAt hbb (X := [X]) (by simpa using hXn) 1 _ rfl
          have bx2 := boxAt hbb (X := [X]) (by simpa using hXn) 2 _ rfl
          have bg1 := Kp.cellAt (X := [X]) (w0 := wb) ((kb.cell (lt_of_cell e11) (by simp)).trans e11) (by simp; omega)
          have bc := Kp.cellAt (X := [X]) (w0 := wb) ((kb.cell (lt_of_cell ec) (by simp)).trans ec) (by simpa using hCX)
          have bxc := (kb.cell (lt_of_cell xc) (by simp)).trans xc
          have bxf := (kb.frozen (lt_of_cell xc) (by simp)).trans xf
          have hbx2 := (kb.block X hXwr (by simp)).trans HBX.out
          have hKb : Kp [X] W2 wb := hK.call kb
          have HBX2 := Lib.hid hbx2
          have hK0 := Kp.refl [X] wb
          clear hwb hbb e20 e21 e22 e10 e11 e12 ec xc xf hbx2 kb
          refine wpB_begin 999 (Kp [X] wb) (by kernel_rfl) (by exact (Kp.refl _ _).drew) (fun hHeld => ?_)
          refine wpB_take 0 _ ?_ rfl (by kernel_rfl) (fun _ _ _ h => h) rfl hHeld ?_ ?_
          rotate_left
          · (intro W hW; go_simp; try with_reducible rfl)
          try simp only [Act.put, List.setIfInBounds_toArray, List.set_cons_zero, List.set_cons_succ]
          refine wpB_take 1 _ ?_ rfl (by kernel_rfl) (fun _ _ _ h => h) rfl hHeld ?_ ?_
          rotate_left
          · (intro W hW; go_simp; try with_reducible rfl)
          try simp only [Act.put, List.setIfInBounds_toArray, List.set_cons_zero, List.set_cons_succ]
          refine wpB_take 2 _ ?_ rfl (by kernel_rfl) (fun _ _ _ h => h) rfl hHeld ?_ ?_
          rotate_left
          · (intro W hW; go_simp; try with_reducible rfl)
          try simp only [Act.put, List.setIfInBounds_toArray, List.set_cons_zero, List.set_cons_succ]
          refine wpB_take 3 _ ?_ rfl (by kernel_rfl) (fun _ _ _ h => h) rfl hHeld ?_ ?_
          rotate_left
          · (intro W hW; go_simp; try with_reducible rfl)
          try simp only [Act.put, List.setIfInBounds_toArray, List.set_cons_zero, List.set_cons_succ]
          refine wpB_take 4 _ ?_ rfl (by kernel_rfl) (fun _ _ _ h => h) rfl hHeld ?_ ?_
          rotate_left
          · (intro W hW; go_simp; try with_reducible rfl)
          try simp only [Act.put, List.setIfInBounds_toArray, List.set_cons_zero, List.set_cons_succ]
          refine wpB_take 5 _ ?_ rfl (by kernel_rfl) (fun _ _ _ h => h) rfl hHeld ?_ ?_
          rotate_left
          · (intro W hW; go_simp; try with_reducible rfl)
          try simp only [Act.put, List.setIfInBounds_toArray, List.set_cons_zero, List.set_cons_succ]
          refine wpB_take 6 _ ?_ rfl (by kernel_rfl) (fun _ _ _ h => h) rfl hHeld ?_ ?_
          rotate_left
          · (intro W hW; go_simp; try with_reducible rfl)
          try simp only [Act.put, List.setIfInBounds_toArray, List.set_cons_zero, List.set_cons_succ]
          refine wpB_take 7 _ ?_ rfl (by kernel_rfl) (fun _ _ _ h => h) rfl hHeld ?_ ?_
          rotate_left
          · (intro W hW; go_simp; try with_reducible rfl)
          try simp only [Act.put, List.setIfInBounds_toArray, List.set_cons_zero, List.set_cons_succ]
          refine wpB_take 8 _ ?_ rfl (by kernel_rfl) (fun _ _ _ h => h) rfl hHeld ?_ ?_
          rotate_left
          · (intro W hW; go_simp; try with_reducible rfl)
          try simp only [Act.put, List.setIfInBounds_toArray, List.set_cons_zero, List.set_cons_succ]
          refine wpB_take 9 _ ?_ rfl (by kernel_rfl) (fun _ _ _ h => h) rfl hHeld ?_ ?_
          rotate_left
          · (intro W hW; go_simp; try with_reducible rfl)
          try simp only [Act.put, List.setIfInBounds_toArray, List.set_cons_zero, List.set_cons_succ]
          refine wpB_step 10 _ rfl (by kernel_rfl) rfl rfl (fun K hK_ => ?_)
          go_simp
          refine hK_.out _ _ (by exact hHeld.setCell (.inl (by simp)) _) (fun hHeld => ?_)
          clear hK_ K
          try simp only [Act.put, List.setIfInBounds_toArray, List.set_cons_zero, List.set_cons_succ]
          refine wpB_done (by kernel_rfl) ?_ _
          go_wp2_with fail
          go_roundg g'
          case rel =>
            have hn := HN.out
            refine ⟨n + 1, by omega, by go_num, hKb.drew.setCell (.inl (by simp)) _, ?_⟩
            rw [HST.out, laidOver_snoc]
            exact block_setCell HBX2.out _ _
          case measure => omega
        · subst hpc
          have e20 : wr.cell? ⟨g2, n * 3, none⟩ = some (ptrV X _ 0 8) := (hK.cell (lt_of_cell f20) (by simp; omega)).trans f20
          have e21 : wr.cell? ⟨g2, n * 3 + 1, none⟩ = some (ptrV X _ 1 8) := (hK.cell (lt_of_cell f21) (by simp; omega)).trans f21
          have e22 : wr.cell? ⟨g2, n * 3 + 2, none⟩ = some (ptrV X _ 2 8) := (hK.cell (lt_of_cell f22) (by simp; omega)).trans f22
          have e10 : wr.cell? ⟨g1, n * 3, none⟩ = some (ptrV C _ 0 8) := (hK.cell (lt_of_cell f10) (by simp; omega)).trans f10
          have e11 : wr.cell? ⟨g1, n * 3 + 1, none⟩ = some (ptrV C _ 1 8) := (hK.cell (lt_of_cell f11) (by simp; omega)).trans f11
          have e12 : wr.cell? ⟨g1, n * 3 + 2, none⟩ = some (ptrV C _ 2 8) := (hK.cell (lt_of_cell f12) (by simp; omega)).trans f12
          have ec : wr.cell? ⟨C, 8, none⟩ = some (Value.slice ka kn kc) := cell_of_cells hbC' rfl
          simp only [ptrV] at e20 e21 e22 e10 e11 e12
          obtain ⟨u, hu⟩ : ∃ u, (laidOver #[.int .i64 act, .int .i64 rk, .string rs, .string rv, .int .i64 n', .int .i64 a', .int .i64 b', .string text, .slice ka kn kc, .slice ta tn tc] (ps.take n) #[.int .i64 act, .int .i64 rk, .string rs, .string rv, .int .i64 0, .int .i64 0, .int .i64 0, .string E0, .slice none 0 0, .slice none 0 0])[8]? = some u := ⟨_, Array.getElem?_eq_getElem (by rw [laidOver_size]; exact (by decide : 8 < 10))⟩
          have xc : wr.cell? ⟨X, 8, none⟩ = some u := cell_of_cells HBX.out hu
          have xf : wr.frozen? ⟨X, 8, none⟩ = false := frozen_of_cells HBX.out _
          clear f20 f21 f22 f10 f11 f12 hu
          have hXwr := lt_of_cell xc
          go_wp2_with fail
          obtain ⟨wb, hwb⟩ : ∃ wb, wb = wr.alloc (.cells #[.pointer none, .pointer none, .pointer (some ⟨X, 8, none⟩)] 54) := ⟨_, rfl⟩
          have kb : Kp [] wr wb := by rw [hwb]; exact (Kp.refl _ _).alloc _
          have hbb : wb.heap[wr.heap.size]? = some (.cells #[.pointer none, .pointer none, .pointer (some ⟨X, 8, none⟩)] 54 (0, 0)) := by rw [hwb]; exact block_new _ _
          rw [← hwb]
          have hXn : wr.heap.size ≠ X := by omega
          have bx0 := boxAt hbb (X := [X]) (by simpa using hXn) 0 _ rfl
          have bx1 := boxAt hbb (X := [X]) (by simpa using hXn) 1 _ rfl
          have bx2 := boxAt hbb (X := [X]) (by simpa using hXn) 2 _ rfl
          have bg1 := Kp.cellAt (X := [X]) (w0 := wb) ((kb.cell (lt_of_cell e12) (by simp)).trans e12) (by simp; omega)
          have bc := Kp.cellAt (X := [X]) (w0 := wb) ((kb.cell (lt_of_cell ec) (by simp)).trans ec) (by simpa using hCX)
          have bxc := (kb.cell (lt_of_cell xc) (by simp)).trans xc
          have bxf := (kb.frozen (lt_of_cell xc) (by simp)).trans xf
          have hbx2 := (kb.block X hXwr (by simp)).trans HBX.out
          have hKb : Kp [X] W2 wb := hK.call kb
          have HBX2 := Lib.hid hbx2
          have hK0 := Kp.refl [X] wb
          clear hwb hbb e20 e21 e22 e10 e11 e12 ec xc xf hbx2 kb
          refine wpB_begin 999 (Kp [X] wb) (by kernel_rfl) (by exact (Kp.refl _ _).drew) (fun hHeld => ?_)
          refine wpB_take 0 _ ?_ rfl (by kernel_rfl) (fun _ _ _ h => h) rfl hHeld ?_ ?_
          rotate_left
          · (intro W hW; go_simp; try with_reducible rfl)
          try simp only [Act.put, List.setIfInBounds_toArray, List.set_cons_zero, List.set_cons_succ]
          refine wpB_take 1 _ ?_ rfl (by kernel_rfl) (fun _ _ _ h => h) rfl hHeld ?_ ?_
          rotate_left
          · (intro W hW; go_simp; try with_reducible rfl)
          try simp only [Act.put, List.setIfInBounds_toArray, List.set_cons_zero, List.set_cons_succ]
          refine wpB_take 2 _ ?_ rfl (by kernel_rfl) (fun _ _ _ h => h) rfl hHeld ?_ ?_
          rotate_left
          · (intro W hW; go_simp; try with_reducible rfl)
          try simp only [Act.put, List.setIfInBounds_toArray, List.set_cons_zero, List.set_cons_succ]
          refine wpB_take 3 _ ?_ rfl (by kernel_rfl) (fun _ _ _ h => h) rfl hHeld ?_ ?_
          rotate_left
          · (intro W hW; go_simp; try with_reducible rfl)
          try simp only [Act.put, List.setIfInBounds_toArray, List.set_cons_zero, List.set_cons_succ]
          refine wpB_take 4 _ ?_ rfl (by kernel_rfl) (fun _ _ _ h => h) rfl hHeld ?_ ?_
          rotate_left
          · (intro W hW; go_simp; try with_reducible rfl)
          try simp only [Act.put, List.setIfInBounds_toArray, List.set_cons_zero, List.set_cons_succ]
          refine wpB_take 5 _ ?_ rfl (by kernel_rfl) (fun _ _ _ h => h) rfl hHeld ?_ ?_
          rotate_left
          · (intro W hW; go_simp; try with_reducible rfl)
          try simp only [Act.put, List.setIfInBounds_toArray, List.set_cons_zero, List.set_cons_succ]
          refine wpB_take 6 _ ?_ rfl (by kernel_rfl) (fun _ _ _ h => h) rfl hHeld ?_ ?_
          rotate_left
          · (intro W hW; go_simp; try with_reducible rfl)
          try simp only [Act.put, List.setIfInBounds_toArray, List.set_cons_zero, List.set_cons_succ]
          refine wpB_take 7 _ ?_ rfl (by kernel_rfl) (fun _ _ _ h => h) rfl hHeld ?_ ?_
          rotate_left
          · (intro W hW; go_simp; try with_reducible rfl)
          try simp only [Act.put, List.setIfInBounds_toArray, List.set_cons_zero, List.set_cons_succ]
          refine wpB_take 8 _ ?_ rfl (by kernel_rfl) (fun _ _ _ h => h) rfl hHeld ?_ ?_
          rotate_left
          · (intro W hW; go_simp; try with_reducible rfl)
          try simp only [Act.put, List.setIfInBounds_toArray, List.set_cons_zero, List.set_cons_succ]
          refine wpB_take 9 _ ?_ rfl (by kernel_rfl) (fun _ _ _ h => h) rfl hHeld ?_ ?_
          rotate_left
          · (intro W hW; go_simp; try with_reducible rfl)
          try simp only [Act.put, List.setIfInBounds_toArray, List.set_cons_zero, List.set_cons_succ]
          refine wpB_step 10 _ rfl (by kernel_rfl) rfl rfl (fun K hK_ => ?_)
          go_simp
          refine hK_.out _ _ (by exact hHeld.setCell (.inl (by simp)) _) (fun hHeld => ?_)
          clear hK_ K
          try simp only [Act.put, List.setIfInBounds_toArray, List.set_cons_zero, List.set_cons_succ]
          refine wpB_done (by kernel_rfl) ?_ _
          go_wp2_with fail
          go_roundg g'
          case rel =>
            have hn := HN.out
            refine ⟨n + 1, by omega, by go_num, hKb.drew.setCell (.inl (by simp)) _, ?_⟩
            rw [HST.out, laidOver_snoc]
            exact block_setCell HBX2.out _ _
          case measure => omega
        · subst hpc
          have e20 : wr.cell? ⟨g2, n * 3, none⟩ = some (ptrV X _ 0 9) := (hK.cell (lt_of_cell f20) (by simp; omega)).trans f20
          have e21 : wr.cell? ⟨g2, n * 3 + 1, none⟩ = some (ptrV X _ 1 9) := (hK.cell (lt_of_cell f21) (by simp; omega)).trans f21
          have e22 : wr.cell? ⟨g2, n * 3 + 2, none⟩ = some (ptrV X _ 2 9) := (hK.cell (lt_of_cell f22) (by simp; omega)).trans f22
          have e10 : wr.cell? ⟨g1, n * 3, none⟩ = some (ptrV C _ 0 9) := (hK.cell (lt_of_cell f10) (by simp; omega)).trans f10
          have e11 : wr.cell? ⟨g1, n * 3 + 1, none⟩ = some (ptrV C _ 1 9) := (hK.cell (lt_of_cell f11) (by simp; omega)).trans f11
          have e12 : wr.cell? ⟨g1, n * 3 + 2, none⟩ = some (ptrV C _ 2 9) := (hK.cell (lt_of_cell f12) (by simp; omega)).trans f12
          have ec : wr.cell? ⟨C, 9, none⟩ = some (Value.slice ta tn tc) := cell_of_cells hbC' rfl
          simp only [ptrV] at e20 e21 e22 e10 e11 e12
          obtain ⟨u, hu⟩ : ∃ u, (laidOver #[.int .i64 act, .int .i64 rk, .string rs, .string rv, .int .i64 n', .int .i64 a', .int .i64 b', .string text, .slice ka kn kc, .slice ta tn tc] (ps.take n) #[.int .i64 act, .int .i64 rk, .string rs, .string rv, .int .i64 0, .int .i64 0, .int .i64 0, .string E0, .slice none 0 0, .slice none 0 0])[9]? = some u := ⟨_, Array.getElem?_eq_getElem (by rw [laidOver_size]; exact (by decide : 9 < 10))⟩
          have xc : wr.cell? ⟨X, 9, none⟩ = some u := cell_of_cells HBX.out hu
          have xf : wr.frozen? ⟨X, 9, none⟩ = false := frozen_of_cells HBX.out _
          clear f20 f21 f22 f10 f11 f12 hu
          have hXwr := lt_of_cell xc
          go_wp2_with fail
          obtain ⟨wb, hwb⟩ : ∃ wb, wb = wr.alloc (.cells #[.pointer none, .pointer none, .pointer (some ⟨X, 9, none⟩)] 54) := ⟨_, rfl⟩
          have kb : Kp [] wr wb := by rw [hwb]; exact (Kp.refl _ _).alloc _
          have hbb : wb.heap[wr.heap.size]? = some (.cells #[.pointer none, .pointer none, .pointer (some ⟨X, 9, none⟩)] 54 (0, 0)) := by rw [hwb]; exact block_new _ _
          rw [← hwb]
          have hXn : wr.heap.size ≠ X := by omega
          have bx0 := boxAt hbb (X := [X]) (by simpa using hXn) 0 _ rfl
          have bx1 := boxAt hbb (X := [X]) (by simpa using hXn) 1 _ rfl
          have bx2 := boxAt hbb (X := [X]) (by simpa using hXn) 2 _ rfl
          have bg1 := Kp.cellAt (X := [X]) (w0 := wb) ((kb.cell (lt_of_cell e12) (by simp)).trans e12) (by simp; omega)
          have bc := Kp.cellAt (X := [X]) (w0 := wb) ((kb.cell (lt_of_cell ec) (by simp)).trans ec) (by simpa using hCX)
          have bxc := (kb.cell (lt_of_cell xc) (by simp)).trans xc
          have bxf := (kb.frozen (lt_of_cell xc) (by simp)).trans xf
          have hbx2 := (kb.block X hXwr (by simp)).trans HBX.out
          have hKb : Kp [X] W2 wb := hK.call kb
          have HBX2 := Lib.hid hbx2
          have hK0 := Kp.refl [X] wb
          clear hwb hbb e20 e21 e22 e10 e11 e12 ec xc xf hbx2 kb
          refine wpB_begin 999 (Kp [X] wb) (by kernel_rfl) (by exact (Kp.refl _ _).drew) (fun hHeld => ?_)
          refine wpB_take 0 _ ?_ rfl (by kernel_rfl) (fun _ _ _ h => h) rfl hHeld ?_ ?_
          rotate_left
          · (intro W hW; go_simp; try with_reducible rfl)
          try simp only [Act.put, List.setIfInBounds_toArray, List.set_cons_zero, List.set_cons_succ]
          refine wpB_take 1 _ ?_ rfl (by kernel_rfl) (fun _ _ _ h => h) rfl hHeld ?_ ?_
          rotate_left
          · (intro W hW; go_simp; try with_reducible rfl)
          try simp only [Act.put, List.setIfInBounds_toArray, List.set_cons_zero, List.set_cons_succ]
          refine wpB_take 2 _ ?_ rfl (by kernel_rfl) (fun _ _ _ h => h) rfl hHeld ?_ ?_
          rotate_left
          · (intro W hW; go_simp; try with_reducible rfl)
          try simp only [Act.put, List.setIfInBounds_toArray, List.set_cons_zero, List.set_cons_succ]
          refine wpB_take 3 _ ?_ rfl (by kernel_rfl) (fun _ _ _ h => h) rfl hHeld ?_ ?_
          rotate_left
          · (intro W hW; go_simp; try with_reducible rfl)
          try simp only [Act.put, List.setIfInBounds_toArray, List.set_cons_zero, List.set_cons_succ]
          refine wpB_take 4 _ ?_ rfl (by kernel_rfl) (fun _ _ _ h => h) rfl hHeld ?_ ?_
          rotate_left
          · (intro W hW; go_simp; try with_reducible rfl)
          try simp only [Act.put, List.setIfInBounds_toArray, List.set_cons_zero, List.set_cons_succ]
          refine wpB_take 5 _ ?_ rfl (by kernel_rfl) (fun _ _ _ h => h) rfl hHeld ?_ ?_
          rotate_left
          · (intro W hW; go_simp; try with_reducible rfl)
          try simp only [Act.put, List.setIfInBounds_toArray, List.set_cons_zero, List.set_cons_succ]
          refine wpB_take 6 _ ?_ rfl (by kernel_rfl) (fun _ _ _ h => h) rfl hHeld ?_ ?_
          rotate_left
          · (intro W hW; go_simp; try with_reducible rfl)
          try simp only [Act.put, List.setIfInBounds_toArray, List.set_cons_zero, List.set_cons_succ]
          refine wpB_take 7 _ ?_ rfl (by kernel_rfl) (fun _ _ _ h => h) rfl hHeld ?_ ?_
          rotate_left
          · (intro W hW; go_simp; try with_reducible rfl)
          try simp only [Act.put, List.setIfInBounds_toArray, List.set_cons_zero, List.set_cons_succ]
          refine wpB_take 8 _ ?_ rfl (by kernel_rfl) (fun _ _ _ h => h) rfl hHeld ?_ ?_
          rotate_left
          · (intro W hW; go_simp; try with_reducible rfl)
          try simp only [Act.put, List.setIfInBounds_toArray, List.set_cons_zero, List.set_cons_succ]
          refine wpB_take 9 _ ?_ rfl (by kernel_rfl) (fun _ _ _ h => h) rfl hHeld ?_ ?_
          rotate_left
          · (intro W hW; go_simp; try with_reducible rfl)
          try simp only [Act.put, List.setIfInBounds_toArray, List.set_cons_zero, List.set_cons_succ]
          refine wpB_step 10 _ rfl (by kernel_rfl) rfl rfl (fun K hK_ => ?_)
          go_simp
          refine hK_.out _ _ (by exact hHeld.setCell (.inl (by simp)) _) (fun hHeld => ?_)
          clear hK_ K
          try simp only [Act.put, List.setIfInBounds_toArray, List.set_cons_zero, List.set_cons_succ]
          refine wpB_done (by kernel_rfl) ?_ _
          go_wp2_with fail
          go_roundg g'
          case rel =>
            have hn := HN.out
            refine ⟨n + 1, by omega, by go_num, hKb.drew.setCell (.inl (by simp)) _, ?_⟩
            rw [HST.out, laidOver_snoc]
            exact block_setCell HBX2.out _ _
          case measure => omega
      · obtain rfl : n = ps.length := by omega
        obtain rfl : gk = 0 := by omega
        rw [List.take_length] at hbx
        rw [HFIN.out] at hbx
        clear hn
        have hbr := (hK.block R (lt_of_block HBR.out) (by simp; omega)).trans HBR.out
        obtain ⟨⟨x0, x1, x2, x3, x4, x5, x6, x7, x8, x9⟩, -⟩ := read10 hbx
        obtain ⟨⟨r0, r1, r2, r3, r4, r5, r6, r7, r8, r9⟩, rf⟩ := read10 hbr
        have HB := Lib.hid hbr
        clear hbr hbx hbC'
        go_wp2_with fail
        have hz := put10 HB.out (.int .i64 o0) (.int .i64 o1) (.string o2) (.string o3) (.int .i64 o4) (.int .i64 o5) (.int .i64 o6) (.string o7) (.slice pa pn pc) (.slice qa qn qc)
        have hkz := (hkW.step hK (fun i hi hm => by simp only [List.mem_singleton] at hm; have := HX.out; omega)).put10 (R := R) (.inr (by have := HRR.out; omega)) (.int .i64 o0) (.int .i64 o1) (.string o2) (.string o3) (.int .i64 o4) (.int .i64 o5) (.int .i64 o6) (.string o7) (.slice pa pn pc) (.slice qa qn qc)
        obtain ⟨Z, hZ⟩ : ∃ Z, Z = ((((((((((wr.setCell ⟨R, 0, none⟩ (.int .i64 o0)).setCell ⟨R, 1, none⟩ (.int .i64 o1)).setCell ⟨R, 2, none⟩ (.string o2)).setCell ⟨R, 3, none⟩ (.string o3)).setCell ⟨R, 4, none⟩ (.int .i64 o4)).setCell ⟨R, 5, none⟩ (.int .i64 o5)).setCell ⟨R, 6, none⟩ (.int .i64 o6)).setCell ⟨R, 7, none⟩ (.string o7)).setCell ⟨R, 8, none⟩ (.slice pa pn pc)).setCell ⟨R, 9, none⟩ (.slice qa qn qc)) := ⟨_, rfl⟩
        rw [← hZ] at hz hkz ⊢
        obtain ⟨⟨z0, z1, z2, z3, z4, z5, z6, z7, z8, z9⟩, -⟩ := read10 hz
        refine bodyPost_ret (by simp [results, Tryz.results26, go_sem, z0, z1, z2, z3, z4, z5, z6, z7, z8, z9]; try rfl) rfl ?_
        exact ⟨rfl, hkz⟩
  · have hab := int_ne ha
    rw [if_neg ha] at HW0 hbX HFIN
    clear ha
    go_enter Tryz.func26, Tryz.ntmps26
    go_wp2_with fail
    obtain ⟨X, hX⟩ : ∃ X, X = w.heap.size + 1 + 1 := ⟨_, rfl⟩
    obtain ⟨R, hR⟩ : ∃ R, R = w.heap.size + 1 := ⟨_, rfl⟩
    rw [← HW0.out, ← hX, ← hR, ← HC.out]
    have hX0 : C + 2 = X := by rw [hX, HC.out]
    have hR0 : C + 1 = R := by rw [hR, HC.out]
    rw [hX0] at hbX
    rw [hR0] at hbR
    have hCX : C ≠ X := by omega
    have hXC : X ≠ C := by omega
    have hRX : R ≠ X := by omega
    have hXlt := lt_of_block hbX
    have hCXl : C < X := by omega
    have HX := Lib.hid hX
    have HRR := Lib.hid hR
    clear hX hR hX0 hR0
    refine (parts_any act C W0 (cell_of_cells hbC rfl)).mono ?_
    rintro e W1 ⟨v1, rfl, hp1, k1⟩
    go_wp2_with fail
    have hbX1 := Kp.blockAt (X := []) hbX (by simp) _ k1
    have hcX1 : W1.cell? ⟨X, 0, none⟩ = some (.int .i64 act) := cell_of_cells hbX1 rfl
    clear hbX1
    refine (parts_any act X W1 hcX1).mono ?_
    rintro e W2 ⟨v2, rfl, hp2, k2⟩
    have k02 := k1.trans k2
    have hbX2 := Kp.blockAt (X := []) hbX (by simp) _ k02
    have hbC2 := Kp.blockAt (X := []) hbC (by simp) _ k02
    have hbR2 := Kp.blockAt (X := []) hbR (by simp) _ k02
    have hkW := kW0.trans k02
    obtain ⟨a2, rfl, -⟩ := id hp2
    obtain ⟨a1, rfl, -⟩ := id hp1
    obtain ⟨ps, hps⟩ : ∃ ps, ps = partsK act := ⟨_, rfl⟩
    rw [← hps] at hp1 hp2 HFIN ⊢
    have hps3 : ps.length ≤ 3 := by rw [hps]; exact parts_le act
    have hk1s := k1.size
    have HPS := Lib.hid hps
    have HBX := Lib.hid hbX2
    have HBC := Lib.hid hbC2
    have HBR := Lib.hid hbR2
    clear hps hbX hbC hbR hbX2 hbC2 hbR2
    go_wp2_with fail
    go_loopg [29] ps.length (fun g i wr => ∃ n : Nat, n + g = ps.length ∧ i = .int .i64 n ∧ Kp [X] W2 wr ∧ wr.heap[X]? = some (.cells (laidOver #[.int .i64 act, .int .i64 rk, .string rs, .string rv, .int .i64 n', .int .i64 a', .int .i64 b', .string text, .slice ka kn kc, .slice ta tn tc] (ps.take n) #[.int .i64 act, .int .i64 0, .string E0, .string E0, .int .i64 0, .int .i64 0, .int .i64 0, .string E0, .slice none 0 0, .slice none 0 0]) 32 (0, 0)))
    case atStart => exact ⟨0, by omega, rfl, Kp.refl _ _, HBX.out⟩
    case round =>
      obtain ⟨n, hn, rfl, hK, hbx⟩ := hrel
      have HN := Lib.hid hn
      have HBX := Lib.hid hbx
      have hbC' := (hK.block C (lt_of_block HBC.out) (by simp; omega)).trans HBC.out
      by_cases hlt : n < ps.length
      · obtain ⟨g', rfl⟩ : ∃ g', gk = g' + 1 := ⟨gk - 1, by omega⟩
        clear hn hbx
        have hltI : (n : Int) < (ps.length : Int) := by omega
        obtain ⟨p, hp⟩ : ∃ p, p = ps[n] := ⟨_, rfl⟩
        have hpn : ps[n]? = some p := by rw [List.getElem?_eq_getElem hlt, hp]
        have hmem : p ∈ partsK act := by rw [← HPS.out, hp]; exact List.getElem_mem hlt
        have hst : ps.take (n + 1) = ps.take n ++ [p] := by rw [List.take_add_one, hpn]; rfl
        obtain ⟨g1, hv1, hB1, hg1, q10, q11, q12⟩ := part_at hp1 n p hpn
        obtain ⟨g2, hv2, hB2, hg2, f20, f21, f22⟩ := part_at hp2 n p hpn
        simp only [Value.slice.injEq] at hv1 hv2
        obtain ⟨rfl, -, -⟩ := hv1
        obtain ⟨rfl, -, -⟩ := hv2
        have f10 := (k2.cell (lt_of_cell q10) (by simp)).trans q10
        have f11 := (k2.cell (lt_of_cell q11) (by simp)).trans q11
        have f12 := (k2.cell (lt_of_cell q12) (by simp)).trans q12
        have HST := Lib.hid hst
        clear hst hp hpn q10 q11 q12
        rcases part_cases hmem with hpc | hpc | hpc | hpc | hpc | hpc
        · subst hpc
          have e20 : wr.cell? ⟨g2, n * 3, none⟩ = some (ptrV X _ 0 4) := (hK.cell (lt_of_cell f20) (by simp; omega)).trans f20
          have e21 : wr.cell? ⟨g2, n * 3 + 1, none⟩ = some (ptrV X _ 1 4) := (hK.cell (lt_of_cell f21) (by simp; omega)).trans f21
          have e22 : wr.cell? ⟨g2, n * 3 + 2, none⟩ = some (ptrV X _ 2 4) := (hK.cell (lt_of_cell f22) (by simp; omega)).trans f22
          have e10 : wr.cell? ⟨g1, n * 3, none⟩ = some (ptrV C _ 0 4) := (hK.cell (lt_of_cell f10) (by simp; omega)).trans f10
          have e11 : wr.cell? ⟨g1, n * 3 + 1, none⟩ = some (ptrV C _ 1 4) := (hK.cell (lt_of_cell f11) (by simp; omega)).trans f11
          have e12 : wr.cell? ⟨g1, n * 3 + 2, none⟩ = some (ptrV C _ 2 4) := (hK.cell (lt_of_cell f12) (by simp; omega)).trans f12
          have ec : wr.cell? ⟨C, 4, none⟩ = some (Value.int IntKind.i64 n') := cell_of_cells hbC' rfl
          simp only [ptrV] at e20 e21 e22 e10 e11 e12
          obtain ⟨u, hu⟩ : ∃ u, (laidOver #[.int .i64 act, .int .i64 rk, .string rs, .string rv, .int .i64 n', .int .i64 a', .int .i64 b', .string text, .slice ka kn kc, .slice ta tn tc] (ps.take n) #[.int .i64 act, .int .i64 0, .string E0, .string E0, .int .i64 0, .int .i64 0, .int .i64 0, .string E0, .slice none 0 0, .slice none 0 0])[4]? = some u := ⟨_, Array.getElem?_eq_getElem (by rw [laidOver_size]; exact (by decide : 4 < 10))⟩
          have xc : wr.cell? ⟨X, 4, none⟩ = some u := cell_of_cells HBX.out hu
          have xf : wr.frozen? ⟨X, 4, none⟩ = false := frozen_of_cells HBX.out _
          clear f20 f21 f22 f10 f11 f12 hu
          have hXwr := lt_of_cell xc
          go_wp2_with fail
          obtain ⟨wb, hwb⟩ : ∃ wb, wb = wr.alloc (.cells #[.pointer (some ⟨X, 4, none⟩), .pointer none, .pointer none] 54) := ⟨_, rfl⟩
          have kb : Kp [] wr wb := by rw [hwb]; exact (Kp.refl _ _).alloc _
          have hbb : wb.heap[wr.heap.size]? = some (.cells #[.pointer (some ⟨X, 4, none⟩), .pointer none, .pointer none] 54 (0, 0)) := by rw [hwb]; exact block_new _ _
          rw [← hwb]
          have hXn : wr.heap.size ≠ X := by omega
          have bx0 := boxAt hbb (X := [X]) (by simpa using hXn) 0 _ rfl
          have bx1 := boxAt hbb (X := [X]) (by simpa using hXn) 1 _ rfl
          have bx2 := boxAt hbb (X := [X]) (by simpa using hXn) 2 _ rfl
          have bg1 := Kp.cellAt (X := [X]) (w0 := wb) ((kb.cell (lt_of_cell e10) (by simp)).trans e10) (by simp; omega)
          have bc := Kp.cellAt (X := [X]) (w0 := wb) ((kb.cell (lt_of_cell ec) (by simp)).trans ec) (by simpa using hCX)
          have bxc := (kb.cell (lt_of_cell xc) (by simp)).trans xc
          have bxf := (kb.frozen (lt_of_cell xc) (by simp)).trans xf
          have hbx2 := (kb.block X hXwr (by simp)).trans HBX.out
          have hKb : Kp [X] W2 wb := hK.call kb
          have HBX2 := Lib.hid hbx2
          have hK0 := Kp.refl [X] wb
          clear hwb hbb e20 e21 e22 e10 e11 e12 ec xc xf hbx2 kb
          refine wpB_begin 999 (Kp [X] wb) (by kernel_rfl) (by exact (Kp.refl _ _).drew) (fun hHeld => ?_)
          refine wpB_take 0 _ ?_ rfl (by kernel_rfl) (fun _ _ _ h => h) rfl hHeld ?_ ?_
          rotate_left
          · (intro W hW; go_simp; try with_reducible rfl)
          try simp only [Act.put, List.setIfInBounds_toArray, List.set_cons_zero, List.set_cons_succ]
          refine wpB_take 1 _ ?_ rfl (by kernel_rfl) (fun _ _ _ h => h) rfl hHeld ?_ ?_
          rotate_left
          · (intro W hW; go_simp; try with_reducible rfl)
          try simp only [Act.put, List.setIfInBounds_toArray, List.set_cons_zero, List.set_cons_succ]
          refine wpB_take 2 _ ?_ rfl (by kernel_rfl) (fun _ _ _ h => h) rfl hHeld ?_ ?_
          rotate_left
          · (intro W hW; go_simp; try with_reducible rfl)
          try simp only [Act.put, List.setIfInBounds_toArray, List.set_cons_zero, List.set_cons_succ]
          refine wpB_take 3 _ ?_ rfl (by kernel_rfl) (fun _ _ _ h => h) rfl hHeld ?_ ?_
          rotate_left
          · (intro W hW; go_simp; try with_reducible rfl)
          try simp only [Act.put, List.setIfInBounds_toArray, List.set_cons_zero, List.set_cons_succ]
          refine wpB_take 4 _ ?_ rfl (by kernel_rfl) (fun _ _ _ h => h) rfl hHeld ?_ ?_
          rotate_left
          · (intro W hW; go_simp; try with_reducible rfl)
          try simp only [Act.put, List.setIfInBounds_toArray, List.set_cons_zero, List.set_cons_succ]
          refine wpB_take 5 _ ?_ rfl (by kernel_rfl) (fun _ _ _ h => h) rfl hHeld ?_ ?_
          rotate_left
          · (intro W hW; go_simp; try with_reducible rfl)
          try simp only [Act.put, List.setIfInBounds_toArray, List.set_cons_zero, List.set_cons_succ]
          refine wpB_take 6 _ ?_ rfl (by kernel_rfl) (fun _ _ _ h => h) rfl hHeld ?_ ?_
          rotate_left
          · (intro W hW; go_simp; try with_reducible rfl)
          try simp only [Act.put, List.setIfInBounds_toArray, List.set_cons_zero, List.set_cons_succ]
          refine wpB_take 7 _ ?_ rfl (by kernel_rfl) (fun _ _ _ h => h) rfl hHeld ?_ ?_
          rotate_left
          · (intro W hW; go_simp; try with_reducible rfl)
          try simp only [Act.put, List.setIfInBounds_toArray, List.set_cons_zero, List.set_cons_succ]
          refine wpB_take 8 _ ?_ rfl (by kernel_rfl) (fun _ _ _ h => h) rfl hHeld ?_ ?_
          rotate_left
          · (intro W hW; go_simp; try with_reducible rfl)
          try simp only [Act.put, List.setIfInBounds_toArray, List.set_cons_zero, List.set_cons_succ]
          refine wpB_take 9 _ ?_ rfl (by kernel_rfl) (fun _ _ _ h => h) rfl hHeld ?_ ?_
          rotate_left
          · (intro W hW; go_simp; try with_reducible rfl)
          try simp only [Act.put, List.setIfInBounds_toArray, List.set_cons_zero, List.set_cons_succ]
          refine wpB_step 10 _ rfl (by kernel_rfl) rfl rfl (fun K hK_ => ?_)
          go_simp
          refine hK_.out _ _ (by exact hHeld.setCell (.inl (by simp)) _) (fun hHeld => ?_)
          clear hK_ K
          try simp only [Act.put, List.setIfInBounds_toArray, List.set_cons_zero, List.set_cons_succ]
          refine wpB_done (by kernel_rfl) ?_ _
          go_wp2_with fail
          go_roundg g'
          case rel =>
            have hn := HN.out
            refine ⟨n + 1, by omega, by go_num, hKb.drew.setCell (.inl (by simp)) _, ?_⟩
            rw [HST.out, laidOver_snoc]
            exact block_setCell HBX2.out _ _
          case measure => omega
        · subst hpc
          have e20 : wr.cell? ⟨g2, n * 3, none⟩ = some (ptrV X _ 0 5) := (hK.cell (lt_of_cell f20) (by simp; omega)).trans f20
          have e21 : wr.cell? ⟨g2, n * 3 + 1, none⟩ = some (ptrV X _ 1 5) := (hK.cell (lt_of_cell f21) (by simp; omega)).trans f21
          have e22 : wr.cell? ⟨g2, n * 3 + 2, none⟩ = some (ptrV X _ 2 5) := (hK.cell (lt_of_cell f22) (by simp; omega)).trans f22
          have e10 : wr.cell? ⟨g1, n * 3, none⟩ = some (ptrV C _ 0 5) := (hK.cell (lt_of_cell f10) (by simp; omega)).trans f10
          have e11 : wr.cell? ⟨g1, n * 3 + 1, none⟩ = some (ptrV C _ 1 5) := (hK.cell (lt_of_cell f11) (by simp; omega)).trans f11
          have e12 : wr.cell? ⟨g1, n * 3 + 2, none⟩ = some (ptrV C _ 2 5) := (hK.cell (lt_of_cell f12) (by simp; omega)).trans f12
          have ec : wr.cell? ⟨C, 5, none⟩ = some (Value.int IntKind.i64 a') := cell_of_cells hbC' rfl
          simp only [ptrV] at e20 e21 e22 e10 e11 e12
          obtain ⟨u, hu⟩ : ∃ u, (laidOver #[.int .i64 act, .int .i64 rk, .string rs, .string rv, .int .i64 n', .int .i64 a', .int .i64 b', .string text, .slice ka kn kc, .slice ta tn tc] (ps.take n) #[.int .i64 act, .int .i64 0, .string E0, .string E0, .int .i64 0, .int .i64 0, .int .i64 0, .string E0, .slice none 0 0, .slice none 0 0])[5]? = some u := ⟨_, Array.getElem?_eq_getElem (by rw [laidOver_size]; exact (by decide : 5 < 10))⟩
          have xc : wr.cell? ⟨X, 5, none⟩ = some u := cell_of_cells HBX.out hu
          have xf : wr.frozen? ⟨X, 5, none⟩ = false := frozen_of_cells HBX.out _
          clear f20 f21 f22 f10 f11 f12 hu
          have hXwr := lt_of_cell xc
          go_wp2_with fail
          obtain ⟨wb, hwb⟩ : ∃ wb, wb = wr.alloc (.cells #[.pointer (some ⟨X, 5, none⟩), .pointer none, .pointer none] 54) := ⟨_, rfl⟩
          have kb : Kp [] wr wb := by rw [hwb]; exact (Kp.refl _ _).alloc _
          have hbb : wb.heap[wr.heap.size]? = some (.cells #[.pointer (some ⟨X, 5, none⟩), .pointer none, .pointer none] 54 (0, 0)) := by rw [hwb]; exact block_new _ _
          rw [← hwb]
          have hXn : wr.heap.size ≠ X := by omega
          have bx0 := boxAt hbb (X := [X]) (by simpa using hXn) 0 _ rfl
          have bx1 := boxAt hbb (X := [X]) (by simpa using hXn) 1 _ rfl
          have bx2 := boxAt hbb (X := [X]) (by simpa using hXn) 2 _ rfl
          have bg1 := Kp.cellAt (X := [X]) (w0 := wb) ((kb.cell (lt_of_cell e10) (by simp)).trans e10) (by simp; omega)
          have bc := Kp.cellAt (X := [X]) (w0 := wb) ((kb.cell (lt_of_cell ec) (by simp)).trans ec) (by simpa using hCX)
          have bxc := (kb.cell (lt_of_cell xc) (by simp)).trans xc
          have bxf := (kb.frozen (lt_of_cell xc) (by simp)).trans xf
          have hbx2 := (kb.block X hXwr (by simp)).trans HBX.out
          have hKb : Kp [X] W2 wb := hK.call kb
          have HBX2 := Lib.hid hbx2
          have hK0 := Kp.refl [X] wb
          clear hwb hbb e20 e21 e22 e10 e11 e12 ec xc xf hbx2 kb
          refine wpB_begin 999 (Kp [X] wb) (by kernel_rfl) (by exact (Kp.refl _ _).drew) (fun hHeld => ?_)
          refine wpB_take 0 _ ?_ rfl (by kernel_rfl) (fun _ _ _ h => h) rfl hHeld ?_ ?_
          rotate_left
          · (intro W hW; go_simp; try with_reducible rfl)
          try simp only [Act.put, List.setIfInBounds_toArray, List.set_cons_zero, List.set_cons_succ]
          refine wpB_take 1 _ ?_ rfl (by kernel_rfl) (fun _ _ _ h => h) rfl hHeld ?_ ?_
          rotate_left
          · (intro W hW; go_simp; try with_reducible rfl)
          try simp only [Act.put, List.setIfInBounds_toArray, List.set_cons_zero, List.set_cons_succ]
          refine wpB_take 2 _ ?_ rfl (by kernel_rfl) (fun _ _ _ h => h) rfl hHeld ?_ ?_
          rotate_left
          · (intro W hW; go_simp; try with_reducible rfl)
          try simp only [Act.put, List.setIfInBounds_toArray, List.set_cons_zero, List.set_cons_succ]
          refine wpB_take 3 _ ?_ rfl (by kernel_rfl) (fun _ _ _ h => h) rfl hHeld ?_ ?_
          rotate_left
          · (intro W hW; go_simp; try with_reducible rfl)
          try simp only [Act.put, List.setIfInBounds_toArray, List.set_cons_zero, List.set_cons_succ]
          refine wpB_take 4 _ ?_ rfl (by kernel_rfl) (fun _ _ _ h => h) rfl hHeld ?_ ?_
          rotate_left
          · (intro W hW; go_simp; try with_reducible rfl)
          try simp only [Act.put, List.setIfInBounds_toArray, List.set_cons_zero, List.set_cons_succ]
          refine wpB_take 5 _ ?_ rfl (by kernel_rfl) (fun _ _ _ h => h) rfl hHeld ?_ ?_
          rotate_left
          · (intro W hW; go_simp; try with_reducible rfl)
          try simp only [Act.put, List.setIfInBounds_toArray, List.set_cons_zero, List.set_cons_succ]
          refine wpB_take 6 _ ?_ rfl (by kernel_rfl) (fun _ _ _ h => h) rfl hHeld ?_ ?_
          rotate_left
          · (intro W hW; go_simp; try with_reducible rfl)
          try simp only [Act.put, List.setIfInBounds_toArray, List.set_cons_zero, List.set_cons_succ]
          refine wpB_take 7 _ ?_ rfl (by kernel_rfl) (fun _ _ _ h => h) rfl hHeld ?_ ?_
          rotate_left
          · (intro W hW; go_simp; try with_reducible rfl)
          try simp only [Act.put, List.setIfInBounds_toArray, List.set_cons_zero, List.set_cons_succ]
          refine wpB_take 8 _ ?_ rfl (by kernel_rfl) (fun _ _ _ h => h) rfl hHeld ?_ ?_
          rotate_left
          · (intro W hW; go_simp; try with_reducible rfl)
          try simp only [Act.put, List.setIfInBounds_toArray, List.set_cons_zero, List.set_cons_succ]
          refine wpB_take 9 _ ?_ rfl (by kernel_rfl) (fun _ _ _ h => h) rfl hHeld ?_ ?_
          rotate_left
          · (intro W hW; go_simp; try with_reducible rfl)
          try simp only [Act.put, List.setIfInBounds_toArray, List.set_cons_zero, List.set_cons_succ]
          refine wpB_step 10 _ rfl (by kernel_rfl) rfl rfl (fun K hK_ => ?_)
          go_simp
          refine hK_.out _ _ (by exact hHeld.setCell (.inl (by simp)) _) (fun hHeld => ?_)
          clear hK_ K
          try simp only [Act.put, List.setIfInBounds_toArray, List.set_cons_zero, List.set_cons_succ]
          refine wpB_done (by kernel_rfl) ?_ _
          go_wp2_with fail
          go_roundg g'
          case rel =>
            have hn := HN.out
            refine ⟨n + 1, by omega, by go_num, hKb.drew.setCell (.inl (by simp)) _, ?_⟩
            rw [HST.out, laidOver_snoc]
            exact block_setCell HBX2.out _ _
          case measure => omega
        · subst hpc
          have e20 : wr.cell? ⟨g2, n * 3, none⟩ = some (ptrV X _ 0 6) := (hK.cell (lt_of_cell f20) (by simp; omega)).trans f20
          have e21 : wr.cell? ⟨g2, n * 3 + 1, none⟩ = some (ptrV X _ 1 6) := (hK.cell (lt_of_cell f21) (by simp; omega)).trans f21
          have e22 : wr.cell? ⟨g2, n * 3 + 2, none⟩ = some (ptrV X _ 2 6) := (hK.cell (lt_of_cell f22) (by simp; omega)).trans f22
          have e10 : wr.cell? ⟨g1, n * 3, none⟩ = some (ptrV C _ 0 6) := (hK.cell (lt_of_cell f10) (by simp; omega)).trans f10
          have e11 : wr.cell? ⟨g1, n * 3 + 1, none⟩ = some (ptrV C _ 1 6) := (hK.cell (lt_of_cell f11) (by simp; omega)).trans f11
          have e12 : wr.cell? ⟨g1, n * 3 + 2, none⟩ = some (ptrV C _ 2 6) := (hK.cell (lt_of_cell f12) (by simp; omega)).trans f12
          have ec : wr.cell? ⟨C, 6, none⟩ = some (Value.int IntKind.i64 b') := cell_of_cells hbC' rfl
          simp only [ptrV] at e20 e21 e22 e10 e11 e12
          obtain ⟨u, hu⟩ : ∃ u, (laidOver #[.int .i64 act, .int .i64 rk, .string rs, .string rv, .int .i64 n', .int .i64 a', .int .i64 b', .string text, .slice ka kn kc, .slice ta tn tc] (ps.take n) #[.int .i64 act, .int .i64 0, .string E0, .string E0, .int .i64 0, .int .i64 0, .int .i64 0, .string E0, .slice none 0 0, .slice none 0 0])[6]? = some u := ⟨_, Array.getElem?_eq_getElem (by rw [laidOver_size]; exact (by decide : 6 < 10))⟩
          have xc : wr.cell? ⟨X, 6, none⟩ = some u := cell_of_cells HBX.out hu
          have xf : wr.frozen? ⟨X, 6, none⟩ = false := frozen_of_cells HBX.out _
          clear f20 f21 f22 f10 f11 f12 hu
          have hXwr := lt_of_cell xc
          go_wp2_with fail
          obtain ⟨wb, hwb⟩ : ∃ wb, wb = wr.alloc (.cells #[.pointer (some ⟨X, 6, none⟩), .pointer none, .pointer none] 54) := ⟨_, rfl⟩
          have kb : Kp [] wr wb := by rw [hwb]; exact (Kp.refl _ _).alloc _
          have hbb : wb.heap[wr.heap.size]? = some (.cells #[.pointer (some ⟨X, 6, none⟩), .pointer none, .pointer none] 54 (0, 0)) := by rw [hwb]; exact block_new _ _
          rw [← hwb]
          have hXn : wr.heap.size ≠ X := by omega
          have bx0 := boxAt hbb (X := [X]) (by simpa using hXn) 0 _ rfl
          have bx1 := boxAt hbb (X := [X]) (by simpa using hXn) 1 _ rfl
          have bx2 := boxAt hbb (X := [X]) (by simpa using hXn) 2 _ rfl
          have bg1 := Kp.cellAt (X := [X]) (w0 := wb) ((kb.cell (lt_of_cell e10) (by simp)).trans e10) (by simp; omega)
          have bc := Kp.cellAt (X := [X]) (w0 := wb) ((kb.cell (lt_of_cell ec) (by simp)).trans ec) (by simpa using hCX)
          have bxc := (kb.cell (lt_of_cell xc) (by simp)).trans xc
          have bxf := (kb.frozen (lt_of_cell xc) (by simp)).trans xf
          have hbx2 := (kb.block X hXwr (by simp)).trans HBX.out
          have hKb : Kp [X] W2 wb := hK.call kb
          have HBX2 := Lib.hid hbx2
          have hK0 := Kp.refl [X] wb
          clear hwb hbb e20 e21 e22 e10 e11 e12 ec xc xf hbx2 kb
          refine wpB_begin 999 (Kp [X] wb) (by kernel_rfl) (by exact (Kp.refl _ _).drew) (fun hHeld => ?_)
          refine wpB_take 0 _ ?_ rfl (by kernel_rfl) (fun _ _ _ h => h) rfl hHeld ?_ ?_
          rotate_left
          · (intro W hW; go_simp; try with_reducible rfl)
          try simp only [Act.put, List.setIfInBounds_toArray, List.set_cons_zero, List.set_cons_succ]
          refine wpB_take 1 _ ?_ rfl (by kernel_rfl) (fun _ _ _ h => h) rfl hHeld ?_ ?_
          rotate_left
          · (intro W hW; go_simp; try with_reducible rfl)
          try simp only [Act.put, List.setIfInBounds_toArray, List.set_cons_zero, List.set_cons_succ]
          refine wpB_take 2 _ ?_ rfl (by kernel_rfl) (fun _ _ _ h => h) rfl hHeld ?_ ?_
          rotate_left
          · (intro W hW; go_simp; try with_reducible rfl)
          try simp only [Act.put, List.setIfInBounds_toArray, List.set_cons_zero, List.set_cons_succ]
          refine wpB_take 3 _ ?_ rfl (by kernel_rfl) (fun _ _ _ h => h) rfl hHeld ?_ ?_
          rotate_left
          · (intro W hW; go_simp; try with_reducible rfl)
          try simp only [Act.put, List.setIfInBounds_toArray, List.set_cons_zero, List.set_cons_succ]
          refine wpB_take 4 _ ?_ rfl (by kernel_rfl) (fun _ _ _ h => h) rfl hHeld ?_ ?_
          rotate_left
          · (intro W hW; go_simp; try with_reducible rfl)
          try simp only [Act.put, List.setIfInBounds_toArray, List.set_cons_zero, List.set_cons_succ]
          refine wpB_take 5 _ ?_ rfl (by kernel_rfl) (fun _ _ _ h => h) rfl hHeld ?_ ?_
          rotate_left
          · (intro W hW; go_simp; try with_reducible rfl)
          try simp only [Act.put, List.setIfInBounds_toArray, List.set_cons_zero, List.set_cons_succ]
          refine wpB_take 6 _ ?_ rfl (by kernel_rfl) (fun _ _ _ h => h) rfl hHeld ?_ ?_
          rotate_left
          · (intro W hW; go_simp; try with_reducible rfl)
          try simp only [Act.put, List.setIfInBounds_toArray, List.set_cons_zero, List.set_cons_succ]
          refine wpB_take 7 _ ?_ rfl (by kernel_rfl) (fun _ _ _ h => h) rfl hHeld ?_ ?_
          rotate_left
          · (intro W hW; go_simp; try with_reducible rfl)
          try simp only [Act.put, List.setIfInBounds_toArray, List.set_cons_zero, List.set_cons_succ]
          refine wpB_take 8 _ ?_ rfl (by kernel_rfl) (fun _ _ _ h => h) rfl hHeld ?_ ?_
          rotate_left
          · (intro W hW; go_simp; try with_reducible rfl)
          try simp only [Act.put, List.setIfInBounds_toArray, List.set_cons_zero, List.set_cons_succ]
          refine wpB_take 9 _ ?_ rfl (by kernel_rfl) (fun _ _ _ h => h) rfl hHeld ?_ ?_
          rotate_left
          · (intro W hW; go_simp; try with_reducible rfl)
          try simp only [Act.put, List.setIfInBounds_toArray, List.set_cons_zero, List.set_cons_succ]
          refine wpB_step 10 _ rfl (by kernel_rfl) rfl rfl (fun K hK_ => ?_)
          go_simp
          refine hK_.out _ _ (by exact hHeld.setCell (.inl (by simp)) _) (fun hHeld => ?_)
          clear hK_ K
          try simp only [Act.put, List.setIfInBounds_toArray, List.set_cons_zero, List.set_cons_succ]
          refine wpB_done (by kernel_rfl) ?_ _
          go_wp2_with fail
          go_roundg g'
          case rel =>
            have hn := HN.out
            refine ⟨n + 1, by omega, by go_num, hKb.drew.setCell (.inl (by simp)) _, ?_⟩
            rw [HST.out, laidOver_snoc]
            exact block_setCell HBX2.out _ _
          case measure => omega
        · subst hpc
          have e20 : wr.cell? ⟨g2, n * 3, none⟩ = some (ptrV X _ 0 7) := (hK.cell (lt_of_cell f20) (by simp; omega)).trans f20
          have e21 : wr.cell? ⟨g2, n * 3 + 1, none⟩ = some (ptrV X _ 1 7) := (hK.cell (lt_of_cell f21) (by simp; omega)).trans f21
          have e22 : wr.cell? ⟨g2, n * 3 + 2, none⟩ = some (ptrV X _ 2 7) := (hK.cell (lt_of_cell f22) (by simp; omega)).trans f22
          have e10 : wr.cell? ⟨g1, n * 3, none⟩ = some (ptrV C _ 0 7) := (hK.cell (lt_of_cell f10) (by simp; omega)).trans f10
          have e11 : wr.cell? ⟨g1, n * 3 + 1, none⟩ = some (ptrV C _ 1 7) := (hK.cell (lt_of_cell f11) (by simp; omega)).trans f11
          have e12 : wr.cell? ⟨g1, n * 3 + 2, none⟩ = some (ptrV C _ 2 7) := (hK.cell (lt_of_cell f12) (by simp; omega)).trans f12
          have ec : wr.cell? ⟨C, 7, none⟩ = some (Value.string text) := cell_of_cells hbC' rfl
          simp only [ptrV] at e20 e21 e22 e10 e11 e12
          obtain ⟨u, hu⟩ : ∃ u, (laidOver #[.int .i64 act, .int .i64 rk, .string rs, .string rv, .int .i64 n', .int .i64 a', .int .i64 b', .string text, .slice ka kn kc, .slice ta tn tc] (ps.take n) #[.int .i64 act, .int .i64 0, .string E0, .string E0, .int .i64 0, .int .i64 0, .int .i64 0, .string E0, .slice none 0 0, .slice none 0 0])[7]? = some u := ⟨_, Array.getElem?_eq_getElem (by rw [laidOver_size]; exact (by decide : 7 < 10))⟩
          have xc : wr.cell? ⟨X, 7, none⟩ = some u := cell_of_cells HBX.out hu
          have xf : wr.frozen? ⟨X, 7, none⟩ = false := frozen_of_cells HBX.out _
          clear f20 f21 f22 f10 f11 f12 hu
          have hXwr := lt_of_cell xc
          go_wp2_with fail
          obtain ⟨wb, hwb⟩ : ∃ wb, wb = wr.alloc (.cells #[.pointer none, .pointer (some ⟨X, 7, none⟩), .pointer none] 54) := ⟨_, rfl⟩
          have kb : Kp [] wr wb := by rw [hwb]; exact (Kp.refl _ _).alloc _
          have hbb : wb.heap[wr.heap.size]? = some (.cells #[.pointer none, .pointer (some ⟨X, 7, none⟩), .pointer none] 54 (0, 0)) := by rw [hwb]; exact block_new _ _
          rw [← hwb]
          have hXn : wr.heap.size ≠ X := by omega
          have bx0 := boxAt hbb (X := [X]) (by simpa using hXn) 0 _ rfl
          have bx1 := boxAt hbb (X := [X]) (by simpa using hXn) 1 _ rfl
          have bx2 := boxAt hbb (X := [X]) (by simpa using hXn) 2 _ rfl
          have bg1 := Kp.cellAt (X := [X]) (w0 := wb) ((kb.cell (lt_of_cell e11) (by simp)).trans e11) (by simp; omega)
          have bc := Kp.cellAt (X := [X]) (w0 := wb) ((kb.cell (lt_of_cell ec) (by simp)).trans ec) (by simpa using hCX)
          have bxc := (kb.cell (lt_of_cell xc) (by simp)).trans xc
          have bxf := (kb.frozen (lt_of_cell xc) (by simp)).trans xf
          have hbx2 := (kb.block X hXwr (by simp)).trans HBX.out
          have hKb : Kp [X] W2 wb := hK.call kb
          have HBX2 := Lib.hid hbx2
          have hK0 := Kp.refl [X] wb
          clear hwb hbb e20 e21 e22 e10 e11 e12 ec xc xf hbx2 kb
          refine wpB_begin 999 (Kp [X] wb) (by kernel_rfl) (by exact (Kp.refl _ _).drew) (fun hHeld => ?_)
          refine wpB_take 0 _ ?_ rfl (by kernel_rfl) (fun _ _ _ h => h) rfl hHeld ?_ ?_
          rotate_left
          · (intro W hW; go_simp; try with_reducible rfl)
          try simp only [Act.put, List.setIfInBounds_toArray, List.set_cons_zero, List.set_cons_succ]
          refine wpB_take 1 _ ?_ rfl (by kernel_rfl) (fun _ _ _ h => h) rfl hHeld ?_ ?_
          rotate_left
          · (intro W hW; go_simp; try with_reducible rfl)
          try simp only [Act.put, List.setIfInBounds_toArray, List.set_cons_zero, List.set_cons_succ]
          refine wpB_take 2 _ ?_ rfl (by kernel_rfl) (fun _ _ _ h => h) rfl hHeld ?_ ?_
          rotate_left
          · (intro W hW; go_simp; try with_reducible rfl)
          try simp only [Act.put, List.setIfInBounds_toArray, List.set_cons_zero, List.set_cons_succ]
          refine wpB_take 3 _ ?_ rfl (by kernel_rfl) (fun _ _ _ h => h) rfl hHeld ?_ ?_
          rotate_left
          · (intro W hW; go_simp; try with_reducible rfl)
          try simp only [Act.put, List.setIfInBounds_toArray, List.set_cons_zero, List.set_cons_succ]
          refine wpB_take 4 _ ?_ rfl (by kernel_rfl) (fun _ _ _ h => h) rfl hHeld ?_ ?_
          rotate_left
          · (intro W hW; go_simp; try with_reducible rfl)
          try simp only [Act.put, List.setIfInBounds_toArray, List.set_cons_zero, List.set_cons_succ]
          refine wpB_take 5 _ ?_ rfl (by kernel_rfl) (fun _ _ _ h => h) rfl hHeld ?_ ?_
          rotate_left
          · (intro W hW; go_simp; try with_reducible rfl)
          try simp only [Act.put, List.setIfInBounds_toArray, List.set_cons_zero, List.set_cons_succ]
          refine wpB_take 6 _ ?_ rfl (by kernel_rfl) (fun _ _ _ h => h) rfl hHeld ?_ ?_
          rotate_left
          · (intro W hW; go_simp; try with_reducible rfl)
          try simp only [Act.put, List.setIfInBounds_toArray, List.set_cons_zero, List.set_cons_succ]
          refine wpB_take 7 _ ?_ rfl (by kernel_rfl) (fun _ _ _ h => h) rfl hHeld ?_ ?_
          rotate_left
          · (intro W hW; go_simp; try with_reducible rfl)
          try simp only [Act.put, List.setIfInBounds_toArray, List.set_cons_zero, List.set_cons_succ]
          refine wpB_take 8 _ ?_ rfl (by kernel_rfl) (fun _ _ _ h => h) rfl hHeld ?_ ?_
          rotate_left
          · (intro W hW; go_simp; try with_reducible rfl)
          try simp only [Act.put, List.setIfInBounds_toArray, List.set_cons_zero, List.set_cons_succ]
          refine wpB_take 9 _ ?_ rfl (by kernel_rfl) (fun _ _ _ h => h) rfl hHeld ?_ ?_
          rotate_left
          · (intro W hW; go_simp; try with_reducible rfl)
          try simp only [Act.put, List.setIfInBounds_toArray, List.set_cons_zero, List.set_cons_succ]
          refine wpB_step 10 _ rfl (by kernel_rfl) rfl rfl (fun K hK_ => ?_)
          go_simp
          refine hK_.out _ _ (by exact hHeld.setCell (.inl (by simp)) _) (fun hHeld => ?_)
          clear hK_ K
          try simp only [Act.put, List.setIfInBounds_toArray, List.set_cons_zero, List.set_cons_succ]
          refine wpB_done (by kernel_rfl) ?_ _
          go_wp2_with fail
          go_roundg g'
          case rel =>
            have hn := HN.out
            refine ⟨n + 1, by omega, by go_num, hKb.drew.setCell (.inl (by simp)) _, ?_⟩
            rw [HST.out, laidOver_snoc]
            exact block_setCell HBX2.out _ _
          case measure => omega
        · subst hpc
          have e20 : wr.cell? ⟨g2, n * 3, none⟩ = some (ptrV X _ 0 8) := (hK.cell (lt_of_cell f20) (by simp; omega)).trans f20
          have e21 : wr.cell? ⟨g2, n * 3 + 1, none⟩ = some (ptrV X _ 1 8) := (hK.cell (lt_of_cell f21) (by simp; omega)).trans f21
          have e22 : wr.cell? ⟨g2, n * 3 + 2, none⟩ = some (ptrV X _ 2 8) := (hK.cell (lt_of_cell f22) (by simp; omega)).trans f22
          have e10 : wr.cell? ⟨g1, n * 3, none⟩ = some (ptrV C _ 0 8) := (hK.cell (lt_of_cell f10) (by simp; omega)).trans f10
          have e11 : wr.cell? ⟨g1, n * 3 + 1, none⟩ = some (ptrV C _ 1 8) := (hK.cell (lt_of_cell f11) (by simp; omega)).trans f11
          have e12 : wr.cell? ⟨g1, n * 3 + 2, none⟩ = some (ptrV C _ 2 8) := (hK.cell (lt_of_cell f12) (by simp; omega)).trans f12
          have ec : wr.cell? ⟨C, 8, none⟩ = some (Value.slice ka kn kc) := cell_of_cells hbC' rfl
          simp only [ptrV] at e20 e21 e22 e10 e11 e12
          obtain ⟨u, hu⟩ : ∃ u, (laidOver #[.int .i64 act, .int .i64 rk, .string rs, .string rv, .int .i64 n', .int .i64 a', .int .i64 b', .string text, .slice ka kn kc, .slice ta tn tc] (ps.take n) #[.int .i64 act, .int .i64 0, .string E0, .string E0, .int .i64 0, .int .i64 0, .int .i64 0, .string E0, .slice none 0 0, .slice none 0 0])[8]? = some u := ⟨_, Array.getElem?_eq_getElem (by rw [laidOver_size]; exact (by decide : 8 < 10))⟩
          have xc : wr.cell? ⟨X, 8, none⟩ = some u := cell_of_cells HBX.out hu
          have xf : wr.frozen? ⟨X, 8, none⟩ = false := frozen_of_cells HBX.out _
          clear f20 f21 f22 f10 f11 f12 hu
          have hXwr := lt_of_cell xc
          go_wp2_with fail
          obtain ⟨wb, hwb⟩ : ∃ wb, wb = wr.alloc (.cells #[.pointer none, .pointer none, .pointer (some ⟨X, 8, none⟩)] 54) := ⟨_, rfl⟩
          have kb : Kp [] wr wb := by rw [hwb]; exact (Kp.refl _ _).alloc _
          have hbb : wb.heap[wr.heap.size]? = some (.cells #[.pointer none, .pointer none, .pointer (some ⟨X, 8, none⟩)] 54 (0, 0)) := by rw [hwb]; exact block_new _ _
          rw [← hwb]
          have hXn : wr.heap.size ≠ X := by omega
          have bx0 := boxAt hbb (X := [X]) (by simpa using hXn) 0 _ rfl
          have bx1 := boxAt hbb (X := [X]) (by simpa using hXn) 1 _ rfl
          have bx2 := boxAt hbb (X := [X]) (by simpa using hXn) 2 _ rfl
          have bg1 := Kp.cellAt (X := [X]) (w0 := wb) ((kb.cell (lt_of_cell e12) (by simp)).trans e12) (by simp; omega)
          have bc := Kp.cellAt (X := [X]) (w0 := wb) ((kb.cell (lt_of_cell ec) (by simp)).trans ec) (by simpa using hCX)
          have bxc := (kb.cell (lt_of_cell xc) (by simp)).trans xc
          have bxf := (kb.frozen (lt_of_cell xc) (by simp)).trans xf
          have hbx2 := (kb.block X hXwr (by simp)).trans HBX.out
          have hKb : Kp [X] W2 wb := hK.call kb
          have HBX2 := Lib.hid hbx2
          have hK0 := Kp.refl [X] wb
          clear hwb hbb e20 e21 e22 e10 e11 e12 ec xc xf hbx2 kb
          refine wpB_begin 999 (Kp [X] wb) (by kernel_rfl) (by exact (Kp.refl _ _).drew) (fun hHeld => ?_)
          refine wpB_take 0 _ ?_ rfl (by kernel_rfl) (fun _ _ _ h => h) rfl hHeld ?_ ?_
          rotate_left
          · (intro W hW; go_simp; try with_reducible rfl)
          try simp only [Act.put, List.setIfInBounds_toArray, List.set_cons_zero, List.set_cons_succ]
          refine wpB_take 1 _ ?_ rfl (by kernel_rfl) (fun _ _ _ h => h) rfl hHeld ?_ ?_
          rotate_left
          · (intro W hW; go_simp; try with_reducible rfl)
          try simp only [Act.put, List.setIfInBounds_toArray, List.set_cons_zero, List.set_cons_succ]
          refine wpB_take 2 _ ?_ rfl (by kernel_rfl) (fun _ _ _ h => h) rfl hHeld ?_ ?_
          rotate_left
          · (intro W hW; go_simp; try with_reducible rfl)
          try simp only [Act.put, List.setIfInBounds_toArray, List.set_cons_zero, List.set_cons_succ]
          refine wpB_take 3 _ ?_ rfl (by kernel_rfl) (fun _ _ _ h => h) rfl hHeld ?_ ?_
          rotate_left
          · (intro W hW; go_simp; try with_reducible rfl)
          try simp only [Act.put, List.setIfInBounds_toArray, List.set_cons_zero, List.set_cons_succ]
          refine wpB_take 4 _ ?_ rfl (by kernel_rfl) (fun _ _ _ h => h) rfl hHeld ?_ ?_
          rotate_left
          · (intro W hW; go_simp; try with_reducible rfl)
          try simp only [Act.put, List.setIfInBounds_toArray, List.set_cons_zero, List.set_cons_succ]
          refine wpB_take 5 _ ?_ rfl (by kernel_rfl) (fun _ _ _ h => h) rfl hHeld ?_ ?_
          rotate_left
          · (intro W hW; go_simp; try with_reducible rfl)
          try simp only [Act.put, List.setIfInBounds_toArray, List.set_cons_zero, List.set_cons_succ]
          refine wpB_take 6 _ ?_ rfl (by kernel_rfl) (fun _ _ _ h => h) rfl hHeld ?_ ?_
          rotate_left
          · (intro W hW; go_simp; try with_reducible rfl)
          try simp only [Act.put, List.setIfInBounds_toArray, List.set_cons_zero, List.set_cons_succ]
          refine wpB_take 7 _ ?_ rfl (by kernel_rfl) (fun _ _ _ h => h) rfl hHeld ?_ ?_
          rotate_left
          · (intro W hW; go_simp; try with_reducible rfl)
          try simp only [Act.put, List.setIfInBounds_toArray, List.set_cons_zero, List.set_cons_succ]
          refine wpB_take 8 _ ?_ rfl (by kernel_rfl) (fun _ _ _ h => h) rfl hHeld ?_ ?_
          rotate_left
          · (intro W hW; go_simp; try with_reducible rfl)
          try simp only [Act.put, List.setIfInBounds_toArray, List.set_cons_zero, List.set_cons_succ]
          refine wpB_take 9 _ ?_ rfl (by kernel_rfl) (fun _ _ _ h => h) rfl hHeld ?_ ?_
          rotate_left
          · (intro W hW; go_simp; try with_reducible rfl)
          try simp only [Act.put, List.setIfInBounds_toArray, List.set_cons_zero, List.set_cons_succ]
          refine wpB_step 10 _ rfl (by kernel_rfl) rfl rfl (fun K hK_ => ?_)
          go_simp
          refine hK_.out _ _ (by exact hHeld.setCell (.inl (by simp)) _) (fun hHeld => ?_)
          clear hK_ K
          try simp only [Act.put, List.setIfInBounds_toArray, List.set_cons_zero, List.set_cons_succ]
          refine wpB_done (by kernel_rfl) ?_ _
          go_wp2_with fail
          go_roundg g'
          case rel =>
            have hn := HN.out
            refine ⟨n + 1, by omega, by go_num, hKb.drew.setCell (.inl (by simp)) _, ?_⟩
            rw [HST.out, laidOver_snoc]
            exact block_setCell HBX2.out _ _
          case measure => omega
        · subst hpc
          have e20 : wr.cell? ⟨g2, n * 3, none⟩ = some (ptrV X _ 0 9) := (hK.cell (lt_of_cell f20) (by simp; omega)).trans f20
          have e21 : wr.cell? ⟨g2, n * 3 + 1, none⟩ = some (ptrV X _ 1 9) := (hK.cell (lt_of_cell f21) (by simp; omega)).trans f21
          have e22 : wr.cell? ⟨g2, n * 3 + 2, none⟩ = some (ptrV X _ 2 9) := (hK.cell (lt_of_cell f22) (by simp; omega)).trans f22
          have e10 : wr.cell? ⟨g1, n * 3, none⟩ = some (ptrV C _ 0 9) := (hK.cell (lt_of_cell f10) (by simp; omega)).trans f10
          have e11 : wr.cell? ⟨g1, n * 3 + 1, none⟩ = some (ptrV C _ 1 9) := (hK.cell (lt_of_cell f11) (by simp; omega)).trans f11
          have e12 : wr.cell? ⟨g1, n * 3 + 2, none⟩ = some (ptrV C _ 2 9) := (hK.cell (lt_of_cell f12) (by simp; omega)).trans f12
          have ec : wr.cell? ⟨C, 9, none⟩ = some (Value.slice ta tn tc) := cell_of_cells hbC' rfl
          simp only [ptrV] at e20 e21 e22 e10 e11 e12
          obtain ⟨u, hu⟩ : ∃ u, (laidOver #[.int .i64 act, .int .i64 rk, .string rs, .string rv, .int .i64 n', .int .i64 a', .int .i64 b', .string text, .slice ka kn kc, .slice ta tn tc] (ps.take n) #[.int .i64 act, .int .i64 0, .string E0, .string E0, .int .i64 0, .int .i64 0, .int .i64 0, .string E0, .slice none 0 0, .slice none 0 0])[9]? = some u := ⟨_, Array.getElem?_eq_getElem (by rw [laidOver_size]; exact (by decide : 9 < 10))⟩
          have xc : wr.cell? ⟨X, 9, none⟩ = some u := cell_of_cells HBX.out hu
          have xf : wr.frozen? ⟨X, 9, none⟩ = false := frozen_of_cells HBX.out _
          clear f20 f21 f22 f10 f11 f12 hu
          have hXwr := lt_of_cell xc
          go_wp2_with fail
          obtain ⟨wb, hwb⟩ : ∃ wb, wb = wr.alloc (.cells #[.pointer none, .pointer none, .pointer (some ⟨X, 9, none⟩)] 54) := ⟨_, rfl⟩
          have kb : Kp [] wr wb := by rw [hwb]; exact (Kp.refl _ _).alloc _
          have hbb : wb.heap[wr.heap.size]? = some (.cells #[.pointer none, .pointer none, .pointer (some ⟨X, 9, none⟩)] 54 (0, 0)) := by rw [hwb]; exact block_new _ _
          rw [← hwb]
          have hXn : wr.heap.size ≠ X := by omega
          have bx0 := boxAt hbb (X := [X]) (by simpa using hXn) 0 _ rfl
          have bx1 := boxAt hbb (X := [X]) (by simpa using hXn) 1 _ rfl
          have bx2 := boxAt hbb (X := [X]) (by simpa using hXn) 2 _ rfl
          have bg1 := Kp.cellAt (X := [X]) (w0 := wb) ((kb.cell (lt_of_cell e12) (by simp)).trans e12) (by simp; omega)
          have bc := Kp.cellAt (X := [X]) (w0 := wb) ((kb.cell (lt_of_cell ec) (by simp)).trans ec) (by simpa using hCX)
          have bxc := (kb.cell (lt_of_cell xc) (by simp)).trans xc
          have bxf := (kb.frozen (lt_of_cell xc) (by simp)).trans xf
          have hbx2 := (kb.block X hXwr (by simp)).trans HBX.out
          have hKb : Kp [X] W2 wb := hK.call kb
          have HBX2 := Lib.hid hbx2
          have hK0 := Kp.refl [X] wb
          clear hwb hbb e20 e21 e22 e10 e11 e12 ec xc xf hbx2 kb
          refine wpB_begin 999 (Kp [X] wb) (by kernel_rfl) (by exact (Kp.refl _ _).drew) (fun hHeld => ?_)
          refine wpB_take 0 _ ?_ rfl (by kernel_rfl) (fun _ _ _ h => h) rfl hHeld ?_ ?_
          rotate_left
          · (intro W hW; go_simp; try with_reducible rfl)
          try simp only [Act.put, List.setIfInBounds_toArray, List.set_cons_zero, List.set_cons_succ]
          refine wpB_take 1 _ ?_ rfl (by kernel_rfl) (fun _ _ _ h => h) rfl hHeld ?_ ?_
          rotate_left
          · (intro W hW; go_simp; try with_reducible rfl)
          try simp only [Act.put, List.setIfInBounds_toArray, List.set_cons_zero, List.set_cons_succ]
          refine wpB_take 2 _ ?_ rfl (by kernel_rfl) (fun _ _ _ h => h) rfl hHeld ?_ ?_
          rotate_left
          · (intro W hW; go_simp; try with_reducible rfl)
          try simp only [Act.put, List.setIfInBounds_toArray, List.set_cons_zero, List.set_cons_succ]
          refine wpB_take 3 _ ?_ rfl (by kernel_rfl) (fun _ _ _ h => h) rfl hHeld ?_ ?_
          rotate_left
          · (intro W hW; go_simp; try with_reducible rfl)
          try simp only [Act.put, List.setIfInBounds_toArray, List.set_cons_zero, List.set_cons_succ]
          refine wpB_take 4 _ ?_ rfl (by kernel_rfl) (fun _ _ _ h => h) rfl hHeld ?_ ?_
          rotate_left
          · (intro W hW; go_simp; try with_reducible rfl)
          try simp only [Act.put, List.setIfInBounds_toArray, List.set_cons_zero, List.set_cons_succ]
          refine wpB_take 5 _ ?_ rfl (by kernel_rfl) (fun _ _ _ h => h) rfl hHeld ?_ ?_
          rotate_left
          · (intro W hW; go_simp; try with_reducible rfl)
          try simp only [Act.put, List.setIfInBounds_toArray, List.set_cons_zero, List.set_cons_succ]
          refine wpB_take 6 _ ?_ rfl (by kernel_rfl) (fun _ _ _ h => h) rfl hHeld ?_ ?_
          rotate_left
          · (intro W hW; go_simp; try with_reducible rfl)
          try simp only [Act.put, List.setIfInBounds_toArray, List.set_cons_zero, List.set_cons_succ]
          refine wpB_take 7 _ ?_ rfl (by kernel_rfl) (fun _ _ _ h => h) rfl hHeld ?_ ?_
          rotate_left
          · (intro W hW; go_simp; try with_reducible rfl)
          try simp only [Act.put, List.setIfInBounds_toArray, List.set_cons_zero, List.set_cons_succ]
          refine wpB_take 8 _ ?_ rfl (by kernel_rfl) (fun _ _ _ h => h) rfl hHeld ?_ ?_
          rotate_left
          · (intro W hW; go_simp; try with_reducible rfl)
          try simp only [Act.put, List.setIfInBounds_toArray, List.set_cons_zero, List.set_cons_succ]
          refine wpB_take 9 _ ?_ rfl (by kernel_rfl) (fun _ _ _ h => h) rfl hHeld ?_ ?_
          rotate_left
          · (intro W hW; go_simp; try with_reducible rfl)
          try simp only [Act.put, List.setIfInBounds_toArray, List.set_cons_zero, List.set_cons_succ]
          refine wpB_step 10 _ rfl (by kernel_rfl) rfl rfl (fun K hK_ => ?_)
          go_simp
          refine hK_.out _ _ (by exact hHeld.setCell (.inl (by simp)) _) (fun hHeld => ?_)
          clear hK_ K
          try simp only [Act.put, List.setIfInBounds_toArray, List.set_cons_zero, List.set_cons_succ]
          refine wpB_done (by kernel_rfl) ?_ _
          go_wp2_with fail
          go_roundg g'
          case rel =>
            have hn := HN.out
            refine ⟨n + 1, by omega, by go_num, hKb.drew.setCell (.inl (by simp)) _, ?_⟩
            rw [HST.out, laidOver_snoc]
            exact block_setCell HBX2.out _ _
          case measure => omega
      · obtain rfl : n = ps.length := by omega
        obtain rfl : gk = 0 := by omega
        rw [List.take_length] at hbx
        rw [HFIN.out] at hbx
        clear hn
        have hbr := (hK.block R (lt_of_block HBR.out) (by simp; omega)).trans HBR.out
        obtain ⟨⟨x0, x1, x2, x3, x4, x5, x6, x7, x8, x9⟩, -⟩ := read10 hbx
        obtain ⟨⟨r0, r1, r2, r3, r4, r5, r6, r7, r8, r9⟩, rf⟩ := read10 hbr
        have HB := Lib.hid hbr
        clear hbr hbx hbC'
        go_wp2_with fail
        have hz := put10 HB.out (.int .i64 o0) (.int .i64 o1) (.string o2) (.string o3) (.int .i64 o4) (.int .i64 o5) (.int .i64 o6) (.string o7) (.slice pa pn pc) (.slice qa qn qc)
        have hkz := (hkW.step hK (fun i hi hm => by simp only [List.mem_singleton] at hm; have := HX.out; omega)).put10 (R := R) (.inr (by have := HRR.out; omega)) (.int .i64 o0) (.int .i64 o1) (.string o2) (.string o3) (.int .i64 o4) (.int .i64 o5) (.int .i64 o6) (.string o7) (.slice pa pn pc) (.slice qa qn qc)
        obtain ⟨Z, hZ⟩ : ∃ Z, Z = ((((((((((wr.setCell ⟨R, 0, none⟩ (.int .i64 o0)).setCell ⟨R, 1, none⟩ (.int .i64 o1)).setCell ⟨R, 2, none⟩ (.string o2)).setCell ⟨R, 3, none⟩ (.string o3)).setCell ⟨R, 4, none⟩ (.int .i64 o4)).setCell ⟨R, 5, none⟩ (.int .i64 o5)).setCell ⟨R, 6, none⟩ (.int .i64 o6)).setCell ⟨R, 7, none⟩ (.string o7)).setCell ⟨R, 8, none⟩ (.slice pa pn pc)).setCell ⟨R, 9, none⟩ (.slice qa qn qc)) := ⟨_, rfl⟩
        rw [← hZ] at hz hkz ⊢
        obtain ⟨⟨z0, z1, z2, z3, z4, z5, z6, z7, z8, z9⟩, -⟩ := read10 hz
        refine bodyPost_ret (by simp [results, Tryz.results26, go_sem, z0, z1, z2, z3, z4, z5, z6, z7, z8, z9]; try rfl) rfl ?_
        exact ⟨rfl, hkz⟩
end Go.Proofs.YtmihnakapnoefaaGreatDoor
