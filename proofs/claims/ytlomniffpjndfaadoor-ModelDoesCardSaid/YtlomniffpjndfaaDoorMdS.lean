/-
  A digest's words: right.
-/
import Derived.Test.YtlomniffpjndfaaDoorMdC
import Derived.Deep.WholeRow
import Derived.Deep.MidRow
namespace Go.Proofs.YtlomniffpjndfaaDoor
open Go.RowKit Go.WideShapes

section
variable {P : Program} {md : Region.Mode} {ops : Array Oper} {Q : Exit → Act → World → Prop}
/-- three may come up: each first -/
theorem wpB_fork3 {b : Nat} {S : World → Prop} {K : Nat → Array Bool → Act → World → Prop} (i j l : Nat) (oi oj ol : Oper) {fuel : Nat} {listed : Array Bool} {a : Act} {w : World}
    (hi : (ops.toList.drop i).head? = some oi) (hj : (ops.toList.drop j).head? = some oj) (hl : (ops.toList.drop l).head? = some ol) (hr : Region.ready md ops listed = [i, j, l]) (hne : (i != b && j != b && l != b) = true)
    (hwi : Region.wanted oi (yielded ops a.tmps) = true) (hwj : Region.wanted oj (yielded ops a.tmps) = true) (hwl : Region.wanted ol (yielded ops a.tmps) = true)
    (h1 : ∀ K' : Act → World → Prop, Shut (∀ a w, S w → (S w → wpB P md ops Q b S K fuel (listed.setIfInBounds i true) a w) → K' a w) → Oper.wp P oi a w K' Q)
    (h2 : ∀ K' : Act → World → Prop, Shut (∀ a w, S w → (S w → wpB P md ops Q b S K fuel (listed.setIfInBounds j true) a w) → K' a w) → Oper.wp P oj a w K' Q)
    (h3 : ∀ K' : Act → World → Prop, Shut (∀ a w, S w → (S w → wpB P md ops Q b S K fuel (listed.setIfInBounds l true) a w) → K' a w) → Oper.wp P ol a w K' Q) : wpB P md ops Q b S K (fuel + 1) listed a w := by
  refine ⟨fun h0 => (by rw [hr] at h0; cases h0), fun x hx => ?_⟩
  rw [hr] at hx
  simp only [Bool.and_eq_true, bne_iff_ne, ne_eq] at hne
  simp only [List.mem_cons, List.not_mem_nil, or_false] at hx
  rcases hx with rfl | rfl | rfl
  · refine wpOp_step (op_at hi) fun K' hK => ?_
    rw [if_pos hwi]
    refine h1 K' (fun a w hs hb => hK a w ?_)
    rw [if_neg hne.1.1]; exact ⟨hs, hb hs⟩
  · refine wpOp_step (op_at hj) fun K' hK => ?_
    rw [if_pos hwj]
    refine h2 K' (fun a w hs hb => hK a w ?_)
    rw [if_neg hne.1.2]; exact ⟨hs, hb hs⟩
  · refine wpOp_step (op_at hl) fun K' hK => ?_
    rw [if_pos hwl]
    refine h3 K' (fun a w hs hb => hK a w ?_)
    rw [if_neg hne.2]; exact ⟨hs, hb hs⟩
end
theorem region_then_at {P : Program} {c : Code} {K : Act → World → Prop} {Q : Exit → Act → World → Prop} {a : Act} {w : World} (K' : Act → Act → World → Prop) (h : c.wp P (Exit.then (K' a) Q) a w) (hk : ∀ b u, K' a b u → K b u) : c.wp P (Exit.then K Q) a w :=
  wp_mono h (fun e b u hq => by cases e <;> first | exact hk _ _ hq | exact hq)
theorem Kp.setRow {X : List Nat} {a w : World} (h : Kp X a w) {g : Nat} (hg : g ∈ X ∨ a.heap.size ≤ g) (cs : Array Value) : Kp X a (w.setRow g cs) :=
  ⟨h.os, h.tape, h.output, by simpa [World.setRow] using h.size, fun i hi hx => (setRow_other w g i cs (by
    rintro rfl
    rcases hg with hg | hg
    · exact hx hg
    · omega)).trans (h.block i hi hx)⟩
theorem ne_of_types {w : World} {a b : Nat} {c1 c2 : Array Value} {t1 t2 : TypeId} {z1 z2 : Nat × Nat} (h1 : w.heap[a]? = some (.cells c1 t1 z1)) (h2 : w.heap[b]? = some (.cells c2 t2 z2)) (ht : t1 ≠ t2) : b ≠ a := by
  rintro rfl
  rw [h1] at h2
  simp only [Option.some.injEq, Obj.cells.injEq] at h2
  exact ht h2.2.1
theorem keep_other {w : World} {a b : Nat} {c1 c2 : Array Value} {t1 t2 : TypeId} {z1 z2 : Nat × Nat} (h1 : w.heap[a]? = some (.cells c1 t1 z1)) (h2 : w.heap[b]? = some (.cells c2 t2 z2)) (ht : t1 ≠ t2) (cs : Array Value) : (w.setRow a cs).heap[b]? = some (.cells c2 t2 z2) :=
  (setRow_other w a b cs (ne_of_types h1 h2 ht)).trans h2
theorem wp_store_row_told {P : Program} {o : Oper} {a : Act} {w : World} {K : Act → World → Prop} {Q : Exit → Act → World → Prop} (ty : TypeId) (x y : Operand) (ho : o.op = .store ty x y)
    (g : Nat) (cells : Array Value) (hx : a.eval x = .pointer (some ⟨g, 0, none⟩)) (hy : a.eval y = .agg cells)
    (t : TypeId) (old : Array Value) (hg : w.heap[g]? = some (.cells old t (0, 0))) (hi : (P.info? ty).map (·.size) = some cells.size)
    (hold : old.size = cells.size) (h1 : cells.all (·.oneCell') = true)
    (h : w.heap[g]? = some (.cells old t (0, 0)) → (w.setRow g cells).heap[g]? = some (.cells cells t (0, 0)) → K (a.put o.dst undef) (w.setRow g cells)) : o.wp P a w K Q :=
  wp_store_row ty x y ho g cells hx hy t old hg hi hold h1 (h hg (setRow_heap _ _ _ _ _ _ hg))
theorem region_then {P : Program} {c : Code} {K K' : Act → World → Prop} {Q : Exit → Act → World → Prop} {a : Act} {w : World} (h : c.wp P (Exit.then K' Q) a w) (hk : ∀ a w, K' a w → K a w) : c.wp P (Exit.then K Q) a w :=
  wp_mono h (fun e a w hq => by cases e <;> first | exact hk _ _ hq | exact hq)
/-- a word turned right -/
def rotr (x n : Int) : Int := bits BinOp.or .u32 (x / 2 ^ n.toNat) (IntKind.u32.wrap (x * 2 ^ (32 - n).toNat))
set_option maxHeartbeats 1000000 in
set_option maxRecDepth 20000 in
theorem dright (x n : Int) (h0 : 0 ≤ n) (h1 : n ≤ 32) (w : World) : Calls Tryd.prog 93 #[.int .u32 x, .int .i64 n] w fun e w' => e = .returned (.int .u32 (rotr x n)) ∧ Kp [] w w' := by
  have hK := Kp.refl [] w
  have hn : ¬ n < 0 := by omega
  have hn2 : ¬ 32 - n < 0 := by omega
  have hw := wrap_id (32 - n) (by omega) (by omega)
  go_enter Tryd.func93, Tryd.ntmps93
  go_wp2_with fail
  refine wpB_begin 999 (Kp [] w) (by kernel_rfl) (by first | exact hK.drew | exact Kp.drew (Kp.refl _ _)) (fun hHeld => ?_)
  refine wpB_take 0 _ ?_ rfl (by kernel_rfl) (fun _ _ _ h => h) rfl hHeld ?_ ?_
  rotate_left
  · (intro W hW; go_simp; try with_reducible rfl)
  try simp only [Act.put, List.setIfInBounds_toArray, List.set_cons_zero, List.set_cons_succ]
  refine wpB_take 1 _ ?_ rfl (by kernel_rfl) (fun _ _ _ h => h) rfl hHeld ?_ ?_
  rotate_left
  · (intro W hW; go_simp; try with_reducible rfl)
  try simp only [Act.put, List.setIfInBounds_toArray, List.set_cons_zero, List.set_cons_succ]
  refine wpB_take 2 _ ?_ rfl (by kernel_rfl) (fun _ _ _ h => h) rfl hHeld ?_ ?_
  rotate_left
  · (intro W hW; go_simp; try with_reducible rfl)
  try simp only [Act.put, List.setIfInBounds_toArray, List.set_cons_zero, List.set_cons_succ]
  refine wpB_take 3 _ ?_ rfl (by kernel_rfl) (fun _ _ _ h => h) rfl hHeld ?_ ?_
  rotate_left
  · (intro W hW; go_simp; try with_reducible rfl)
  try simp only [Act.put, List.setIfInBounds_toArray, List.set_cons_zero, List.set_cons_succ]
  refine wpB_take 4 _ ?_ rfl (by kernel_rfl) (fun _ _ _ h => h) rfl hHeld ?_ ?_
  rotate_left
  · (intro W hW; go_simp; try with_reducible rfl)
  try simp only [Act.put, List.setIfInBounds_toArray, List.set_cons_zero, List.set_cons_succ]
  refine wpB_take 5 _ ?_ rfl (by kernel_rfl) (fun _ _ _ h => h) rfl hHeld ?_ ?_
  rotate_left
  · (intro W hW; go_simp; try with_reducible rfl)
  try simp only [Act.put, List.setIfInBounds_toArray, List.set_cons_zero, List.set_cons_succ]
  refine wpB_take 6 _ ?_ rfl (by kernel_rfl) (fun _ _ _ h => h) rfl hHeld ?_ ?_
  rotate_left
  · (intro W hW; go_simp; try with_reducible rfl)
  try simp only [Act.put, List.setIfInBounds_toArray, List.set_cons_zero, List.set_cons_succ]
  refine wpB_take 7 _ ?_ rfl (by kernel_rfl) (fun _ _ _ h => h) rfl hHeld ?_ ?_
  rotate_left
  · (intro W hW; go_simp; try with_reducible rfl)
  try simp only [Act.put, List.setIfInBounds_toArray, List.set_cons_zero, List.set_cons_succ]
  refine wpB_take 8 _ ?_ rfl (by kernel_rfl) (fun _ _ _ h => h) rfl hHeld ?_ ?_
  rotate_left
  · (intro W hW; go_simp; try with_reducible rfl)
  try simp only [Act.put, List.setIfInBounds_toArray, List.set_cons_zero, List.set_cons_succ]
  refine wpB_done (by kernel_rfl) ?_ _
  go_wp2_with fail
  go_ret
  exact ⟨rfl, hHeld⟩
/-- the numbers that go in -/
def kList : List Int := [1116352408, 1899447441, 3049323471, 3921009573, 961987163, 1508970993, 2453635748, 2870763221, 3624381080, 310598401, 607225278, 1426881987, 1925078388, 2162078206, 2614888103, 3248222580, 3835390401, 4022224774, 264347078, 604807628, 770255983, 1249150122, 1555081692, 1996064986, 2554220882, 2821834349, 2952996808, 3210313671, 3336571891, 3584528711, 113926993, 338241895, 666307205, 773529912, 1294757372, 1396182291, 1695183700, 1986661051, 2177026350, 2456956037, 2730485921, 2820302411, 3259730800, 3345764771, 3516065817, 3600352804, 4094571909, 275423344, 430227734, 506948616, 659060556, 883997877, 958139571, 1322822218, 1537002063, 1747873779, 1955562222, 2024104815, 2227730452, 2361852424, 2428436474, 2756734187, 3204031479, 3329325298]
def uV (l : List Int) : Array Value := (l.map (Value.int .u32)).toArray
theorem uV_len (l : List Int) : (uV l).size = l.length := by unfold uV; simp
theorem uV_one (l : List Int) : (uV l).all (·.oneCell') = true := by
  rw [Array.all_eq_true_iff_forall_mem]
  intro x hx
  unfold uV at hx
  simp only [List.mem_toArray, List.mem_map] at hx
  obtain ⟨y, -, rfl⟩ := hx
  rfl
theorem size64 : (Tryd.prog.info? 129).map (·.size) = some 64 := by kernel_rfl
theorem under64 : Tryd.prog.underlying 129 = some (.array 64 82) := by kernel_rfl
theorem size8 : (Tryd.prog.info? 107).map (·.size) = some 8 := by kernel_rfl
theorem under8 : Tryd.prog.underlying 107 = some (.array 8 82) := by kernel_rfl
theorem uV_cell {w : World} {g : Nat} {l : List Int} {t : TypeId} (h : w.heap[g]? = some (.cells (uV l) t (0, 0))) (i : Nat) (hi : i < l.length) : w.cell? ⟨g, i, none⟩ = some (.int .u32 l[i]) :=
  cell_of_cells h (by unfold uV; simp [hi])
theorem uV_set {w : World} {g : Nat} {l : List Int} {t : TypeId} (h : w.heap[g]? = some (.cells (uV l) t (0, 0))) (i : Nat) (x : Int) : (w.setCell ⟨g, i, none⟩ (.int .u32 x)).heap[g]? = some (.cells (uV (l.set i x)) t (0, 0)) := by
  rw [block_setCell h]
  congr 2
  unfold uV
  apply Array.ext_getElem?
  intro j
  simp [List.getElem?_set]
set_option maxHeartbeats 4000000 in
set_option maxRecDepth 20000 in
theorem dconst (w : World) : Calls Tryd.prog 94 #[] w fun e w' => e = .returned (.agg (uV kList)) ∧ Kp [] w w' := by
  go_enter Tryd.func94, Tryd.ntmps94
  go_wp2_with (first | (refine wpList_store_row rfl 129 (.tmp 0) (.tmp 1) rfl w.heap.size (uV kList) rfl rfl 129 _ (block_new _ _) (by rw [uV_len]; exact size64) rfl (uV_one _) ?_))
  rw [World.setRow_alloc_new]
  exact bodyPost_ret (results_cell_row rfl _ _ w.heap.size 129 (uV kList) (0, 0) _ (by kernel_rfl) (block_new _ _) under64 rfl (by rw [uV_len]; exact size64)) rfl ⟨rfl, (Kp.refl _ _).alloc _⟩
def beginL : List Int := [1779033703, 3144134277, 1013904242, 2773480762, 1359893119, 2600822924, 528734635, 1541459225]
set_option maxHeartbeats 4000000 in
set_option maxRecDepth 20000 in
theorem dbegin (w : World) : Calls Tryd.prog 74 #[] w fun e w' => e = .returned (.agg (uV beginL)) ∧ Kp [] w w' := by
  go_enter Tryd.func74, Tryd.ntmps74
  go_wp2_with (first | (refine wpList_store_row rfl 107 (.tmp 0) (.tmp 1) rfl w.heap.size (uV beginL) rfl rfl 107 _ (block_new _ _) (by rw [uV_len]; exact size8) rfl (uV_one _) ?_))
  rw [World.setRow_alloc_new]
  exact bodyPost_ret (results_cell_row rfl _ _ w.heap.size 107 (uV beginL) (0, 0) _ (by kernel_rfl) (block_new _ _) under8 rfl (by rw [uV_len]; exact size8)) rfl ⟨rfl, (Kp.refl _ _).alloc _⟩
end Go.Proofs.YtlomniffpjndfaaDoor
