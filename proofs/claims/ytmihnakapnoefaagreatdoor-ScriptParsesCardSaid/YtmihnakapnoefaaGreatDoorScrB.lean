/-
  A command's parts; a list's word, a part's.
-/
import Derived.Test.YtmihnakapnoefaaGreatDoorScrA
import Derived.Test.YtmihnakapnoefaaGreatDoorReqQ
import Derived.Test.YtmihnakapnoefaaGreatDoorReqN
namespace Go.Proofs.YtmihnakapnoefaaGreatDoor
open Go.RowKit Go.WideShapes

/-- a line's parts, but its word: which kind (0: a number, 1: a text, 2: a list), which cell -/
def partsK (act : Int) : List (Nat × Nat) :=
  if act = 1 then [(0, 4), (0, 5), (0, 6)] else if act = 2 then [(0, 4)] else if act = 3 then [(0, 4)] else if act = 4 then [(0, 5), (0, 4), (1, 7)]
  else if act = 5 then [(0, 5)] else if act = 6 then [(0, 5)] else if act = 7 then [(2, 8), (2, 9)] else []
def ptrV (b k j o : Nat) : Value := if k = j then .pointer (some ⟨b, o, none⟩) else .pointer none
def tri (b : Nat) (p : Nat × Nat) : List Value := [ptrV b p.1 0 p.2, ptrV b p.1 1 p.2, ptrV b p.1 2 p.2]
def nameA (act : Int) : List UInt8 := if 1 ≤ act ∧ act ≤ 7 then wordA act.toNat else []
/-- the parts of a command at block b, in a new block -/
def PartsAt (B : Nat) (W : World) (v : Value) (b : Nat) (ps : List (Nat × Nat)) : Prop :=
  ∃ a, v = .slice a ps.length ps.length ∧ (0 < ps.length → ∃ g, a = some ⟨g, 0, none⟩ ∧ B ≤ g ∧ W.heap[g]? = some (.cells (ps.flatMap (tri b)).toArray 54 (0, 0)))

theorem two_new (w : World) (o o' : Obj) : ((w.alloc o).alloc o').heap[w.heap.size + 1]? = some o' := by
  have := block_new (w.alloc o) o'
  rwa [World.size_alloc] at this
theorem cells3 {w : World} {b : Nat} {t : TypeId} {v0 v1 v2 : Value} (h : w.heap[b]? = some (.cells #[v0, v1, v2] t (0, 0))) :
    (∀ W, Kp [] w W → W.cell? ⟨b, 0, none⟩ = some v0) ∧ (∀ W, Kp [] w W → W.cell? ⟨b, 1, none⟩ = some v1) ∧ (∀ W, Kp [] w W → W.cell? ⟨b, 2, none⟩ = some v2) :=
  ⟨boxAt h (by simp) 0 _ rfl, boxAt h (by simp) 1 _ rfl, boxAt h (by simp) 2 _ rfl⟩
theorem parts_end {w W W' : World} {b n : Nat} {ps : List (Nat × Nat)} {cs : Array Value} (hk : w.heap.size ≤ W.heap.size) (hn : ps.length = n) (hc : (ps.flatMap (tri b)).toArray = cs) (hb : W'.heap[W.heap.size]? = some (.cells cs 54 (0, 0))) :
    PartsAt w.heap.size W' (.slice (some ⟨W.heap.size, 0, none⟩) n n) b ps :=
  ⟨some ⟨W.heap.size, 0, none⟩, by rw [hn], fun _ => ⟨W.heap.size, rfl, hk, by rw [hc]; exact hb⟩⟩
set_option maxHeartbeats 4000000 in
set_option maxRecDepth 20000 in
theorem parts_any (act : Int) (b : Nat) (w : World) (hc : w.cell? ⟨b, 0, none⟩ = some (.int .i64 act)) :
    Calls Tryz.prog 18 #[.pointer (some ⟨b, 0, none⟩)] w fun e w' => ∃ v, e = .returned (.tuple #[.string (SB (nameA act)), v]) ∧ PartsAt w.heap.size w' v b (partsK act) ∧ Kp [] w w' := by
  have c0 := Kp.cellAt (X := []) (w0 := w) hc (by simp)
  have hK := Kp.refl [] w
  have hlt := lt_of_cell hc
  go_enter Tryz.func18, Tryz.ntmps18
  go_wp2_with fail
  refine region_then (K' := fun a W => ∃ b4 b5 : Nat, a = ⟨#[.pointer (some ⟨b, 0, none⟩), undef, .string ⟨#[]⟩, .slice none 0 0, .pointer (some ⟨b4, 0, none⟩), .pointer (some ⟨b5, 0, none⟩), .pointer (some ⟨b, 0, none⟩), .pointer (some ⟨b, 0, none⟩), .pointer (some ⟨b, 4, none⟩), .agg #[.pointer (some ⟨b, 4, none⟩), .pointer none, .pointer none], .pointer (some ⟨b, 0, none⟩), .pointer (some ⟨b, 0, none⟩), .pointer (some ⟨b, 5, none⟩), .agg #[.pointer (some ⟨b, 5, none⟩), .pointer none, .pointer none], undef, undef, undef, undef, undef, undef, undef, undef, undef, undef, undef, undef, undef, undef, undef, undef, undef, undef, undef, undef, undef, undef, undef, undef, undef, undef, undef, undef, undef, undef, undef, undef, undef, undef, undef, undef, undef, undef, undef, undef, undef, undef, undef, undef, undef, undef, undef, undef, undef], []⟩ ∧ Kp [] w W ∧
    W.heap[b4]? = some (.cells #[.pointer (some ⟨b, 4, none⟩), .pointer none, .pointer none] 54 (0, 0)) ∧ W.heap[b5]? = some (.cells #[.pointer (some ⟨b, 5, none⟩), .pointer none, .pointer none] 54 (0, 0))) ?_ ?_
  · refine wpB_begin 999 (Kp [] w) (by kernel_rfl) (by first | exact hK.drew | exact Kp.drew (Kp.refl _ _)) (fun hHeld => ?_)
    refine wpB_take 0 _ ?_ rfl (by kernel_rfl) (fun _ _ _ h => h) rfl hHeld ?_ ?_
    rotate_left
    · (intro W hW; go_simp; try with_reducible rfl)
    try simp only [Act.put, List.setIfInBounds_toArray, List.set_cons_zero, List.set_cons_succ]
    refine wpB_take 1 _ ?_ rfl (by kernel_rfl) (fun _ _ _ h => h) rfl hHeld ?_ ?_
    rotate_left
    · (intro W hW; go_simp; try with_reducible rfl)
    try simp only [Act.put, List.setIfInBounds_toArray, List.set_cons_zero, List.set_cons_succ]
    refine wpB_take 2 _ ?_ rfl (by kernel_rfl) (fun _ _ _ h => h) rfl hHeld ?_ ?_
    rotate_left
    · (intro W hW; go_simp; try with_reducible rfl)
    try simp only [Act.put, List.setIfInBounds_toArray, List.set_cons_zero, List.set_cons_succ]
    refine wpB_take 3 _ ?_ rfl (by kernel_rfl) (fun _ _ _ h => h) rfl hHeld ?_ ?_
    rotate_left
    · (intro W hW; go_simp; try with_reducible rfl)
    try simp only [Act.put, List.setIfInBounds_toArray, List.set_cons_zero, List.set_cons_succ]
    refine wpB_take 4 _ ?_ rfl (by kernel_rfl) (fun _ _ _ h => h) rfl hHeld ?_ ?_
    rotate_left
    · (intro W hW; go_simp; try with_reducible rfl)
    try simp only [Act.put, List.setIfInBounds_toArray, List.set_cons_zero, List.set_cons_succ]
    refine wpB_take 5 _ ?_ rfl (by kernel_rfl) (fun _ _ _ h => h) rfl hHeld ?_ ?_
    rotate_left
    · (intro W hW; go_simp; try with_reducible rfl)
    try simp only [Act.put, List.setIfInBounds_toArray, List.set_cons_zero, List.set_cons_succ]
    refine wpB_take 6 _ ?_ rfl (by kernel_rfl) (fun _ _ _ h => h) rfl hHeld ?_ ?_
    rotate_left
    · (intro W hW; go_simp; try with_reducible rfl)
    try simp only [Act.put, List.setIfInBounds_toArray, List.set_cons_zero, List.set_cons_succ]
    refine wpB_take 7 _ ?_ rfl (by kernel_rfl) (fun _ _ _ h => h) rfl hHeld ?_ ?_
    rotate_left
    · (intro W hW; go_simp; try with_reducible rfl)
    try simp only [Act.put, List.setIfInBounds_toArray, List.set_cons_zero, List.set_cons_succ]
    refine wpB_fork 8 9 _ _ rfl rfl (by kernel_rfl) rfl rfl rfl (fun K hK_ => ?_) (fun K hK_ => ?_)
    · go_simp
      refine hK_.out _ _ (by first | exact hHeld | exact hHeld.call ‹_› | exact hHeld.alloc _) (fun hHeld => ?_)
      clear hK_ K
      try simp only [Act.put, List.setIfInBounds_toArray, List.set_cons_zero, List.set_cons_succ]
      refine wpB_step 9 _ rfl (by kernel_rfl) rfl rfl (fun K hK_ => ?_)
      go_simp
      refine hK_.out _ _ (by first | exact hHeld | exact hHeld.call ‹_› | exact hHeld.alloc _) (fun hHeld => ?_)
      clear hK_ K
      try simp only [Act.put, List.setIfInBounds_toArray, List.set_cons_zero, List.set_cons_succ]
      refine wpB_step 10 _ rfl (by kernel_rfl) rfl rfl (fun K hK_ => ?_)
      go_simp
      refine hK_.out _ _ (by first | exact (((Kp.refl _ _).alloc _).alloc _).drew | exact (((Kp.refl _ _).drew.alloc _).alloc _)) (fun hHeld => ?_)
      clear hK_ K
      try simp only [Act.put, List.setIfInBounds_toArray, List.set_cons_zero, List.set_cons_succ]
      refine wpB_step 11 _ rfl (by kernel_rfl) rfl rfl (fun K hK_ => ?_)
      go_simp
      refine hK_.out _ _ (by first | exact (((Kp.refl _ _).alloc _).alloc _).drew | exact (((Kp.refl _ _).drew.alloc _).alloc _)) (fun hHeld => ?_)
      clear hK_ K
      try simp only [Act.put, List.setIfInBounds_toArray, List.set_cons_zero, List.set_cons_succ]
      refine wpB_done (by kernel_rfl) ?_ _
      refine ⟨_, _, rfl, hHeld, ?_, ?_⟩
      · first | exact block_alloc (block_new _ _) _ | exact two_new _ _ _
      · first | exact block_alloc (block_new _ _) _ | exact two_new _ _ _
    · go_simp
      refine hK_.out _ _ (by first | exact hHeld | exact hHeld.call ‹_› | exact hHeld.alloc _) (fun hHeld => ?_)
      clear hK_ K
      try simp only [Act.put, List.setIfInBounds_toArray, List.set_cons_zero, List.set_cons_succ]
      refine wpB_step 8 _ rfl (by kernel_rfl) rfl rfl (fun K hK_ => ?_)
      go_simp
      refine hK_.out _ _ (by first | exact hHeld | exact hHeld.call ‹_› | exact hHeld.alloc _) (fun hHeld => ?_)
      clear hK_ K
      try simp only [Act.put, List.setIfInBounds_toArray, List.set_cons_zero, List.set_cons_succ]
      refine wpB_step 10 _ rfl (by kernel_rfl) rfl rfl (fun K hK_ => ?_)
      go_simp
      refine hK_.out _ _ (by first | exact (((Kp.refl _ _).alloc _).alloc _).drew | exact (((Kp.refl _ _).drew.alloc _).alloc _)) (fun hHeld => ?_)
      clear hK_ K
      try simp only [Act.put, List.setIfInBounds_toArray, List.set_cons_zero, List.set_cons_succ]
      refine wpB_step 11 _ rfl (by kernel_rfl) rfl rfl (fun K hK_ => ?_)
      go_simp
      refine hK_.out _ _ (by first | exact (((Kp.refl _ _).alloc _).alloc _).drew | exact (((Kp.refl _ _).drew.alloc _).alloc _)) (fun hHeld => ?_)
      clear hK_ K
      try simp only [Act.put, List.setIfInBounds_toArray, List.set_cons_zero, List.set_cons_succ]
      refine wpB_done (by kernel_rfl) ?_ _
      refine ⟨_, _, rfl, hHeld, ?_, ?_⟩
      · first | exact block_alloc (block_new _ _) _ | exact two_new _ _ _
      · first | exact block_alloc (block_new _ _) _ | exact two_new _ _ _
  · rintro a w1 ⟨b4, b5, rfl, hk1, h4, h5⟩
    dsimp only
    obtain ⟨p0, p1, p2⟩ := cells3 h4
    obtain ⟨q0, q1, q2⟩ := cells3 h5
    have d0 := Kp.cellAt (X := []) (w0 := w1) (c0 w1 hk1) (by simp)
    have hK1 := Kp.refl [] w1
    clear c0 hc hK h4 h5
    by_cases e1 : act = 1
    · subst e1
      have hn : nameA 1 = wordA 1 := by decide
      have HN := Lib.hid hn
      clear hn
      go_wp2_with fail
      refine wpB_begin 999 (Kp [] w1) (by kernel_rfl) (by first | exact hK.drew | exact Kp.drew (Kp.refl _ _)) (fun hHeld => ?_)
      refine wpB_take 0 _ ?_ rfl (by kernel_rfl) (fun _ _ _ h => h) rfl hHeld ?_ ?_
      rotate_left
      · (intro W hW; go_simp; try with_reducible rfl)
      try simp only [Act.put, List.setIfInBounds_toArray, List.set_cons_zero, List.set_cons_succ]
      refine wpB_take 1 _ ?_ rfl (by kernel_rfl) (fun _ _ _ h => h) rfl hHeld ?_ ?_
      rotate_left
      · (intro W hW; go_simp; try with_reducible rfl)
      try simp only [Act.put, List.setIfInBounds_toArray, List.set_cons_zero, List.set_cons_succ]
      refine wpB_take 2 _ ?_ rfl (by kernel_rfl) (fun _ _ _ h => h) rfl hHeld ?_ ?_
      rotate_left
      · (intro W hW; go_simp; try with_reducible rfl)
      try simp only [Act.put, List.setIfInBounds_toArray, List.set_cons_zero, List.set_cons_succ]
      refine wpB_take 3 _ ?_ rfl (by kernel_rfl) (fun _ _ _ h => h) rfl hHeld ?_ ?_
      rotate_left
      · (intro W hW; go_simp; try with_reducible rfl)
      try simp only [Act.put, List.setIfInBounds_toArray, List.set_cons_zero, List.set_cons_succ]
      refine wpB_take 4 _ ?_ rfl (by kernel_rfl) (fun _ _ _ h => h) rfl hHeld ?_ ?_
      rotate_left
      · (intro W hW; go_simp; try with_reducible rfl)
      try simp only [Act.put, List.setIfInBounds_toArray, List.set_cons_zero, List.set_cons_succ]
      refine wpB_take 5 _ ?_ rfl (by kernel_rfl) (fun _ _ _ h => h) rfl hHeld ?_ ?_
      rotate_left
      · (intro W hW; go_simp; try with_reducible rfl)
      try simp only [Act.put, List.setIfInBounds_toArray, List.set_cons_zero, List.set_cons_succ]
      refine wpB_take 7 _ ?_ rfl (by kernel_rfl) (fun _ _ _ h => h) rfl hHeld ?_ ?_
      rotate_left
      · (intro W hW; go_simp; try with_reducible rfl)
      try simp only [Act.put, List.setIfInBounds_toArray, List.set_cons_zero, List.set_cons_succ]
      refine wpB_step 6 _ rfl (by kernel_rfl) rfl rfl (fun K hK_ => ?_)
      go_simp
      refine hK_.out _ _ (by first | exact hHeld | exact hHeld.call ‹_› | exact hHeld.alloc _) (fun hHeld => ?_)
      clear hK_ K
      try simp only [Act.put, List.setIfInBounds_toArray, List.set_cons_zero, List.set_cons_succ]
      refine wpB_take 8 _ ?_ rfl (by kernel_rfl) (fun _ _ _ h => h) rfl hHeld ?_ ?_
      rotate_left
      · (intro W hW; go_simp; try with_reducible rfl)
      try simp only [Act.put, List.setIfInBounds_toArray, List.set_cons_zero, List.set_cons_succ]
      refine wpB_done (by kernel_rfl) ?_ _
      go_wp2_with fail
      go_ret2
      exact ⟨_, by rw [HN.out]; rfl, parts_end hk1.size rfl rfl (by first | exact block_new _ _), hk1.trans hHeld⟩
    by_cases e2 : act = 2
    · subst e2
      have hn : nameA 2 = wordA 2 := by decide
      have HN := Lib.hid hn
      clear hn
      go_wp2_with fail
      refine wpB_begin 999 (Kp [] w1) (by kernel_rfl) (by first | exact hK.drew | exact Kp.drew (Kp.refl _ _)) (fun hHeld => ?_)
      refine wpB_take 0 _ ?_ rfl (by kernel_rfl) (fun _ _ _ h => h) rfl hHeld ?_ ?_
      rotate_left
      · (intro W hW; go_simp; try with_reducible rfl)
      try simp only [Act.put, List.setIfInBounds_toArray, List.set_cons_zero, List.set_cons_succ]
      refine wpB_take 2 _ ?_ rfl (by kernel_rfl) (fun _ _ _ h => h) rfl hHeld ?_ ?_
      rotate_left
      · (intro W hW; go_simp; try with_reducible rfl)
      try simp only [Act.put, List.setIfInBounds_toArray, List.set_cons_zero, List.set_cons_succ]
      refine wpB_step 1 _ rfl (by kernel_rfl) rfl rfl (fun K hK_ => ?_)
      go_simp
      refine hK_.out _ _ (by first | exact hHeld | exact hHeld.call ‹_› | exact hHeld.alloc _) (fun hHeld => ?_)
      clear hK_ K
      try simp only [Act.put, List.setIfInBounds_toArray, List.set_cons_zero, List.set_cons_succ]
      refine wpB_take 3 _ ?_ rfl (by kernel_rfl) (fun _ _ _ h => h) rfl hHeld ?_ ?_
      rotate_left
      · (intro W hW; go_simp; try with_reducible rfl)
      try simp only [Act.put, List.setIfInBounds_toArray, List.set_cons_zero, List.set_cons_succ]
      refine wpB_done (by kernel_rfl) ?_ _
      go_wp2_with fail
      go_ret2
      exact ⟨_, by rw [HN.out]; rfl, parts_end hk1.size rfl rfl (by first | exact block_new _ _), hk1.trans hHeld⟩
    by_cases e3 : act = 3
    · subst e3
      have hn : nameA 3 = wordA 3 := by decide
      have HN := Lib.hid hn
      clear hn
      go_wp2_with fail
      refine wpB_begin 999 (Kp [] w1) (by kernel_rfl) (by first | exact hK.drew | exact Kp.drew (Kp.refl _ _)) (fun hHeld => ?_)
      refine wpB_take 0 _ ?_ rfl (by kernel_rfl) (fun _ _ _ h => h) rfl hHeld ?_ ?_
      rotate_left
      · (intro W hW; go_simp; try with_reducible rfl)
      try simp only [Act.put, List.setIfInBounds_toArray, List.set_cons_zero, List.set_cons_succ]
      refine wpB_take 2 _ ?_ rfl (by kernel_rfl) (fun _ _ _ h => h) rfl hHeld ?_ ?_
      rotate_left
      · (intro W hW; go_simp; try with_reducible rfl)
      try simp only [Act.put, List.setIfInBounds_toArray, List.set_cons_zero, List.set_cons_succ]
      refine wpB_step 1 _ rfl (by kernel_rfl) rfl rfl (fun K hK_ => ?_)
      go_simp
      refine hK_.out _ _ (by first | exact hHeld | exact hHeld.call ‹_› | exact hHeld.alloc _) (fun hHeld => ?_)
      clear hK_ K
      try simp only [Act.put, List.setIfInBounds_toArray, List.set_cons_zero, List.set_cons_succ]
      refine wpB_take 3 _ ?_ rfl (by kernel_rfl) (fun _ _ _ h => h) rfl hHeld ?_ ?_
      rotate_left
      · (intro W hW; go_simp; try with_reducible rfl)
      try simp only [Act.put, List.setIfInBounds_toArray, List.set_cons_zero, List.set_cons_succ]
      refine wpB_done (by kernel_rfl) ?_ _
      go_wp2_with fail
      go_ret2
      exact ⟨_, by rw [HN.out]; rfl, parts_end hk1.size rfl rfl (by first | exact block_new _ _), hk1.trans hHeld⟩
    by_cases e4 : act = 4
    · subst e4
      have hn : nameA 4 = wordA 4 := by decide
      have HN := Lib.hid hn
      clear hn
      go_wp2_with fail
      refine wpB_begin 999 (Kp [] w1) (by kernel_rfl) (by first | exact hK.drew | exact Kp.drew (Kp.refl _ _)) (fun hHeld => ?_)
      refine wpB_take 0 _ ?_ rfl (by kernel_rfl) (fun _ _ _ h => h) rfl hHeld ?_ ?_
      rotate_left
      · (intro W hW; go_simp; try with_reducible rfl)
      try simp only [Act.put, List.setIfInBounds_toArray, List.set_cons_zero, List.set_cons_succ]
      refine wpB_take 1 _ ?_ rfl (by kernel_rfl) (fun _ _ _ h => h) rfl hHeld ?_ ?_
      rotate_left
      · (intro W hW; go_simp; try with_reducible rfl)
      try simp only [Act.put, List.setIfInBounds_toArray, List.set_cons_zero, List.set_cons_succ]
      refine wpB_take 2 _ ?_ rfl (by kernel_rfl) (fun _ _ _ h => h) rfl hHeld ?_ ?_
      rotate_left
      · (intro W hW; go_simp; try with_reducible rfl)
      try simp only [Act.put, List.setIfInBounds_toArray, List.set_cons_zero, List.set_cons_succ]
      refine wpB_take 3 _ ?_ rfl (by kernel_rfl) (fun _ _ _ h => h) rfl hHeld ?_ ?_
      rotate_left
      · (intro W hW; go_simp; try with_reducible rfl)
      try simp only [Act.put, List.setIfInBounds_toArray, List.set_cons_zero, List.set_cons_succ]
      refine wpB_take 4 _ ?_ rfl (by kernel_rfl) (fun _ _ _ h => h) rfl hHeld ?_ ?_
      rotate_left
      · (intro W hW; go_simp; try with_reducible rfl)
      try simp only [Act.put, List.setIfInBounds_toArray, List.set_cons_zero, List.set_cons_succ]
      refine wpB_take 5 _ ?_ rfl (by kernel_rfl) (fun _ _ _ h => h) rfl hHeld ?_ ?_
      rotate_left
      · (intro W hW; go_simp; try with_reducible rfl)
      try simp only [Act.put, List.setIfInBounds_toArray, List.set_cons_zero, List.set_cons_succ]
      refine wpB_take 7 _ ?_ rfl (by kernel_rfl) (fun _ _ _ h => h) rfl hHeld ?_ ?_
      rotate_left
      · (intro W hW; go_simp; try with_reducible rfl)
      try simp only [Act.put, List.setIfInBounds_toArray, List.set_cons_zero, List.set_cons_succ]
      refine wpB_step 6 _ rfl (by kernel_rfl) rfl rfl (fun K hK_ => ?_)
      go_simp
      refine hK_.out _ _ (by first | exact hHeld | exact hHeld.call ‹_› | exact hHeld.alloc _) (fun hHeld => ?_)
      clear hK_ K
      try simp only [Act.put, List.setIfInBounds_toArray, List.set_cons_zero, List.set_cons_succ]
      refine wpB_take 8 _ ?_ rfl (by kernel_rfl) (fun _ _ _ h => h) rfl hHeld ?_ ?_
      rotate_left
      · (intro W hW; go_simp; try with_reducible rfl)
      try simp only [Act.put, List.setIfInBounds_toArray, List.set_cons_zero, List.set_cons_succ]
      refine wpB_done (by kernel_rfl) ?_ _
      go_wp2_with fail
      go_ret2
      exact ⟨_, by rw [HN.out]; rfl, parts_end hk1.size rfl rfl (by first | exact block_new _ _), hk1.trans hHeld⟩
    by_cases e5 : act = 5
    · subst e5
      have hn : nameA 5 = wordA 5 := by decide
      have HN := Lib.hid hn
      clear hn
      go_wp2_with fail
      refine wpB_begin 999 (Kp [] w1) (by kernel_rfl) (by first | exact hK.drew | exact Kp.drew (Kp.refl _ _)) (fun hHeld => ?_)
      refine wpB_take 0 _ ?_ rfl (by kernel_rfl) (fun _ _ _ h => h) rfl hHeld ?_ ?_
      rotate_left
      · (intro W hW; go_simp; try with_reducible rfl)
      try simp only [Act.put, List.setIfInBounds_toArray, List.set_cons_zero, List.set_cons_succ]
      refine wpB_take 2 _ ?_ rfl (by kernel_rfl) (fun _ _ _ h => h) rfl hHeld ?_ ?_
      rotate_left
      · (intro W hW; go_simp; try with_reducible rfl)
      try simp only [Act.put, List.setIfInBounds_toArray, List.set_cons_zero, List.set_cons_succ]
      refine wpB_step 1 _ rfl (by kernel_rfl) rfl rfl (fun K hK_ => ?_)
      go_simp
      refine hK_.out _ _ (by first | exact hHeld | exact hHeld.call ‹_› | exact hHeld.alloc _) (fun hHeld => ?_)
      clear hK_ K
      try simp only [Act.put, List.setIfInBounds_toArray, List.set_cons_zero, List.set_cons_succ]
      refine wpB_take 3 _ ?_ rfl (by kernel_rfl) (fun _ _ _ h => h) rfl hHeld ?_ ?_
      rotate_left
      · (intro W hW; go_simp; try with_reducible rfl)
      try simp only [Act.put, List.setIfInBounds_toArray, List.set_cons_zero, List.set_cons_succ]
      refine wpB_done (by kernel_rfl) ?_ _
      go_wp2_with fail
      go_ret2
      exact ⟨_, by rw [HN.out]; rfl, parts_end hk1.size rfl rfl (by first | exact block_new _ _), hk1.trans hHeld⟩
    by_cases e6 : act = 6
    · subst e6
      have hn : nameA 6 = wordA 6 := by decide
      have HN := Lib.hid hn
      clear hn
      go_wp2_with fail
      refine wpB_begin 999 (Kp [] w1) (by kernel_rfl) (by first | exact hK.drew | exact Kp.drew (Kp.refl _ _)) (fun hHeld => ?_)
      refine wpB_take 0 _ ?_ rfl (by kernel_rfl) (fun _ _ _ h => h) rfl hHeld ?_ ?_
      rotate_left
      · (intro W hW; go_simp; try with_reducible rfl)
      try simp only [Act.put, List.setIfInBounds_toArray, List.set_cons_zero, List.set_cons_succ]
      refine wpB_take 2 _ ?_ rfl (by kernel_rfl) (fun _ _ _ h => h) rfl hHeld ?_ ?_
      rotate_left
      · (intro W hW; go_simp; try with_reducible rfl)
      try simp only [Act.put, List.setIfInBounds_toArray, List.set_cons_zero, List.set_cons_succ]
      refine wpB_step 1 _ rfl (by kernel_rfl) rfl rfl (fun K hK_ => ?_)
      go_simp
      refine hK_.out _ _ (by first | exact hHeld | exact hHeld.call ‹_› | exact hHeld.alloc _) (fun hHeld => ?_)
      clear hK_ K
      try simp only [Act.put, List.setIfInBounds_toArray, List.set_cons_zero, List.set_cons_succ]
      refine wpB_take 3 _ ?_ rfl (by kernel_rfl) (fun _ _ _ h => h) rfl hHeld ?_ ?_
      rotate_left
      · (intro W hW; go_simp; try with_reducible rfl)
      try simp only [Act.put, List.setIfInBounds_toArray, List.set_cons_zero, List.set_cons_succ]
      refine wpB_done (by kernel_rfl) ?_ _
      go_wp2_with fail
      go_ret2
      exact ⟨_, by rw [HN.out]; rfl, parts_end hk1.size rfl rfl (by first | exact block_new _ _), hk1.trans hHeld⟩
    by_cases e7 : act = 7
    · subst e7
      have hn : nameA 7 = wordA 7 := by decide
      have HN := Lib.hid hn
      clear hn
      go_wp2_with fail
      refine wpB_begin 999 (Kp [] w1) (by kernel_rfl) (by first | exact hK.drew | exact Kp.drew (Kp.refl _ _)) (fun hHeld => ?_)
      refine wpB_take 0 _ ?_ rfl (by kernel_rfl) (fun _ _ _ h => h) rfl hHeld ?_ ?_
      rotate_left
      · (intro W hW; go_simp; try with_reducible rfl)
      try simp only [Act.put, List.setIfInBounds_toArray, List.set_cons_zero, List.set_cons_succ]
      refine wpB_take 1 _ ?_ rfl (by kernel_rfl) (fun _ _ _ h => h) rfl hHeld ?_ ?_
      rotate_left
      · (intro W hW; go_simp; try with_reducible rfl)
      try simp only [Act.put, List.setIfInBounds_toArray, List.set_cons_zero, List.set_cons_succ]
      refine wpB_take 2 _ ?_ rfl (by kernel_rfl) (fun _ _ _ h => h) rfl hHeld ?_ ?_
      rotate_left
      · (intro W hW; go_simp; try with_reducible rfl)
      try simp only [Act.put, List.setIfInBounds_toArray, List.set_cons_zero, List.set_cons_succ]
      refine wpB_take 3 _ ?_ rfl (by kernel_rfl) (fun _ _ _ h => h) rfl hHeld ?_ ?_
      rotate_left
      · (intro W hW; go_simp; try with_reducible rfl)
      try simp only [Act.put, List.setIfInBounds_toArray, List.set_cons_zero, List.set_cons_succ]
      refine wpB_take 4 _ ?_ rfl (by kernel_rfl) (fun _ _ _ h => h) rfl hHeld ?_ ?_
      rotate_left
      · (intro W hW; go_simp; try with_reducible rfl)
      try simp only [Act.put, List.setIfInBounds_toArray, List.set_cons_zero, List.set_cons_succ]
      refine wpB_take 5 _ ?_ rfl (by kernel_rfl) (fun _ _ _ h => h) rfl hHeld ?_ ?_
      rotate_left
      · (intro W hW; go_simp; try with_reducible rfl)
      try simp only [Act.put, List.setIfInBounds_toArray, List.set_cons_zero, List.set_cons_succ]
      refine wpB_take 6 _ ?_ rfl (by kernel_rfl) (fun _ _ _ h => h) rfl hHeld ?_ ?_
      rotate_left
      · (intro W hW; go_simp; try with_reducible rfl)
      try simp only [Act.put, List.setIfInBounds_toArray, List.set_cons_zero, List.set_cons_succ]
      refine wpB_take 7 _ ?_ rfl (by kernel_rfl) (fun _ _ _ h => h) rfl hHeld ?_ ?_
      rotate_left
      · (intro W hW; go_simp; try with_reducible rfl)
      try simp only [Act.put, List.setIfInBounds_toArray, List.set_cons_zero, List.set_cons_succ]
      refine wpB_take 9 _ ?_ rfl (by kernel_rfl) (fun _ _ _ h => h) rfl hHeld ?_ ?_
      rotate_left
      · (intro W hW; go_simp; try with_reducible rfl)
      try simp only [Act.put, List.setIfInBounds_toArray, List.set_cons_zero, List.set_cons_succ]
      refine wpB_step 8 _ rfl (by kernel_rfl) rfl rfl (fun K hK_ => ?_)
      go_simp
      refine hK_.out _ _ (by first | exact hHeld | exact hHeld.call ‹_› | exact hHeld.alloc _) (fun hHeld => ?_)
      clear hK_ K
      try simp only [Act.put, List.setIfInBounds_toArray, List.set_cons_zero, List.set_cons_succ]
      refine wpB_take 10 _ ?_ rfl (by kernel_rfl) (fun _ _ _ h => h) rfl hHeld ?_ ?_
      rotate_left
      · (intro W hW; go_simp; try with_reducible rfl)
      try simp only [Act.put, List.setIfInBounds_toArray, List.set_cons_zero, List.set_cons_succ]
      refine wpB_done (by kernel_rfl) ?_ _
      go_wp2_with fail
      go_ret2
      exact ⟨_, by rw [HN.out]; rfl, parts_end hk1.size rfl rfl (by first | exact block_new _ _), hk1.trans hHeld⟩
    have hn : nameA act = [] := by unfold nameA; rw [if_neg (by omega)]
    have hp : partsK act = [] := by unfold partsK; rw [if_neg e1, if_neg e2, if_neg e3, if_neg e4, if_neg e5, if_neg e6, if_neg e7]
    have HN := Lib.hid hn
    have HP := Lib.hid hp
    have f1 := int_ne e1
    have f2 := int_ne e2
    have f3 := int_ne e3
    have f4 := int_ne e4
    have f5 := int_ne e5
    have f6 := int_ne e6
    have f7 := int_ne e7
    clear hn hp e1 e2 e3 e4 e5 e6 e7
    go_wp2_with fail
    go_ret2
    exact ⟨_, by rw [HN.out]; rfl, by rw [HP.out]; exact ⟨none, rfl, fun h => absurd h (by decide)⟩, hk1⟩
def markB (b : Bool) : UInt8 := if b then 49 else 48
set_option maxHeartbeats 1000000 in
set_option maxRecDepth 20000 in
theorem slist (l : List Bool) (vl : Value) (B : Nat) (w : World) (hl : BoolsAt B w vl l) (hz : l.length ≤ 100000) : Calls Tryz.prog 45 #[vl] w fun e w' => e = .returned (.string (SB (l.map markB))) ∧ Kp [] w w' := by
  obtain ⟨al, cl, rfl⟩ := slice_ex hl
  obtain ⟨W1, hW1⟩ : ∃ W1, W1 = w.alloc (.cells #[.pointer none, .slice none 0 0] 81) := ⟨_, rfl⟩
  obtain ⟨b, hb⟩ : ∃ b, b = w.heap.size := ⟨_, rfl⟩
  have hb0 : Bld W1 b (.slice none 0 0) [] := by rw [hW1, hb]; exact bld_new w
  have k1 : Kp [] w W1 := by rw [hW1]; exact (Kp.refl _ _).alloc _
  have hs1 : W1.heap.size = b + 1 := by rw [hW1, hb]; simp
  go_enter Tryz.func45, Tryz.ntmps45
  go_wp2_with fail
  rw [← hW1, ← hb]
  have HB := Lib.hid hb
  have HS1 := Lib.hid hs1
  clear hW1 hb hs1
  go_wp2_with fail
  go_loopg [8] l.length (fun g i wr => ∃ (n : Nat) (v : Value), n + g = l.length ∧ i = .int .i64 n ∧ Bld wr b v ((l.take n).map markB) ∧ (∀ g, v.ownBlock = some g → b + 1 ≤ g) ∧ Kp [] w wr ∧ b + 1 ≤ wr.heap.size)
  case atStart => exact ⟨0, _, by omega, rfl, hb0, (fun g h => by cases h), k1, by rw [HS1.out]; omega⟩
  case round =>
    clear hb0 k1
    obtain ⟨n, v, hn, rfl, hB, hv, hK, hsz⟩ := hrel
    have HN := Lib.hid hn
    have HV := Lib.hid hv
    by_cases hlt : n < l.length
    · obtain ⟨g', rfl⟩ : ∃ g', gk = g' + 1 := ⟨gk - 1, by omega⟩
      clear hn hv
      have hltI : (n : Int) < (l.length : Int) := by omega
      obtain ⟨g, o, c, hv', e1⟩ := bool_at hl n hlt
      simp only [Value.slice.injEq] at hv'
      obtain ⟨rfl, -, rfl⟩ := hv'
      have d1 := (hK.cell (lt_of_cell e1) (by simp)).trans e1
      have hst : (l.take (n + 1)).map markB = (l.take n).map markB ++ [markB l[n]] := by rw [List.take_add_one, List.getElem?_eq_getElem hlt, List.map_append]; rfl
      obtain ⟨p, hp⟩ : ∃ p, p = l[n] := ⟨_, rfl⟩
      rw [← hp] at d1 hst
      have hlen : ((l.take n).map markB).length ≤ 1000000 := by rw [List.length_map]; have := List.length_take_le' n l; omega
      have HST := Lib.hid hst
      have HLEN := Lib.hid hlen
      clear e1 hst hp hlen
      cases p with
      | false =>
        go_wp2_with fail
        refine (wbyte b v _ 48 wr hB HLEN.out).mono ?_
        rintro e w3 ⟨v3, rfl, hW3⟩
        have hk3 := hW3.keep
        have hB3 := hW3.bld
        have hv3 : ∀ g, v3.ownBlock = some g → b + 1 ≤ g := fun g hg => by
          rcases hW3.grow g hg with h | h
          · exact HV.out g h
          · omega
        have hK3 : Kp [] w w3 := hK.step hk3 (fun i hi hm => by
          have h1 := HB.out
          simp only [List.mem_cons, Option.mem_toList] at hm
          rcases hm with hm | hm
          · omega
          · have := HV.out i hm; omega)
        have HV3 := Lib.hid hv3
        have hsz3 := Nat.le_trans hsz hk3.size
        clear hW3 hB hK hv3
        go_wp2_with fail
        go_roundg g'
        case rel =>
          have hn := HN.out
          exact ⟨n + 1, v3, by omega, by go_num, HST.out ▸ hB3, HV3.out, hK3, hsz3⟩
        case measure => omega
      | true =>
        go_wp2_with fail
        refine (wbyte b v _ 49 wr hB HLEN.out).mono ?_
        rintro e w3 ⟨v3, rfl, hW3⟩
        have hk3 := hW3.keep
        have hB3 := hW3.bld
        have hv3 : ∀ g, v3.ownBlock = some g → b + 1 ≤ g := fun g hg => by
          rcases hW3.grow g hg with h | h
          · exact HV.out g h
          · omega
        have hK3 : Kp [] w w3 := hK.step hk3 (fun i hi hm => by
          have h1 := HB.out
          simp only [List.mem_cons, Option.mem_toList] at hm
          rcases hm with hm | hm
          · omega
          · have := HV.out i hm; omega)
        have HV3 := Lib.hid hv3
        have hsz3 := Nat.le_trans hsz hk3.size
        clear hW3 hB hK hv3
        go_wp2_with fail
        go_roundg g'
        case rel =>
          have hn := HN.out
          exact ⟨n + 1, v3, by omega, by go_num, HST.out ▸ hB3, HV3.out, hK3, hsz3⟩
        case measure => omega
    · obtain rfl : n = l.length := by omega
      obtain rfl : gk = 0 := by omega
      clear hn hv
      rw [List.take_length] at hB
      have hbs := hB.is
      have hlt := hB.lt
      go_wp2_with fail
      refine (Tryz.Builder_String_any b b _ _ hbs (by omega)).mono ?_
      rintro e w3 ⟨rfl, h3⟩
      go_wp2_with fail
      go_ret
      exact ⟨rfl, hK.down h3 (by have := HB.out; omega)⟩
end Go.Proofs.YtmihnakapnoefaaGreatDoor
