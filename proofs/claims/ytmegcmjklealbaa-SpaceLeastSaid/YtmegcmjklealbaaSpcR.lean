/-
  What the document's space does, call by call: Is, Taken, Mark.
-/
import Derived.Test.YtmegcmjklealbaaSpcC
import Derived.Test.YtmegcmjklealbaaApp
namespace Go.Proofs.Ytmegcmjklealbaa
open Go.RowKit

/-- the document's space: the slots that are taken, in a list -/
structure RefAt (W : World) (k : Nat) (v : Value) (xs : List (Int × Int)) : Prop where
  cell : W.cell? ⟨k, 0, none⟩ = some v
  fr : W.frozen? ⟨k, 0, none⟩ = false
  own : W.ownsRow (k + 1) 31 2 v xs.length (Pairs xs)
theorem RefAt.keep {X : List Nat} {w w' : World} {k : Nat} {v : Value} {xs : List (Int × Int)} (h : RefAt w k v xs) (kp : Kp X w w') (hk : k ∉ X) (hg : ∀ g, v.ownBlock = some g → g ∉ X) : RefAt w' k v xs := by
  refine ⟨(kp.cell (lt_of_cell h.cell) hk).trans h.cell, (kp.frozen (lt_of_cell h.cell) hk).trans h.fr, ?_⟩
  exact ownsRow_prefix h.own (m := xs.length * 2) (Prefix.of_kp kp hg) (Nat.le_refl _)
theorem RefAt.keep0 {w w' : World} {k : Nat} {v : Value} {xs : List (Int × Int)} (h : RefAt w k v xs) (kp : Kp [] w w') : RefAt w' k v xs := h.keep kp (by simp) (fun _ _ => by simp)
theorem RefAt.lt {w : World} {k : Nat} {v : Value} {xs : List (Int × Int)} (h : RefAt w k v xs) : k < w.heap.size := lt_of_cell h.cell
theorem own_lt {w : World} {base : Nat} {e : TypeId} {sz n : Nat} {v : Value} {cs : List Value} (h : w.ownsRow base e sz v n cs) : ∀ g, v.ownBlock = some g → g < w.heap.size := by
  obtain ⟨hl, ⟨hv, hn⟩ | ⟨g, cap, cur, hv, hg, hb', hc, hm, hs, ht⟩⟩ := h
  · intro k hk; rw [hv] at hk; cases hk
  · intro k hk; rw [hv] at hk
    obtain rfl : g = k := by simpa [Value.ownBlock] using hk
    exact lt_of_block hb'
/-- element i of an owned list of places -/
theorem own_at {w : World} {base : Nat} {e : TypeId} {v : Value} {xs : List (Int × Int)} (h : w.ownsRow base e 2 v xs.length (Pairs xs)) (i : Nat) (hi : i < xs.length) :
    ∃ g c, v = .slice (some ⟨g, 0, none⟩) xs.length c ∧ w.cell? ⟨g, i * 2, none⟩ = some (.int .i64 xs[i].1) ∧ w.cell? ⟨g, i * 2 + 1, none⟩ = some (.int .i64 xs[i].2) := by
  have hp : ∀ (l : List (Int × Int)) (i : Nat) (hi : i < l.length), (Pairs l)[i * 2]? = some (.int .i64 l[i].1) ∧ (Pairs l)[i * 2 + 1]? = some (.int .i64 l[i].2) := by
    intro l
    induction l with
    | nil => intro i hi; simp at hi
    | cons p l ih =>
      intro i hi
      cases i with
      | zero => simp [Pairs]
      | succ i =>
        have := ih i (by simpa using hi)
        simp only [Pairs, List.flatMap_cons] at this ⊢
        rw [show (i + 1) * 2 = i * 2 + 2 from by omega, List.getElem?_append_right (by simp), List.getElem?_append_right (by simp)]
        simpa [show i * 2 + 2 + 1 - 2 = i * 2 + 1 from by omega] using this
  obtain ⟨hl, ⟨hv, hn⟩ | ⟨g, cap, cur, hv, hg, hb', hc, hm, hs, ht⟩⟩ := h
  · omega
  · have hc : ∀ (j : Nat) (u : Value), (Pairs xs)[j]? = some u → w.cell? ⟨g, j, none⟩ = some u := by
      intro j u hu
      refine cell_of_cells hb' ?_
      rw [← Array.getElem?_toList]
      rw [← ht, List.getElem?_take] at hu
      split at hu
      · exact hu
      · cases hu
    exact ⟨g, cap, hv, hc _ _ (hp xs i hi).1, hc _ _ (hp xs i hi).2⟩

theorem eq_pair (p q : Int × Int) (W : World) : (if p.1 = q.1 then if p.2 = q.2 then Result.ok (Next.value (Value.bool true)) W else Result.ok (Next.value (Value.bool false)) W
    else Result.ok (Next.value (Value.bool false)) W) = Result.ok (Next.value (Value.bool (p == q))) W := by
  obtain ⟨a, b⟩ := p
  obtain ⟨c, d⟩ := q
  by_cases h1 : a = c
  · by_cases h2 : b = d
    · subst h1 h2; simp
    · rw [if_pos h1, if_neg h2]
      have : ((a, b) == (c, d)) = false := by simp [h2]
      rw [this]
  · rw [if_neg h1]
    have : ((a, b) == (c, d)) = false := by simp [h1]
    rw [this]
theorem ne_pair (p q : Int × Int) (W : World) : (if p.1 = q.1 then if p.2 = q.2 then Result.ok (Next.value (Value.bool false)) W else Result.ok (Next.value (Value.bool true)) W
    else Result.ok (Next.value (Value.bool true)) W) = Result.ok (Next.value (Value.bool (p != q))) W := by
  obtain ⟨a, b⟩ := p
  obtain ⟨c, d⟩ := q
  by_cases h1 : a = c
  · by_cases h2 : b = d
    · subst h1 h2; simp
    · rw [if_pos h1, if_neg h2]
      have : ((a, b) != (c, d)) = true := by simp [h2]
      rw [this]
  · rw [if_neg h1]
    have : ((a, b) != (c, d)) = true := by simp [h1]
    rw [this]
theorem take_contains_snoc (xs : List (Int × Int)) (n : Nat) (h : n < xs.length) (q : Int × Int) : (xs.take (n + 1)).contains q = ((xs.take n).contains q || (xs[n] == q)) := by
  rw [List.take_succ_eq_append_getElem h]
  rw [Bool.eq_iff_iff, Bool.or_eq_true, List.contains_iff_mem, List.contains_iff_mem, List.mem_append, List.mem_singleton, beq_iff_eq]
  exact or_congr Iff.rfl eq_comm

theorem ris_any (d s : Int) (w : World) :
    Calls Try.prog 20 #[.agg #[.int .i64 d, .int .i64 s]] w fun e w' => e = .returned (.bool (IsB d s)) ∧ Kp [] w w' := by
  by_cases h1 : 0 ≤ d
  · by_cases h2 : d < 12
    · by_cases h3 : 0 ≤ s
      · have e : IsB d s = decide (s < 48) := by simp [IsB, *]
        rw [e]; clear e
        go_enter Try.func20, Try.ntmps20
        go_wp2
        go_ret
        exact ⟨rfl, (Kp.refl _ _).alloc _⟩
      · have e : IsB d s = false := by simp [IsB, *]
        rw [e]; clear e
        have h3' : s < 0 := by omega
        go_enter Try.func20, Try.ntmps20
        go_wp2
        go_ret
        exact ⟨rfl, (Kp.refl _ _).alloc _⟩
    · have e : IsB d s = false := by simp [IsB, *]
      rw [e]; clear e
      go_enter Try.func20, Try.ntmps20
      go_wp2
      go_ret
      exact ⟨rfl, (Kp.refl _ _).alloc _⟩
  · have e : IsB d s = false := by simp [IsB, *]
    rw [e]; clear e
    go_enter Try.func20, Try.ntmps20
    go_wp2
    go_ret
    exact ⟨rfl, (Kp.refl _ _).alloc _⟩

set_option maxHeartbeats 400000 in
theorem rtaken_any (k : Nat) (v : Value) (xs : List (Int × Int)) (d s : Int) (w : World) (hr : RefAt w k v xs) (hlen : xs.length ≤ 6000) :
    Calls Try.prog 15 #[.pointer (some ⟨k, 0, none⟩), .agg #[.int .i64 d, .int .i64 s]] w fun e w' => e = .returned (.bool (xs.contains (d, s))) ∧ Kp [] w w' := by
  obtain ⟨av, cv, rfl⟩ := ownsRow_ex hr.own
  go_enter Try.func15, Try.ntmps15
  obtain ⟨w0, hw0⟩ : ∃ w0, w0 = (w.alloc (Obj.cells #[Value.int IntKind.i64 d, Value.int IntKind.i64 s] 31)) := ⟨_, rfl⟩
  have kw0 : Kp [] w w0 := hw0 ▸ (Kp.refl _ _).alloc _
  have hr0 := hr.keep0 kw0
  have c1 := Kp.cellAt (X := []) hr0.cell (by simp)
  have c2 := Kp.cellAt (X := []) (w0 := w0) (p := ⟨w.heap.size, 0, none⟩) (v := .int .i64 d) (by rw [hw0]; exact cell_of_cells (block_new _ _) rfl) (by simp)
  have c3 := Kp.cellAt (X := []) (w0 := w0) (p := ⟨w.heap.size, 1, none⟩) (v := .int .i64 s) (by rw [hw0]; exact cell_of_cells (block_new _ _) rfl) (by simp)
  have Hw0 := Lib.hid hw0
  clear hw0
  go_wp2_with fail
  rw [← Hw0.out]
  go_loopg [5] xs.length (fun g i wr => ∃ n : Nat, n + g = xs.length ∧ i = .int .i64 n ∧ Kp [] w0 wr ∧ (xs.take n).contains (d, s) = false)
  case atStart => exact ⟨0, by omega, rfl, Kp.refl _ _, by simp⟩
  case round =>
    obtain ⟨n, hn, rfl, hK, hnot⟩ := hrel
    have HN := Lib.hid hn
    have HNOT := Lib.hid hnot
    clear hnot
    by_cases hlt : n < xs.length
    · obtain ⟨g', rfl⟩ : ∃ g', gk = g' + 1 := ⟨gk - 1, by omega⟩
      clear hn
      have hltI : (n : Int) < (xs.length : Int) := by omega
      obtain ⟨g, c, hv, e1, e2⟩ := own_at hr0.own n hlt
      simp only [Value.slice.injEq] at hv
      obtain ⟨rfl, -, rfl⟩ := hv
      have d1 := Kp.cellAt (X := []) e1 (by simp)
      have d2 := Kp.cellAt (X := []) e2 (by simp)
      clear e1 e2
      go_wp2_with fail
      refine wpB_begin 999 (Kp [] w0) (by kernel_rfl) (by first | exact hK.drew | exact Kp.drew (Kp.refl _ _)) (fun hHeld => ?_)
      refine wpB_take 0 _ ?_ rfl (by kernel_rfl) (fun _ _ _ h => h) rfl hHeld ?_ ?_
      rotate_left
      · (intro W hW; go_simp; try with_reducible rfl)
      try simp only [Act.put, List.setIfInBounds_toArray, List.set_cons_zero, List.set_cons_succ]
      refine wpB_take 1 _ ?_ rfl (by kernel_rfl) (fun _ _ _ h => h) rfl hHeld ?_ ?_
      rotate_left
      · (intro W hW; go_simp; try with_reducible rfl)
      try simp only [Act.put, List.setIfInBounds_toArray, List.set_cons_zero, List.set_cons_succ]
      refine wpB_take 2 _ ?_ rfl (by kernel_rfl) (fun _ _ _ h => h) rfl hHeld ?_ ?_
      rotate_left
      · (intro W hW; go_simp; try with_reducible rfl)
      try simp only [Act.put, List.setIfInBounds_toArray, List.set_cons_zero, List.set_cons_succ]
      refine wpB_take 3 _ ?_ rfl (by kernel_rfl) (fun _ _ _ h => h) rfl hHeld ?_ ?_
      rotate_left
      · (intro W hW; go_simp; try with_reducible rfl)
      try simp only [Act.put, List.setIfInBounds_toArray, List.set_cons_zero, List.set_cons_succ]
      refine wpB_take 4 _ ?_ rfl (by kernel_rfl) (fun _ _ _ h => h) rfl hHeld ?_ ?_
      rotate_left
      · (intro W hW; go_simp; try with_reducible rfl)
      try simp only [Act.put, List.setIfInBounds_toArray, List.set_cons_zero, List.set_cons_succ]
      refine wpB_take 5 _ ?_ rfl (by kernel_rfl) (fun _ _ _ h => h) rfl hHeld ?_ ?_
      rotate_left
      · (intro W hW; go_simp; try with_reducible rfl)
      try simp only [Act.put, List.setIfInBounds_toArray, List.set_cons_zero, List.set_cons_succ]
      refine wpB_take 6 _ ?_ rfl (by kernel_rfl) (fun _ _ _ h => h) rfl hHeld ?_ ?_
      rotate_left
      · (intro W hW; go_simp; try with_reducible rfl)
      try simp only [Act.put, List.setIfInBounds_toArray, List.set_cons_zero, List.set_cons_succ]
      refine wpB_take 7 _ ?_ rfl (by kernel_rfl) (fun _ _ _ h => h) rfl hHeld ?_ ?_
      rotate_left
      · (intro W hW; go_simp; try with_reducible rfl)
      try simp only [Act.put, List.setIfInBounds_toArray, List.set_cons_zero, List.set_cons_succ]
      refine wpB_take 8 _ ?_ rfl (by kernel_rfl) (fun _ _ _ h => h) rfl hHeld ?_ ?_
      rotate_left
      · (intro W hW; go_simp; exact eq_pair _ (d, s) _)
      try simp only [Act.put, List.setIfInBounds_toArray, List.set_cons_zero, List.set_cons_succ]
      refine wpB_done (by kernel_rfl) ?_ _
      have hts := take_contains_snoc xs n hlt (d, s)
      have HTS := Lib.hid hts
      clear hts
      obtain ⟨bq, hbq⟩ : ∃ bq, bq = (xs[n] == (d, s)) := ⟨_, rfl⟩
      rw [← hbq]
      have HBQ := Lib.hid hbq
      clear hbq
      cases bq with
      | false =>
        go_wp2_with fail
        go_roundg g'
        case rel =>
          have hn := HN.out
          refine ⟨n + 1, by omega, by go_num, hHeld, ?_⟩
          rw [HTS.out, HNOT.out, ← HBQ.out]; rfl
        case measure => omega
      | true =>
        go_wp2_with fail
        go_ret
        refine ⟨?_, kw0.trans hHeld⟩
        have h1 : (xs.take (n + 1)).contains (d, s) = true := by rw [HTS.out, ← HBQ.out]; simp
        have h2 : xs.contains (d, s) = true := by
          rw [List.contains_iff_mem] at h1 ⊢
          exact List.mem_of_mem_take h1
        rw [h2]; rfl
    · obtain rfl : n = xs.length := by omega
      obtain rfl : gk = 0 := by omega
      clear hn
      go_wp2_with fail
      go_ret
      refine ⟨?_, kw0.trans hK⟩
      have h1 := HNOT.out
      rw [List.take_length] at h1
      rw [h1]; rfl

def rmarkE (xs : List (Int × Int)) (d s : Int) : Int := if IsB d s then (if xs.contains (d, s) then 13 else 0) else 1
def rmarkL (xs : List (Int × Int)) (d s : Int) : List (Int × Int) := if IsB d s then (if xs.contains (d, s) then xs else xs ++ [(d, s)]) else xs

/-- what a call that adds to the list leaves -/
structure RefGo (w w' : World) (k : Nat) (v v' : Value) (n : Nat) : Prop where
  keep : Kp (k :: v.ownBlock.toList) w w'
  pre : Prefix v.ownBlock (n * 2) w w'
  grow : ∀ g, v'.ownBlock = some g → v.ownBlock = some g ∨ w.heap.size ≤ g
theorem RefGo.of_kp {w w' : World} {k : Nat} {v : Value} {n : Nat} (h : Kp [] w w') : RefGo w w' k v v n :=
  ⟨h.weaken (fun _ _ h => by cases h), Prefix.of_kp h (fun _ _ => by simp), fun _ hg => .inl hg⟩

/-- the store of what append has handed back into the field -/
theorem refAt_store {W w3 : World} {k : Nat} {v v' : Value} {xs ys : List (Int × Int)} (h : RefAt W k v xs) (hown : w3.ownsRow (k + 1) 31 2 v' ys.length (Pairs ys)) (kp : Kp v.ownBlock.toList W w3) :
    RefAt (w3.setCell ⟨k, 0, none⟩ v') k v' ys := by
  have hge := own_block_ge h.own
  have hx : k ∉ v.ownBlock.toList := fun hm => by
    simp only [Option.mem_toList, Option.mem_def] at hm
    have := hge _ hm; omega
  have c3 := (kp.cell (p := ⟨k, 0, none⟩) (lt_of_cell h.cell) hx).trans h.cell
  have f3 := (kp.frozen (p := ⟨k, 0, none⟩) (lt_of_cell h.cell) hx).trans h.fr
  refine ⟨World.cell?_setCell_same _ _ _ c3, by rw [World.frozen?_setCell]; exact f3, ownsRow_keep (X := [k]) hown ((Kp.refl _ _).setCell (.inl (by simp)) _) (fun i hi => by simp; omega)⟩

set_option maxHeartbeats 400000 in
theorem rmark_new (k : Nat) (v : Value) (xs : List (Int × Int)) (d s : Int) (w : World) (hr : RefAt w k v xs) (hlen : xs.length ≤ 6000) (hI : IsB d s = true) (hnot : xs.contains (d, s) = false) :
    Calls Try.prog 23 #[.pointer (some ⟨k, 0, none⟩), .agg #[.int .i64 d, .int .i64 s]] w fun e w' => ∃ v' : Value, e = .returned (.int .i64 0) ∧ RefAt w' k v' (xs ++ [(d, s)]) ∧ RefGo w w' k v v' xs.length := by
  have HI := Lib.hid hI
  have HNOT := Lib.hid hnot
  clear hI hnot
  have hlt := hr.lt
  have hlt2 := own_lt hr.own
  go_enter Try.func23, Try.ntmps23
  obtain ⟨w0, hw0⟩ : ∃ w0, w0 = (w.alloc (Obj.cells #[Value.int IntKind.i64 d, Value.int IntKind.i64 s] 31)) := ⟨_, rfl⟩
  have kw0 : Kp [] w w0 := hw0 ▸ (Kp.refl _ _).alloc _
  have c2 := Kp.cellAt (X := []) (w0 := w0) (p := ⟨w.heap.size, 0, none⟩) (v := .int .i64 d) (by rw [hw0]; exact cell_of_cells (block_new _ _) rfl) (by simp)
  have c3 := Kp.cellAt (X := []) (w0 := w0) (p := ⟨w.heap.size, 1, none⟩) (v := .int .i64 s) (by rw [hw0]; exact cell_of_cells (block_new _ _) rfl) (by simp)
  have Hw0 := Lib.hid hw0
  clear hw0
  go_wp2_with fail
  rw [← Hw0.out]
  have hK := Kp.refl [] w0
  go_wp2_with fail
  refine (ris_any _ _ _).mono ?_
  rintro e w1 ⟨rfl, h1⟩
  rw [HI.out]
  go_wp2_with fail
  refine (rtaken_any k v xs _ _ _ ((hr.keep0 kw0).keep0 h1) hlen).mono ?_
  rintro e w2 ⟨rfl, h2⟩
  rw [HNOT.out]
  have hr2 := ((hr.keep0 kw0).keep0 h1).keep0 h2
  have hK := h1.trans h2
  have kw2 := kw0.trans hK
  have hsz2 := hK.size
  have hge := own_block_ge hr.own
  obtain ⟨av, cv, rfl⟩ := ownsRow_ex hr2.own
  obtain ⟨X, hX⟩ : ∃ X, X = (Value.slice av xs.length cv).ownBlock.toList := ⟨_, rfl⟩
  have hXk : k ∉ X := fun hm => by
    rw [hX] at hm; simp only [Option.mem_toList, Option.mem_def] at hm
    have := hge _ hm; omega
  have hXn : w.heap.size ∉ X := fun hm => by
    rw [hX] at hm; simp only [Option.mem_toList, Option.mem_def] at hm
    have := hlt2 _ hm; omega
  have e1 := Kp.cellAt (X := X) hr2.cell hXk
  have e1f := Kp.frozenAt (X := X) hr2.cell hr2.fr hXk
  have e2 := Kp.cellAt (X := X) (c2 _ hK) hXn
  have e3 := Kp.cellAt (X := X) (c3 _ hK) hXn
  clear c2 c3
  have HX := Lib.hid hX
  clear hX hXk hXn
  obtain ⟨i0, hi, hz0, hz1, hz2⟩ := info_parts Try.info31
  have HR2 := Lib.hid hr2
  have HE := Lib.hid hge
  have HL2 := Lib.hid hlt2
  clear hr2 hr hge hlt2
  have hk2 := HR2.out.lt
  go_wp2_with fail
  have hK := Kp.refl X w2
  refine wpB_begin 10 (Kp X w2) (by kernel_rfl) (by first | exact hK.drew | exact Kp.drew (Kp.refl _ _)) (fun hHeld => ?_)
  refine wpB_take 0 _ ?_ rfl (by kernel_rfl) (fun _ _ _ h => h) rfl hHeld ?_ ?_
  rotate_left
  · (intro W hW; go_simp; try with_reducible rfl)
  try simp only [Act.put, List.setIfInBounds_toArray, List.set_cons_zero, List.set_cons_succ]
  refine wpB_take 1 _ ?_ rfl (by kernel_rfl) (fun _ _ _ h => h) rfl hHeld ?_ ?_
  rotate_left
  · (intro W hW; go_simp; try with_reducible rfl)
  try simp only [Act.put, List.setIfInBounds_toArray, List.set_cons_zero, List.set_cons_succ]
  refine wpB_take 2 _ ?_ rfl (by kernel_rfl) (fun _ _ _ h => h) rfl hHeld ?_ ?_
  rotate_left
  · (intro W hW; go_simp; try with_reducible rfl)
  try simp only [Act.put, List.setIfInBounds_toArray, List.set_cons_zero, List.set_cons_succ]
  refine wpB_take 3 _ ?_ rfl (by kernel_rfl) (fun _ _ _ h => h) rfl hHeld ?_ ?_
  rotate_left
  · (intro W hW; go_simp; try with_reducible rfl)
  try simp only [Act.put, List.setIfInBounds_toArray, List.set_cons_zero, List.set_cons_succ]
  refine wpB_take 4 _ ?_ rfl (by kernel_rfl) (fun _ _ _ h => h) rfl hHeld ?_ ?_
  rotate_left
  · (intro W hW; go_simp; try with_reducible rfl)
  try simp only [Act.put, List.setIfInBounds_toArray, List.set_cons_zero, List.set_cons_succ]
  refine wpB_take 5 _ ?_ rfl (by kernel_rfl) (fun _ _ _ h => h) rfl hHeld ?_ ?_
  rotate_left
  · (intro W hW; go_simp; try with_reducible rfl)
  try simp only [Act.put, List.setIfInBounds_toArray, List.set_cons_zero, List.set_cons_succ]
  refine wpB_step 6 _ rfl (by kernel_rfl) rfl rfl (fun K hK_ => ?_)
  go_simp
  refine hK_.out _ _ (by first | exact hHeld | exact hHeld.call ‹_› | exact hHeld.alloc _) (fun hHeld => ?_)
  clear hK_ K
  try simp only [Act.put, List.setIfInBounds_toArray, List.set_cons_zero, List.set_cons_succ]
  refine wpB_step 7 _ rfl (by kernel_rfl) rfl rfl (fun K hK_ => ?_)
  refine wp_append_mine _ (.tmp 15) (.tmp 17) 27 rfl (k + 1) 31 i0 (.agg #[.int .i64 0, .int .i64 0]) 2 16 Try.underlying27 hi hz0 hz1 hz2 rfl (by decide) (.slice av xs.length cv) xs.length (Pairs xs) rfl (ownsRow_keep (X := []) HR2.out.own ((Kp.refl _ w2).drew.alloc _) (fun _ _ => by simp)) ⟨w2.heap.size, 0, none⟩ 1 1 [.int .i64 d, .int .i64 s] rfl rfl (new_cells w2.drew _ _) (one_cells2 rfl rfl) (by unfold maxLen; omega) (by omega) (by simp; omega) ?_
  intro v' w3 hown' hkp hpre hgrow
  obtain ⟨av', cv', rfl⟩ := ownsRow_ex hown'
  refine hK_.out _ _ (by exact hHeld.trans (HX.out ▸ hkp)) (fun hHeld => ?_)
  clear hK_ K
  try simp only [Act.put, List.setIfInBounds_toArray, List.set_cons_zero, List.set_cons_succ]
  refine wpB_take 8 _ ?_ rfl (by kernel_rfl) (fun _ _ _ h => h) rfl hHeld ?_ ?_
  rotate_left
  · (intro W hW; go_simp; try with_reducible rfl)
  try simp only [Act.put, List.setIfInBounds_toArray, List.set_cons_zero, List.set_cons_succ]
  refine wpB_take 9 _ ?_ rfl (by kernel_rfl) (fun _ _ _ h => h) rfl hHeld ?_ ?_
  rotate_left
  · (intro W hW; go_simp; try with_reducible rfl)
  try simp only [Act.put, List.setIfInBounds_toArray, List.set_cons_zero, List.set_cons_succ]
  refine wpB_bar (Kp (k :: X) w2) 999 _ rfl (by kernel_rfl) rfl (fun K hK_ => ?_)
  go_simp
  refine hK_.out _ _ (by exact (hHeld.weaken (fun _ _ h => List.mem_cons_of_mem _ h)).setCell (.inl (by simp)) _) (fun hHeld => ?_)
  clear hK_ K
  try simp only [Act.put, List.setIfInBounds_toArray, List.set_cons_zero, List.set_cons_succ]
  refine wpB_done (by kernel_rfl) ?_ _
  have HO := Lib.hid hown'
  have HG := Lib.hid hgrow
  clear hown' hgrow
  go_wp2_with fail
  go_ret
  have hkp' : Kp (Value.slice av xs.length cv).ownBlock.toList w2 w3 := ((Kp.refl _ w2).drew.alloc _).trans hkp
  have hk3 : k ∉ (Value.slice av xs.length cv).ownBlock.toList := fun hm => by
    simp only [Option.mem_toList, Option.mem_def] at hm
    have := HE.out _ hm; omega
  refine ⟨_, rfl, refAt_store HR2.out (ys := xs ++ [(d, s)]) ?_ hkp', ?_, ?_, ?_⟩
  · have e1 : (xs ++ [(d, s)]).length = xs.length + 1 := by simp
    have e2 : Pairs (xs ++ [(d, s)]) = Pairs xs ++ [.int .i64 d, .int .i64 s] := by simp [Pairs]
    rw [e1, e2]; exact HO.out
  · refine ((kw2.weaken (fun _ _ h => by cases h)).trans (hkp'.weaken (fun _ _ h => List.mem_cons_of_mem _ h))).setCell (.inl (by simp)) _
  · have q1 : Prefix (Value.slice av xs.length cv).ownBlock (xs.length * 2) w (w2.drew.alloc (.cells #[.int .i64 d, .int .i64 s] 31)) :=
      Prefix.of_kp ((kw2.drew).alloc _) (fun _ _ => by simp)
    have q2 : Prefix (Value.slice av xs.length cv).ownBlock (xs.length * 2) w3 (w3.setCell ⟨k, 0, none⟩ (.slice av' (xs.length + 1) cv')) :=
      Prefix.of_kp (X := [k]) ((Kp.refl _ w3).setCell (.inl (by simp)) _) (fun b hb => by
        have := HE.out b hb
        simp; omega)
    exact (q1.trans hpre).trans q2
  · intro g hg
    rcases HG.out g hg with h | h
    · exact .inl h
    · refine .inr (Nat.le_trans ?_ h)
      have := kw2.size
      simp; omega
theorem RefGo.done {w w' : World} {k : Nat} {v : Value} {xs : List (Int × Int)} (h : Kp [] w w') (hr : RefAt w k v xs) : RefAt w' k v xs ∧ RefGo w w' k v v xs.length := ⟨hr.keep0 h, RefGo.of_kp h⟩

theorem rmark_any (k : Nat) (v : Value) (xs : List (Int × Int)) (d s : Int) (w : World) (hr : RefAt w k v xs) (hlen : xs.length ≤ 6000) :
    Calls Try.prog 23 #[.pointer (some ⟨k, 0, none⟩), .agg #[.int .i64 d, .int .i64 s]] w fun e w' => ∃ v' : Value, e = .returned (.int .i64 (rmarkE xs d s)) ∧ RefAt w' k v' (rmarkL xs d s) ∧ RefGo w w' k v v' xs.length := by
  cases hI : IsB d s with
  | false =>
    have e1 : rmarkE xs d s = 1 := by simp [rmarkE, hI]
    have e2 : rmarkL xs d s = xs := by simp [rmarkL, hI]
    rw [e1, e2]
    have HI := Lib.hid hI
    clear e1 e2 hI
    go_enter Try.func23, Try.ntmps23
    obtain ⟨w0, hw0⟩ : ∃ w0, w0 = (w.alloc (Obj.cells #[Value.int IntKind.i64 d, Value.int IntKind.i64 s] 31)) := ⟨_, rfl⟩
    have kw0 : Kp [] w w0 := hw0 ▸ (Kp.refl _ _).alloc _
    have c2 := Kp.cellAt (X := []) (w0 := w0) (p := ⟨w.heap.size, 0, none⟩) (v := .int .i64 d) (by rw [hw0]; exact cell_of_cells (block_new _ _) rfl) (by simp)
    have c3 := Kp.cellAt (X := []) (w0 := w0) (p := ⟨w.heap.size, 1, none⟩) (v := .int .i64 s) (by rw [hw0]; exact cell_of_cells (block_new _ _) rfl) (by simp)
    have Hw0 := Lib.hid hw0
    clear hw0
    go_wp2_with fail
    rw [← Hw0.out]
    have hK := Kp.refl [] w0
    go_wp2_with fail
    refine (ris_any _ _ _).mono ?_
    rintro e w1 ⟨rfl, h1⟩
    rw [HI.out]
    go_wp2_with fail
    go_ret
    exact ⟨v, rfl, RefGo.done (kw0.trans h1) hr⟩
  | true =>
    cases hc : xs.contains (d, s) with
    | false =>
      refine (rmark_new k v xs d s w hr hlen hI hc).mono ?_
      rintro e w' ⟨v', rfl, h1, h2⟩
      have e1 : rmarkE xs d s = 0 := by simp only [rmarkE, hI, hc, if_true, if_false, Bool.false_eq_true]
      have e2 : rmarkL xs d s = xs ++ [(d, s)] := by simp only [rmarkL, hI, hc, if_true, if_false, Bool.false_eq_true]
      rw [e1, e2]
      exact ⟨v', rfl, h1, h2⟩
    | true =>
      have e1 : rmarkE xs d s = 13 := by simp only [rmarkE, hI, hc, if_true]
      have e2 : rmarkL xs d s = xs := by simp only [rmarkL, hI, hc, if_true]
      rw [e1, e2]
      have HI := Lib.hid hI
      have HC := Lib.hid hc
      clear e1 e2 hI hc
      go_enter Try.func23, Try.ntmps23
      obtain ⟨w0, hw0⟩ : ∃ w0, w0 = (w.alloc (Obj.cells #[Value.int IntKind.i64 d, Value.int IntKind.i64 s] 31)) := ⟨_, rfl⟩
      have kw0 : Kp [] w w0 := hw0 ▸ (Kp.refl _ _).alloc _
      have c2 := Kp.cellAt (X := []) (w0 := w0) (p := ⟨w.heap.size, 0, none⟩) (v := .int .i64 d) (by rw [hw0]; exact cell_of_cells (block_new _ _) rfl) (by simp)
      have c3 := Kp.cellAt (X := []) (w0 := w0) (p := ⟨w.heap.size, 1, none⟩) (v := .int .i64 s) (by rw [hw0]; exact cell_of_cells (block_new _ _) rfl) (by simp)
      have Hw0 := Lib.hid hw0
      clear hw0
      go_wp2_with fail
      rw [← Hw0.out]
      have hK := Kp.refl [] w0
      go_wp2_with fail
      refine (ris_any _ _ _).mono ?_
      rintro e w1 ⟨rfl, h1⟩
      rw [HI.out]
      go_wp2_with fail
      refine (rtaken_any k v xs _ _ _ ((hr.keep0 kw0).keep0 h1) hlen).mono ?_
      rintro e w2 ⟨rfl, h2⟩
      rw [HC.out]
      go_wp2_with fail
      go_ret
      exact ⟨v, rfl, RefGo.done ((kw0.trans h1).trans h2) hr⟩
end Go.Proofs.Ytmegcmjklealbaa
