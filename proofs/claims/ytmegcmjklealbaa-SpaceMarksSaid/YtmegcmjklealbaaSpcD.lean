/-
  A call on a space, and on the document's: what both do.
-/
import Derived.Test.YtmegcmjklealbaaSpcL
namespace Go.Proofs.Ytmegcmjklealbaa
open Go.RowKit

structure OpD where
  dO : Int
  d : Int
  s : Int
  ds : List Int
def doF (f : Int → Int → Bool) (o : OpD) : Int → Int → Bool :=
  if o.dO = 0 then takeF f o.d else if o.dO = 1 then markF f o.d o.s else if o.dO = 2 then giveF f o.d o.s else if o.dO = 3 then (allGo f f o.ds []).2.2 else f
def doL (xs : List (Int × Int)) (o : OpD) : List (Int × Int) :=
  if o.dO = 0 then rtakeL xs o.d else if o.dO = 1 then rmarkL xs o.d o.s else if o.dO = 2 then rgiveL xs o.d o.s else if o.dO = 3 then (rallGo xs xs o.ds []).2.2 else xs
def doQ (f : Int → Int → Bool) (xs : List (Int × Int)) (o : OpD) : Bool :=
  if o.dO = 0 then ((takeR f o.d).1 == (rtakeR xs o.d).1 && (takeR f o.d).2 == (rtakeR xs o.d).2) else if o.dO = 1 then markE f o.d o.s == rmarkE xs o.d o.s else if o.dO = 2 then giveE f o.d o.s == rgiveE xs o.d o.s
  else if o.dO = 3 then (decide ((allGo f f o.ds []).1 = (rallGo xs xs o.ds []).1) && (allGo f f o.ds []).2.1 == (rallGo xs xs o.ds []).2.1) else true

theorem rmarkL_le (xs : List (Int × Int)) (d s : Int) : (rmarkL xs d s).length ≤ xs.length + 1 := by
  unfold rmarkL; split
  · split <;> simp
  · simp
theorem rgiveL_le (xs : List (Int × Int)) (d s : Int) : (rgiveL xs d s).length ≤ xs.length := by
  unfold rgiveL; split
  · exact List.length_filter_le _ _
  · exact Nat.le_refl _
theorem rallGo_le (xs0 : List (Int × Int)) : ∀ (ds : List Int) (xs acc : List (Int × Int)) (m : Nat), xs.length + ds.length ≤ m → xs0.length ≤ m → (rallGo xs0 xs ds acc).2.2.length ≤ m
  | [], xs, acc, m, h, _ => by simpa [rallGo] using h
  | d :: ds, xs, acc, m, h, h0 => by
    simp only [rallGo]
    split
    · exact rallGo_le xs0 ds _ _ m (by have := (rtakeL_le xs d).2; simp only [List.length_cons] at h; omega) h0
    · exact h0
theorem doL_le (xs : List (Int × Int)) (o : OpD) (h : o.ds.length ≤ 60) : (doL xs o).length ≤ xs.length + 60 := by
  unfold doL
  split
  · have := (rtakeL_le xs o.d).2; omega
  · split
    · have := rmarkL_le xs o.d o.s; omega
    · split
      · have := rgiveL_le xs o.d o.s; omega
      · split
        · exact rallGo_le xs o.ds xs [] _ (by omega) (by omega)
        · omega

theorem allGo_len (f0 : Int → Int → Bool) : ∀ (ds : List Int) (f : Int → Int → Bool) (acc : List (Int × Int)), (allGo f0 f ds acc).1.length ≤ acc.length + ds.length
  | [], f, acc => by simp [allGo]
  | d :: ds, f, acc => by
    simp only [allGo]
    split
    · have := allGo_len f0 ds (takeF f d) (acc ++ [(d, (takeR f d).1)])
      simp only [List.length_append, List.length_cons, List.length_nil] at this ⊢; omega
    · simp
theorem rallGo_len (x0 : List (Int × Int)) : ∀ (ds : List Int) (xs : List (Int × Int)) (acc : List (Int × Int)), (rallGo x0 xs ds acc).1.length ≤ acc.length + ds.length
  | [], xs, acc => by simp [rallGo]
  | d :: ds, xs, acc => by
    simp only [rallGo]
    split
    · have := rallGo_len x0 ds (rtakeL xs d) (acc ++ [(d, (rtakeR xs d).1)])
      simp only [List.length_append, List.length_cons, List.length_nil] at this ⊢; omega
    · simp
/-- what a law's step leaves of the two spaces -/
structure Both (w w' : World) (b k : Nat) (v v' : Value) (f : Int → Int → Bool) (xs : List (Int × Int)) : Prop where
  sp : SpaceAt w' b f
  rf : RefAt w' k v' xs
  keep : Kp (b :: k :: v.ownBlock.toList) w w'
  grow : ∀ g, v'.ownBlock = some g → v.ownBlock = some g ∨ w.heap.size ≤ g

def DoesPost (w : World) (b k : Nat) (v : Value) (f : Int → Int → Bool) (xs : List (Int × Int)) (q : Bool) (e : Ending) (w' : World) : Prop :=
  ∃ v', e = .returned (.bool q) ∧ Both w w' b k v v' f xs

set_option maxHeartbeats 1000000 in
theorem does_any (b k : Nat) (f : Int → Int → Bool) (v : Value) (xs : List (Int × Int)) (o : OpD) (l : Value) (B : Nat) (w : World) (hsp : SpaceAt w b f) (hr : RefAt w k v xs) (hbk : b < k) (hl : SliceAt B w l 1 o.ds.length (o.ds.map (Value.int .i64)))
    (hB : B ≤ b) (hds : o.ds.length ≤ 60) (hlen : xs.length ≤ 5900) :
    Calls Try.prog 11 #[.pointer (some ⟨b, 0, none⟩), .pointer (some ⟨k, 0, none⟩), .agg #[.int .i64 o.dO, .int .i64 o.d, .int .i64 o.s, l]] w (DoesPost w b k v (doF f o) (doL xs o) (doQ f xs o)) := by
  obtain ⟨dO, d, s, ds⟩ := o
  simp only at hl hds ⊢
  obtain ⟨al, cl, rfl⟩ := slice_ex hl
  have hlt := hr.lt
  have hown := own_block_ge hr.own
  have hownlt := own_lt hr.own
  have HOW := Lib.hid (And.intro hown hownlt)
  clear hown hownlt
  have HB0 : b ∉ k :: v.ownBlock.toList := fun hm => by
    simp only [List.mem_cons, Option.mem_toList, Option.mem_def] at hm
    rcases hm with hm | hm
    · omega
    · have := HOW.out.1 _ hm; omega
  have HB := Lib.hid HB0
  clear HB0
  by_cases h0 : dO = 0
  · subst h0
    have eF : doF f ⟨0, d, s, ds⟩ = takeF f d := rfl
    have eL : doL xs ⟨0, d, s, ds⟩ = rtakeL xs d := rfl
    have eQ : doQ f xs ⟨0, d, s, ds⟩ = ((takeR f d).1 == (rtakeR xs d).1 && (takeR f d).2 == (rtakeR xs d).2) := rfl
    rw [eF, eL, eQ]
    clear eF eL eQ
    go_enter Try.func11, Try.ntmps11
    go_wp2_with fail
    refine (take_any b f d _ (hsp.keep ((Kp.refl [] _).alloc _) (by simp))).mono ?_
    rintro e w1 ⟨rfl, k1, s1⟩
    have kw1 : Kp [b] w w1 := ((Kp.refl _ w).alloc _).trans k1
    have c1 : w1.cell? ⟨w.heap.size, 1, none⟩ = some (.int .i64 d) := (k1.cell (by simp) (by simp; omega)).trans (cell_of_cells (block_new _ _) rfl)
    have hr1 := hr.keep kw1 (by simp; omega) (fun g hg => by have := HOW.out.1 g hg; simp; omega)
    have HK := Lib.hid kw1
    obtain ⟨r1, r2, hrr⟩ : ∃ r1 r2, takeR f d = (r1, r2) := ⟨_, _, rfl⟩
    have HR := Lib.hid hrr
    rw [hrr]
    clear hrr k1 kw1
    go_wp2_with fail
    refine (rtake_any k v xs _ _ hr1 (by omega)).mono ?_
    rintro e w2 ⟨v', rfl, hr2, hg2⟩
    obtain ⟨t1, t2, htt⟩ : ∃ t1 t2, rtakeR xs d = (t1, t2) := ⟨_, _, rfl⟩
    have HT := Lib.hid htt
    rw [htt]
    clear htt
    have hs2 := s1.keep hg2.keep HB.out
    have hB : Both w w2 b k v v' (takeF f d) (rtakeL xs d) := ⟨hs2, hr2, by
      refine (HK.out.weaken (Y := b :: k :: v.ownBlock.toList) (fun _ _ h => by simp at h; simp [h])).step hg2.keep (fun i _ hm => List.mem_cons_of_mem _ hm), fun g hg => by
      rcases hg2.grow g hg with h | h
      · exact .inl h
      · exact .inr (Nat.le_trans HK.out.size h)⟩
    have HBO := Lib.hid hB
    clear hr2 hg2 hr1 hs2 hB
    cases q1 : (r1 == t1) with
    | true =>
      go_wp2_with fail
      go_ret
      refine ⟨v', ?_, HBO.out⟩
      rw [HR.out, HT.out]
      show _ = Ending.returned (.bool ((r1 == t1) && (r2 == t2)))
      rw [q1]; rfl
    | false =>
      go_wp2_with fail
      go_ret
      refine ⟨v', ?_, HBO.out⟩
      rw [HR.out, HT.out]
      show _ = Ending.returned (.bool ((r1 == t1) && (r2 == t2)))
      rw [q1]; rfl
  · by_cases h1 : dO = 1
    · subst h1
      clear h0
      have eF : doF f ⟨1, d, s, ds⟩ = markF f d s := rfl
      have eL : doL xs ⟨1, d, s, ds⟩ = rmarkL xs d s := rfl
      have eQ : doQ f xs ⟨1, d, s, ds⟩ = (markE f d s == rmarkE xs d s) := rfl
      rw [eF, eL, eQ]
      clear eF eL eQ
      go_enter Try.func11, Try.ntmps11
      obtain ⟨w0, hw0⟩ : ∃ w0, w0 = (w.alloc (Obj.cells #[.int .i64 1, .int .i64 d, .int .i64 s, .slice al ds.length cl] 34)) := ⟨_, rfl⟩
      have kw0 : Kp [] w w0 := hw0 ▸ (Kp.refl _ _).alloc _
      have b1 : w0.cell? ⟨w.heap.size, 1, none⟩ = some (.int .i64 d) := by rw [hw0]; exact cell_of_cells (block_new _ _) rfl
      have b2 : w0.cell? ⟨w.heap.size, 2, none⟩ = some (.int .i64 s) := by rw [hw0]; exact cell_of_cells (block_new _ _) rfl
      obtain ⟨X, hX⟩ : ∃ X, X = b :: k :: v.ownBlock.toList := ⟨_, rfl⟩
      have hXw : w.heap.size ∉ X := fun hm => by
        rw [hX] at hm
        simp only [List.mem_cons, Option.mem_toList, Option.mem_def] at hm
        rcases hm with hm | hm | hm
        · omega
        · omega
        · have := HOW.out.2 _ hm; omega
      have c1 := Kp.cellAt (X := X) b1 hXw
      have c2 := Kp.cellAt (X := X) b2 hXw
      have HX := Lib.hid hX
      have Hw0 := Lib.hid hw0
      clear hw0 hX hXw b1 b2
      go_wp2_with fail
      rw [← Hw0.out]
      have hK := Kp.refl X w0
      refine wpB_begin 999 (Kp X w0) (by kernel_rfl) (by first | exact hK.drew | exact Kp.drew (Kp.refl _ _)) (fun hHeld => ?_)
      refine wpB_take 0 _ ?_ rfl (by kernel_rfl) (fun _ _ _ h => h) rfl hHeld ?_ ?_
      rotate_left
      · (intro W hW; go_simp; try with_reducible rfl)
      try simp only [Act.put, List.setIfInBounds_toArray, List.set_cons_zero, List.set_cons_succ]
      refine wpB_take 1 _ ?_ rfl (by kernel_rfl) (fun _ _ _ h => h) rfl hHeld ?_ ?_
      rotate_left
      · (intro W hW; go_simp; try with_reducible rfl)
      try simp only [Act.put, List.setIfInBounds_toArray, List.set_cons_zero, List.set_cons_succ]
      refine wpB_take 2 _ ?_ rfl (by kernel_rfl) (fun _ _ _ h => h) rfl hHeld ?_ ?_
      rotate_left
      · (intro W hW; go_simp; try with_reducible rfl)
      try simp only [Act.put, List.setIfInBounds_toArray, List.set_cons_zero, List.set_cons_succ]
      refine wpB_take 4 _ ?_ rfl (by kernel_rfl) (fun _ _ _ h => h) rfl hHeld ?_ ?_
      rotate_left
      · (intro W hW; go_simp; try with_reducible rfl)
      try simp only [Act.put, List.setIfInBounds_toArray, List.set_cons_zero, List.set_cons_succ]
      refine wpB_take 5 _ ?_ rfl (by kernel_rfl) (fun _ _ _ h => h) rfl hHeld ?_ ?_
      rotate_left
      · (intro W hW; go_simp; try with_reducible rfl)
      try simp only [Act.put, List.setIfInBounds_toArray, List.set_cons_zero, List.set_cons_succ]
      refine wpB_take 6 _ ?_ rfl (by kernel_rfl) (fun _ _ _ h => h) rfl hHeld ?_ ?_
      rotate_left
      · (intro W hW; go_simp; try with_reducible rfl)
      try simp only [Act.put, List.setIfInBounds_toArray, List.set_cons_zero, List.set_cons_succ]
      refine wpB_step 3 _ rfl (by kernel_rfl) rfl rfl (fun K hK_ => ?_)
      go_simp
      refine (mark_any b f d s _ (hsp.keep kw0.drew (by simp))).mono ?_
      rintro e w1 ⟨rfl, k1, s1⟩
      refine hK_.out _ _ (by exact hHeld.step k1 (fun i _ hm => by rw [HX.out]; simp at hm; simp [hm])) (fun hHeld => ?_)
      clear hK_ K
      try simp only [Act.put, List.setIfInBounds_toArray, List.set_cons_zero, List.set_cons_succ]
      refine wpB_step 7 _ rfl (by kernel_rfl) rfl rfl (fun K hK_ => ?_)
      go_simp
      refine (rmark_any k v xs d s _ ((hr.keep kw0.drew (by simp) (fun _ _ => by simp)).keep k1 (by simp; omega) (fun g hg => by have := HOW.out.1 g hg; simp; omega)) (by omega)).mono ?_
      rintro e w2 ⟨v', rfl, hr2, hg2⟩
      refine hK_.out _ _ (by exact hHeld.step hg2.keep (fun i _ hm => by rw [HX.out]; exact List.mem_cons_of_mem _ hm)) (fun hHeld => ?_)
      clear hK_ K
      try simp only [Act.put, List.setIfInBounds_toArray, List.set_cons_zero, List.set_cons_succ]
      refine wpB_take 8 _ ?_ rfl (by kernel_rfl) (fun _ _ _ h => h) rfl hHeld ?_ ?_
      rotate_left
      · (intro W hW; go_simp; try with_reducible rfl)
      try simp only [Act.put, List.setIfInBounds_toArray, List.set_cons_zero, List.set_cons_succ]
      refine wpB_take 9 _ ?_ rfl (by kernel_rfl) (fun _ _ _ h => h) rfl hHeld ?_ ?_
      rotate_left
      · (intro W hW; go_simp; try with_reducible rfl)
      try simp only [Act.put, List.setIfInBounds_toArray, List.set_cons_zero, List.set_cons_succ]
      refine wpB_done (by kernel_rfl) ?_ _
      have hs2 := s1.keep hg2.keep HB.out
      have hB : Both w w2 b k v v' (markF f d s) (rmarkL xs d s) := ⟨hs2, hr2, by
        rw [← HX.out]; exact (kw0.weaken (fun _ _ h => by cases h)).trans hHeld, fun g hg => by
        rcases hg2.grow g hg with h | h
        · exact .inl h
        · refine .inr (Nat.le_trans ?_ h)
          exact Nat.le_trans kw0.size k1.size⟩
      have HBO := Lib.hid hB
      clear hr2 hg2 hs2 hB
      go_wp2_with fail
      go_ret
      exact ⟨v', rfl, HBO.out⟩
    · by_cases h2 : dO = 2
      · subst h2
        clear h0 h1
        have eF : doF f ⟨2, d, s, ds⟩ = giveF f d s := rfl
        have eL : doL xs ⟨2, d, s, ds⟩ = rgiveL xs d s := rfl
        have eQ : doQ f xs ⟨2, d, s, ds⟩ = (giveE f d s == rgiveE xs d s) := rfl
        rw [eF, eL, eQ]
        clear eF eL eQ
        go_enter Try.func11, Try.ntmps11
        obtain ⟨w0, hw0⟩ : ∃ w0, w0 = (w.alloc (Obj.cells #[.int .i64 2, .int .i64 d, .int .i64 s, .slice al ds.length cl] 34)) := ⟨_, rfl⟩
        have kw0 : Kp [] w w0 := hw0 ▸ (Kp.refl _ _).alloc _
        have b1 : w0.cell? ⟨w.heap.size, 1, none⟩ = some (.int .i64 d) := by rw [hw0]; exact cell_of_cells (block_new _ _) rfl
        have b2 : w0.cell? ⟨w.heap.size, 2, none⟩ = some (.int .i64 s) := by rw [hw0]; exact cell_of_cells (block_new _ _) rfl
        obtain ⟨X, hX⟩ : ∃ X, X = b :: k :: v.ownBlock.toList := ⟨_, rfl⟩
        have hXw : w.heap.size ∉ X := fun hm => by
          rw [hX] at hm
          simp only [List.mem_cons, Option.mem_toList, Option.mem_def] at hm
          rcases hm with hm | hm | hm
          · omega
          · omega
          · have := HOW.out.2 _ hm; omega
        have c1 := Kp.cellAt (X := X) b1 hXw
        have c2 := Kp.cellAt (X := X) b2 hXw
        have HX := Lib.hid hX
        have Hw0 := Lib.hid hw0
        clear hw0 hX hXw b1 b2
        go_wp2_with fail
        rw [← Hw0.out]
        have hK := Kp.refl X w0
        refine wpB_begin 999 (Kp X w0) (by kernel_rfl) (by first | exact hK.drew | exact Kp.drew (Kp.refl _ _)) (fun hHeld => ?_)
        refine wpB_take 0 _ ?_ rfl (by kernel_rfl) (fun _ _ _ h => h) rfl hHeld ?_ ?_
        rotate_left
        · (intro W hW; go_simp; try with_reducible rfl)
        try simp only [Act.put, List.setIfInBounds_toArray, List.set_cons_zero, List.set_cons_succ]
        refine wpB_take 1 _ ?_ rfl (by kernel_rfl) (fun _ _ _ h => h) rfl hHeld ?_ ?_
        rotate_left
        · (intro W hW; go_simp; try with_reducible rfl)
        try simp only [Act.put, List.setIfInBounds_toArray, List.set_cons_zero, List.set_cons_succ]
        refine wpB_take 2 _ ?_ rfl (by kernel_rfl) (fun _ _ _ h => h) rfl hHeld ?_ ?_
        rotate_left
        · (intro W hW; go_simp; try with_reducible rfl)
        try simp only [Act.put, List.setIfInBounds_toArray, List.set_cons_zero, List.set_cons_succ]
        refine wpB_take 4 _ ?_ rfl (by kernel_rfl) (fun _ _ _ h => h) rfl hHeld ?_ ?_
        rotate_left
        · (intro W hW; go_simp; try with_reducible rfl)
        try simp only [Act.put, List.setIfInBounds_toArray, List.set_cons_zero, List.set_cons_succ]
        refine wpB_take 5 _ ?_ rfl (by kernel_rfl) (fun _ _ _ h => h) rfl hHeld ?_ ?_
        rotate_left
        · (intro W hW; go_simp; try with_reducible rfl)
        try simp only [Act.put, List.setIfInBounds_toArray, List.set_cons_zero, List.set_cons_succ]
        refine wpB_take 6 _ ?_ rfl (by kernel_rfl) (fun _ _ _ h => h) rfl hHeld ?_ ?_
        rotate_left
        · (intro W hW; go_simp; try with_reducible rfl)
        try simp only [Act.put, List.setIfInBounds_toArray, List.set_cons_zero, List.set_cons_succ]
        refine wpB_step 3 _ rfl (by kernel_rfl) rfl rfl (fun K hK_ => ?_)
        go_simp
        refine (give_any b f d s _ (hsp.keep kw0.drew (by simp))).mono ?_
        rintro e w1 ⟨rfl, k1, s1⟩
        refine hK_.out _ _ (by exact hHeld.step k1 (fun i _ hm => by rw [HX.out]; simp at hm; simp [hm])) (fun hHeld => ?_)
        clear hK_ K
        try simp only [Act.put, List.setIfInBounds_toArray, List.set_cons_zero, List.set_cons_succ]
        refine wpB_step 7 _ rfl (by kernel_rfl) rfl rfl (fun K hK_ => ?_)
        go_simp
        refine (rgive_any k v xs d s _ ((hr.keep kw0.drew (by simp) (fun _ _ => by simp)).keep k1 (by simp; omega) (fun g hg => by have := HOW.out.1 g hg; simp; omega)) (by omega)).mono ?_
        rintro e w2 ⟨v', rfl, hr2, hg2, hg3⟩
        refine hK_.out _ _ (by exact hHeld.step hg2 (fun i _ hm => by rw [HX.out]; simp at hm; simp [hm])) (fun hHeld => ?_)
        clear hK_ K
        try simp only [Act.put, List.setIfInBounds_toArray, List.set_cons_zero, List.set_cons_succ]
        refine wpB_take 8 _ ?_ rfl (by kernel_rfl) (fun _ _ _ h => h) rfl hHeld ?_ ?_
        rotate_left
        · (intro W hW; go_simp; try with_reducible rfl)
        try simp only [Act.put, List.setIfInBounds_toArray, List.set_cons_zero, List.set_cons_succ]
        refine wpB_take 9 _ ?_ rfl (by kernel_rfl) (fun _ _ _ h => h) rfl hHeld ?_ ?_
        rotate_left
        · (intro W hW; go_simp; try with_reducible rfl)
        try simp only [Act.put, List.setIfInBounds_toArray, List.set_cons_zero, List.set_cons_succ]
        refine wpB_done (by kernel_rfl) ?_ _
        have hs2 := s1.keep hg2 (by simp; omega)
        have hB : Both w w2 b k v v' (giveF f d s) (rgiveL xs d s) := ⟨hs2, hr2, by
          rw [← HX.out]; exact (kw0.weaken (fun _ _ h => by cases h)).trans hHeld, fun g hg => by
          rcases hg3 g hg with h | h
          · exact .inl h
          · refine .inr (Nat.le_trans ?_ h)
            exact Nat.le_trans kw0.size k1.size⟩
        have HBO := Lib.hid hB
        clear hr2 hg2 hs2 hB hg3
        go_wp2_with fail
        go_ret
        exact ⟨v', rfl, HBO.out⟩
      · by_cases h3 : dO = 3
        · subst h3
          clear h0 h1 h2
          have eF : doF f ⟨3, d, s, ds⟩ = (allGo f f ds []).2.2 := rfl
          have eL : doL xs ⟨3, d, s, ds⟩ = (rallGo xs xs ds []).2.2 := rfl
          have eQ : doQ f xs ⟨3, d, s, ds⟩ = (decide ((allGo f f ds []).1 = (rallGo xs xs ds []).1) && (allGo f f ds []).2.1 == (rallGo xs xs ds []).2.1) := rfl
          rw [eF, eL, eQ]
          clear eF eL eQ
          go_enter Try.func11, Try.ntmps11
          have hsepb : 0 < ds.length → ∀ b1 o c, Value.slice al ds.length cl = .slice (some ⟨b1, o, none⟩) ds.length c → b1 < b := fun hn b1 o c e => by
            obtain ⟨b2, o2, hv, -, hb2, -⟩ := hl.cells hn
            simp only [Value.slice.injEq] at e
            rw [e.1] at hv
            simp only [Option.some.injEq, Addr.mk.injEq] at hv
            omega
          have HS := Lib.hid hsepb
          clear hsepb
          go_wp2_with fail
          refine (all_any b f _ ds _ (hsp.keep ((Kp.refl [] _).alloc _) (by simp)) B (hl.keep0 ((Kp.refl _ _).alloc _)) (fun hn b1 o c e => by have := HS.out hn b1 o c e; omega) hds).mono ?_
          rintro e w1 ⟨u1, rfl, k1, s1, o1⟩
          have kw1 : Kp [b] w w1 := ((Kp.refl _ w).alloc _).trans k1
          have c1 : w1.cell? ⟨w.heap.size, 3, none⟩ = some (.slice al ds.length cl) := (k1.cell (by simp) (by simp; omega)).trans (cell_of_cells (block_new _ _) rfl)
          have hr1 := hr.keep kw1 (by simp; omega) (fun g hg => by have := HOW.out.1 g hg; simp; omega)
          have HK := Lib.hid kw1
          have hl1 := hl.keep kw1 (fun i hi => by simp at hi; omega)
          have hz1 := kw1.size
          have hz2 : w.heap.size + 1 ≤ w1.heap.size := by have := k1.size; simp at this; omega
          obtain ⟨ra, ea, fa, hrr⟩ : ∃ ra ea fa, allGo f f ds [] = (ra, ea, fa) := ⟨_, _, _, rfl⟩
          have HR := Lib.hid hrr
          rw [hrr] at s1 o1 ⊢
          simp only at s1 o1 ⊢
          obtain ⟨au, cu, rfl⟩ := ownsRow_ex o1
          have o1' := ownsRow_base o1 (base' := w.heap.size + 1) (by simp)
          have HO1 := Lib.hid o1'
          have HS1 := Lib.hid s1
          clear hrr k1 kw1 o1 o1' s1
          go_wp2_with fail
          refine (rall_any k v xs _ ds _ hr1 B hl1 (fun hn b1 o c e => by
            have h1 := HS.out hn b1 o c e
            refine ⟨by omega, fun h2 => ?_⟩
            have := HOW.out.1 _ h2
            omega) hds (by omega)).mono ?_
          rintro e w2 ⟨u2, v', rfl, hr2, hg2, o2, -⟩
          have hs2 := HS1.out.keep hg2.keep HB.out
          obtain ⟨rb, eb, lb, htt⟩ : ∃ rb eb lb, rallGo xs xs ds [] = (rb, eb, lb) := ⟨_, _, _, rfl⟩
          have HT := Lib.hid htt
          rw [htt] at hr2 o2 ⊢
          simp only at hr2 o2 ⊢
          have hBo : Both w w2 b k v v' fa lb := ⟨hs2, hr2, by
            refine (HK.out.weaken (Y := b :: k :: v.ownBlock.toList) (fun _ _ h => by simp at h; simp [h])).step hg2.keep (fun i _ hm => List.mem_cons_of_mem _ hm), fun g hg => by
            rcases hg2.grow g hg with h | h
            · exact .inl h
            · exact .inr (Nat.le_trans hz1 h)⟩
          have sa : SliceAt w2.heap.size w2 (.slice au ra.length cu) 2 ra.length (Pairs ra) := by
            refine SliceAt.of_owns (ownsRow_keep HO1.out hg2.keep (fun i hi hm => ?_))
            simp only [List.mem_cons, Option.mem_toList, Option.mem_def] at hm
            rcases hm with hm | hm
            · omega
            · have := HOW.out.2 _ hm; omega
          have sb := SliceAt.of_owns o2
          have hra : ra.length ≤ 6000 := by
            have := allGo_len f ds f []
            rw [HR.out] at this
            simp at this; omega
          have hrb : rb.length ≤ 6000 := by
            have := rallGo_len xs ds xs []
            rw [HT.out] at this
            simp at this; omega
          obtain ⟨av2, cv2, rfl⟩ := ownsRow_ex o2
          have HBO := Lib.hid hBo
          clear hr2 hg2 hs2 hBo hr1 hl1 o2
          go_wp2_with fail
          refine (rsame_any _ _ ra rb _ _ _ sa sb hra hrb).mono ?_
          rintro e w3 ⟨rfl, k3⟩
          have hB3 : Both w w3 b k v v' fa lb := ⟨HBO.out.sp.keep k3 (by simp), HBO.out.rf.keep0 k3, HBO.out.keep.call k3, HBO.out.grow⟩
          have HB3 := Lib.hid hB3
          clear hB3 k3 sa sb hra hrb
          have hq : (decide ((allGo f f ds []).1 = (rallGo xs xs ds []).1) && (allGo f f ds []).2.1 == (rallGo xs xs ds []).2.1) = (decide (ra = rb) && (ea == eb)) := by rw [HR.out, HT.out]
          have hfl : (allGo f f ds []).2.2 = fa ∧ (rallGo xs xs ds []).2.2 = lb := by rw [HR.out, HT.out]; exact ⟨rfl, rfl⟩
          have HQ := Lib.hid hq
          have HFL := Lib.hid hfl
          clear hq hfl
          cases q1 : decide (ra = rb) with
          | true =>
            go_wp2_with fail
            go_ret
            unfold DoesPost
            rw [HQ.out, HFL.out.1, HFL.out.2, q1]
            exact ⟨v', rfl, HB3.out⟩
          | false =>
            go_wp2_with fail
            go_ret
            unfold DoesPost
            rw [HQ.out, HFL.out.1, HFL.out.2, q1]
            exact ⟨v', rfl, HB3.out⟩
        · have eF : doF f ⟨dO, d, s, ds⟩ = f := by simp [doF, h0, h1, h2, h3]
          have eL : doL xs ⟨dO, d, s, ds⟩ = xs := by simp [doL, h0, h1, h2, h3]
          have eQ : doQ f xs ⟨dO, d, s, ds⟩ = true := by simp [doQ, h0, h1, h2, h3]
          rw [eF, eL, eQ]
          clear eF eL eQ
          go_enter Try.func11, Try.ntmps11
          go_wp2_with fail
          go_ret
          have kk : Kp [] w (w.alloc (Obj.cells #[.int .i64 dO, .int .i64 d, .int .i64 s, .slice al ds.length cl] 34)) := (Kp.refl _ _).alloc _
          exact ⟨v, rfl, hsp.keep kk (by simp), hr.keep0 kk, kk.weaken (fun _ _ h => by cases h), fun g hg => .inl hg⟩
end Go.Proofs.Ytmegcmjklealbaa
