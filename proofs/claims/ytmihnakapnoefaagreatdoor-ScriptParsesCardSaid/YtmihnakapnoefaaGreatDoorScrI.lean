/-
  Reading a part's word: a list.
-/
import Derived.Test.YtmihnakapnoefaaGreatDoorScrH
namespace Go.Proofs.YtmihnakapnoefaaGreatDoor
open Go.RowKit Go.WideShapes

def bitsL (l : List UInt8) : List Bool := l.map fun b => b == 49
theorem marks_bits {l : List UInt8} (h : l ≠ [45]) : marksW (bitsL l) = l ↔ (marksR l).isSome = true := by
  unfold marksR
  rw [if_neg h]
  by_cases h0 : l = []
  · subst h0
    rw [if_pos rfl]
    constructor
    · intro e; cases e
    · intro e; cases e
  · rw [if_neg h0]
    have hb : bitsL l ≠ [] := by unfold bitsL; simp [h0]
    unfold marksW
    rw [if_neg hb]
    unfold bitsL
    rw [List.map_map]
    constructor
    · intro e
      have hall : l.all isMark = true := by
        rw [List.all_eq_true]
        intro b hm
        rw [← e] at hm
        obtain ⟨x, -, hx⟩ := List.mem_map.1 hm
        rw [← hx]
        simp only [Function.comp]
        split <;> rfl
      rw [if_pos hall]; rfl
    · intro e
      split at e
      · rename_i hall
        conv => rhs; rw [← List.map_id l]
        refine List.map_congr_left (fun b hb => ?_)
        have := List.all_eq_true.1 hall b hb
        unfold isMark at this
        simp only [Bool.or_eq_true, beq_iff_eq] at this
        rcases this with rfl | rfl <;> rfl
      · cases e
theorem marks_val {l : List UInt8} {m : List Bool} (h0 : l ≠ [45]) (h : marksR l = some m) : m = bitsL l := by
  unfold marksR at h
  rw [if_neg h0] at h
  split at h
  · cases h
  · split at h
    · cases h; rfl
    · cases h
theorem Tryz.info4 : (Tryz.prog.info? 4).map (fun i => (i.zero, i.size, i.bytes)) = some (some (.bool false), 1, 1) := by kernel_rfl
theorem oneCell_bool (p : Bool) : ∀ u, u ∈ [Value.bool p] → u.oneCell' = true := by
  intro u hu
  simp only [List.mem_singleton] at hu; subst hu; rfl
set_option maxHeartbeats 4000000 in
set_option maxRecDepth 20000 in
/-- a list's word is read -/
theorem read_list (b o : Nat) (cs : Array Value) (t : TypeId) (s : ByteArray) (hs : s.size ≤ 100000) (wz w : World) (_hE : Env wz) (kz : Kp [] wz w) (_hbz : wz.heap.size ≤ b) (hb : w.heap[b]? = some (.cells cs t (0, 0))) (hu : cs[o]? = some (.slice none 0 0)) :
    Calls Tryz.prog 33 #[.agg (tri b (2, o)).toArray, .string s] w fun e w' => e = .returned (.bool (marksR s.data.toList).isSome) ∧ Kp [b] w w' ∧ ∃ (av : Option Addr) (cv : Nat) (l : List Bool), w'.heap[b]? = some (.cells (cs.setIfInBounds o (.slice av l.length cv)) t (0, 0)) ∧ w'.ownsRow (b + 1) 4 1 (.slice av l.length cv) l.length (l.map Value.bool) ∧ l.length ≤ s.size ∧ ∀ m, marksR s.data.toList = some m → l = m := by
  show Calls Tryz.prog 33 #[.agg #[.pointer none, .pointer none, .pointer (some ⟨b, o, none⟩)], .string s] w _
  obtain ⟨w0, hw0⟩ : ∃ w0, w0 = w.alloc (.cells #[.pointer none, .pointer none, .pointer (some ⟨b, o, none⟩)] 54) := ⟨_, rfl⟩
  have kw0 : Kp [] w w0 := hw0 ▸ (Kp.refl _ _).alloc _
  have hbox : w0.heap[w.heap.size]? = some (.cells #[.pointer none, .pointer none, .pointer (some ⟨b, o, none⟩)] 54 (0, 0)) := by rw [hw0]; exact block_new _ _
  have hblt := lt_of_block hb
  have hbw : w.heap.size ≠ b := by omega
  have hwb : b ≠ w.heap.size := by omega
  have c0 := boxAt hbox (X := [b]) (by simpa using hbw) 0 _ rfl
  have c1 := boxAt hbox (X := [b]) (by simpa using hbw) 1 _ rfl
  have c2 := boxAt hbox (X := [b]) (by simpa using hbw) 2 _ rfl
  have hb0 := Kp.blockAt (X := []) hb (by simp) _ kw0
  have C0 := Lib.hid c0
  have C1 := Lib.hid c1
  have C2 := Lib.hid c2
  have Hw0 := Lib.hid hw0
  have hK := Kp.refl [b] w0
  have HB0 := Lib.hid hb0
  clear hw0 hbox hb0
  obtain ⟨R, hR⟩ : ∃ R, R = (marksR s.data.toList).isSome := ⟨_, rfl⟩
  rw [← hR]
  have HR := Lib.hid hR
  clear hR
  have hsz : o < cs.size := (Array.getElem?_eq_some_iff.1 hu).1
  have kz0 := kz.trans kw0
  by_cases hm : s = SB [45]
  · have hr : R = true := by rw [HR.out, hm]; rfl
    have hval : ∀ m, marksR s.data.toList = some m → ([] : List Bool) = m := fun m h => by rw [hm] at h; cases h; rfl
    have HV := Lib.hid hval
    have hset : cs.setIfInBounds o (.slice none 0 0) = cs := by
      apply Array.ext_getElem?
      intro i
      rw [Array.getElem?_setIfInBounds]
      split
      · rename_i e; subst e; exact hu.symm
      · rfl
    have HSET := Lib.hid hset
    subst hr
    have hse : s = ⟨#[45]⟩ := hm
    clear hval hm hset
    subst hse
    go_enter Tryz.func33, Tryz.ntmps33
    go_wp2_with fail
    rw [← Hw0.out]
    go_ret
    refine ⟨rfl, kw0.weaken (fun _ _ h => by cases h), none, 0, [], ?_, World.ownsRow_nil _ _ _ _, by simp, HV.out⟩
    show w0.heap[b]? = some (.cells (cs.setIfInBounds o (.slice none 0 0)) t (0, 0))
    rw [HSET.out]; exact HB0.out
  · have hne : (s.toList == [45]) = false := by
      rw [ByteArray.toList_eq]
      simp only [beq_eq_false_iff_ne, ne_eq]
      exact fun e => hm (by rw [← SB_data s, e])
    have hml : s.data.toList ≠ [45] := fun e => hm (by rw [← e, SB_data])
    have HML := Lib.hid hml
    clear hm hml
    obtain ⟨W1, hW1⟩ : ∃ W1, W1 = (w0.drew.alloc (.cells (bytesRow s (grownCap w0 s.size 0 5)) 5 ((bytesRow s (grownCap w0 s.size 0 5)).size, (bytesRow s (grownCap w0 s.size 0 5)).size + 1))) := ⟨_, rfl⟩
    have k1 : Kp [] w0 W1 := by rw [hW1]; exact ((Kp.refl _ _).drew).alloc _
    have hcell : ∀ (i : Nat) (h : i < s.size), W1.cell? ⟨w0.heap.size, i, none⟩ = some (BV s[i]) := by
      intro i h
      rw [hW1, show w0.heap.size = w0.drew.heap.size from rfl, World.cell?_alloc_mark]
      exact bytesRow_at s _ i h
    have hC := Lib.hid hcell
    have HW1 := Lib.hid hW1
    clear hcell hW1
    go_enter Tryz.func33, Tryz.ntmps33
    go_wp2_with fail
    rw [← Hw0.out, run_bytes_of_string _ _ _ _ _ Tryz.underlying9 Tryz.underlying79 Tryz.underlying5]
    rw [← HW1.out]
    obtain ⟨bl, hbl⟩ : ∃ bl, bl = bitsL s.data.toList := ⟨_, rfl⟩
    have hbll : bl.length = s.size := by rw [hbl]; unfold bitsL; rw [List.length_map, len_data]
    have HBL := Lib.hid hbl
    have HBLL := Lib.hid hbll
    have hzW : w0.heap.size < W1.heap.size := by rw [HW1.out]; simp
    have hzw : w.heap.size < w0.heap.size := by rw [Hw0.out]; simp
    clear HW1 hbl hbll
    generalize grownCap w0 s.size 0 5 = cap
    obtain ⟨i0, hi, hz0, hz1, hz2⟩ := info_parts Tryz.info4
    have hb1 := Kp.blockAt (X := []) HB0.out (by simp) _ k1
    have HB1 := Lib.hid hb1
    have hbW := lt_of_block hb1
    have k1b : Kp [b] w0 W1 := k1.weaken (fun _ _ h => by cases h)
    clear hb1
    go_wp2_with fail
    go_loopg [51] s.size (fun g i wr => ∃ (n : Nat) (av : Option Addr) (cv : Nat), n + g = s.size ∧ i = .int .i64 n ∧ Kp [b] W1 wr ∧ wr.heap[b]? = some (.cells (cs.setIfInBounds o (.slice av n cv)) t (0, 0)) ∧ wr.ownsRow W1.heap.size 4 1 (.slice av n cv) n ((bl.take n).map Value.bool))
    case atStart =>
      refine ⟨0, none, 0, by omega, rfl, Kp.refl _ _, ?_, World.ownsRow_nil _ _ _ _⟩
      have hset : cs.setIfInBounds o (.slice none 0 0) = cs := by
        apply Array.ext_getElem?
        intro i
        rw [Array.getElem?_setIfInBounds]
        split
        · rename_i e; subst e; exact hu.symm
        · rfl
      rw [hset]; exact HB1.out
    case round =>
      obtain ⟨n, av, cv, hn, rfl, hKr, hbb, hown⟩ := hrel
      have HN := Lib.hid hn
      have HBB := Lib.hid hbb
      have HOWN := Lib.hid hown
      have hge := own_block_ge hown
      obtain ⟨X, hX⟩ : ∃ X, X = (Value.slice av n cv).ownBlock.toList := ⟨_, rfl⟩
      have hXN : ∀ i, i < W1.heap.size → i ∉ X := fun i hi hm => by
        rw [hX] at hm
        simp only [Option.mem_toList] at hm
        have := hge _ hm; omega
      have hbX := hXN b hbW
      by_cases hlt : n < s.size
      · obtain ⟨g', rfl⟩ : ∃ g', gk = g' + 1 := ⟨gk - 1, by omega⟩
        have hltI : (n : Int) < (s.size : Int) := by omega
        obtain ⟨c, hc⟩ : ∃ c, c = s[n] := ⟨_, rfl⟩
        have h1 := hC.out n hlt
        have hbyte : w0.heap.size ≠ b := by have := lt_of_block HB0.out; omega
        have d1 := (hKr.cell (lt_of_cell h1) (by simpa using hbyte)).trans h1
        rw [← hc] at d1
        obtain ⟨p, hp⟩ : ∃ p, p = (c == 49) := ⟨_, rfl⟩
        have hst : bl.take (n + 1) = bl.take n ++ [p] := by
          have : bl[n]? = some p := by
            rw [HBL.out]; unfold bitsL
            rw [List.getElem?_map, List.getElem?_eq_getElem (by simpa using hlt), get_list s n hlt, ← hc, hp]; rfl
          rw [List.take_add_one, this]; rfl
        have HST := Lib.hid hst
        have hci : ((c.toNat : Int) == 49) = p := by
          rw [hp]
          cases hq : (c == 49) with
          | true =>
            obtain rfl : c = 49 := by simpa using hq
            rfl
          | false =>
            have : c ≠ 49 := by simpa using hq
            simp only [beq_eq_false_iff_ne, ne_eq]
            intro e
            exact this (by rw [← ofNat_toNat8 c, show c.toNat = 49 from by omega]; rfl)
        have e2 := Kp.cellAt (X := X) (w0 := wr) (c2 wr (k1b.trans hKr)) (hXN _ (show w.heap.size < _ by omega))
        have e3 : ∀ W, Kp X wr W → W.cell? ⟨b, o, none⟩ = some (.slice av n cv) := Kp.cellAt (X := X) (w0 := wr) (cell_of_cells hbb (by simp [hsz])) hbX
        have f3 : ∀ W, Kp X wr W → W.frozen? ⟨b, o, none⟩ = false := fun W hW => frozen_of_cells ((hW.block b (lt_of_block HBB.out) hbX).trans HBB.out) _
        have HX := Lib.hid hX
        have HXN := Lib.hid hXN
        have hK := Kp.refl X wr
        clear hn hbb hown hge hX hXN hc hp h1 hst c0 c1
        go_wp2_with fail
        refine wpB_begin 11 (Kp X wr) (by kernel_rfl) (by exact (Kp.refl _ _).drew) (fun hHeld => ?_)
        refine wpB_take 0 _ ?_ rfl (by kernel_rfl) (fun _ _ _ h => h) rfl hHeld ?_ ?_
        rotate_left
        · (intro W hW; go_simp; try with_reducible rfl)
        try simp only [Act.put, List.setIfInBounds_toArray, List.set_cons_zero, List.set_cons_succ]
        refine wpB_take 1 _ ?_ rfl (by kernel_rfl) (fun _ _ _ h => h) rfl hHeld ?_ ?_
        rotate_left
        · (intro W hW; go_simp; try with_reducible rfl)
        try simp only [Act.put, List.setIfInBounds_toArray, List.set_cons_zero, List.set_cons_succ]
        refine wpB_take 2 _ ?_ rfl (by kernel_rfl) (fun _ _ _ h => h) rfl hHeld ?_ ?_
        rotate_left
        · (intro W hW; go_simp; try with_reducible rfl)
        try simp only [Act.put, List.setIfInBounds_toArray, List.set_cons_zero, List.set_cons_succ]
        refine wpB_take 3 _ ?_ rfl (by kernel_rfl) (fun _ _ _ h => h) rfl hHeld ?_ ?_
        rotate_left
        · (intro W hW; go_simp; try with_reducible rfl)
        try simp only [Act.put, List.setIfInBounds_toArray, List.set_cons_zero, List.set_cons_succ]
        refine wpB_take 4 _ ?_ rfl (by kernel_rfl) (fun _ _ _ h => h) rfl hHeld ?_ ?_
        rotate_left
        · (intro W hW; go_simp; try with_reducible rfl)
        try simp only [Act.put, List.setIfInBounds_toArray, List.set_cons_zero, List.set_cons_succ]
        refine wpB_take 5 _ ?_ rfl (by kernel_rfl) (fun _ _ _ h => h) rfl hHeld ?_ ?_
        rotate_left
        · (intro W hW; go_simp; try with_reducible rfl)
        try simp only [Act.put, List.setIfInBounds_toArray, List.set_cons_zero, List.set_cons_succ]
        refine wpB_take 6 _ ?_ rfl (by kernel_rfl) (fun _ _ _ h => h) rfl hHeld ?_ ?_
        rotate_left
        · (intro W hW; go_simp; try with_reducible rfl)
        try simp only [Act.put, List.setIfInBounds_toArray, List.set_cons_zero, List.set_cons_succ]
        refine wpB_take 7 _ ?_ rfl (by kernel_rfl) (fun _ _ _ h => h) rfl hHeld ?_ ?_
        rotate_left
        · (intro W hW; go_simp; try with_reducible rfl)
        try simp only [Act.put, List.setIfInBounds_toArray, List.set_cons_zero, List.set_cons_succ]
        refine wpB_step 8 _ rfl (by kernel_rfl) rfl rfl (fun K hK_ => ?_)
        go_simp
        refine hK_.out _ _ (by first | exact hHeld | exact hHeld.call ‹_› | exact hHeld.alloc _) (fun hHeld => ?_)
        clear hK_ K
        try simp only [Act.put, List.setIfInBounds_toArray, List.set_cons_zero, List.set_cons_succ]
        refine wpB_step 9 _ rfl (by kernel_rfl) rfl rfl (fun K hK_ => ?_)
        refine wp_append_mine _ (.tmp 60) (.tmp 63) 24 rfl W1.heap.size 4 i0 (.bool false) 1 1 Tryz.underlying24 hi hz0 hz1 hz2 rfl (by decide) (.slice av n cv) n ((bl.take n).map Value.bool) rfl (ownsRow_keep (X := []) HOWN.out ((Kp.refl _ wr).drew.alloc _) (fun _ _ => by simp)) ⟨wr.heap.size, 0, none⟩ 1 1 [.bool p] rfl rfl (new_cells wr.drew _ _) (oneCell_bool _) (by unfold maxLen; omega) (by omega) (by have := hKr.size; simp; omega) ?_
        intro v' w3 hown' hkp hpre hgrow
        obtain ⟨av', cv', rfl⟩ := ownsRow_ex hown'
        refine hK_.out _ _ (by exact hHeld.trans (HX.out ▸ hkp)) (fun hHeld => ?_)
        clear hK_ K
        try simp only [Act.put, List.setIfInBounds_toArray, List.set_cons_zero, List.set_cons_succ]
        refine wpB_take 10 _ ?_ rfl (by kernel_rfl) (fun _ _ _ h => h) rfl hHeld ?_ ?_
        rotate_left
        · (intro W hW; go_simp; try with_reducible rfl)
        try simp only [Act.put, List.setIfInBounds_toArray, List.set_cons_zero, List.set_cons_succ]
        refine wpB_bar (Kp (b :: X) wr) 999 _ rfl (by kernel_rfl) rfl (fun K hK_ => ?_)
        go_simp
        refine hK_.out _ _ (by exact (hHeld.weaken (fun _ _ h => List.mem_cons_of_mem _ h)).setCell (.inl (by simp)) _) (fun hHeld => ?_)
        clear hK_ K
        try simp only [Act.put, List.setIfInBounds_toArray, List.set_cons_zero, List.set_cons_succ]
        refine wpB_done (by kernel_rfl) ?_ _
        have hkp' : Kp X wr w3 := HX.out ▸ ((Kp.refl _ wr).drew.alloc _).trans hkp
        have hb3 := (hkp'.block b (lt_of_block HBB.out) hbX).trans HBB.out
        have hk4 : Kp [b] W1 (w3.setCell ⟨b, o, none⟩ (.slice av' (n + 1) cv')) := (hKr.step hkp' (fun i hi hm => absurd hm (HXN.out i hi))).setCell (.inl (by simp)) _
        have hb4 : (w3.setCell ⟨b, o, none⟩ (.slice av' (n + 1) cv')).heap[b]? = some (.cells (cs.setIfInBounds o (.slice av' (n + 1) cv')) t (0, 0)) := by
          rw [block_setCell hb3]
          congr 2
          simp
        have ho4 : (w3.setCell ⟨b, o, none⟩ (.slice av' (n + 1) cv')).ownsRow W1.heap.size 4 1 (.slice av' (n + 1) cv') (n + 1) ((bl.take (n + 1)).map Value.bool) := by
          have h1 := ownsRow_keep (X := [b]) hown' ((Kp.refl _ w3).setCell (p := ⟨b, o, none⟩) (.inl (by simp)) (.slice av' (n + 1) cv')) (fun i hi => by simp; omega)
          rw [HST.out, List.map_append]
          exact h1
        have HK4 := Lib.hid hk4
        have HB4 := Lib.hid hb4
        have HO4 := Lib.hid ho4
        clear hown' hkp hpre hgrow hkp' hb3 hk4 hb4 ho4
        go_wp2_with fail
        go_roundg g'
        case rel =>
          have hn := HN.out
          exact ⟨n + 1, av', cv', by omega, by go_num, HK4.out, HB4.out, HO4.out⟩
        case measure => omega
      · obtain rfl : n = s.size := by omega
        obtain rfl : gk = 0 := by omega
        have hnb : s.size = bl.length := HBLL.out.symm
        have hown' : wr.ownsRow W1.heap.size 4 1 (.slice av bl.length cv) bl.length (bl.map Value.bool) := by
          rw [List.take_of_length_le (by omega)] at hown
          rwa [hnb] at hown
        have hbb' : wr.heap[b]? = some (.cells (cs.setIfInBounds o (.slice av bl.length cv)) t (0, 0)) := by rw [← hnb]; exact hbb
        have hcell : wr.cell? ⟨b, o, none⟩ = some (.slice av bl.length cv) := cell_of_cells hbb' (by simp [hsz])
        have hsl := SliceAt.of_owns hown'
        have hk' : Kp [b] w wr := ((kw0.trans k1).weaken (fun _ _ h => by cases h)).trans hKr
        have hoB : wr.ownsRow (b + 1) 4 1 (.slice av bl.length cv) bl.length (bl.map Value.bool) := ownsRow_base hown' (by omega)
        have HBB' := Lib.hid hbb'
        have HOB := Lib.hid hoB
        have hc2 := c2 wr (k1b.trans hKr)
        have hc1 := c1 wr (k1b.trans hKr)
        have hc0 := c0 wr (k1b.trans hKr)
        clear hn hbb hown hown' hbb' hoB hge hX hXN hbX c0 c1 c2
        go_wp2_with fail
        refine (word_list b o bl (.slice av bl.length cv) _ _ hcell hsl (by omega)).mono ?_
        rintro e w9 ⟨rfl, k9⟩
        have hk9 : Kp [b] w w9 := hk'.call k9
        have hb9 := Kp.blockAt (X := []) HBB'.out (by simp) _ k9
        have ho9 := ownsRow_keep HOB.out k9 (fun _ _ => by simp)
        obtain ⟨T, hT⟩ : ∃ T, T = SB (marksW bl) := ⟨_, rfl⟩
        rw [← hT]
        have hTs : (T = s) ↔ (marksR s.data.toList).isSome = true := by
          rw [← marks_bits HML.out, ← HBL.out, hT]
          constructor
          · intro e; rw [← e]
          · intro e; rw [e, SB_data]
        have hval : ∀ m, marksR s.data.toList = some m → bl = m := fun m h => by rw [HBL.out]; exact (marks_val HML.out h).symm
        have HV := Lib.hid hval
        have HB9 := Lib.hid hb9
        have HO9 := Lib.hid ho9
        have hle : bl.length ≤ s.size := by omega
        clear hT hval hb9 ho9
        by_cases he : T = s
        · have hr : R = true := by rw [HR.out]; exact hTs.1 he
          subst hr
          clear hTs
          subst he
          go_wp2_with fail
          go_ret
          exact ⟨rfl, hk9, av, cv, bl, HB9.out, HO9.out, hle, HV.out⟩
        · have hr : R = false := by
            rw [HR.out]
            cases hq : (marksR s.data.toList).isSome with
            | false => rfl
            | true => exact absurd (hTs.2 hq) he
          subst hr
          have hbe := str_ne he
          clear hTs he
          go_wp2_with fail
          go_ret
          exact ⟨rfl, hk9, av, cv, bl, HB9.out, HO9.out, hle, HV.out⟩
end Go.Proofs.YtmihnakapnoefaaGreatDoor
