/-
  A strings.Builder of the call's own, with the frame told: (*strings.Builder).WriteByte.
-/
import Derived.Test.YtlomniffpjndfaaDoorReqA
namespace Go.Proofs.YtlomniffpjndfaaDoor
open Go.RowKit

theorem Kp.down {w wr w3 : World} {B : Nat} (h : Kp [] w wr) (k : Below B wr w3) (hB : w.heap.size ≤ B) : Kp [] w w3 := Kp.of_below (h.below.trans (k.mono hB)) []
theorem own_lt {w : World} {base : Nat} {e : TypeId} {sz n : Nat} {v : Value} {cs : List Value} (h : w.ownsRow base e sz v n cs) : ∀ g, v.ownBlock = some g → g < w.heap.size := by
  obtain ⟨hl, ⟨hv, hn⟩ | ⟨g, cap, cur, hv, hg, hb', hc, hm, hs, ht⟩⟩ := h
  · intro k hk; rw [hv] at hk; cases hk
  · intro k hk; rw [hv] at hk
    obtain rfl : g = k := by simpa [Value.ownBlock] using hk
    exact lt_of_block hb'
structure Bld (W : World) (b : Nat) (v : Value) (l : List UInt8) : Prop where
  blk : ∃ p, (p = .pointer none ∨ p = .pointer (some ⟨b, 0, none⟩)) ∧ W.heap[b]? = some (.cells #[p, v] 62 (0, 0))
  own : W.ownsRow (b + 1) 5 1 v l.length (Lib.byteCells l)
theorem Bld.lt {W : World} {b : Nat} {v : Value} {l : List UInt8} (h : Bld W b v l) : b < W.heap.size := by
  obtain ⟨p, -, hp⟩ := h.blk
  exact lt_of_block hp
theorem Bld.keep {X : List Nat} {w w' : World} {b : Nat} {v : Value} {l : List UInt8} (h : Bld w b v l) (k : Kp X w w') (hb : b ∉ X) (hg : ∀ g, v.ownBlock = some g → g ∉ X) : Bld w' b v l := by
  obtain ⟨p, hp, hb'⟩ := h.blk
  refine ⟨⟨p, hp, Kp.blockAt hb' hb _ k⟩, ?_⟩
  exact ownsRow_prefix h.own (m := l.length) (Prefix.of_kp k hg) (by omega)
theorem Bld.is {W : World} {b : Nat} {v : Value} {l : List UInt8} (h : Bld W b v l) : Lib.IsBuilder 62 5 b b (Lib.byteCells l) W := by
  obtain ⟨p, hp, hb⟩ := h.blk
  have ho : v.ownBlock ≠ some b := fun e => by have := own_block_ge h.own _ e; omega
  have hw : W.ownsRow b 5 1 v (Lib.byteCells l).length (Lib.byteCells l) := by
    rw [Lib.byteCells_length]; exact ownsRow_base h.own (by omega)
  rcases hp with rfl | rfl
  · exact .inl ⟨Nat.le_refl _, v, hb, hw, ho⟩
  · exact .inr ⟨Nat.le_refl _, v, hb, hw, ho⟩
theorem bld_new (w : World) : Bld (w.alloc (.cells #[.pointer none, .slice none 0 0] 62)) w.heap.size (.slice none 0 0) [] :=
  ⟨⟨_, .inl rfl, block_new _ _⟩, World.ownsRow_nil _ _ _ _⟩

set_option maxRecDepth 20000 in
theorem ccheck (b : Nat) (v : Value) (l : List UInt8) (w : World) (h : Bld w b v l) :
    Calls Tryd.prog 52 #[.pointer (some ⟨b, 0, none⟩)] w fun e w' => e = .returned (.tuple #[]) ∧ w'.heap[b]? = some (.cells #[.pointer (some ⟨b, 0, none⟩), v] 62 (0, 0)) ∧ w'.ownsRow (b + 1) 5 1 v l.length (Lib.byteCells l) ∧ Kp [b] w w' := by
  obtain ⟨p, hp, hb⟩ := h.blk
  have hsh : w.shape? b = some (62, 2) := by simp [World.shape?, hb]
  rcases hp with rfl | rfl
  · refine (Tryd.copyCheck_fresh b w (cell_of_cells hb rfl) hsh (frozen_of_cells hb _)).mono ?_
    rintro e w' ⟨rfl, rfl⟩
    refine ⟨rfl, ?_, ownsRow_keep (X := [b]) h.own ((Kp.refl _ _).setCell (.inl (by simp)) _) (fun i hi => by simp; omega), (Kp.refl _ _).setCell (.inl (by simp)) _⟩
    rw [block_setCell hb]
    rfl
  · refine (Tryd.copyCheck_used b w (cell_of_cells hb rfl)).mono ?_
    rintro e w' ⟨rfl, rfl⟩
    exact ⟨rfl, hb, h.own, Kp.refl _ _⟩

/-- what WriteByte leaves -/
structure Wrote (w w' : World) (b : Nat) (v v' : Value) (l : List UInt8) (c : UInt8) : Prop where
  bld : Bld w' b v' (l ++ [c])
  keep : Kp (b :: v.ownBlock.toList) w w'
  grow : ∀ g, v'.ownBlock = some g → v.ownBlock = some g ∨ w.heap.size ≤ g

set_option maxHeartbeats 1000000 in
set_option maxRecDepth 20000 in
theorem wbyte (b : Nat) (v : Value) (l : List UInt8) (c : UInt8) (w : World) (h : Bld w b v l) (hl : l.length ≤ 1000000) :
    Calls Tryd.prog 53 #[.pointer (some ⟨b, 0, none⟩), BV c] w fun e w' => ∃ v', e = .returned .nilIface ∧ Wrote w w' b v v' l c := by
  obtain ⟨i0, hi, hz0, hz1, hz2⟩ := info_parts Tryd.info5
  have hge := own_block_ge h.own
  have hlt := own_lt h.own
  have hbw := h.lt
  go_enter Tryd.func53, Tryd.ntmps53
  go_wp2_with fail
  refine (ccheck b v l w h).mono ?_
  rintro e w1 ⟨rfl, hb1, hown1, k1⟩
  obtain ⟨av, cv, rfl⟩ := ownsRow_ex hown1
  have c1 : w1.cell? ⟨b, 1, none⟩ = some (.slice av l.length cv) := cell_of_cells hb1 rfl
  have hb1w := lt_of_block hb1
  have hsz := k1.size
  have HE := Lib.hid hge
  have HL := Lib.hid hlt
  have H0 := Lib.hid h
  clear hge hlt h
  have ca : (w1.alloc (.cells #[BV c] 5)).cell? ⟨b, 1, none⟩ = some (.slice av l.length cv) := (((Kp.refl [] w1).alloc _).cell hb1w (by simp)).trans c1
  go_wp2_with (first | (at_builtin; refine wpList_append_mine _ rfl (.tmp 11) (.tmp 13) 60 rfl (b + 1) 5 i0 (.int .u8 0) 1 1 Tryd.underlying60 hi hz0 hz1 hz2 rfl (by decide) (.slice av l.length cv) l.length (Lib.byteCells l) rfl (ownsRow_keep (X := []) hown1 ((Kp.refl _ w1).alloc _) (fun _ _ => by simp)) ⟨w1.heap.size, 0, none⟩ 1 1 [BV c] rfl rfl (new_cells w1 _ _) (fun u hu => by simp only [List.mem_singleton] at hu; subst hu; rfl) (by unfold maxLen; omega) (by omega) (by simp; omega) ?_))
  intro v' w3 hown' hkp _ hgrow
  obtain ⟨av', cv', rfl⟩ := ownsRow_ex hown'
  have k13 : Kp (Value.slice av l.length cv).ownBlock.toList w1 w3 := ((Kp.refl _ w1).alloc _).trans hkp
  have hbx : b ∉ (Value.slice av l.length cv).ownBlock.toList := fun hm => by
    simp only [Option.mem_toList] at hm
    have := HE.out _ hm; omega
  have hb3 := Kp.blockAt hb1 hbx _ k13
  have e1 : w3.cell? ⟨b, 1, none⟩ = some (.slice av l.length cv) := cell_of_cells hb3 rfl
  have e2 : w3.frozen? ⟨b, 1, none⟩ = false := frozen_of_cells hb3 _
  have HO := Lib.hid hown'
  have HG := Lib.hid hgrow
  clear hown' hgrow hkp ca c1
  go_wp2_with fail
  go_ret
  have hc : Lib.byteCells l ++ [BV c] = Lib.byteCells (l ++ [c]) := by simp [Lib.byteCells]
  have hl1 : l.length + 1 = (l ++ [c]).length := by simp
  refine ⟨.slice av' (l.length + 1) cv', rfl, ⟨⟨_, .inr rfl, ?_⟩, ?_⟩, ?_, ?_⟩
  · rw [block_setCell hb3]
    rfl
  · have h := HO.out
    rw [hc, hl1] at h
    rw [hl1]
    exact ownsRow_keep (X := [b]) h ((Kp.refl _ _).setCell (.inl (by simp)) _) (fun i hi => by simp; omega)
  · have ka : Kp (b :: (Value.slice av l.length cv).ownBlock.toList) w w1 := k1.weaken (fun _ _ hm => by
      simp only [List.mem_singleton] at hm; subst hm; exact List.mem_cons_self ..)
    exact (ka.trans (k13.weaken (fun _ _ hm => List.mem_cons_of_mem _ hm))).setCell (.inl (by simp)) _
  · intro g hg
    rcases HG.out g hg with h | h
    · exact .inl h
    · exact .inr (by omega)
end Go.Proofs.YtlomniffpjndfaaDoor
