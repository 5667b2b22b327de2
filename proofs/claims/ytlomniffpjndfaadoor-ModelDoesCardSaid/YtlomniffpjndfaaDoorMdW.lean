/-
  A row of bytes of one's own, be it made of a text or grown: append of a byte.
-/
import Derived.Test.YtlomniffpjndfaaDoorP4
namespace Go.Proofs.YtlomniffpjndfaaDoor
open Go.RowKit Go.WideShapes

theorem Kp.setCellsM {X : List Nat} {a w : World} (h : Kp X a w) {b : Nat} (hb : b ∈ X ∨ a.heap.size ≤ b) (o : Nat) (vs : List Value) : Kp X a (w.setCells b o vs) := Kp.setCells hb vs o h
def MRow (W : World) (base : Nat) (v : Value) (l : List UInt8) : Prop := ∃ (g cap : Nat) (cur : Array Value) (z : Nat × Nat), v = .slice (some ⟨g, 0, none⟩) l.length cap ∧ base ≤ g ∧ W.heap[g]? = some (.cells cur 5 z) ∧ cap ≤ cur.size ∧ l.length ≤ cap ∧ (∀ j, j < cur.size → ¬ (z.1 ≤ j ∧ j < z.2)) ∧ ∀ j (hj : j < l.length), cur[j]? = some (BV l[j])
theorem MRow.keep0 {w w' : World} {base : Nat} {v : Value} {l : List UInt8} (h : MRow w base v l) (k : Kp [] w w') : MRow w' base v l := by
  obtain ⟨g, cap, cur, z, h1, h2, h3, h4, h5, h6, h7⟩ := h
  exact ⟨g, cap, cur, z, h1, h2, (k.block g (lt_of_block h3) (by simp)).trans h3, h4, h5, h6, h7⟩
theorem MRow.block_ge {w : World} {base : Nat} {v : Value} {l : List UInt8} (h : MRow w base v l) : ∀ g, v.ownBlock = some g → base ≤ g := by
  obtain ⟨g, cap, cur, z, rfl, h2, -⟩ := h
  intro g' hg'
  obtain rfl : g = g' := by simpa [Value.ownBlock] using hg'
  exact h2
theorem MRow.ex {w : World} {base : Nat} {v : Value} {l : List UInt8} (h : MRow w base v l) : ∃ a c, v = .slice a l.length c := by
  obtain ⟨g, cap, cur, z, rfl, -⟩ := h
  exact ⟨_, _, rfl⟩
theorem wpList_mrow {ops : Array Oper} {rest : List Oper} {o : Oper} {a : Act} {Q : Exit → Act → World → Prop} (w : World) (hgd : o.guard = none) (s x : Operand)
    (ho : o.op = .call { callee := .builtin .append, args := #[s, x], argTypes := #[60, 60] }) (base : Nat) (v : Value) (l : List UInt8) (hv : a.eval s = v) (hm : MRow w base v l) (ad : Addr) (c : UInt8) (hx : a.eval x = .slice (some ad) 1 1)
    (hc : w.cell? ad = some (BV c)) (hz : l.length ≤ 100000) (hb : base ≤ w.heap.size)
    (h : ∀ (v' : Value) (w' : World), MRow w' base v' (l ++ [c]) → Kp v.ownBlock.toList w w' → wpList Tryd.prog ops Q rest (a.put o.dst v') w') : wpList Tryd.prog ops Q (o :: rest) a w := by
  obtain ⟨i0, hi, hz0, hz1, hz2⟩ := info_parts Tryd.info5
  refine wpList_plain hgd fun K hK => ?_
  obtain ⟨g, cap, cur, z, rfl, hg, hcur, hcc, hlc, hfz, hat⟩ := hm
  have hfr : ∀ j, j < cur.size → w.frozen? ⟨g, j, none⟩ = false := fun j hj => by
    simp only [World.frozen?, hcur]
    have := hfz j hj
    simp only [Bool.and_eq_false_iff, decide_eq_false_iff_not]
    omega
  refine wp_append_arg w s x 60 ho 5 i0 (.int .u8 0) 1 1 Tryd.underlying60 hi hz0 hz1 hz2 rfl (by decide) g 0 l.length cap (Lib.byteCells l) hv (by simp [Lib.byteCells]) (fun j u hu => ?_) ad 1 1 [BV c] hx rfl (fun j u hu => ?_) (fun u hu => by simp only [List.mem_singleton] at hu; subst hu; rfl) (fun hr j hj => ?_) (by unfold maxLen; omega) (by omega) (fun hr => ?_) (fun hr v' w' hown hgr => ?_)
  · rw [Nat.zero_add]
    refine cell_of_cells hcur ?_
    simp only [Lib.byteCells, List.getElem?_map] at hu
    cases hq : l[j]? with
    | none => rw [hq] at hu; cases hu
    | some b =>
      rw [hq] at hu
      have hj : j < l.length := (List.getElem?_eq_some_iff.1 hq).1
      have hb' : l[j] = b := (List.getElem?_eq_some_iff.1 hq).2
      rw [hat j hj, hb']
      exact hu
  · match j, hu with
    | 0, hu =>
      obtain rfl : BV c = u := by simpa using hu
      have : ad.add 0 = ad := by unfold Addr.add; split <;> simp_all
      rw [this]; exact hc
    | n + 1, hu => simp at hu
  · obtain rfl : j = 0 := by simp at hj; omega
    have hlt : l.length < cur.size := by omega
    refine ⟨?_, ?_⟩
    · rw [cell_of_cells hcur (v := cur[0 + l.length * 1 + 0]'(by omega)) (by simp)]; rfl
    · rw [show 0 + l.length * 1 + 0 = l.length by omega]; exact hfr _ hlt
  · refine hK _ _ (h _ _ ?_ ?_)
    · refine ⟨g, cap, cur.setIfInBounds l.length (BV c), z, by simp, hg, ?_, by simpa using hcc, by simpa using hr, by simpa using hfz, fun j hj => ?_⟩
      · have := block_setCell hcur l.length (BV c)
        rw [show (0 + l.length * 1) = l.length by omega]
        exact this
      · rw [Array.getElem?_setIfInBounds]
        rw [List.length_append, List.length_singleton] at hj
        by_cases hjl : l.length = j
        · subst hjl
          rw [if_pos rfl, if_pos (by omega)]
          simp
        · rw [if_neg hjl, hat j (by omega), List.getElem_append_left (by omega)]
    · exact (Kp.refl _ _).setCellsM (.inl (by simp [Value.ownBlock])) _ _
  · refine hK _ _ (h _ _ ?_ ((Kp.of_grown hgr).weaken (fun _ _ hm => by simp at hm)))
    obtain ⟨hl, ⟨hv', hn⟩ | ⟨g', cap', cur', hv', hg', hb', hc', hm', hs', ht'⟩⟩ := hown
    · omega
    · refine ⟨g', cap', cur', (0, 0), by rw [hv']; simp, Nat.le_trans hb hg', hb', by omega, by simpa using hc', by simp, fun j hj => ?_⟩
      rw [List.length_append, List.length_singleton] at hj
      have e := congrArg (fun q => q[j]?) ht'
      simp only [List.getElem?_take] at e
      rw [if_pos (by omega), Array.getElem?_toList] at e
      rw [e]
      have : Lib.byteCells l ++ [BV c] = Lib.byteCells (l ++ [c]) := by simp [Lib.byteCells]
      rw [this]
      unfold Lib.byteCells
      rw [List.getElem?_map, List.getElem?_eq_getElem (by rw [List.length_append, List.length_singleton]; exact hj)]
      rfl
set_option maxHeartbeats 1000000 in
set_option maxRecDepth 20000 in
theorem wwrite (B b : Nat) (v : Value) (l : List UInt8) (g4 : Nat) (x : List UInt8) (hx : x.length = 4) (w : World) (h : BldX B w b v l) (hc4 : ∀ j (hj : j < x.length), w.cell? ⟨g4, j, none⟩ = some (BV x[j])) (hb4 : g4 ≠ b) (hl : l.length ≤ 1000000) (hB : B ≤ w.heap.size) :
    Calls Tryd.prog 76 #[.pointer (some ⟨b, 0, none⟩), .slice (some ⟨g4, 0, none⟩) 4 4] w fun e w' => ∃ v', e = .returned (.tuple #[.int .i64 4, .nilIface]) ∧ BldX B w' b v' (l ++ x) ∧ Kp (b :: v.ownBlock.toList) w w' := by
  obtain ⟨i0, hi, hz0, hz1, hz2⟩ := info_parts Tryd.info5
  have hge := own_block_ge h.own
  have hab := h.above
  go_enter Tryd.func76, Tryd.ntmps76
  go_wp2_with fail
  refine (ccheck b v l w h.bld).mono ?_
  rintro e w1 ⟨rfl, hb1, -, k1⟩
  have hown1 := owns_other h.own k1 (fun g hg => by have := hge g hg; simp only [List.mem_singleton]; omega)
  obtain ⟨av, cv, rfl⟩ := ownsRow_ex hown1
  have c1 : w1.cell? ⟨b, 1, none⟩ = some (.slice av l.length cv) := cell_of_cells hb1 rfl
  have hsz := k1.size
  have hnews : ∀ (j : Nat) (u : Value), (Lib.byteCells x)[j]? = some u → w1.cell? ((⟨g4, 0, none⟩ : Addr).add j) = some u := fun j u hu => by
    rw [Addr.add_mid, Nat.zero_add]
    have hj : j < x.length := by
      have := (List.getElem?_eq_some_iff.1 hu).1
      simpa [Lib.byteCells] using this
    have e := hc4 j hj
    rw [(k1.cell (lt_of_cell e) (by simpa using hb4)), e]
    rw [← hu]
    simp [Lib.byteCells, hj]
  have HE := Lib.hid hge
  have H0 := Lib.hid h
  have HN := Lib.hid hnews
  clear hge h hnews hc4
  go_wp2_with (first | (at_builtin; refine wpList_append_mine _ rfl (.tmp 12) (.tmp 13) 60 rfl B 5 i0 (.int .u8 0) 1 1 Tryd.underlying60 hi hz0 hz1 hz2 rfl (by decide) (.slice av l.length cv) l.length (Lib.byteCells l) rfl hown1 ⟨g4, 0, none⟩ 4 4 (Lib.byteCells x) rfl (by rw [Lib.byteCells_length, hx]) HN.out (fun u hu => by simp only [Lib.byteCells, List.mem_map] at hu; obtain ⟨y, -, rfl⟩ := hu; rfl) (by unfold maxLen; omega) (by omega) (by omega) ?_))
  intro v' w3 hown' k13 _ _
  obtain ⟨av', cv', rfl⟩ := ownsRow_ex hown'
  have hbx : b ∉ (Value.slice av l.length cv).ownBlock.toList := fun hm => by
    simp only [Option.mem_toList] at hm
    have := HE.out _ hm; omega
  have hb3 := Kp.blockAt hb1 hbx _ k13
  have e1 : w3.cell? ⟨b, 1, none⟩ = some (.slice av l.length cv) := cell_of_cells hb3 rfl
  have e2 : w3.frozen? ⟨b, 1, none⟩ = false := frozen_of_cells hb3 _
  have HO := Lib.hid hown'
  clear hown' c1
  go_wp2_with fail
  go_ret2
  have hc : Lib.byteCells l ++ Lib.byteCells x = Lib.byteCells (l ++ x) := by simp [Lib.byteCells]
  have hl1 : l.length + 4 = (l ++ x).length := by rw [List.length_append, hx]
  refine ⟨.slice av' (l.length + 4) cv', rfl, ⟨⟨_, .inr rfl, ?_⟩, ?_, hab⟩, ?_⟩
  · rw [block_setCell hb3]
    rfl
  · have h := HO.out
    rw [hc, hl1] at h
    rw [hl1]
    exact ownsRow_keep (X := [b]) h ((Kp.refl _ _).setCell (.inl (by simp)) _) (fun i hi => by simp; omega)
  · have ka : Kp (b :: (Value.slice av l.length cv).ownBlock.toList) w w1 := k1.weaken (fun _ _ hm => by
      simp only [List.mem_singleton] at hm; subst hm; exact List.mem_cons_self ..)
    exact (ka.trans (k13.weaken (fun _ _ hm => List.mem_cons_of_mem _ hm))).setCell (.inl (by simp)) _
end Go.Proofs.YtlomniffpjndfaaDoor
