/-
  The document's model: delete.
-/
import Derived.Test.YtlomniffpjndfaaDoorMdDi
import Derived.Test.YtlomniffpjndfaaDoorP8
namespace Go.Proofs.YtlomniffpjndfaaDoor
open Go.RowKit Go.ChangeMaps Go.Maps Go.WideShapes Go.WideMaps Go.WideElems Go.MapKept Go.ChangeShapes Go.Sort

theorem own_cap {B : Nat} {w : World} {g o : Nat} {cv n : Nat} {xs : List Value} (h : w.ownsRow B 56 3 (.slice (some ⟨g, o, none⟩) n cv) n xs) : n ≤ cv := by
  obtain ⟨-, ⟨hv, -⟩ | ⟨g', cap, cur, hv, -, -, hc, -⟩⟩ := h
  · cases hv
  · simp only [Value.slice.injEq] at hv
    omega
theorem key_row {B : Nat} {w : World} {g o cv : Nat} {n : Nat} {xs : List Value} (h : w.ownsRow B 56 3 (.slice (some ⟨g, o, none⟩) n cv) n xs) (j : Nat) (u : Value) (hj : xs[j]? = some u) : w.cell? ⟨g, o + j, none⟩ = some u := by
  obtain ⟨hl, ⟨hv, -⟩ | ⟨g', cap, cur, hv, -, hb, -, -, -, ht⟩⟩ := h
  · cases hv
  · simp only [Value.slice.injEq, Option.some.injEq, Addr.mk.injEq] at hv
    obtain ⟨⟨rfl, rfl, -⟩, -, -⟩ := hv
    rw [Nat.zero_add]
    refine cell_of_cells hb ?_
    rw [← Array.getElem?_toList]
    rw [← ht, List.getElem?_take] at hj
    split at hj
    · exact hj
    · cases hj
theorem flat_cut2 (L : List KeyD) (i : Nat) : L.flatMap KeyC = (L.take i).flatMap KeyC ++ (L.drop i).flatMap KeyC := by rw [← List.flatMap_append, List.take_append_drop]
theorem flat_lenK : ∀ L : List KeyD, (L.flatMap KeyC).length = L.length * 3
  | [] => rfl
  | a :: l => by rw [List.flatMap_cons, List.length_append, keyC_len, flat_lenK l, List.length_cons]; omega
theorem flat_len_take {L : List KeyD} {i : Nat} (h : i ≤ L.length) : ((L.take i).flatMap KeyC).length = i * 3 := by rw [flat_lenK, List.length_take, Nat.min_eq_left h]
theorem flat_len_drop {L : List KeyD} {i : Nat} : ((L.drop i).flatMap KeyC).length = (L.length - i) * 3 := by rw [flat_lenK, List.length_drop]
theorem flat_take {L : List KeyD} {i j : Nat} {u : Value} (h : ((L.take i).flatMap KeyC)[j]? = some u) : (L.flatMap KeyC)[j]? = some u := by
  rw [flat_cut2 L i, List.getElem?_append_left (List.getElem?_eq_some_iff.1 h).1]; exact h
theorem flat_drop {L : List KeyD} {i j : Nat} {u : Value} (hi : i < L.length) (h : ((L.drop (i + 1)).flatMap KeyC)[j]? = some u) : (L.flatMap KeyC)[(i + 1) * 3 + j]? = some u := by
  rw [flat_cut2 L (i + 1), List.getElem?_append_right (by rw [flat_len_take (by omega)]; omega), flat_len_take (by omega), Nat.add_sub_cancel_left]; exact h
theorem one_keys (L : List KeyD) : ∀ u, u ∈ L.flatMap KeyC → u.oneCell' = true := by
  intro u hu
  obtain ⟨q, -, hq⟩ := List.mem_flatMap.1 hu
  exact oneCell_key _ _ _ u hq
set_option maxHeartbeats 4000000 in
set_option maxRecDepth 20000 in
theorem rdo_del {rb : Nat} {L : List KeyD} (hz : L.length ≤ 1000) (kind : Int) (k v : ByteArray) (hk : k.size < 16384) (hv : v.size < 16384) (w : World) (h : RmAt rb w L) (hck : checkE kind k v = 0) (hb4 : (kind == 4) = false) (hb0 : (kind == 0) = false) (hb1 : (kind == 1) = false) (hb2 : (kind == 2) = true)
    {i : Nat} (hat : atL k L 0 = (i : Int)) (hi : i < L.length) {u : ByteArray} (hLi : L[i] = (k, u, false)) :
    Calls Tryd.prog 13 #[Rm.p rb, ReqV kind k v] w fun e w' => ∃ x, e = .returned x ∧ Gave w.heap.size w' x ⟨0, E0, []⟩ ∧ RmAt rb w' (insK (k, E0, true) (L.take i ++ L.drop (i + 1))) ∧ Kp [rb] w w' := by
  obtain ⟨i0, hi0', hz0, hz1, hz2⟩ := info_parts infoKey
  obtain ⟨w0, hw0⟩ : ∃ w0, w0 = w.alloc (.cells #[.int .i64 kind, .string k, .string v] 32) := ⟨_, rfl⟩
  have k0 : Kp [] w w0 := hw0 ▸ (Kp.refl _ _).alloc _
  have b0 : w0.heap[w.heap.size]? = some (.cells #[.int .i64 kind, .string k, .string v] 32 (0, 0)) := by rw [hw0]; exact block_new _ _
  obtain ⟨R, hR⟩ : ∃ R, R = w0.heap.size := ⟨_, rfl⟩
  have hR2 : R = w.heap.size + 1 := by rw [hR, hw0, World.size_alloc]
  obtain ⟨w1, hw1⟩ : ∃ w1, w1 = w0.alloc (.cells #[.int .i64 0, .string ⟨#[]⟩, .slice none 0 0] 37) := ⟨_, rfl⟩
  have k1 : Kp [] w0 w1 := hw1 ▸ (Kp.refl _ _).alloc _
  have b1 : w1.heap[R]? = some (.cells #[.int .i64 0, .string ⟨#[]⟩, .slice none 0 0] 37 (0, 0)) := by rw [hw1, hR]; exact block_new _ _
  have k01 := k0.trans k1
  have hRlt : w.heap.size ≤ R := by omega
  have b01 := (k1.block _ (lt_of_block b0) (by simp)).trans b0
  have cr0 := Kp.cellAt (X := []) (cell_of_cells (o := 0) (v := .int .i64 kind) b01 rfl) (by simp)
  have cr1 := Kp.cellAt (X := []) (cell_of_cells (o := 1) (v := .string k) b01 rfl) (by simp)
  have cr2 := Kp.cellAt (X := []) (cell_of_cells (o := 2) (v := .string v) b01 rfl) (by simp)
  have HW0 := Lib.hid hw0
  have HW1 := Lib.hid hw1
  have HR := Lib.hid hR2
  obtain ⟨av, cv, ht, ho⟩ := id h
  have hrb := lt_of_block ht
  have d0 := Kp.cellAt (X := []) (cell_of_cells (o := 0) (v := .slice av L.length cv) ht rfl) (by simp)
  have hc := rcheck kind k v hk hv w1
  clear hw0 hw1 hR hR2 b01 b0 k0 k1
  have hlt := hi
  have hi0 : ¬ ((i : Int) < 0) := by omega
  have hi1 : (0 : Int) ≤ (i : Int) := by omega
  have hltI : (i : Int) < (L.length : Int) := by omega
  obtain ⟨g, o, rfl, f0, f1, f2⟩ := key_at ho i hi
  rw [hLi] at f0 f1 f2
  simp only at f0 f1 f2
  have r0 := Kp.cellAt (X := []) f0 (by simp)
  have r1 := Kp.cellAt (X := []) f1 (by simp)
  have r2 := Kp.cellAt (X := []) f2 (by simp)
  clear f0 f1 f2 hLi
  rw [hck] at hc
  clear hck
  go_enter Tryd.func13, Tryd.ntmps13
  go_wp2_with fail
  rw [← HW0.out, ← HW1.out, ← HR.out]
  refine hc.mono ?_
  rintro e w2 ⟨rfl, k2⟩
  have b2 := (k2.block _ (lt_of_block b1) (by simp)).trans b1
  have k02 := k01.trans k2
  clear hc
  have ha := rat hz k w2 (h.keep0 k02)
  rw [hat] at ha
  clear hat
  go_wp2_with fail
  refine ha.mono ?_
  rintro e w3 ⟨rfl, k3⟩
  have b3 := (k3.block _ (lt_of_block b2) (by simp)).trans b2
  have k03 := k02.trans k3
  have k23 := k2.trans k3
  have z0 := cell_of_cells (o := 0) b3 rfl
  have z1 := cell_of_cells (o := 1) b3 rfl
  have z2 := cell_of_cells (o := 2) b3 rfl
  have zf0 := frozen_of_cells b3 0
  have zf1 := frozen_of_cells b3 1
  have zf2 := frozen_of_cells b3 2
  clear ha
  have ho3 := owns_other ho k03 (fun _ _ => by simp)
  have hcap : L.length ≤ cv := own_cap ho
  have hcI : (L.length : Int) ≤ (cv : Int) := by omega
  have hcI2 : (i : Int) ≤ (cv : Int) := by omega
  have hlI2 : (i : Int) + 1 ≤ (L.length : Int) := by omega
  have hw1 := wrap_id ((i : Int) + 1) (by omega) (by omega)
  have hi2 : (0 : Int) ≤ (i : Int) + 1 := by omega
  have hn2 : ((i : Int) + 1).toNat = i + 1 := by omega
  have d3 := fun W (kk : Kp [] w3 W) => d0 W (k03.trans kk)
  have e1 := Kp.cellAt (X := [rb]) (cr1 w3 k23) (by simp only [List.mem_singleton]; omega)
  have hrow := fun W (kk : Kp [] w3 W) => key_row (owns_other ho3 kk (fun _ _ => by simp))
  have hl7 : ((L.take i).flatMap KeyC).length = i * 3 := flat_len_take (by omega)
  have hl15 : ((L.drop (i + 1)).flatMap KeyC).length = (L.length - (i + 1)) * 3 := flat_len_drop
  have HL2 : (L.take i ++ L.drop (i + 1)).length ≤ 1000 := by simp; omega
  obtain ⟨PA, hPA⟩ : ∃ PA : Addr, PA = if cv = i + 1 then ⟨g, o, none⟩ else ⟨g, o + (i + 1) * 3, none⟩ := ⟨_, rfl⟩
  have hnew : ∀ W, Kp [] w3 W → ∀ (j : Nat) (u : Value), ((L.drop (i + 1)).flatMap KeyC)[j]? = some u → W.cell? (PA.add j) = some u := fun W kk j u hu => by
    by_cases hcv : cv = i + 1
    · rw [List.drop_eq_nil_of_le (by omega)] at hu
      simp at hu
    · rw [hPA, if_neg hcv, Addr.add_lit, Nat.add_assoc]
      exact hrow _ kk _ u (flat_drop hi hu)
  have HPA := Lib.hid hPA
  clear hPA
  clear z0 z1 z2 zf0 zf1 zf2
  go_wp2_with fail
  refine wpB_begin 18 (Kp [] w3) (by kernel_rfl) (by exact (Kp.refl _ _).drew) (fun hHeld => ?_)
  refine wpB_take 0 _ ?_ rfl (by kernel_rfl) (fun _ _ _ h => h) rfl hHeld ?_ ?_
  rotate_left
  · (intro W hW; go_simp; try with_reducible rfl)
  try simp only [Act.put, List.setIfInBounds_toArray, List.set_cons_zero, List.set_cons_succ]
  refine wpB_take 1 _ ?_ rfl (by kernel_rfl) (fun _ _ _ h => h) rfl hHeld ?_ ?_
  rotate_left
  · (intro W hW; go_simp; try with_reducible rfl)
  try simp only [Act.put, List.setIfInBounds_toArray, List.set_cons_zero, List.set_cons_succ]
  refine wpB_take 2 _ ?_ rfl (by kernel_rfl) (fun _ _ _ h => h) rfl hHeld ?_ ?_
  rotate_left
  · (intro W hW; go_simp; try with_reducible rfl)
  try simp only [Act.put, List.setIfInBounds_toArray, List.set_cons_zero, List.set_cons_succ]
  refine wpB_take 3 _ ?_ rfl (by kernel_rfl) (fun _ _ _ h => h) rfl hHeld ?_ ?_
  rotate_left
  · (intro W hW; go_simp; try with_reducible rfl)
  try simp only [Act.put, List.setIfInBounds_toArray, List.set_cons_zero, List.set_cons_succ]
  refine wpB_take 4 _ ?_ rfl (by kernel_rfl) (fun _ _ _ h => h) rfl hHeld ?_ ?_
  rotate_left
  · (intro W hW; go_simp; try with_reducible rfl)
  try simp only [Act.put, List.setIfInBounds_toArray, List.set_cons_zero, List.set_cons_succ]
  refine wpB_take 5 _ ?_ rfl (by kernel_rfl) (fun _ _ _ h => h) rfl hHeld ?_ ?_
  rotate_left
  · (intro W hW; go_simp; try with_reducible rfl)
  try simp only [Act.put, List.setIfInBounds_toArray, List.set_cons_zero, List.set_cons_succ]
  refine wpB_take 6 _ ?_ rfl (by kernel_rfl) (fun _ _ _ h => h) rfl hHeld ?_ ?_
  rotate_left
  · (intro W hW; go_simp; try with_reducible rfl)
  try simp only [Act.put, List.setIfInBounds_toArray, List.set_cons_zero, List.set_cons_succ]
  refine wpB_take 8 _ ?_ rfl (by kernel_rfl) (fun _ _ _ h => h) rfl hHeld ?_ ?_
  rotate_left
  · (intro W hW; go_simp; try with_reducible rfl)
  try simp only [Act.put, List.setIfInBounds_toArray, List.set_cons_zero, List.set_cons_succ]
  refine wpB_take 9 _ ?_ rfl (by kernel_rfl) (fun _ _ _ h => h) rfl hHeld ?_ ?_
  rotate_left
  · (intro W hW; go_simp; try with_reducible rfl)
  try simp only [Act.put, List.setIfInBounds_toArray, List.set_cons_zero, List.set_cons_succ]
  refine wpB_take 10 _ ?_ rfl (by kernel_rfl) (fun _ _ _ h => h) rfl hHeld ?_ ?_
  rotate_left
  · (intro W hW; go_simp; try with_reducible rfl)
  try simp only [Act.put, List.setIfInBounds_toArray, List.set_cons_zero, List.set_cons_succ]
  refine wpB_take 11 _ ?_ rfl (by kernel_rfl) (fun _ _ _ h => h) rfl hHeld ?_ ?_
  rotate_left
  · (intro W hW; go_simp; try with_reducible rfl)
  try simp only [Act.put, List.setIfInBounds_toArray, List.set_cons_zero, List.set_cons_succ]
  refine wpB_take 12 _ ?_ rfl (by kernel_rfl) (fun _ _ _ h => h) rfl hHeld ?_ ?_
  rotate_left
  · (intro W hW; go_simp; try with_reducible rfl)
  try simp only [Act.put, List.setIfInBounds_toArray, List.set_cons_zero, List.set_cons_succ]
  refine wpB_take 13 _ ?_ rfl (by kernel_rfl) (fun _ _ _ h => h) rfl hHeld ?_ ?_
  rotate_left
  · (intro W hW; go_simp; try with_reducible rfl)
  try simp only [Act.put, List.setIfInBounds_toArray, List.set_cons_zero, List.set_cons_succ]
  refine wpB_take 14 _ ?_ rfl (by kernel_rfl) (fun _ _ _ h => h) rfl hHeld ?_ ?_
  rotate_left
  · (intro W hW; go_simp; try with_reducible rfl)
  try simp only [Act.put, List.setIfInBounds_toArray, List.set_cons_zero, List.set_cons_succ]
  refine wpB_step 7 _ rfl (by kernel_rfl) rfl rfl (fun K hK_ => ?_)
  refine wp_append_mine _ (.const (.slice none 0 0)) (.tmp 75) 27 rfl w3.heap.size 56 i0 (.agg #[.string ByteArray.empty, .string ByteArray.empty, .bool false]) 3 40 Tryd.underlying27 hi0' hz0 hz1 hz2 rfl (by decide) (.slice none 0 0) 0 [] rfl ⟨rfl, .inl ⟨rfl, rfl⟩⟩ ⟨g, o, none⟩ i cv ((L.take i).flatMap KeyC) rfl hl7 (fun j u hu => by rw [Addr.add_lit]; exact hrow _ hHeld j u (flat_take hu)) (one_keys _) (by unfold maxLen; omega) (by omega) (by have := hHeld.size; omega) ?_
  intro v7 w7 hown7 hkp7 _ _
  rw [Nat.zero_add, List.nil_append] at hown7
  refine hK_.out _ _ (by exact hHeld.trans hkp7) (fun hHeld => ?_)
  clear hK_ K
  try simp only [Act.put, List.setIfInBounds_toArray, List.set_cons_zero, List.set_cons_succ]
  refine wpB_step 15 _ rfl (by kernel_rfl) rfl rfl (fun K hK_ => ?_)
  refine wp_append_mine _ (.tmp 76) (.tmp 83) 27 rfl w3.heap.size 56 i0 (.agg #[.string ByteArray.empty, .string ByteArray.empty, .bool false]) 3 40 Tryd.underlying27 hi0' hz0 hz1 hz2 rfl (by decide) v7 i ((L.take i).flatMap KeyC) rfl hown7 PA (L.length - (i + 1)) (cv - (i + 1)) ((L.drop (i + 1)).flatMap KeyC) (by by_cases hcv : cv = i + 1 <;> simp [Act.eval, HPA.out, hcv]) hl15 (hnew _ hHeld) (one_keys _) (by unfold maxLen; omega) (by omega) (by have := hHeld.size; omega) ?_
  intro v15 w15 hown15 hkp15 _ _
  refine hK_.out _ _ (by exact hHeld.step hkp15 (fun b hb hm => by rw [Option.mem_toList] at hm; have := own_block_ge hown7 b hm; omega)) (fun hHeld => ?_)
  clear hK_ K
  try simp only [Act.put, List.setIfInBounds_toArray, List.set_cons_zero, List.set_cons_succ]
  refine wpB_take 16 _ ?_ rfl (by kernel_rfl) (fun _ _ _ h => h) rfl hHeld ?_ ?_
  rotate_left
  · (intro W hW; go_simp; try with_reducible rfl)
  try simp only [Act.put, List.setIfInBounds_toArray, List.set_cons_zero, List.set_cons_succ]
  refine wpB_take 17 _ ?_ rfl (by kernel_rfl) (fun _ _ _ h => h) rfl hHeld ?_ ?_
  rotate_left
  · (intro W hW; go_simp; try with_reducible rfl)
  try simp only [Act.put, List.setIfInBounds_toArray, List.set_cons_zero, List.set_cons_succ]
  refine wpB_bar (Kp [rb] w3) 999 _ rfl (by kernel_rfl) rfl (fun K hK_ => ?_)
  obtain ⟨a15, c15, rfl⟩ := ownsRow_ex hown15
  have b18 := ((k03.trans hHeld).block rb hrb (by simp)).trans ht
  have c18 := cell_of_cells (o := 0) b18 rfl
  have f18 := frozen_of_cells b18 0
  go_simp
  refine hK_.out _ _ (by exact (hHeld.weaken (fun _ _ hm => by cases hm)).setCell (.inl (by simp)) _) (fun hHeld => ?_)
  clear hK_ K
  try simp only [Act.put, List.setIfInBounds_toArray, List.set_cons_zero, List.set_cons_succ]
  refine wpB_done (by kernel_rfl) ?_ _
  have hrw : RmAt rb (w15.setCell ⟨rb, 0, none⟩ (.slice a15 (i + (L.length - (i + 1))) c15)) (L.take i ++ L.drop (i + 1)) := by
    have hlen : (L.take i ++ L.drop (i + 1)).length = i + (L.length - (i + 1)) := by simp; omega
    refine ⟨a15, c15, by rw [block_setCell b18, hlen]; rfl, ?_⟩
    rw [hlen, List.flatMap_append]
    refine owns_other (ownsRow_base hown15 (by have := k03.size; omega)) ((Kp.refl [rb] _).setCell (.inl (by simp)) _) (fun g hg hm => ?_)
    have := own_block_ge hown15 g hg
    have := k03.size
    simp only [List.mem_singleton] at hm
    omega
  obtain ⟨w18, hw18⟩ : ∃ w18, w18 = w15.setCell ⟨rb, 0, none⟩ (.slice a15 (i + (L.length - (i + 1))) c15) := ⟨_, rfl⟩
  rw [← hw18] at hrw hHeld ⊢
  have hp := rput HL2 k E0 true w18 hrw
  have k18 := hHeld
  clear hHeld hw18 c18 f18 b18 hkp7 hkp15 hown7 hown15 hrow d3
  go_wp2_with fail
  all_goals
    refine hp.mono ?_
    rintro e w19 ⟨⟨v19, rfl⟩, hM19, k19⟩
    have k319 := k18.trans k19
    have b19 := (k319.block _ (lt_of_block b3) (by simp only [List.mem_singleton]; omega)).trans b3
    have z0 := cell_of_cells (o := 0) b19 rfl
    have z1 := cell_of_cells (o := 1) b19 rfl
    have z2 := cell_of_cells (o := 2) b19 rfl
    have zf0 := frozen_of_cells b19 0
    have zf1 := frozen_of_cells b19 1
    have zf2 := frozen_of_cells b19 2
    clear hp
    go_wp2_with fail
    have hz := box3Put' (b19) (.int .i64 0) (.string ⟨#[]⟩) (.slice none 0 0)
    have hkz : Kp [R] w19 (((w19.setCell ⟨R, 0, none⟩ (.int .i64 0)).setCell ⟨R, 1, none⟩ (.string ⟨#[]⟩)).setCell ⟨R, 2, none⟩ (.slice none 0 0)) := (((Kp.refl _ _).setCell (.inl (by simp)) _).setCell (.inl (by simp)) _).setCell (.inl (by simp)) _
    obtain ⟨Z, hZ⟩ : ∃ Z, Z = (((w19).setCell ⟨R, 0, none⟩ (.int .i64 0)).setCell ⟨R, 1, none⟩ (.string ⟨#[]⟩)).setCell ⟨R, 2, none⟩ (.slice none 0 0) := ⟨_, rfl⟩
    rw [← hZ] at hz hkz ⊢
    obtain ⟨hz0, hz1, hz2⟩ := hz
    refine bodyPost_ret (ret3_rDo _ _ R (by kernel_rfl) hz0 hz1 hz2) rfl ?_
    have hkw := kp_past ((k03.weaken (Y := [rb]) (fun _ _ hm => by cases hm)).trans k319) hkz hRlt
    exact ⟨_, rfl, gave_nil _ _ _ _, hM19.keepB hkz b19 (by decide) (by omega), hkw⟩
end Go.Proofs.YtlomniffpjndfaaDoor
