/-
  A model's entries as the document's model holds them: rising keys. What the document's model does to its list, a model does to its entries.
  The document's model: stat.
-/
import Derived.Test.YtlomniffpjndfaaDoorMdDh
import Derived.Test.YtlomniffpjndfaaDoorMdDi
namespace Go.Proofs.YtlomniffpjndfaaDoor
open Go.ChangeShapes Go.WideShapes Go.RowKit Go.WideElems Go.Sort

def keyD (M : Mdl) (k : List UInt8) : KeyD := (SB k, (M.at (SB k)).1, (M.at (SB k)).2)
def RL (M : Mdl) : List KeyD := M.keys.map (keyD M)
theorem RL_len (M : Mdl) : (RL M).length = M.length := by unfold RL; rw [List.length_map, M.keys_len]
abbrev ltK (a b : KeyD) : Prop := a.1.data.toList < b.1.data.toList
def Ris (L : List KeyD) : Prop := L.Pairwise ltK
theorem keys_mem {M : Mdl} {k : List UInt8} : k ∈ M.keys ↔ SB k ∈ M.map (·.1) := by
  unfold Mdl.keys
  rw [List.mem_mergeSort, List.mem_map, List.mem_map]
  constructor
  · rintro ⟨p, hp, rfl⟩
    exact ⟨p, hp, (SB_dataK _).symm⟩
  · rintro ⟨p, hp, h⟩
    exact ⟨p, hp, by rw [h]⟩
theorem at_get {M : Mdl} {k : ByteArray} {q : ByteArray × Bool} (h : aGet k M = some q) : M.at k = q := by unfold Mdl.at; rw [h]; rfl
theorem RL_mem {M : Mdl} {q : KeyD} : q ∈ RL M ↔ aGet q.1 M = some q.2 := by
  unfold RL
  rw [List.mem_map]
  constructor
  · rintro ⟨k, hk, rfl⟩
    have hs := (aGet_isSome_iff (k := SB k) (l := M)).2 (keys_mem.1 hk)
    obtain ⟨x, hx⟩ := Option.isSome_iff_exists.1 hs
    show aGet (SB k) M = some ((M.at (SB k)).1, (M.at (SB k)).2)
    rw [at_get hx, hx]
  · intro h
    refine ⟨q.1.data.toList, keys_mem.2 (by rw [SB_dataK]; exact (aGet_isSome_iff (k := q.1) (l := M)).1 (by rw [h]; rfl)), ?_⟩
    unfold keyD
    rw [SB_dataK, at_get h]
theorem RL_ris {M : Mdl} (h : Nod M) : Ris (RL M) := by
  unfold Ris RL
  rw [List.pairwise_map]
  have hs : M.keys.Pairwise (fun a b => decide (a ≤ b) = true) := List.pairwise_mergeSort leL_trans leL_total _
  have hn : M.keys.Pairwise (· ≠ ·) := keys_nod h
  refine (hs.and hn).imp ?_
  rintro a b ⟨h1, h2⟩
  show (SB a).data.toList < (SB b).data.toList
  simp only [decide_eq_true_eq] at h1
  apply Decidable.byContradiction
  intro h3
  exact h2 (List.le_antisymm h1 h3)
theorem ris_nod {L : List KeyD} (h : Ris L) : (L.map (·.1)).Nodup := by
  unfold List.Nodup
  rw [List.pairwise_map]
  exact h.imp fun hab he => by rw [ltK, he] at hab; exact List.lt_irrefl _ hab
theorem nod_of_map {L : List KeyD} (h : (L.map (·.1)).Nodup) : L.Nodup := by
  unfold List.Nodup at *
  rw [List.pairwise_map] at h
  exact h.imp fun hab he => hab (by rw [he])
theorem ris_ext {L L' : List KeyD} (h : Ris L) (h' : Ris L') (hm : ∀ q, q ∈ L ↔ q ∈ L') : L = L' := by
  refine List.Perm.eq_of_pairwise (le := fun a b => decide (ltK a b) = true) (fun a b _ _ h1 h2 => ?_) (h.imp fun hab => by simpa using hab) (h'.imp fun hab => by simpa using hab) ((List.perm_ext_iff_of_nodup (nod_of_map (ris_nod h)) (nod_of_map (ris_nod h'))).2 hm)
  simp only [decide_eq_true_eq] at h1 h2
  exact absurd (List.lt_trans h1 h2) (List.lt_irrefl _)
theorem atL_none {k : ByteArray} : ∀ {L : List KeyD} {n : Nat}, (∀ q ∈ L, q.1 ≠ k) → atL k L n = -1
  | [], _, _ => rfl
  | a :: l, n, h => by
    unfold atL
    rw [if_neg (h a (List.mem_cons_self ..)), atL_none (fun q hq => h q (List.mem_cons_of_mem _ hq))]
theorem atL_some {k : ByteArray} : ∀ {L : List KeyD} {n : Nat} {q : KeyD}, q ∈ L → q.1 = k → ∃ j, ∃ hj : j < L.length, atL k L n = ((n + j : Nat) : Int) ∧ L[j].1 = k
  | [], _, _, h, _ => by cases h
  | a :: l, n, q, h, e => by
    unfold atL
    by_cases ha : a.1 = k
    · rw [if_pos ha]; exact ⟨0, by simp, rfl, ha⟩
    · rw [if_neg ha]
      rcases List.mem_cons.1 h with rfl | h
      · exact absurd e ha
      · obtain ⟨j, hj, h1, h2⟩ := atL_some (n := n + 1) h e
        refine ⟨j + 1, by rw [List.length_cons]; omega, ?_, by simpa using h2⟩
        rw [h1]; congr 1; omega
theorem RL_away {M : Mdl} {k : ByteArray} (h : aGet k M = none) : atL k (RL M) 0 = -1 :=
  atL_none fun q hq e => by rw [RL_mem, e, h] at hq; cases hq
theorem RL_there {M : Mdl} {k : ByteArray} {q : ByteArray × Bool} (h : aGet k M = some q) : ∃ j, ∃ hj : j < (RL M).length, atL k (RL M) 0 = (j : Int) ∧ (RL M)[j] = (k, q.1, q.2) := by
  obtain ⟨j, hj, h1, h2⟩ := atL_some (n := 0) (RL_mem.2 (show aGet ((k, q) : KeyD).1 M = some ((k, q) : KeyD).2 from h)) rfl
  refine ⟨j, hj, by rw [h1, Nat.zero_add], ?_⟩
  have hm := RL_mem.1 (List.getElem_mem hj)
  rw [h2, h] at hm
  simp only [Option.some.injEq] at hm
  exact Prod.ext h2 hm.symm
theorem gt_iff {a b : ByteArray} : gtB a b = true ↔ b.data.toList < a.data.toList := by
  unfold gtB
  rw [Bool.not_eq_true', Bool.or_eq_false_iff, bytesLess_eq, decide_eq_false_iff_not, beq_eq_false_iff_ne, ByteArray.toList_eq, ByteArray.toList_eq]
  constructor
  · rintro ⟨h1, h2⟩
    apply Decidable.byContradiction
    intro h3
    exact h2 (List.le_antisymm h3 h1)
  · intro h
    exact ⟨fun h' => List.lt_irrefl a.data.toList (List.lt_trans h' h), fun e => List.lt_irrefl b.data.toList (by rw [e] at h; exact h)⟩
theorem insK_mem {k : KeyD} : ∀ {L : List KeyD} {q : KeyD}, q ∈ insK k L ↔ q = k ∨ q ∈ L
  | [], q => by simp [insK]
  | a :: l, q => by
    unfold insK
    split
    · simp
    · rw [List.mem_cons, insK_mem, List.mem_cons]
      constructor
      · rintro (h | h | h)
        · exact .inr (.inl h)
        · exact .inl h
        · exact .inr (.inr h)
      · rintro (h | h | h)
        · exact .inr (.inl h)
        · exact .inl h
        · exact .inr (.inr h)
theorem insK_ris {k : KeyD} : ∀ {L : List KeyD}, Ris L → (∀ q ∈ L, q.1 ≠ k.1) → Ris (insK k L)
  | [], _, _ => List.pairwise_singleton ..
  | a :: l, h, hn => by
    unfold insK
    have h' := List.pairwise_cons.1 h
    by_cases hg : gtB a.1 k.1 = true
    · rw [if_pos hg]
      refine List.pairwise_cons.2 ⟨fun q hq => ?_, h⟩
      rcases List.mem_cons.1 hq with rfl | hq
      · exact gt_iff.1 hg
      · exact List.lt_trans (gt_iff.1 hg) (h'.1 q hq)
    · rw [if_neg hg]
      refine List.pairwise_cons.2 ⟨fun q hq => ?_, insK_ris h'.2 (fun q hq => hn q (List.mem_cons_of_mem _ hq))⟩
      rcases insK_mem.1 hq with rfl | hq
      · apply Decidable.byContradiction
        intro h3
        apply hn a (List.mem_cons_self ..)
        apply data_inj
        refine List.le_antisymm ?_ h3
        intro h4
        exact hg (gt_iff.2 h4)
      · exact h'.1 q hq
theorem get_put {M : Mdl} {k k' : ByteArray} {v : ByteArray × Bool} : aGet k' (aPut k v M) = if k = k' then some v else aGet k' M := by
  by_cases h : k = k'
  · subst h; rw [if_pos rfl, get_put_same]
  · rw [if_neg h, get_put_other h]
theorem RL_put {M : Mdl} (hn : Nod M) {k u : ByteArray} {b : Bool} (h : aGet k M = none) : insK (k, u, b) (RL M) = RL (aPut k (u, b) M) := by
  have hne : ∀ q ∈ RL M, q.1 ≠ k := fun q hq e => by rw [RL_mem, e, h] at hq; cases hq
  refine ris_ext (insK_ris (RL_ris hn) hne) (RL_ris (nod_put hn _ _)) fun q => ?_
  rw [insK_mem, RL_mem, RL_mem, get_put]
  by_cases e : k = q.1
  · rw [if_pos e]
    constructor
    · rintro (rfl | h2)
      · rfl
      · exact absurd e.symm (hne q (RL_mem.2 h2))
    · intro h2
      simp only [Option.some.injEq] at h2
      exact .inl (Prod.ext e.symm h2.symm)
  · rw [if_neg e]
    constructor
    · rintro (rfl | h2)
      · exact absurd rfl e
      · exact h2
    · exact fun h2 => .inr h2
theorem cut_mem {L : List KeyD} (h : Ris L) {i : Nat} (hi : i < L.length) {q : KeyD} : q ∈ L.take i ++ L.drop (i + 1) ↔ q ∈ L ∧ q.1 ≠ L[i].1 := by
  have e : L = L.take i ++ (L[i] :: L.drop (i + 1)) := by rw [← List.drop_eq_getElem_cons hi, List.take_append_drop]
  have hn := ris_nod h
  rw [e, List.map_append, List.map_cons, List.nodup_append] at hn
  obtain ⟨-, hn2, hn3⟩ := hn
  rw [List.nodup_cons] at hn2
  constructor
  · intro hq
    refine ⟨?_, ?_⟩
    · rw [e]
      rcases List.mem_append.1 hq with hq | hq
      · exact List.mem_append_left _ hq
      · exact List.mem_append_right _ (List.mem_cons_of_mem _ hq)
    · rcases List.mem_append.1 hq with hq | hq
      · exact hn3 _ (List.mem_map_of_mem hq) _ (List.mem_cons_self ..)
      · exact fun e2 => hn2.1 (by rw [← e2]; exact List.mem_map_of_mem hq)
  · rintro ⟨hq, hne⟩
    rw [e] at hq
    rcases List.mem_append.1 hq with hq | hq
    · exact List.mem_append_left _ hq
    · rcases List.mem_cons.1 hq with rfl | hq
      · exact absurd rfl hne
      · exact List.mem_append_right _ hq
theorem cut_ris {L : List KeyD} (h : Ris L) (i : Nat) : Ris (L.take i ++ L.drop (i + 1)) := by
  rw [← List.eraseIdx_eq_take_drop_succ]
  exact List.Pairwise.sublist (List.eraseIdx_sublist ..) h
theorem RL_del {M : Mdl} (hn : Nod M) {k u u' : ByteArray} {b b' : Bool} {i : Nat} (hi : i < (RL M).length) (hL : (RL M)[i] = (k, u, b)) : insK (k, u', b') ((RL M).take i ++ (RL M).drop (i + 1)) = RL (aPut k (u', b') M) := by
  have hc := fun q => cut_mem (q := q) (RL_ris hn) hi
  rw [hL] at hc
  refine ris_ext (insK_ris (cut_ris (RL_ris hn) i) (fun q hq => ((hc q).1 hq).2)) (RL_ris (nod_put hn _ _)) fun q => ?_
  rw [insK_mem, hc, RL_mem, RL_mem, get_put]
  by_cases e : k = q.1
  · rw [if_pos e]
    constructor
    · rintro (rfl | ⟨-, h2⟩)
      · rfl
      · exact absurd e.symm h2
    · intro h2
      simp only [Option.some.injEq] at h2
      exact .inl (Prod.ext e.symm h2.symm)
  · rw [if_neg e]
    constructor
    · rintro (rfl | ⟨h2, -⟩)
      · exact absurd rfl e
      · exact h2
    · exact fun h2 => .inr ⟨h2, fun h => e h.symm⟩
theorem RL_list (M : Mdl) (f : ByteArray) : (rlisted f (RL M)).map (fun q => q.1.toList) = M.listed f := by
  unfold rlisted RL Mdl.listed
  rw [List.filter_map, ← List.map_take, List.map_map]
  have e1 : (rtell f ∘ keyD M) = M.tells f := by
    funext k
    show (!(M.at (SB k)).2 && !(Op.bytesLess (SB k).toList f.toList)) = _
    rw [SB_toList]; rfl
  rw [e1]
  conv => rhs; rw [← List.map_id ((M.keys.filter (M.tells f)).take 16)]
  refine List.map_congr_left fun k _ => ?_
  exact SB_toList k
/-- what the document's State tells of a key -/
def rtold (q : KeyD) : List UInt8 := if q.2.2 then q.1.data.toList ++ [33, 32] else q.1.data.toList ++ ([61] ++ hexL q.2.1.data.toList ++ [32])
theorem RL_state (M : Mdl) : (RL M).flatMap rtold = M.state := by
  unfold RL Mdl.state
  rw [List.flatMap_map]
  rfl
end Go.Proofs.YtlomniffpjndfaaDoor

namespace Go.Proofs.YtlomniffpjndfaaDoor
open Go.RowKit Go.ChangeMaps Go.Maps Go.WideShapes Go.WideMaps Go.WideElems Go.MapKept Go.ChangeShapes Go.Sort

set_option maxHeartbeats 4000000 in
set_option maxRecDepth 20000 in
theorem rdo_stat {rb : Nat} {L : List KeyD} (hz : L.length ≤ 1000) (kind : Int) (k v : ByteArray) (hk : k.size < 16384) (hv : v.size < 16384) (w : World) (h : RmAt rb w L) (hck : checkE kind k v = 0) (hb4 : (kind == 4) = false) (hb0 : (kind == 0) = false) (hb1 : (kind == 1) = false) (hb2 : (kind == 2) = false)
    {i : Nat} (hat : atL k L 0 = (i : Int)) (hi : i < L.length) {u : ByteArray} (hLi : L[i] = (k, u, false)) (hu : u.size ≤ 384) :
    Calls Tryd.prog 13 #[Rm.p rb, ReqV kind k v] w fun e w' => ∃ x, e = .returned x ∧ Gave w.heap.size w' x ⟨0, statV sumF u, []⟩ ∧ RmAt rb w' L ∧ Kp [rb] w w' := by
  obtain ⟨A, hA⟩ : ∃ A, A = SB (Lib.decDigits u.size) := ⟨_, rfl⟩
  obtain ⟨D, hD⟩ : ∃ D, D = sumF u := ⟨_, rfl⟩
  obtain ⟨X, hX⟩ : ∃ X, X = HX D := ⟨_, rfl⟩
  have hst : statV sumF u = A ++ ⟨#[32]⟩ ++ X := by rw [hA, hX, hD]; rfl
  have hDz : D.size < 16384 := by rw [hD]; have := sum_ok.size u; omega
  have hsum := fun W => rsum u (by omega) W
  have hhx : ∀ W, Calls Tryd.prog 31 #[.string D] W fun e w' => e = .returned (.string X) ∧ Kp [] W w' := fun W => by rw [hX]; exact rhex D hDz W
  have hA30 : A.size ≤ 30 := by rw [hA, SB_size, Lib.decDigits_length]; exact nDig_le _ (by omega)
  have hX64 : X.size ≤ 64 := by rw [hX]; show (hexL D.data.toList).toArray.size ≤ 64; rw [List.size_toArray, hexL_len]; have := sum_ok.size u; rw [← hD] at this; simp; omega
  have h1s : (⟨#[32]⟩ : ByteArray).size = 1 := rfl
  have hnum := fun W => rnumber u.size (by omega) W
  rw [← hA] at hnum
  rw [← hD] at hsum
  rw [hst]
  clear hA hD hX hst
  obtain ⟨w0, hw0⟩ : ∃ w0, w0 = w.alloc (.cells #[.int .i64 kind, .string k, .string v] 32) := ⟨_, rfl⟩
  have k0 : Kp [] w w0 := hw0 ▸ (Kp.refl _ _).alloc _
  have b0 : w0.heap[w.heap.size]? = some (.cells #[.int .i64 kind, .string k, .string v] 32 (0, 0)) := by rw [hw0]; exact block_new _ _
  obtain ⟨R, hR⟩ : ∃ R, R = w0.heap.size := ⟨_, rfl⟩
  have hR2 : R = w.heap.size + 1 := by rw [hR, hw0, World.size_alloc]
  obtain ⟨w1, hw1⟩ : ∃ w1, w1 = w0.alloc (.cells #[.int .i64 0, .string ⟨#[]⟩, .slice none 0 0] 37) := ⟨_, rfl⟩
  have k1 : Kp [] w0 w1 := hw1 ▸ (Kp.refl _ _).alloc _
  have b1 : w1.heap[R]? = some (.cells #[.int .i64 0, .string ⟨#[]⟩, .slice none 0 0] 37 (0, 0)) := by rw [hw1, hR]; exact block_new _ _
  have k01 := k0.trans k1
  have hRlt : w.heap.size ≤ R := by omega
  have b01 := (k1.block _ (lt_of_block b0) (by simp)).trans b0
  have cr0 := Kp.cellAt (X := []) (cell_of_cells (o := 0) (v := .int .i64 kind) b01 rfl) (by simp)
  have cr1 := Kp.cellAt (X := []) (cell_of_cells (o := 1) (v := .string k) b01 rfl) (by simp)
  have cr2 := Kp.cellAt (X := []) (cell_of_cells (o := 2) (v := .string v) b01 rfl) (by simp)
  have HW0 := Lib.hid hw0
  have HW1 := Lib.hid hw1
  have HR := Lib.hid hR2
  obtain ⟨av, cv, ht, ho⟩ := id h
  have hrb := lt_of_block ht
  have d0 := Kp.cellAt (X := []) (cell_of_cells (o := 0) (v := .slice av L.length cv) ht rfl) (by simp)
  have hc := rcheck kind k v hk hv w1
  clear hw0 hw1 hR hR2 b01 b0 k0 k1
  have hlt := hi
  have hi0 : ¬ ((i : Int) < 0) := by omega
  have hi1 : (0 : Int) ≤ (i : Int) := by omega
  have hltI : (i : Int) < (L.length : Int) := by omega
  obtain ⟨g, o, rfl, f0, f1, f2⟩ := key_at ho i hi
  rw [hLi] at f0 f1 f2
  simp only at f0 f1 f2
  have r0 := Kp.cellAt (X := []) f0 (by simp)
  have r1 := Kp.cellAt (X := []) f1 (by simp)
  have r2 := Kp.cellAt (X := []) f2 (by simp)
  clear f0 f1 f2 hLi
  rw [hck] at hc
  clear hck
  go_enter Tryd.func13, Tryd.ntmps13
  go_wp2_with fail
  rw [← HW0.out, ← HW1.out, ← HR.out]
  refine hc.mono ?_
  rintro e w2 ⟨rfl, k2⟩
  have b2 := (k2.block _ (lt_of_block b1) (by simp)).trans b1
  have k02 := k01.trans k2
  clear hc
  have ha := rat hz k w2 (h.keep0 k02)
  rw [hat] at ha
  clear hat
  go_wp2_with fail
  refine ha.mono ?_
  rintro e w3 ⟨rfl, k3⟩
  have b3 := (k3.block _ (lt_of_block b2) (by simp)).trans b2
  have k03 := k02.trans k3
  have k23 := k2.trans k3
  have z0 := cell_of_cells (o := 0) b3 rfl
  have z1 := cell_of_cells (o := 1) b3 rfl
  have z2 := cell_of_cells (o := 2) b3 rfl
  have zf0 := frozen_of_cells b3 0
  have zf1 := frozen_of_cells b3 1
  have zf2 := frozen_of_cells b3 2
  clear ha
  clear z0 z1 z2 zf0 zf1 zf2
  go_wp2_with fail
  refine (hnum w3).mono ?_
  rintro e w4 ⟨rfl, k4⟩
  go_wp2_with fail
  refine (hsum w4).mono ?_
  rintro e w5 ⟨rfl, k5⟩
  go_wp2_with fail
  refine (hhx w5).mono ?_
  rintro e w6 ⟨rfl, k6⟩
  have k36 := k4.trans (k5.trans k6)
  have b6 := (k36.block _ (lt_of_block b3) (by simp)).trans b3
  have k06 := k03.trans k36
  have z0 := cell_of_cells (o := 0) b6 rfl
  have z1 := cell_of_cells (o := 1) b6 rfl
  have z2 := cell_of_cells (o := 2) b6 rfl
  have zf0 := frozen_of_cells b6 0
  have zf1 := frozen_of_cells b6 1
  have zf2 := frozen_of_cells b6 2
  go_wp2_with fail
  have hz := box3Put' (b6) (.int .i64 (0)) (.string (A ++ ⟨#[32]⟩ ++ X)) (.slice none 0 0)
  have hkz : Kp [R] w6 (((w6.setCell ⟨R, 0, none⟩ (.int .i64 (0))).setCell ⟨R, 1, none⟩ (.string (A ++ ⟨#[32]⟩ ++ X))).setCell ⟨R, 2, none⟩ (.slice none 0 0)) := (((Kp.refl _ _).setCell (.inl (by simp)) _).setCell (.inl (by simp)) _).setCell (.inl (by simp)) _
  obtain ⟨Z, hZ⟩ : ∃ Z, Z = (((w6).setCell ⟨R, 0, none⟩ (.int .i64 (0))).setCell ⟨R, 1, none⟩ (.string (A ++ ⟨#[32]⟩ ++ X))).setCell ⟨R, 2, none⟩ (.slice none 0 0) := ⟨_, rfl⟩
  rw [← hZ] at hz hkz ⊢
  obtain ⟨hz0, hz1, hz2⟩ := hz
  refine bodyPost_ret (ret3_rDo _ _ R (by kernel_rfl) hz0 hz1 hz2) rfl ?_
  have hkw := kp_past k06 hkz hRlt
  exact ⟨_, rfl, gave_nil _ _ _ _, h.keep0 hkw, hkw.weaken (fun _ _ hm => by cases hm)⟩
end Go.Proofs.YtlomniffpjndfaaDoor
