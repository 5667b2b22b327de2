/-
  The document's model: State.
  The document's model: Do as a whole.
-/
import Derived.Test.YtlomniffpjndfaaDoorMdDi
import Derived.Test.YtlomniffpjndfaaDoorP8
import Derived.Test.YtlomniffpjndfaaDoorMdDl
namespace Go.Proofs.YtlomniffpjndfaaDoor
open Go.RowKit Go.ChangeMaps Go.Maps Go.WideShapes Go.WideMaps Go.WideElems Go.MapKept Go.ChangeShapes Go.Sort

theorem rtold_len {q : KeyD} (h : q.1.size ≤ 32 ∧ q.2.1.size ≤ 384) : (rtold q).length ≤ 802 := by
  obtain ⟨h1, h2⟩ := h
  have e1 : q.1.data.toList.length = q.1.size := by simp
  have e2 : q.2.1.data.toList.length = q.2.1.size := by simp
  unfold rtold
  split
  · simp; omega
  · rw [List.length_append, List.length_append, List.length_append, hexL_len, e1, e2]
    simp only [List.length_singleton]
    omega
theorem rtolds_len {L : List KeyD} (h : ∀ q ∈ L, q.1.size ≤ 32 ∧ q.2.1.size ≤ 384) : (L.flatMap rtold).length ≤ L.length * 802 := by
  induction L with
  | nil => simp
  | cons a r ih =>
    rw [List.flatMap_cons, List.length_append, List.length_cons]
    have h1 := rtold_len (h a (List.mem_cons_self ..))
    have h2 := ih (fun q hq => h q (List.mem_cons_of_mem _ hq))
    omega
set_option maxHeartbeats 4000000 in
set_option maxRecDepth 20000 in
theorem rstate {rb : Nat} {L : List KeyD} (hz : L.length ≤ 1000) (hs : ∀ q ∈ L, q.1.size ≤ 32 ∧ q.2.1.size ≤ 384) (w : World) (h : RmAt rb w L) : Calls Tryd.prog 15 #[Rm.p rb] w fun e w' => e = .returned (.string (SB (L.flatMap rtold))) ∧ Kp [] w w' := by
  obtain ⟨av, cv, ht, ho⟩ := h
  have hK := Kp.refl [] w
  have d0 := Kp.cellAt (X := []) (cell_of_cells (o := 0) (v := .slice av L.length cv) ht rfl) (by simp)
  obtain ⟨T, hT⟩ : ∃ T, T = SB (L.flatMap rtold) := ⟨_, rfl⟩
  rw [← hT]
  have HT := Lib.hid hT
  have HS := Lib.hid hs
  clear hT hs
  go_enter Tryd.func15, Tryd.ntmps15
  go_wp2_with fail
  go_loopg [3, 4] L.length (fun g s i wr => ∃ (n : Nat) (S : ByteArray), n + g = L.length ∧ i = .int .i64 n ∧ s = .string S ∧ Kp [] w wr ∧ S.data.toList = (L.take n).flatMap rtold)
  case atStart => exact ⟨0, ⟨#[]⟩, by omega, rfl, rfl, hK, rfl⟩
  case round =>
    clear hK
    obtain ⟨n, S, hn, rfl, rfl, hK, hS⟩ := hrel
    have HN := Lib.hid hn
    have HSS := Lib.hid hS
    clear hS
    by_cases hlt : n < L.length
    · obtain ⟨g', rfl⟩ : ∃ g', gk = g' + 1 := ⟨gk - 1, by omega⟩
      clear hn
      have hltI : (n : Int) < (L.length : Int) := by omega
      obtain ⟨g, o, rfl, f0, f1, f2⟩ := key_at ho n hlt
      have r0 := Kp.cellAt (X := []) f0 (by simp)
      have r1 := Kp.cellAt (X := []) f1 (by simp)
      have r2 := Kp.cellAt (X := []) f2 (by simp)
      have hsz := HS.out _ (List.getElem_mem hlt)
      have hSl : S.size ≤ 802000 := by
        have h1 := rtolds_len (L := L.take n) (fun q hq => HS.out q (List.mem_of_mem_take hq))
        rw [← HSS.out, List.length_take] at h1
        have e1 : S.data.toList.length = S.size := by simp
        omega
      have hnx : (L.take (n + 1)).flatMap rtold = S.data.toList ++ rtold L[n] := by rw [HSS.out, take_nextS hlt, List.flatMap_append]; simp
      obtain ⟨y, hy⟩ : ∃ y, y = L[n] := ⟨_, rfl⟩
      rw [← hy] at r0 r1 r2 hsz hnx
      obtain ⟨y0, y1, y2⟩ := y
      simp only at r0 r1 r2 hsz
      have HNX := Lib.hid hnx
      obtain ⟨hs0, hs1⟩ := hsz
      clear hy f0 f1 f2 hnx
      cases y2 with
      | true =>
        have hfin : (S ++ y0 ++ ⟨#[33, 32]⟩).data.toList = (L.take (n + 1)).flatMap rtold := by
          rw [HNX.out]; simp [rtold, ByteArray.data_append]
        have HF := Lib.hid hfin
        have h2s : (⟨#[33, 32]⟩ : ByteArray).size = 2 := rfl
        clear hfin
        go_wp2_with fail
        go_roundg g'
        case rel => exact ⟨n + 1, _, st_next HN.out, by go_num, rfl, hK, HF.out⟩
        case measure => omega
      | false =>
        have hhx : ∀ W, Calls Tryd.prog 31 #[.string y1] W fun e w' => e = .returned (.string (HX y1)) ∧ Kp [] W w' := fun W => rhex y1 (by omega) W
        obtain ⟨X, hX⟩ : ∃ X, X = HX y1 := ⟨_, rfl⟩
        have hXz : X.size ≤ 768 := by rw [hX]; show (hexL y1.data.toList).toArray.size ≤ 768; rw [List.size_toArray, hexL_len]; simp; omega
        have h1s : (⟨#[61]⟩ : ByteArray).size = 1 := rfl
        have h2s : (⟨#[32]⟩ : ByteArray).size = 1 := rfl
        have hXd : X.data.toList = hexL y1.data.toList := by rw [hX]
        rw [← hX] at hhx
        have hfin : (S ++ y0 ++ ⟨#[61]⟩ ++ X ++ ⟨#[32]⟩).data.toList = (L.take (n + 1)).flatMap rtold := by
          rw [HNX.out]; simp [rtold, ByteArray.data_append, hXd]
        have HF := Lib.hid hfin
        clear hfin hX hXd
        go_wp2_with fail
        refine wpB_begin 999 (Kp [] w) (by kernel_rfl) (by exact hK.drew) (fun hHeld => ?_)
        refine wpB_take 0 _ ?_ rfl (by kernel_rfl) (fun _ _ _ h => h) rfl hHeld ?_ ?_
        rotate_left
        · (intro W hW; go_simp; try with_reducible rfl)
        try simp only [Act.put, List.setIfInBounds_toArray, List.set_cons_zero, List.set_cons_succ]
        refine wpB_take 1 _ ?_ rfl (by kernel_rfl) (fun _ _ _ h => h) rfl hHeld ?_ ?_
        rotate_left
        · (intro W hW; go_simp; try with_reducible rfl)
        try simp only [Act.put, List.setIfInBounds_toArray, List.set_cons_zero, List.set_cons_succ]
        refine wpB_take 2 _ ?_ rfl (by kernel_rfl) (fun _ _ _ h => h) rfl hHeld ?_ ?_
        rotate_left
        · (intro W hW; go_simp; try with_reducible rfl)
        try simp only [Act.put, List.setIfInBounds_toArray, List.set_cons_zero, List.set_cons_succ]
        refine wpB_take 3 _ ?_ rfl (by kernel_rfl) (fun _ _ _ h => h) rfl hHeld ?_ ?_
        rotate_left
        · (intro W hW; go_simp; try with_reducible rfl)
        try simp only [Act.put, List.setIfInBounds_toArray, List.set_cons_zero, List.set_cons_succ]
        refine wpB_take 4 _ ?_ rfl (by kernel_rfl) (fun _ _ _ h => h) rfl hHeld ?_ ?_
        rotate_left
        · (intro W hW; go_simp; try with_reducible rfl)
        try simp only [Act.put, List.setIfInBounds_toArray, List.set_cons_zero, List.set_cons_succ]
        refine wpB_take 5 _ ?_ rfl (by kernel_rfl) (fun _ _ _ h => h) rfl hHeld ?_ ?_
        rotate_left
        · (intro W hW; go_simp; try with_reducible rfl)
        try simp only [Act.put, List.setIfInBounds_toArray, List.set_cons_zero, List.set_cons_succ]
        refine wpB_take 6 _ ?_ rfl (by kernel_rfl) (fun _ _ _ h => h) rfl hHeld ?_ ?_
        rotate_left
        · (intro W hW; go_simp; try with_reducible rfl)
        try simp only [Act.put, List.setIfInBounds_toArray, List.set_cons_zero, List.set_cons_succ]
        refine wpB_take 7 _ ?_ rfl (by kernel_rfl) (fun _ _ _ h => h) rfl hHeld ?_ ?_
        rotate_left
        · (intro W hW; go_simp; try with_reducible rfl)
        try simp only [Act.put, List.setIfInBounds_toArray, List.set_cons_zero, List.set_cons_succ]
        refine wpB_take 8 _ ?_ rfl (by kernel_rfl) (fun _ _ _ h => h) rfl hHeld ?_ ?_
        rotate_left
        · (intro W hW; go_simp; try with_reducible rfl)
        try simp only [Act.put, List.setIfInBounds_toArray, List.set_cons_zero, List.set_cons_succ]
        refine wpB_take 9 _ ?_ rfl (by kernel_rfl) (fun _ _ _ h => h) rfl hHeld ?_ ?_
        rotate_left
        · (intro W hW; go_simp; rw [if_neg (by omega)])
        try simp only [Act.put, List.setIfInBounds_toArray, List.set_cons_zero, List.set_cons_succ]
        refine wpB_take 10 _ ?_ rfl (by kernel_rfl) (fun _ _ _ h => h) rfl hHeld ?_ ?_
        rotate_left
        · (intro W hW; go_simp; rw [if_neg (by omega)])
        try simp only [Act.put, List.setIfInBounds_toArray, List.set_cons_zero, List.set_cons_succ]
        refine wpB_take 11 _ ?_ rfl (by kernel_rfl) (fun _ _ _ h => h) rfl hHeld ?_ ?_
        rotate_left
        · (intro W hW; go_simp; try with_reducible rfl)
        try simp only [Act.put, List.setIfInBounds_toArray, List.set_cons_zero, List.set_cons_succ]
        refine wpB_take 12 _ ?_ rfl (by kernel_rfl) (fun _ _ _ h => h) rfl hHeld ?_ ?_
        rotate_left
        · (intro W hW; go_simp; try with_reducible rfl)
        try simp only [Act.put, List.setIfInBounds_toArray, List.set_cons_zero, List.set_cons_succ]
        refine wpB_take 13 _ ?_ rfl (by kernel_rfl) (fun _ _ _ h => h) rfl hHeld ?_ ?_
        rotate_left
        · (intro W hW; go_simp; try with_reducible rfl)
        try simp only [Act.put, List.setIfInBounds_toArray, List.set_cons_zero, List.set_cons_succ]
        refine wpB_take 14 _ ?_ rfl (by kernel_rfl) (fun _ _ _ h => h) rfl hHeld ?_ ?_
        rotate_left
        · (intro W hW; go_simp; try with_reducible rfl)
        try simp only [Act.put, List.setIfInBounds_toArray, List.set_cons_zero, List.set_cons_succ]
        refine wpB_take 15 _ ?_ rfl (by kernel_rfl) (fun _ _ _ h => h) rfl hHeld ?_ ?_
        rotate_left
        · (intro W hW; go_simp; try with_reducible rfl)
        try simp only [Act.put, List.setIfInBounds_toArray, List.set_cons_zero, List.set_cons_succ]
        refine wpB_take 16 _ ?_ rfl (by kernel_rfl) (fun _ _ _ h => h) rfl hHeld ?_ ?_
        rotate_left
        · (intro W hW; go_simp; try with_reducible rfl)
        try simp only [Act.put, List.setIfInBounds_toArray, List.set_cons_zero, List.set_cons_succ]
        refine wpB_take 17 _ ?_ rfl (by kernel_rfl) (fun _ _ _ h => h) rfl hHeld ?_ ?_
        rotate_left
        · (intro W hW; go_simp; try with_reducible rfl)
        try simp only [Act.put, List.setIfInBounds_toArray, List.set_cons_zero, List.set_cons_succ]
        refine wpB_take 18 _ ?_ rfl (by kernel_rfl) (fun _ _ _ h => h) rfl hHeld ?_ ?_
        rotate_left
        · (intro W hW; go_simp; try with_reducible rfl)
        try simp only [Act.put, List.setIfInBounds_toArray, List.set_cons_zero, List.set_cons_succ]
        refine wpB_step 19 _ rfl (by kernel_rfl) rfl rfl (fun K hK_ => ?_)
        go_simp
        refine (hhx _).mono ?_
        rintro e wq ⟨rfl, kq⟩
        refine hK_.out _ _ (by exact hHeld.trans kq) (fun hHeld => ?_)
        clear hK_ K
        try simp only [Act.put, List.setIfInBounds_toArray, List.set_cons_zero, List.set_cons_succ]
        refine wpB_take 20 _ ?_ rfl (by kernel_rfl) (fun _ _ _ h => h) rfl hHeld ?_ ?_
        rotate_left
        · (intro W hW; go_simp; rw [if_neg (by omega)])
        try simp only [Act.put, List.setIfInBounds_toArray, List.set_cons_zero, List.set_cons_succ]
        refine wpB_take 21 _ ?_ rfl (by kernel_rfl) (fun _ _ _ h => h) rfl hHeld ?_ ?_
        rotate_left
        · (intro W hW; go_simp; rw [if_neg (by omega)])
        try simp only [Act.put, List.setIfInBounds_toArray, List.set_cons_zero, List.set_cons_succ]
        refine wpB_take 22 _ ?_ rfl (by kernel_rfl) (fun _ _ _ h => h) rfl hHeld ?_ ?_
        rotate_left
        · (intro W hW; go_simp; try with_reducible rfl)
        try simp only [Act.put, List.setIfInBounds_toArray, List.set_cons_zero, List.set_cons_succ]
        refine wpB_done (by kernel_rfl) ?_ _
        have hk7 := hHeld
        go_wp2_with fail
        go_roundg g'
        case rel => exact ⟨n + 1, _, st_next HN.out, by go_num, rfl, hk7, HF.out⟩
        case measure => omega
    · obtain rfl : n = L.length := by omega
      obtain rfl : gk = 0 := by omega
      have hf := HSS.out
      rw [List.take_length] at hf
      obtain rfl : S = T := by rw [HT.out, ← hf]
      clear hn hf
      go_wp2_with fail
      go_ret
      exact ⟨rfl, hK⟩
end Go.Proofs.YtlomniffpjndfaaDoor

namespace Go.Proofs.YtlomniffpjndfaaDoor
open Go.RowKit Go.ChangeMaps Go.Maps Go.WideShapes Go.WideMaps Go.WideElems Go.MapKept Go.ChangeShapes Go.Sort

theorem has_cases {M : Mdl} {k : ByteArray} (h : ¬ M.has k = true) : aGet k M = none ∨ ∃ u, aGet k M = some (u, true) := by
  unfold Mdl.has Mdl.at at h
  cases e : aGet k M with
  | none => exact .inl rfl
  | some q =>
    obtain ⟨u, b⟩ := q
    rw [e] at h
    cases b with
    | true => exact .inr ⟨u, rfl⟩
    | false => simp at h
theorem rdo {rb : Nat} {M : Mdl} (hs : Short M) (hn : Nod M) (hz : M.length ≤ 1000) (kind : Int) (k v : ByteArray) (hk : k.size < 16384) (hv : v.size < 16384) (w : World) (h : RmAt rb w (RL M)) :
    Calls Tryd.prog 13 #[Rm.p rb, ReqV kind k v] w fun e w' => ∃ x, e = .returned x ∧ Gave w.heap.size w' x (M.answer sumF kind k v) ∧ RmAt rb w' (RL (M.after kind k v)) ∧ Kp [rb] w w' := by
  have hz' : (RL M).length ≤ 1000 := by rw [RL_len]; exact hz
  by_cases hc : checkE kind k v ≠ 0
  · have ea : M.answer sumF kind k v = ⟨checkE kind k v, E0, []⟩ := by unfold Mdl.answer; rw [if_pos hc]
    have eb' : M.after kind k v = M := by unfold Mdl.after; rw [if_pos hc]
    rw [ea, eb']
    exact rdo_err kind k v hk hv w h hc
  · have hc0 := Decidable.not_not.1 hc
    have hget : ∀ {x y : RespD}, M.has k = true → (if M.has k = true then x else y) = x := fun e => if_pos e
    have hno : ∀ {x y : RespD}, ¬ M.has k = true → (if M.has k = true then x else y) = y := fun e => if_neg e
    rcases check_kinds hc0 with rfl | rfl | rfl | rfl | rfl
    · have ea : M.answer sumF 0 k v = if (aGet k M).isSome then ⟨13, E0, []⟩ else ⟨0, E0, []⟩ := by simp [Mdl.answer, hc0]
      have eb' : M.after 0 k v = if (aGet k M).isSome then M else aPut k (v, false) M := by simp [Mdl.after, hc0]
      rw [ea, eb']
      cases e : aGet k M with
      | none =>
        simp only [Option.isSome_none, Bool.false_eq_true, if_false]
        rw [← RL_put hn e]
        exact rdo_put hz' 0 k v hk hv w h hc0 rfl rfl (RL_away e)
      | some q =>
        obtain ⟨j, hj, h1, h2⟩ := RL_there e
        exact rdo_held hz' 0 k v hk hv w h hc0 rfl rfl h1
    · have ea : M.answer sumF 1 k v = if M.has k = true then ⟨0, (M.at k).1, []⟩ else ⟨9, E0, []⟩ := by simp [Mdl.answer, hc0]
      have eb' : M.after 1 k v = M := by simp [Mdl.after, hc0]
      rw [ea, eb']
      by_cases hh : M.has k = true
      · rw [hget hh]
        obtain ⟨u, hu, hat⟩ := has_get hh
        obtain ⟨j, hj, h1, h2⟩ := RL_there hu
        rw [hat]
        exact rdo_get hz' 1 k v hk hv w h hc0 rfl rfl rfl h1 hj h2
      · rw [hno hh]
        rcases has_cases hh with e | ⟨u, e⟩
        · exact rdo_away hz' 1 k v hk hv w h hc0 rfl rfl (RL_away e)
        · obtain ⟨j, hj, h1, h2⟩ := RL_there e
          exact rdo_gone hz' 1 k v hk hv w h hc0 rfl rfl h1 hj h2
    · have ea : M.answer sumF 2 k v = if M.has k = true then ⟨0, E0, []⟩ else ⟨9, E0, []⟩ := by simp [Mdl.answer, hc0]
      have eb' : M.after 2 k v = if M.has k = true then aPut k (E0, true) M else M := by simp [Mdl.after, hc0]
      rw [ea, eb']
      by_cases hh : M.has k = true
      · rw [hget hh, if_pos hh]
        obtain ⟨u, hu, hat⟩ := has_get hh
        obtain ⟨j, hj, h1, h2⟩ := RL_there hu
        rw [← RL_del hn hj h2]
        exact rdo_del hz' 2 k v hk hv w h hc0 rfl rfl rfl rfl h1 hj h2
      · rw [hno hh, if_neg hh]
        rcases has_cases hh with e | ⟨u, e⟩
        · exact rdo_away hz' 2 k v hk hv w h hc0 rfl rfl (RL_away e)
        · obtain ⟨j, hj, h1, h2⟩ := RL_there e
          exact rdo_gone hz' 2 k v hk hv w h hc0 rfl rfl h1 hj h2
    · have ea : M.answer sumF 3 k v = if M.has k = true then ⟨0, statV sumF (M.at k).1, []⟩ else ⟨9, E0, []⟩ := by simp [Mdl.answer, hc0]
      have eb' : M.after 3 k v = M := by simp [Mdl.after, hc0]
      rw [ea, eb']
      by_cases hh : M.has k = true
      · rw [hget hh]
        obtain ⟨u, hu, hat⟩ := has_get hh
        obtain ⟨j, hj, h1, h2⟩ := RL_there hu
        rw [hat]
        exact rdo_stat hz' 3 k v hk hv w h hc0 rfl rfl rfl rfl h1 hj h2 (hs _ (aGet_mem hu)).2
      · rw [hno hh]
        rcases has_cases hh with e | ⟨u, e⟩
        · exact rdo_away hz' 3 k v hk hv w h hc0 rfl rfl (RL_away e)
        · obtain ⟨j, hj, h1, h2⟩ := RL_there e
          exact rdo_gone hz' 3 k v hk hv w h hc0 rfl rfl h1 hj h2
    · have ea : M.answer sumF 4 k v = ⟨0, E0, M.listed k⟩ := by simp [Mdl.answer, hc0]
      have eb' : M.after 4 k v = M := by simp [Mdl.after, hc0]
      rw [ea, eb', ← RL_list]
      exact rdo_list hz' 4 k v hk hv w h hc0 rfl
theorem RL_short {M : Mdl} (hs : Short M) : ∀ q ∈ RL M, q.1.size ≤ 32 ∧ q.2.1.size ≤ 384 := fun q hq => hs (q.1, q.2) (aGet_mem (RL_mem.1 hq))
theorem rstateM {rb : Nat} {M : Mdl} (hs : Short M) (hz : M.length ≤ 1000) (w : World) (h : RmAt rb w (RL M)) : Calls Tryd.prog 15 #[Rm.p rb] w fun e w' => e = .returned (.string (SB M.state)) ∧ Kp [] w w' := by
  have := rstate (by rw [RL_len]; exact hz) (RL_short hs) w h
  rwa [RL_state] at this
end Go.Proofs.YtlomniffpjndfaaDoor
