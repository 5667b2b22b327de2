/-
  The document's model: put.
-/
import Derived.Test.YtlomniffpjndfaaDoorMdDg
namespace Go.Proofs.YtlomniffpjndfaaDoor
open Go.RowKit Go.ChangeMaps Go.Maps Go.WideShapes Go.WideMaps Go.WideElems Go.MapKept Go.ChangeShapes Go.Sort

theorem infoKey : (Tryd.prog.info? 56).map (fun i => (i.zero, i.size, i.bytes)) = some (some (.agg #[.string ByteArray.empty, .string ByteArray.empty, .bool false]), 3, 40) := by kernel_rfl
theorem oneCell_key (a b : ByteArray) (c : Bool) : ∀ u, u ∈ [Value.string a, .string b, .bool c] → u.oneCell' = true := by
  intro u hu
  simp only [List.mem_cons, List.not_mem_nil, or_false] at hu
  rcases hu with rfl | rfl | rfl <;> rfl
/-- is the first key greater? -/
def gtB (a b : ByteArray) : Bool := !(Op.bytesLess a.toList b.toList || a.toList == b.toList)
def insK (k : KeyD) : List KeyD → List KeyD
  | [] => [k]
  | a :: l => if gtB a.1 k.1 then k :: a :: l else a :: insK k l
theorem insK_len (k : KeyD) : ∀ L : List KeyD, (insK k L).length = L.length + 1
  | [] => rfl
  | a :: l => by
    unfold insK
    split
    · rfl
    · rw [List.length_cons, insK_len k l]; rfl
theorem ins_on {T O : List KeyD} {L : List KeyD} {n : Nat} (h : n < L.length) (hr : T = O ++ L.drop n) : T = (O ++ [L[n]]) ++ L.drop (n + 1) := by
  rw [hr, List.drop_eq_getElem_cons h, List.append_assoc]; rfl
theorem ins_no {T O : List KeyD} {k : KeyD} {L : List KeyD} {n : Nat} (h : n < L.length) (hr : T = O ++ insK k (L.drop n)) (hg : gtB L[n].1 k.1 = false) : T = (O ++ [L[n]]) ++ insK k (L.drop (n + 1)) := by
  rw [hr, List.drop_eq_getElem_cons h, insK, hg, List.append_assoc]; rfl
theorem ins_yes {T O : List KeyD} {k : KeyD} {L : List KeyD} {n : Nat} (h : n < L.length) (hr : T = O ++ insK k (L.drop n)) (hg : gtB L[n].1 k.1 = true) : T = ((O ++ [k]) ++ [L[n]]) ++ L.drop (n + 1) := by
  rw [hr, List.drop_eq_getElem_cons h, insK, hg, List.append_assoc, List.append_assoc]; rfl
set_option maxHeartbeats 4000000 in
set_option maxRecDepth 20000 in
theorem rput {rb : Nat} {L : List KeyD} (hz : L.length ≤ 1000) (k0 k1 : ByteArray) (k2 : Bool) (w : World) (h : RmAt rb w L) : Calls Tryd.prog 29 #[Rm.p rb, .agg #[.string k0, .string k1, .bool k2]] w fun e w' => (∃ v, e = .returned v) ∧ RmAt rb w' (insK (k0, k1, k2) L) ∧ Kp [rb] w w' := by
  obtain ⟨i0, hi0, hz0, hz1, hz2⟩ := info_parts infoKey
  obtain ⟨av, cv, ht, ho⟩ := h
  have hrb := lt_of_block ht
  obtain ⟨w1, hw1⟩ : ∃ w1, w1 = (w.alloc (Obj.cells #[.string k0, .string k1, .bool k2] 56)) := ⟨_, rfl⟩
  have kw1 : Kp [] w w1 := hw1 ▸ (Kp.refl _ _).alloc _
  have c0 := Kp.cellAt (X := []) (w0 := w1) (p := ⟨w.heap.size, 0, none⟩) (v := .string k0) (by rw [hw1]; exact cell_of_cells (block_new _ _) rfl) (by simp)
  have c1 := Kp.cellAt (X := []) (w0 := w1) (p := ⟨w.heap.size, 1, none⟩) (v := .string k1) (by rw [hw1]; exact cell_of_cells (block_new _ _) rfl) (by simp)
  have c2 := Kp.cellAt (X := []) (w0 := w1) (p := ⟨w.heap.size, 2, none⟩) (v := .bool k2) (by rw [hw1]; exact cell_of_cells (block_new _ _) rfl) (by simp)
  have hs1 : w1.heap.size = w.heap.size + 1 := by rw [hw1, World.size_alloc]
  have d0 := Kp.cellAt (X := []) (cell_of_cells (o := 0) (v := .slice av L.length cv) ht rfl) (by simp)
  obtain ⟨T, hT⟩ : ∃ T, T = insK (k0, k1, k2) L := ⟨_, rfl⟩
  rw [← hT]
  have hK := Kp.refl [] w1
  have hO0 : w1.ownsRow w1.heap.size 56 3 (.slice none 0 0) 0 (([] : List KeyD).flatMap KeyC) := ⟨rfl, .inl ⟨rfl, rfl⟩⟩
  have HW1 := Lib.hid hw1
  have HS1 := Lib.hid hs1
  have hsz1 := kw1.size
  clear hw1 hs1
  go_enter Tryd.func29, Tryd.ntmps29
  go_wp2_with fail
  rw [← HW1.out]
  go_loopg [4, 5, 6] L.length (fun g o l i wr => ∃ (n : Nat) (O : List KeyD) (laid : Bool) (ao : Option Addr) (co : Nat), n + g = L.length ∧ i = .int .i64 n ∧ l = .bool laid ∧ o = .slice ao O.length co ∧ Kp [] w1 wr ∧ wr.ownsRow w1.heap.size 56 3 (.slice ao O.length co) O.length (O.flatMap KeyC) ∧ O.length ≤ n + 1 ∧ (laid = false → O.length ≤ n) ∧ T = O ++ (if laid then L.drop n else insK (k0, k1, k2) (L.drop n)))
  case atStart => exact ⟨0, [], false, none, 0, by omega, rfl, rfl, rfl, hK, hO0, by simp, fun _ => by simp, hT⟩
  case round =>
    clear hK hO0 hT
    obtain ⟨n, O, laid, ao, co, hn, rfl, rfl, rfl, hK, hO, hl1, hl2, hR⟩ := hrel
    have HN := Lib.hid hn
    have hKw := kw1.trans hK
    have hge := own_block_ge hO
    have hBs : w1.heap.size ≤ wr.heap.size := hK.size
    by_cases hlt : n < L.length
    · obtain ⟨g', rfl⟩ : ∃ g', gk = g' + 1 := ⟨gk - 1, by omega⟩
      clear hn
      have hltI : (n : Int) < (L.length : Int) := by omega
      obtain ⟨g, o, rfl, f0, f1, f2⟩ := key_at ho n hlt
      have r0 := Kp.cellAt (X := []) f0 (by simp)
      have r1 := Kp.cellAt (X := []) f1 (by simp)
      have r2 := Kp.cellAt (X := []) f2 (by simp)
      have a1 := fun hr => ins_on (T := T) (O := O) hlt hr
      have a2 := fun hr hg => ins_no (T := T) (O := O) (k := (k0, k1, k2)) hlt hr hg
      have a3 := fun hr hg => ins_yes (T := T) (O := O) (k := (k0, k1, k2)) hlt hr hg
      obtain ⟨y, hy⟩ : ∃ y, y = L[n] := ⟨_, rfl⟩
      rw [← hy] at r0 r1 r2 a1 a2 a3
      obtain ⟨y0, y1, y2⟩ := y
      simp only at r0 r1 r2 a1 a2 a3
      obtain ⟨Ls, hLs⟩ : ∃ Ls, Ls = O.flatMap KeyC := ⟨_, rfl⟩
      obtain ⟨q, hq⟩ : ∃ q, q = O.length := ⟨_, rfl⟩
      rw [← hLs, ← hq] at hO
      rw [← hq] at hge hl1 hl2 ⊢
      have HLs := Lib.hid hLs
      have HQ := Lib.hid hq
      have D0 := Lib.hid d0
      have R0 := Lib.hid r0
      have R1 := Lib.hid r1
      have R2 := Lib.hid r2
      have s0 := fun W (kk : Kp [] wr W) => r0 W (hKw.trans kk)
      have s1 := fun W (kk : Kp [] wr W) => r1 W (hKw.trans kk)
      have s2 := fun W (kk : Kp [] wr W) => r2 W (hKw.trans kk)
      have t0 := fun W (kk : Kp [] wr W) => c0 W (hK.trans kk)
      have t1 := fun W (kk : Kp [] wr W) => c1 W (hK.trans kk)
      have t2 := fun W (kk : Kp [] wr W) => c2 W (hK.trans kk)
      have hd0 := fun W (kk : Kp [] wr W) => d0 W (hKw.trans kk)
      clear hy f0 f1 f2 hLs hq r0 r1 r2 c0 c1 c2 d0
      have hrr := Kp.refl [] wr
      cases laid with
      | true =>
        have hR2 := a1 (by simpa using hR)
        have HR2 := Lib.hid hR2
        clear hR hR2 a1 a2 a3 hl2
        go_wp2_with fail
        refine wpB_begin 999 (Kp [] wr) (by kernel_rfl) (by exact (Kp.refl _ _).drew) (fun hHeld => ?_)
        refine wpB_take 0 _ ?_ rfl (by kernel_rfl) (fun _ _ _ h => h) rfl hHeld ?_ ?_
        rotate_left
        · (intro W hW; go_simp; try with_reducible rfl)
        try simp only [Act.put, List.setIfInBounds_toArray, List.set_cons_zero, List.set_cons_succ]
        refine wpB_take 1 _ ?_ rfl (by kernel_rfl) (fun _ _ _ h => h) rfl hHeld ?_ ?_
        rotate_left
        · (intro W hW; go_simp; try with_reducible rfl)
        try simp only [Act.put, List.setIfInBounds_toArray, List.set_cons_zero, List.set_cons_succ]
        refine wpB_take 2 _ ?_ rfl (by kernel_rfl) (fun _ _ _ h => h) rfl hHeld ?_ ?_
        rotate_left
        · (intro W hW; go_simp; try with_reducible rfl)
        try simp only [Act.put, List.setIfInBounds_toArray, List.set_cons_zero, List.set_cons_succ]
        refine wpB_skip 3 _ rfl (by kernel_rfl) (fun _ _ _ h => h) rfl hHeld ?_
        try simp only [Act.put, List.setIfInBounds_toArray, List.set_cons_zero, List.set_cons_succ]
        refine wpB_skip 4 _ rfl (by kernel_rfl) (fun _ _ _ h => h) rfl hHeld ?_
        try simp only [Act.put, List.setIfInBounds_toArray, List.set_cons_zero, List.set_cons_succ]
        refine wpB_skip 5 _ rfl (by kernel_rfl) (fun _ _ _ h => h) rfl hHeld ?_
        try simp only [Act.put, List.setIfInBounds_toArray, List.set_cons_zero, List.set_cons_succ]
        refine wpB_skip 6 _ rfl (by kernel_rfl) (fun _ _ _ h => h) rfl hHeld ?_
        try simp only [Act.put, List.setIfInBounds_toArray, List.set_cons_zero, List.set_cons_succ]
        refine wpB_skip 7 _ rfl (by kernel_rfl) (fun _ _ _ h => h) rfl hHeld ?_
        try simp only [Act.put, List.setIfInBounds_toArray, List.set_cons_zero, List.set_cons_succ]
        refine wpB_skip 8 _ rfl (by kernel_rfl) (fun _ _ _ h => h) rfl hHeld ?_
        try simp only [Act.put, List.setIfInBounds_toArray, List.set_cons_zero, List.set_cons_succ]
        refine wpB_skip 9 _ rfl (by kernel_rfl) (fun _ _ _ h => h) rfl hHeld ?_
        try simp only [Act.put, List.setIfInBounds_toArray, List.set_cons_zero, List.set_cons_succ]
        refine wpB_skip 10 _ rfl (by kernel_rfl) (fun _ _ _ h => h) rfl hHeld ?_
        try simp only [Act.put, List.setIfInBounds_toArray, List.set_cons_zero, List.set_cons_succ]
        refine wpB_skip 11 _ rfl (by kernel_rfl) (fun _ _ _ h => h) rfl hHeld ?_
        try simp only [Act.put, List.setIfInBounds_toArray, List.set_cons_zero, List.set_cons_succ]
        refine wpB_skip 12 _ rfl (by kernel_rfl) (fun _ _ _ h => h) rfl hHeld ?_
        try simp only [Act.put, List.setIfInBounds_toArray, List.set_cons_zero, List.set_cons_succ]
        refine wpB_skip 13 _ rfl (by kernel_rfl) (fun _ _ _ h => h) rfl hHeld ?_
        try simp only [Act.put, List.setIfInBounds_toArray, List.set_cons_zero, List.set_cons_succ]
        refine wpB_take 14 _ ?_ rfl (by kernel_rfl) (fun _ _ _ h => h) rfl hHeld ?_ ?_
        rotate_left
        · (intro W hW; go_simp; try with_reducible rfl)
        try simp only [Act.put, List.setIfInBounds_toArray, List.set_cons_zero, List.set_cons_succ]
        refine wpB_done (by kernel_rfl) ?_ _
        obtain ⟨wd, hwd⟩ : ∃ wd, wd = wr.drew := ⟨_, rfl⟩
        rw [← hwd] at hHeld ⊢
        have hOd := owns_other hO hHeld (fun _ _ => by simp)
        have hBd := hHeld.size
        clear hwd hO
        go_wp2_with (first | (at_builtin; refine wpList_append_mine _ rfl (.tmp 35) (.tmp 43) 27 rfl w1.heap.size 56 i0 (.agg #[.string ByteArray.empty, .string ByteArray.empty, .bool false]) 3 40 Tryd.underlying27 hi0 hz0 hz1 hz2 rfl (by decide) (.slice ao (q) co) (q) (Ls) rfl (ownsRow_keep (X := []) hOd ((Kp.refl _ wd).alloc _) (fun _ _ => by simp)) ⟨wd.heap.size, 0, none⟩ 1 1 [.string y0, .string y1, .bool y2] rfl rfl (new_cells wd _ _) (oneCell_key _ _ _) (by unfold maxLen; omega) (by omega) (by simp; omega) ?_))
        intro v' w4 hown' hkp _ _
        obtain ⟨a4, c4, rfl⟩ := ownsRow_ex hown'
        have k4 : Kp (Value.slice ao q co).ownBlock.toList wd w4 := ((Kp.refl _ wd).alloc _).trans hkp
        have hK4 : Kp [] w1 w4 := Kp.step (hK.trans hHeld) k4 (fun i hi hm => by
          rw [Option.mem_toList] at hm
          have := hge i hm
          omega)
        clear hkp k4
        have hq2 : ((O ++ [(y0, y1, y2)])).length = q + 1 := by rw [HQ.out]; simp
        have hl4 : ((O ++ [(y0, y1, y2)])).flatMap KeyC = Ls ++ [.string y0, .string y1, .bool y2] := by rw [HLs.out]; simp [KeyC]
        rw [← hl4] at hown'
        have HO4 := Lib.hid hown'
        have HQ2 := Lib.hid hq2
        clear hq2 hl4 hown'
        go_wp2_with fail
        go_roundg g'
        case rel => exact ⟨n + 1, O ++ [(y0, y1, y2)], true, a4, c4, st_next HN.out, by go_num, rfl, by rw [HQ2.out], hK4, by rw [HQ2.out]; exact HO4.out, by rw [HQ2.out]; omega, fun h => by (cases h), HR2.out⟩
        case measure => omega
      | false =>
        have hR := hR
        simp only [Bool.false_eq_true, if_false] at hR
        have hl3 := hl2 rfl
        by_cases hg : gtB y0 k0 = true
        · have hR2 := a3 hR hg
          have HR2 := Lib.hid hR2
          have hgb : (Op.bytesLess y0.toList k0.toList || y0.toList == k0.toList) = false := by unfold gtB at hg; rwa [Bool.not_eq_true'] at hg
          clear hR hR2 a1 a2 a3 hl2 hg
          go_wp2_with fail
          refine wpB_begin 999 (Kp [] wr) (by kernel_rfl) (by exact (Kp.refl _ _).drew) (fun hHeld => ?_)
          refine wpB_take 0 _ ?_ rfl (by kernel_rfl) (fun _ _ _ h => h) rfl hHeld ?_ ?_
          rotate_left
          · (intro W hW; go_simp; try with_reducible rfl)
          try simp only [Act.put, List.setIfInBounds_toArray, List.set_cons_zero, List.set_cons_succ]
          refine wpB_take 1 _ ?_ rfl (by kernel_rfl) (fun _ _ _ h => h) rfl hHeld ?_ ?_
          rotate_left
          · (intro W hW; go_simp; try with_reducible rfl)
          try simp only [Act.put, List.setIfInBounds_toArray, List.set_cons_zero, List.set_cons_succ]
          refine wpB_take 2 _ ?_ rfl (by kernel_rfl) (fun _ _ _ h => h) rfl hHeld ?_ ?_
          rotate_left
          · (intro W hW; go_simp; try with_reducible rfl)
          try simp only [Act.put, List.setIfInBounds_toArray, List.set_cons_zero, List.set_cons_succ]
          refine wpB_take 3 _ ?_ rfl (by kernel_rfl) (fun _ _ _ h => h) rfl hHeld ?_ ?_
          rotate_left
          · (intro W hW; go_simp; try with_reducible rfl)
          try simp only [Act.put, List.setIfInBounds_toArray, List.set_cons_zero, List.set_cons_succ]
          refine wpB_take 4 _ ?_ rfl (by kernel_rfl) (fun _ _ _ h => h) rfl hHeld ?_ ?_
          rotate_left
          · (intro W hW; go_simp; try with_reducible rfl)
          try simp only [Act.put, List.setIfInBounds_toArray, List.set_cons_zero, List.set_cons_succ]
          refine wpB_take 5 _ ?_ rfl (by kernel_rfl) (fun _ _ _ h => h) rfl hHeld ?_ ?_
          rotate_left
          · (intro W hW; go_simp; try with_reducible rfl)
          try simp only [Act.put, List.setIfInBounds_toArray, List.set_cons_zero, List.set_cons_succ]
          refine wpB_take 6 _ ?_ rfl (by kernel_rfl) (fun _ _ _ h => h) rfl hHeld ?_ ?_
          rotate_left
          · (intro W hW; go_simp; try with_reducible rfl)
          try simp only [Act.put, List.setIfInBounds_toArray, List.set_cons_zero, List.set_cons_succ]
          refine wpB_take 7 _ ?_ rfl (by kernel_rfl) (fun _ _ _ h => h) rfl hHeld ?_ ?_
          rotate_left
          · (intro W hW; go_simp; try with_reducible rfl)
          try simp only [Act.put, List.setIfInBounds_toArray, List.set_cons_zero, List.set_cons_succ]
          refine wpB_take 8 _ ?_ rfl (by kernel_rfl) (fun _ _ _ h => h) rfl hHeld ?_ ?_
          rotate_left
          · (intro W hW; go_simp; try with_reducible rfl)
          try simp only [Act.put, List.setIfInBounds_toArray, List.set_cons_zero, List.set_cons_succ]
          refine wpB_take 9 _ ?_ rfl (by kernel_rfl) (fun _ _ _ h => h) rfl hHeld ?_ ?_
          rotate_left
          · (intro W hW; go_simp; try with_reducible rfl)
          try simp only [Act.put, List.setIfInBounds_toArray, List.set_cons_zero, List.set_cons_succ]
          refine wpB_take 10 _ ?_ rfl (by kernel_rfl) (fun _ _ _ h => h) rfl hHeld ?_ ?_
          rotate_left
          · (intro W hW; go_simp; try with_reducible rfl)
          try simp only [Act.put, List.setIfInBounds_toArray, List.set_cons_zero, List.set_cons_succ]
          refine wpB_take 11 _ ?_ rfl (by kernel_rfl) (fun _ _ _ h => h) rfl hHeld ?_ ?_
          rotate_left
          · (intro W hW; go_simp; try with_reducible rfl)
          try simp only [Act.put, List.setIfInBounds_toArray, List.set_cons_zero, List.set_cons_succ]
          refine wpB_take 12 _ ?_ rfl (by kernel_rfl) (fun _ _ _ h => h) rfl hHeld ?_ ?_
          rotate_left
          · (intro W hW; go_simp; try with_reducible rfl)
          try simp only [Act.put, List.setIfInBounds_toArray, List.set_cons_zero, List.set_cons_succ]
          refine wpB_take 13 _ ?_ rfl (by kernel_rfl) (fun _ _ _ h => h) rfl hHeld ?_ ?_
          rotate_left
          · (intro W hW; go_simp; try with_reducible rfl)
          try simp only [Act.put, List.setIfInBounds_toArray, List.set_cons_zero, List.set_cons_succ]
          refine wpB_take 14 _ ?_ rfl (by kernel_rfl) (fun _ _ _ h => h) rfl hHeld ?_ ?_
          rotate_left
          · (intro W hW; go_simp; try with_reducible rfl)
          try simp only [Act.put, List.setIfInBounds_toArray, List.set_cons_zero, List.set_cons_succ]
          refine wpB_done (by kernel_rfl) ?_ _
          obtain ⟨wd, hwd⟩ : ∃ wd, wd = wr.drew := ⟨_, rfl⟩
          rw [← hwd] at hHeld ⊢
          have hOd := owns_other hO hHeld (fun _ _ => by simp)
          have hBd := hHeld.size
          clear hwd hO
          go_wp2_with (first | (at_builtin; refine wpList_append_mine _ rfl (.tmp 31) (.tmp 33) 27 rfl w1.heap.size 56 i0 (.agg #[.string ByteArray.empty, .string ByteArray.empty, .bool false]) 3 40 Tryd.underlying27 hi0 hz0 hz1 hz2 rfl (by decide) (.slice ao (q) co) (q) (Ls) rfl (ownsRow_keep (X := []) hOd ((Kp.refl _ wd).alloc _) (fun _ _ => by simp)) ⟨wd.heap.size, 0, none⟩ 1 1 [.string k0, .string k1, .bool k2] rfl rfl (new_cells wd _ _) (oneCell_key _ _ _) (by unfold maxLen; omega) (by omega) (by simp; omega) ?_))
          intro v' w4 hown' hkp _ _
          obtain ⟨a4, c4, rfl⟩ := ownsRow_ex hown'
          have k4 : Kp (Value.slice ao q co).ownBlock.toList wd w4 := ((Kp.refl _ wd).alloc _).trans hkp
          have hK4 : Kp [] w1 w4 := Kp.step (hK.trans hHeld) k4 (fun i hi hm => by
            rw [Option.mem_toList] at hm
            have := hge i hm
            omega)
          clear hkp k4
          have hge4 := own_block_ge hown'
          have kw4 := kw1.trans hK4
          have q0 := R0.out
          have q1 := R1.out
          have q2 := R2.out
          have q3 := D0.out
          have hB4 := hK4.size
          obtain ⟨Lt, hLt⟩ : ∃ Lt, Lt = Ls ++ [Value.string k0, .string k1, .bool k2] := ⟨_, rfl⟩
          rw [← hLt] at hown'
          have HLT := Lib.hid hLt
          clear hLt s0 s1 s2 hd0 t0 t1 t2 hHeld hge
          go_wp2_with (first | (at_builtin; refine wpList_append_mine _ rfl (.tmp 35) (.tmp 43) 27 rfl w1.heap.size 56 i0 (.agg #[.string ByteArray.empty, .string ByteArray.empty, .bool false]) 3 40 Tryd.underlying27 hi0 hz0 hz1 hz2 rfl (by decide) (.slice a4 ((q + 1)) c4) ((q + 1)) (Lt) rfl (ownsRow_keep (X := []) hown' ((Kp.refl _ w4).alloc _) (fun _ _ => by simp)) ⟨w4.heap.size, 0, none⟩ 1 1 [.string y0, .string y1, .bool y2] rfl rfl (new_cells w4 _ _) (oneCell_key _ _ _) (by unfold maxLen; omega) (by omega) (by simp; omega) ?_))
          intro v' w6 hown2 hkp2 _ _
          obtain ⟨a6, c6, rfl⟩ := ownsRow_ex hown2
          have k6 : Kp (Value.slice a4 (q + 1) c4).ownBlock.toList w4 w6 := ((Kp.refl _ w4).alloc _).trans hkp2
          have hK6 : Kp [] w1 w6 := hK4.step k6 (fun i hi hm => by
            rw [Option.mem_toList] at hm
            have := hge4 i hm
            omega)
          rw [HLT.out] at hown2
          clear hown' hkp2 k6 hge4
          have hown' := hown2
          clear hown2
          have hq2 : (((O ++ [(k0, k1, k2)]) ++ [(y0, y1, y2)])).length = q + 1 + 1 := by rw [HQ.out]; simp
          have hl4 : (((O ++ [(k0, k1, k2)]) ++ [(y0, y1, y2)])).flatMap KeyC = (Ls ++ [Value.string k0, .string k1, .bool k2]) ++ [.string y0, .string y1, .bool y2] := by rw [HLs.out]; simp [KeyC]
          rw [← hl4] at hown'
          have HO4 := Lib.hid hown'
          have HQ2 := Lib.hid hq2
          clear hq2 hl4 hown'
          go_wp2_with fail
          go_roundg g'
          case rel => exact ⟨n + 1, (O ++ [(k0, k1, k2)]) ++ [(y0, y1, y2)], true, a6, c6, st_next HN.out, by go_num, rfl, by rw [HQ2.out], hK6, by rw [HQ2.out]; exact HO4.out, by rw [HQ2.out]; omega, fun h => by (cases h), HR2.out⟩
          case measure => omega
        · rw [Bool.not_eq_true] at hg
          have hR2 := a2 hR hg
          have HR2 := Lib.hid hR2
          have hgb : (Op.bytesLess y0.toList k0.toList || y0.toList == k0.toList) = true := by unfold gtB at hg; rwa [Bool.not_eq_false'] at hg
          clear hR hR2 a1 a2 a3 hl2 hg
          go_wp2_with fail
          refine wpB_begin 999 (Kp [] wr) (by kernel_rfl) (by exact (Kp.refl _ _).drew) (fun hHeld => ?_)
          refine wpB_take 0 _ ?_ rfl (by kernel_rfl) (fun _ _ _ h => h) rfl hHeld ?_ ?_
          rotate_left
          · (intro W hW; go_simp; try with_reducible rfl)
          try simp only [Act.put, List.setIfInBounds_toArray, List.set_cons_zero, List.set_cons_succ]
          refine wpB_take 1 _ ?_ rfl (by kernel_rfl) (fun _ _ _ h => h) rfl hHeld ?_ ?_
          rotate_left
          · (intro W hW; go_simp; try with_reducible rfl)
          try simp only [Act.put, List.setIfInBounds_toArray, List.set_cons_zero, List.set_cons_succ]
          refine wpB_take 2 _ ?_ rfl (by kernel_rfl) (fun _ _ _ h => h) rfl hHeld ?_ ?_
          rotate_left
          · (intro W hW; go_simp; try with_reducible rfl)
          try simp only [Act.put, List.setIfInBounds_toArray, List.set_cons_zero, List.set_cons_succ]
          refine wpB_take 3 _ ?_ rfl (by kernel_rfl) (fun _ _ _ h => h) rfl hHeld ?_ ?_
          rotate_left
          · (intro W hW; go_simp; try with_reducible rfl)
          try simp only [Act.put, List.setIfInBounds_toArray, List.set_cons_zero, List.set_cons_succ]
          refine wpB_take 4 _ ?_ rfl (by kernel_rfl) (fun _ _ _ h => h) rfl hHeld ?_ ?_
          rotate_left
          · (intro W hW; go_simp; try with_reducible rfl)
          try simp only [Act.put, List.setIfInBounds_toArray, List.set_cons_zero, List.set_cons_succ]
          refine wpB_take 5 _ ?_ rfl (by kernel_rfl) (fun _ _ _ h => h) rfl hHeld ?_ ?_
          rotate_left
          · (intro W hW; go_simp; try with_reducible rfl)
          try simp only [Act.put, List.setIfInBounds_toArray, List.set_cons_zero, List.set_cons_succ]
          refine wpB_take 6 _ ?_ rfl (by kernel_rfl) (fun _ _ _ h => h) rfl hHeld ?_ ?_
          rotate_left
          · (intro W hW; go_simp; try with_reducible rfl)
          try simp only [Act.put, List.setIfInBounds_toArray, List.set_cons_zero, List.set_cons_succ]
          refine wpB_take 7 _ ?_ rfl (by kernel_rfl) (fun _ _ _ h => h) rfl hHeld ?_ ?_
          rotate_left
          · (intro W hW; go_simp; try with_reducible rfl)
          try simp only [Act.put, List.setIfInBounds_toArray, List.set_cons_zero, List.set_cons_succ]
          refine wpB_take 8 _ ?_ rfl (by kernel_rfl) (fun _ _ _ h => h) rfl hHeld ?_ ?_
          rotate_left
          · (intro W hW; go_simp; try with_reducible rfl)
          try simp only [Act.put, List.setIfInBounds_toArray, List.set_cons_zero, List.set_cons_succ]
          refine wpB_take 9 _ ?_ rfl (by kernel_rfl) (fun _ _ _ h => h) rfl hHeld ?_ ?_
          rotate_left
          · (intro W hW; go_simp; try with_reducible rfl)
          try simp only [Act.put, List.setIfInBounds_toArray, List.set_cons_zero, List.set_cons_succ]
          refine wpB_take 10 _ ?_ rfl (by kernel_rfl) (fun _ _ _ h => h) rfl hHeld ?_ ?_
          rotate_left
          · (intro W hW; go_simp; try with_reducible rfl)
          try simp only [Act.put, List.setIfInBounds_toArray, List.set_cons_zero, List.set_cons_succ]
          refine wpB_take 11 _ ?_ rfl (by kernel_rfl) (fun _ _ _ h => h) rfl hHeld ?_ ?_
          rotate_left
          · (intro W hW; go_simp; try with_reducible rfl)
          try simp only [Act.put, List.setIfInBounds_toArray, List.set_cons_zero, List.set_cons_succ]
          refine wpB_take 12 _ ?_ rfl (by kernel_rfl) (fun _ _ _ h => h) rfl hHeld ?_ ?_
          rotate_left
          · (intro W hW; go_simp; try with_reducible rfl)
          try simp only [Act.put, List.setIfInBounds_toArray, List.set_cons_zero, List.set_cons_succ]
          refine wpB_take 13 _ ?_ rfl (by kernel_rfl) (fun _ _ _ h => h) rfl hHeld ?_ ?_
          rotate_left
          · (intro W hW; go_simp; try with_reducible rfl)
          try simp only [Act.put, List.setIfInBounds_toArray, List.set_cons_zero, List.set_cons_succ]
          refine wpB_take 14 _ ?_ rfl (by kernel_rfl) (fun _ _ _ h => h) rfl hHeld ?_ ?_
          rotate_left
          · (intro W hW; go_simp; try with_reducible rfl)
          try simp only [Act.put, List.setIfInBounds_toArray, List.set_cons_zero, List.set_cons_succ]
          refine wpB_done (by kernel_rfl) ?_ _
          obtain ⟨wd, hwd⟩ : ∃ wd, wd = wr.drew := ⟨_, rfl⟩
          rw [← hwd] at hHeld ⊢
          have hOd := owns_other hO hHeld (fun _ _ => by simp)
          have hBd := hHeld.size
          clear hwd hO
          go_wp2_with (first | (at_builtin; refine wpList_append_mine _ rfl (.tmp 35) (.tmp 43) 27 rfl w1.heap.size 56 i0 (.agg #[.string ByteArray.empty, .string ByteArray.empty, .bool false]) 3 40 Tryd.underlying27 hi0 hz0 hz1 hz2 rfl (by decide) (.slice ao (q) co) (q) (Ls) rfl (ownsRow_keep (X := []) hOd ((Kp.refl _ wd).alloc _) (fun _ _ => by simp)) ⟨wd.heap.size, 0, none⟩ 1 1 [.string y0, .string y1, .bool y2] rfl rfl (new_cells wd _ _) (oneCell_key _ _ _) (by unfold maxLen; omega) (by omega) (by simp; omega) ?_))
          intro v' w4 hown' hkp _ _
          obtain ⟨a4, c4, rfl⟩ := ownsRow_ex hown'
          have k4 : Kp (Value.slice ao q co).ownBlock.toList wd w4 := ((Kp.refl _ wd).alloc _).trans hkp
          have hK4 : Kp [] w1 w4 := Kp.step (hK.trans hHeld) k4 (fun i hi hm => by
            rw [Option.mem_toList] at hm
            have := hge i hm
            omega)
          clear hkp k4
          have hq2 : ((O ++ [(y0, y1, y2)])).length = q + 1 := by rw [HQ.out]; simp
          have hl4 : ((O ++ [(y0, y1, y2)])).flatMap KeyC = Ls ++ [.string y0, .string y1, .bool y2] := by rw [HLs.out]; simp [KeyC]
          rw [← hl4] at hown'
          have HO4 := Lib.hid hown'
          have HQ2 := Lib.hid hq2
          clear hq2 hl4 hown'
          go_wp2_with fail
          go_roundg g'
          case rel => exact ⟨n + 1, O ++ [(y0, y1, y2)], false, a4, c4, st_next HN.out, by go_num, rfl, by rw [HQ2.out], hK4, by rw [HQ2.out]; exact HO4.out, by rw [HQ2.out]; omega, fun _ => by rw [HQ2.out]; omega, HR2.out⟩
          case measure => omega
    · obtain rfl : n = L.length := by omega
      obtain rfl : gk = 0 := by omega
      rw [List.drop_length] at hR
      clear hn hlt
      cases laid with
      | true =>
        obtain rfl : T = O := by simpa using hR
        clear hR
        have bR := (hKw.block _ hrb (by simp)).trans ht
        have z0 := cell_of_cells (o := 0) bR rfl
        have zf0 := frozen_of_cells bR 0
        have hRm : RmAt rb (wr.setCell ⟨rb, 0, none⟩ (.slice ao (T.length) co)) T := by
          refine ⟨ao, co, by rw [block_setCell bR]; rfl, ?_⟩
          refine owns_other (ownsRow_base hO (by have := HS1.out; omega)) ((Kp.refl [rb] _).setCell (.inl (by simp)) _) (fun g hg hm => ?_)
          have := own_block_ge hO g hg
          have := HS1.out
          simp only [List.mem_singleton] at hm
          omega
        have hKe : Kp [rb] w (wr.setCell ⟨rb, 0, none⟩ (.slice ao (T.length) co)) := ((hKw).weaken (fun _ _ hm => by cases hm)).setCell (.inl (by simp)) _
        have HRM := Lib.hid hRm
        clear hRm
        go_wp2_with fail
        go_end0
        exact ⟨⟨_, rfl⟩, HRM.out, hKe⟩
      | false =>
        have hR2 : T = O ++ [(k0, k1, k2)] := by simpa [insK] using hR
        have HR2 := Lib.hid hR2
        have hl3 := hl2 rfl
        obtain ⟨Ls, hLs⟩ : ∃ Ls, Ls = O.flatMap KeyC := ⟨_, rfl⟩
        obtain ⟨q, hq⟩ : ∃ q, q = O.length := ⟨_, rfl⟩
        rw [← hLs, ← hq] at hO
        rw [← hq] at hge hl1 hl3 ⊢
        have HLs := Lib.hid hLs
        have HQ := Lib.hid hq
        have bR := (hKw.block _ hrb (by simp)).trans ht
        clear hR hR2 hLs hq hl2
        go_wp2_with (first | (at_builtin; refine wpList_append_mine _ rfl (.tmp 47) (.tmp 49) 27 rfl w1.heap.size 56 i0 (.agg #[.string ByteArray.empty, .string ByteArray.empty, .bool false]) 3 40 Tryd.underlying27 hi0 hz0 hz1 hz2 rfl (by decide) (.slice ao (q) co) (q) (Ls) rfl (ownsRow_keep (X := []) hO ((Kp.refl _ wr).alloc _) (fun _ _ => by simp)) ⟨wr.heap.size, 0, none⟩ 1 1 [.string k0, .string k1, .bool k2] rfl rfl (new_cells wr _ _) (oneCell_key _ _ _) (by unfold maxLen; omega) (by omega) (by simp; omega) ?_))
        intro v' w4 hown' hkp _ _
        obtain ⟨a4, c4, rfl⟩ := ownsRow_ex hown'
        have k4 : Kp (Value.slice ao q co).ownBlock.toList wr w4 := ((Kp.refl _ wr).alloc _).trans hkp
        have hK4 : Kp [] w1 w4 := Kp.step hK k4 (fun i hi hm => by
          rw [Option.mem_toList] at hm
          have := hge i hm
          omega)
        clear hkp k4
        have kw4 := kw1.trans hK4
        have bR4 := (kw4.block _ hrb (by simp)).trans ht
        have hTl : T.length = q + 1 := by rw [HR2.out, List.length_append, HQ.out]; rfl
        have hTf : T.flatMap KeyC = Ls ++ [.string k0, .string k1, .bool k2] := by rw [HR2.out, List.flatMap_append, HLs.out]; rfl
        rw [← hTf, ← hTl] at hown'
        rw [← hTl]
        clear hTf hTl bR
        have z0 := cell_of_cells (o := 0) bR4 rfl
        have zf0 := frozen_of_cells bR4 0
        have hRm : RmAt rb (w4.setCell ⟨rb, 0, none⟩ (.slice a4 (T.length) c4)) T := by
          refine ⟨a4, c4, by rw [block_setCell bR4]; rfl, ?_⟩
          refine owns_other (ownsRow_base hown' (by have := HS1.out; omega)) ((Kp.refl [rb] _).setCell (.inl (by simp)) _) (fun g hg hm => ?_)
          have := own_block_ge hown' g hg
          have := HS1.out
          simp only [List.mem_singleton] at hm
          omega
        have hKe : Kp [rb] w (w4.setCell ⟨rb, 0, none⟩ (.slice a4 (T.length) c4)) := ((kw4).weaken (fun _ _ hm => by cases hm)).setCell (.inl (by simp)) _
        have HRM := Lib.hid hRm
        clear hRm
        go_wp2_with fail
        go_end0
        exact ⟨⟨_, rfl⟩, HRM.out, hKe⟩
end Go.Proofs.YtlomniffpjndfaaDoor
