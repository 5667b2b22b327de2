/-
  Whether an index tells what the document's does (law13.same): it does.
-/
import Derived.Test.YtdhhddifmkijhaaGreatIdxRy
import Derived.Test.YtdhhddifmkijhaaGreatIdxSm
import Derived.Test.YtdhhddifmkijhaaGreatP7
import Derived.Test.YtdhhddifmkijhaaGreatP6
namespace Go.Proofs.YtdhhddifmkijhaaGreat
open Go.RowKit Go.ChangeMaps Go.Maps Go.WideShapes Go.WideMaps Go.WideElems Go.MapKept Go.ChangeShapes

theorem less_nil (k : List UInt8) : lessS E0 k = false := by
  unfold lessS
  show Op.bytesLess k [] = false
  cases k <;> rfl
theorem list_all {x : Ix} (h : x.E.length ≤ 1000) : x.list E0 1000 = x.keys := by
  unfold Ix.list keysFrom
  have e : x.keys.filter (fun k => !lessS E0 k) = x.keys := List.filter_eq_self.2 fun k _ => by rw [less_nil]; rfl
  rw [e, List.take_of_length_le]
  rw [keys_len]
  show x.E.length ≤ 1000
  exact h
theorem vols_at {x : Ix} {j : Nat} (hj : j < x.volumes.length) (hj2 : j < x.ids.length) : x.volumes[j] = (x.vol x.ids[j]).1 := by
  have : x.volumes[j]? = some (x.vol x.ids[j]).1 := by
    unfold Ix.volumes
    rw [List.getElem?_map, List.getElem?_eq_getElem hj2]; rfl
  rw [List.getElem?_eq_getElem hj] at this
  exact Option.some.inj this
theorem vols_id {x : Ix} (hi : Inv x) {j : Nat} (hj : j < x.volumes.length) (hj2 : j < x.ids.length) : x.volumes[j].id = x.ids[j] := by
  rw [vols_at hj hj2]
  obtain ⟨q, hq, he⟩ := List.mem_map.1 (mem_ids.1 (List.getElem_mem hj2))
  rw [← he, vol_of hi.nodV hq]
  exact hi.idV q hq
theorem ids_len (x : Ix) : x.ids.length = x.volumes.length := by unfold Ix.volumes; rw [List.length_map]
theorem ids_rise {x : Ix} (hi : Inv x) {i j : Nat} (hij : i < j) (hj : j < x.ids.length) : x.ids[i] < x.ids[j] := by
  have h1 : x.ids.Pairwise (fun a b => leI a b = true) := by
    unfold Ix.ids
    exact List.pairwise_mergeSort (fun a b c h1 h2 => by simp only [leI, decide_eq_true_eq] at *; omega) (fun a b => by simp only [leI, Bool.or_eq_true, decide_eq_true_eq]; omega) _
  have h2 : x.ids.Nodup := by
    unfold Ix.ids
    exact (List.mergeSort_perm _ _).nodup_iff.2 hi.nodV
  have h3 := List.pairwise_iff_getElem.1 h1 i j (by omega) hj hij
  have h4 := List.pairwise_iff_getElem.1 h2 i j (by omega) hj hij
  simp only [leI, decide_eq_true_eq] at h3
  omega
theorem same_sorted : ∀ {l m : List VolD}, l.Pairwise (fun a b => a.id < b.id) → m.Pairwise (fun a b => a.id < b.id) → (∀ v, v ∈ l ↔ v ∈ m) → l = m
  | [], [], _, _, _ => rfl
  | [], b :: m, _, _, h => by have := (h b).2 (List.mem_cons_self ..); cases this
  | a :: l, [], _, _, h => by have := (h a).1 (List.mem_cons_self ..); cases this
  | a :: l, b :: m, hl, hm, h => by
    rw [List.pairwise_cons] at hl hm
    have hab : a = b := by
      rcases List.mem_cons.1 ((h a).1 (List.mem_cons_self ..)) with e | e
      · exact e
      · rcases List.mem_cons.1 ((h b).2 (List.mem_cons_self ..)) with e2 | e2
        · exact e2.symm
        · have h1 := hl.1 b e2
          have h2 := hm.1 a e
          omega
    subst hab
    refine congrArg (a :: ·) (same_sorted hl.2 hm.2 (fun v => ⟨fun hv => ?_, fun hv => ?_⟩))
    · rcases List.mem_cons.1 ((h v).1 (List.mem_cons_of_mem _ hv)) with e | e
      · subst e; have := hl.1 v hv; omega
      · exact e
    · rcases List.mem_cons.1 ((h v).2 (List.mem_cons_of_mem _ hv)) with e | e
      · subst e; have := hm.1 v hv; omega
      · exact e
theorem Rel.volumes {x : Ix} {k : Rx} (h : Rel x k) (hi : Inv x) : k.V = x.volumes := by
  refine same_sorted h.sorted ?_ (fun v => ?_)
  · rw [List.pairwise_iff_getElem]
    intro i j h1 h2 hij
    have e := ids_len x
    rw [vols_id hi h1 (by omega), vols_id hi h2 (by omega)]
    exact ids_rise hi hij (by omega)
  · rw [h.V]
    constructor
    · intro hv
      unfold Ix.volumes
      refine List.mem_map.2 ⟨v.id, mem_ids.2 (List.mem_map.2 ⟨_, hv, rfl⟩), ?_⟩
      rw [vol_of hi.nodV hv]
    · intro hv
      unfold Ix.volumes at hv
      obtain ⟨d, hd, rfl⟩ := List.mem_map.1 hv
      obtain ⟨q, hq, rfl⟩ := List.mem_map.1 (mem_ids.1 hd)
      rw [vol_of hi.nodV hq]
      have e := hi.idV q hq
      rw [e]
      exact hq
theorem vol_locs_le {x : Ix} (hi : Inv x) (d : Int) : (x.vol d).1.locs.length ≤ 100000 := by
  unfold Ix.vol
  cases e : aGet d x.V with
  | none => exact Nat.zero_le _
  | some v =>
    have h9 : v.locs.length = 9 := vol_nine (hi.fit.vols _ (aGet_mem e)).2.2
    show v.locs.length ≤ 100000
    omega
set_option maxHeartbeats 8000000 in
set_option maxRecDepth 100000 in
theorem same_true {I : Ib} {B kb n : Nat} {x : Ix} {k : Rx} (w : World) (hI : IxAt I w x) (hR : RIn B kb w k) (hr : Rel x k) (hi : Inv x) (hf : Few n x) (hn : n ≤ 900) (ks : List ByteArray) (vk : Value) (B2 : Nat) (hk : SliceAt B2 w vk 1 ks.length (ks.map Value.string)) (hkz : ∀ s ∈ ks, s.size ≤ maxLen) (hkn : ks.length ≤ 1000) :
    Calls Tryz.prog 14 #[I.p, .pointer (some ⟨kb, 0, none⟩), vk] w fun e w' => e = .returned (.bool true) ∧ Kp [] w w' := by
  obtain ⟨va, vc, rfl⟩ := slice_ex hk
  have hzE := hf.E
  have hzV := hf.V
  have hzG := hf.G
  have hzH := hf.H
  have hkE : k.E.length = x.E.length := by rw [hr.E, List.length_map]
  have hkV : k.V.length = x.V.length := by rw [hr.volumes hi, vols_len]
  have hkG : k.G.length = x.G.length := by rw [hr.G]
  have hkH : k.H.length = x.H.length := by rw [hr.H]
  have hig := fun s (hs : s.size ≤ maxLen) W (kk : Kp [] w W) => iget hi.fit s hs W (hI.keep0 kk)
  have hkg := fun s W (kk : Kp [] w W) => kget s W (hR.keep0 kk) (by omega)
  have hik := fun s (hs : s.size ≤ maxLen) W (kk : Kp [] w W) => iknown hi.fit s hs W (hI.keep0 kk)
  have hkk := fun s W (kk : Kp [] w W) => kknown s W (hR.keep0 kk) (by omega) (by omega)
  have hil := fun f many W (kk : Kp [] w W) => ilist hi.fit (by omega) f many W (hI.keep0 kk)
  have hkl := fun f many (hm : many ≤ 1000) W (kk : Kp [] w W) => klist W (hR.keep0 kk) hr hi (by omega) f many hm
  have hiv := fun id (hd : (Lit.int .i64 id).wf = true) W (kk : Kp [] w W) => ivolume hi.fit id hd W (hI.keep0 kk)
  have hkv := fun id W (kk : Kp [] w W) => kvolume id W (hR.keep0 kk) (by omega)
  have hiw := fun W (kk : Kp [] w W) => ivolumes hi.fit (by omega) W (hI.keep0 kk)
  have hkw := fun W (kk : Kp [] w W) => kvolumes W (hR.keep0 kk)
  have hin := fun W (kk : Kp [] w W) => inext W (hI.keep0 kk)
  have hknx := fun W (kk : Kp [] w W) => knext W (hR.keep0 kk) (by omega) (by rw [hr.H]; exact hi.fit.had)
  simp only [hr.get hi] at hkg
  simp only [hr.known hi] at hkk
  simp only [hr.vol hi] at hkv
  simp only [hr.volumes hi] at hkw
  simp only [hr.next hi] at hknx
  have hK := Kp.refl [] w
  have hloc := vols_locs hi
  have hvl : x.volumes.length ≤ 1000 := by rw [vols_len]; omega
  clear hzE hzV hzG hzH hkE hkV hkG hkH
  go_enter Tryz.func14, Tryz.ntmps14
  go_wp2_with fail
  go_loopg [7] ks.length (fun g i wr => ∃ m : Nat, m + g = ks.length ∧ i = .int .i64 m ∧ Kp [] w wr)
  case atStart => exact ⟨0, by omega, rfl, hK⟩
  case round =>
    clear hK
    obtain ⟨m, hm, rfl, hK⟩ := hrel
    have HM := Lib.hid hm
    by_cases hlt : m < ks.length
    · obtain ⟨g', rfl⟩ : ∃ g', gk = g' + 1 := ⟨gk - 1, by omega⟩
      clear hm
      have hltI : (m : Int) < (ks.length : Int) := by omega
      obtain ⟨g, o, c, hv', f0⟩ := strv_at hk m hlt
      simp only [Value.slice.injEq] at hv'
      obtain ⟨rfl, -, rfl⟩ := hv'
      have hsz := hkz _ (List.getElem_mem hlt)
      obtain ⟨s, hs⟩ : ∃ s, s = ks[m] := ⟨_, rfl⟩
      rw [← hs] at f0 hsz
      have d0 := Kp.cellAt (X := []) (w0 := w) f0 (by simp)
      have d0r := d0 _ hK
      clear hs f0
      have hg1 := hig s hsz
      have hg2 := hkg s
      have hg3 := hik s hsz
      have hg4 := hkk s
      have hg5 := hil s 3
      have hg6 := hkl s 3 (by decide)
      obtain ⟨G, hG⟩ : ∃ G, G = x.get s := ⟨_, rfl⟩
      rw [← hG] at hg1 hg2
      obtain ⟨⟨a1, a2, a3, a4, a5⟩, ge⟩ := G
      simp only [EntVA] at hg1 hg2
      obtain ⟨kn, hkn'⟩ : ∃ kn, kn = x.known s := ⟨_, rfl⟩
      rw [← hkn'] at hg3 hg4
      obtain ⟨ls, hls⟩ : ∃ ls, ls = x.list s 3 := ⟨_, rfl⟩
      have hlz : ls.length ≤ 1000 := by rw [hls]; have := list_len x s 3; have := hf.E; omega
      rw [← hls] at hg5 hg6
      clear hG hkn' hls
      go_wp2_with fail
      refine (hg1 _ hK).mono ?_
      rintro e w1 ⟨rfl, k1⟩
      have hK1 := hK.trans k1
      obtain ⟨w2, hw2⟩ : ∃ w2, w2 = w1.alloc (.cells #[.string a1, .int .i64 a2, .int .i64 a3, .int .i64 a4, .string a5] 38) := ⟨_, rfl⟩
      have k2 : Kp [] w1 w2 := hw2 ▸ (Kp.refl _ _).alloc _
      have b2 : w2.heap[w1.heap.size]? = some (.cells #[.string a1, .int .i64 a2, .int .i64 a3, .int .i64 a4, .string a5] 38 (0, 0)) := by rw [hw2]; exact block_new _ _
      have hK2 := hK1.trans k2
      have d02 := d0 _ hK2
      rw [hw2] at d02
      have HW2 := Lib.hid hw2
      clear hw2 d0r
      go_wp2_with fail
      rw [← HW2.out]
      refine (hg2 _ hK2).mono ?_
      rintro e w3 ⟨rfl, k3⟩
      obtain ⟨w4, hw4⟩ : ∃ w4, w4 = w3.alloc (.cells #[.string a1, .int .i64 a2, .int .i64 a3, .int .i64 a4, .string a5] 38) := ⟨_, rfl⟩
      have k4 : Kp [] w3 w4 := hw4 ▸ (Kp.refl _ _).alloc _
      have b4 : w4.heap[w3.heap.size]? = some (.cells #[.string a1, .int .i64 a2, .int .i64 a3, .int .i64 a4, .string a5] 38 (0, 0)) := by rw [hw4]; exact block_new _ _
      have hK4 := (hK2.trans k3).trans k4
      have b2' := ((k3.trans k4).block _ (lt_of_block b2) (by simp)).trans b2
      have p0 := Kp.cellAt (X := []) (cell_of_cells (o := 0) (v := .string a1) b2' rfl) (by simp)
      have p1 := Kp.cellAt (X := []) (cell_of_cells (o := 1) (v := .int .i64 a2) b2' rfl) (by simp)
      have p2 := Kp.cellAt (X := []) (cell_of_cells (o := 2) (v := .int .i64 a3) b2' rfl) (by simp)
      have p3 := Kp.cellAt (X := []) (cell_of_cells (o := 3) (v := .int .i64 a4) b2' rfl) (by simp)
      have p4 := Kp.cellAt (X := []) (cell_of_cells (o := 4) (v := .string a5) b2' rfl) (by simp)
      have q0 := Kp.cellAt (X := []) (cell_of_cells (o := 0) (v := .string a1) b4 rfl) (by simp)
      have q1 := Kp.cellAt (X := []) (cell_of_cells (o := 1) (v := .int .i64 a2) b4 rfl) (by simp)
      have q2 := Kp.cellAt (X := []) (cell_of_cells (o := 2) (v := .int .i64 a3) b4 rfl) (by simp)
      have q3 := Kp.cellAt (X := []) (cell_of_cells (o := 3) (v := .int .i64 a4) b4 rfl) (by simp)
      have q4 := Kp.cellAt (X := []) (cell_of_cells (o := 4) (v := .string a5) b4 rfl) (by simp)
      have d0' := fun W (kk : Kp [] w4 W) => d0 W (hK4.trans kk)
      have hg3' := fun W (kk : Kp [] w4 W) => hg3 W (hK4.trans kk)
      have hg4' := fun W (kk : Kp [] w4 W) => hg4 W (hK4.trans kk)
      have hg5' := fun W (kk : Kp [] w4 W) => hg5 W (hK4.trans kk)
      have hg6' := fun W (kk : Kp [] w4 W) => hg6 W (hK4.trans kk)
      have HW4 := Lib.hid hw4
      clear hw4 d02 b2 b2' b4 k1 k2 k3 k4 hK1 hK2 hg1 hg2 hg3 hg4 hg5 hg6 d0
      go_wp2_with fail
      rw [← HW4.out]
      refine wpB_begin 999 (Kp [] w4) (by kernel_rfl) (by exact (Kp.refl _ _).drew) (fun hHeld => ?_)
      refine wpB_take 0 _ ?_ rfl (by kernel_rfl) (fun _ _ _ h => h) rfl hHeld ?_ ?_
      rotate_left
      · (intro W hW; go_simp; try with_reducible rfl)
      try simp only [Act.put, List.setIfInBounds_toArray, List.set_cons_zero, List.set_cons_succ]
      refine wpB_take 1 _ ?_ rfl (by kernel_rfl) (fun _ _ _ h => h) rfl hHeld ?_ ?_
      rotate_left
      · (intro W hW; go_simp; try with_reducible rfl)
      try simp only [Act.put, List.setIfInBounds_toArray, List.set_cons_zero, List.set_cons_succ]
      refine wpB_take 2 _ ?_ rfl (by kernel_rfl) (fun _ _ _ h => h) rfl hHeld ?_ ?_
      rotate_left
      · (intro W hW; go_simp; try with_reducible rfl)
      try simp only [Act.put, List.setIfInBounds_toArray, List.set_cons_zero, List.set_cons_succ]
      refine wpB_take 3 _ ?_ rfl (by kernel_rfl) (fun _ _ _ h => h) rfl hHeld ?_ ?_
      rotate_left
      · (intro W hW; go_simp; try with_reducible rfl)
      try simp only [Act.put, List.setIfInBounds_toArray, List.set_cons_zero, List.set_cons_succ]
      refine wpB_take 4 _ ?_ rfl (by kernel_rfl) (fun _ _ _ h => h) rfl hHeld ?_ ?_
      rotate_left
      · (intro W hW; go_simp; try with_reducible rfl)
      try simp only [Act.put, List.setIfInBounds_toArray, List.set_cons_zero, List.set_cons_succ]
      refine wpB_take 5 _ ?_ rfl (by kernel_rfl) (fun _ _ _ h => h) rfl hHeld ?_ ?_
      rotate_left
      · (intro W hW; go_simp; try with_reducible rfl)
      try simp only [Act.put, List.setIfInBounds_toArray, List.set_cons_zero, List.set_cons_succ]
      refine wpB_take 6 _ ?_ rfl (by kernel_rfl) (fun _ _ _ h => h) rfl hHeld ?_ ?_
      rotate_left
      · (intro W hW; go_simp; try with_reducible rfl)
      try simp only [Act.put, List.setIfInBounds_toArray, List.set_cons_zero, List.set_cons_succ]
      refine wpB_take 7 _ ?_ rfl (by kernel_rfl) (fun _ _ _ h => h) rfl hHeld ?_ ?_
      rotate_left
      · (intro W hW; go_simp; try with_reducible rfl)
      try simp only [Act.put, List.setIfInBounds_toArray, List.set_cons_zero, List.set_cons_succ]
      refine wpB_take 8 _ ?_ rfl (by kernel_rfl) (fun _ _ _ h => h) rfl hHeld ?_ ?_
      rotate_left
      · (intro W hW; go_simp; try with_reducible rfl)
      try simp only [Act.put, List.setIfInBounds_toArray, List.set_cons_zero, List.set_cons_succ]
      refine wpB_take 9 _ ?_ rfl (by kernel_rfl) (fun _ _ _ h => h) rfl hHeld ?_ ?_
      rotate_left
      · (intro W hW; go_simp; try with_reducible rfl)
      try simp only [Act.put, List.setIfInBounds_toArray, List.set_cons_zero, List.set_cons_succ]
      refine wpB_take 10 _ ?_ rfl (by kernel_rfl) (fun _ _ _ h => h) rfl hHeld ?_ ?_
      rotate_left
      · (intro W hW; go_simp; try with_reducible rfl)
      try simp only [Act.put, List.setIfInBounds_toArray, List.set_cons_zero, List.set_cons_succ]
      refine wpB_take 11 _ ?_ rfl (by kernel_rfl) (fun _ _ _ h => h) rfl hHeld ?_ ?_
      rotate_left
      · (intro W hW; go_simp; try with_reducible rfl)
      try simp only [Act.put, List.setIfInBounds_toArray, List.set_cons_zero, List.set_cons_succ]
      refine wpB_take 12 _ ?_ rfl (by kernel_rfl) (fun _ _ _ h => h) rfl hHeld ?_ ?_
      rotate_left
      · (intro W hW; go_simp; try with_reducible rfl)
      try simp only [Act.put, List.setIfInBounds_toArray, List.set_cons_zero, List.set_cons_succ]
      refine wpB_take 13 _ ?_ rfl (by kernel_rfl) (fun _ _ _ h => h) rfl hHeld ?_ ?_
      rotate_left
      · (intro W hW; go_simp; try with_reducible rfl)
      try simp only [Act.put, List.setIfInBounds_toArray, List.set_cons_zero, List.set_cons_succ]
      refine wpB_take 15 _ ?_ rfl (by kernel_rfl) (fun _ _ _ h => h) rfl hHeld ?_ ?_
      rotate_left
      · (intro W hW; go_simp; try with_reducible rfl)
      try simp only [Act.put, List.setIfInBounds_toArray, List.set_cons_zero, List.set_cons_succ]
      refine wpB_take 16 _ ?_ rfl (by kernel_rfl) (fun _ _ _ h => h) rfl hHeld ?_ ?_
      rotate_left
      · (intro W hW; go_simp; try with_reducible rfl)
      try simp only [Act.put, List.setIfInBounds_toArray, List.set_cons_zero, List.set_cons_succ]
      refine wpB_take 17 _ ?_ rfl (by kernel_rfl) (fun _ _ _ h => h) rfl hHeld ?_ ?_
      rotate_left
      · (intro W hW; go_simp; try with_reducible rfl)
      try simp only [Act.put, List.setIfInBounds_toArray, List.set_cons_zero, List.set_cons_succ]
      refine wpB_take 18 _ ?_ rfl (by kernel_rfl) (fun _ _ _ h => h) rfl hHeld ?_ ?_
      rotate_left
      · (intro W hW; go_simp; try with_reducible rfl)
      try simp only [Act.put, List.setIfInBounds_toArray, List.set_cons_zero, List.set_cons_succ]
      refine wpB_take 19 _ ?_ rfl (by kernel_rfl) (fun _ _ _ h => h) rfl hHeld ?_ ?_
      rotate_left
      · (intro W hW; go_simp; try with_reducible rfl)
      try simp only [Act.put, List.setIfInBounds_toArray, List.set_cons_zero, List.set_cons_succ]
      refine wpB_step 14 _ rfl (by kernel_rfl) rfl rfl (fun K hK_ => ?_)
      go_simp
      refine (hg3' _ hHeld).mono ?_
      rintro e wq ⟨rfl, kq⟩
      refine hK_.out _ _ (by exact hHeld.trans kq) (fun hHeld => ?_)
      clear hK_ K
      try simp only [Act.put, List.setIfInBounds_toArray, List.set_cons_zero, List.set_cons_succ]
      refine wpB_step 20 _ rfl (by kernel_rfl) rfl rfl (fun K hK_ => ?_)
      go_simp
      refine (hg4' _ hHeld).mono ?_
      rintro e wq ⟨rfl, kq⟩
      refine hK_.out _ _ (by exact hHeld.trans kq) (fun hHeld => ?_)
      clear hK_ K
      try simp only [Act.put, List.setIfInBounds_toArray, List.set_cons_zero, List.set_cons_succ]
      refine wpB_take 21 _ ?_ rfl (by kernel_rfl) (fun _ _ _ h => h) rfl hHeld ?_ ?_
      rotate_left
      · (intro W hW; go_simp; try with_reducible rfl)
      try simp only [Act.put, List.setIfInBounds_toArray, List.set_cons_zero, List.set_cons_succ]
      refine wpB_take 22 _ ?_ rfl (by kernel_rfl) (fun _ _ _ h => h) rfl hHeld ?_ ?_
      rotate_left
      · (intro W hW; go_simp; try with_reducible rfl)
      try simp only [Act.put, List.setIfInBounds_toArray, List.set_cons_zero, List.set_cons_succ]
      refine wpB_take 23 _ ?_ rfl (by kernel_rfl) (fun _ _ _ h => h) rfl hHeld ?_ ?_
      rotate_left
      · (intro W hW; go_simp; try with_reducible rfl)
      try simp only [Act.put, List.setIfInBounds_toArray, List.set_cons_zero, List.set_cons_succ]
      refine wpB_take 24 _ ?_ rfl (by kernel_rfl) (fun _ _ _ h => h) rfl hHeld ?_ ?_
      rotate_left
      · (intro W hW; go_simp; try with_reducible rfl)
      try simp only [Act.put, List.setIfInBounds_toArray, List.set_cons_zero, List.set_cons_succ]
      refine wpB_take 25 _ ?_ rfl (by kernel_rfl) (fun _ _ _ h => h) rfl hHeld ?_ ?_
      rotate_left
      · (intro W hW; go_simp; try with_reducible rfl)
      try simp only [Act.put, List.setIfInBounds_toArray, List.set_cons_zero, List.set_cons_succ]
      refine wpB_take 26 _ ?_ rfl (by kernel_rfl) (fun _ _ _ h => h) rfl hHeld ?_ ?_
      rotate_left
      · (intro W hW; go_simp; try with_reducible rfl)
      try simp only [Act.put, List.setIfInBounds_toArray, List.set_cons_zero, List.set_cons_succ]
      refine wpB_take 27 _ ?_ rfl (by kernel_rfl) (fun _ _ _ h => h) rfl hHeld ?_ ?_
      rotate_left
      · (intro W hW; go_simp; try with_reducible rfl)
      try simp only [Act.put, List.setIfInBounds_toArray, List.set_cons_zero, List.set_cons_succ]
      refine wpB_take 28 _ ?_ rfl (by kernel_rfl) (fun _ _ _ h => h) rfl hHeld ?_ ?_
      rotate_left
      · (intro W hW; go_simp; try with_reducible rfl)
      try simp only [Act.put, List.setIfInBounds_toArray, List.set_cons_zero, List.set_cons_succ]
      refine wpB_take 30 _ ?_ rfl (by kernel_rfl) (fun _ _ _ h => h) rfl hHeld ?_ ?_
      rotate_left
      · (intro W hW; go_simp; try with_reducible rfl)
      try simp only [Act.put, List.setIfInBounds_toArray, List.set_cons_zero, List.set_cons_succ]
      refine wpB_take 31 _ ?_ rfl (by kernel_rfl) (fun _ _ _ h => h) rfl hHeld ?_ ?_
      rotate_left
      · (intro W hW; go_simp; try with_reducible rfl)
      try simp only [Act.put, List.setIfInBounds_toArray, List.set_cons_zero, List.set_cons_succ]
      refine wpB_take 32 _ ?_ rfl (by kernel_rfl) (fun _ _ _ h => h) rfl hHeld ?_ ?_
      rotate_left
      · (intro W hW; go_simp; try with_reducible rfl)
      try simp only [Act.put, List.setIfInBounds_toArray, List.set_cons_zero, List.set_cons_succ]
      refine wpB_take 33 _ ?_ rfl (by kernel_rfl) (fun _ _ _ h => h) rfl hHeld ?_ ?_
      rotate_left
      · (intro W hW; go_simp; try with_reducible rfl)
      try simp only [Act.put, List.setIfInBounds_toArray, List.set_cons_zero, List.set_cons_succ]
      refine wpB_take 34 _ ?_ rfl (by kernel_rfl) (fun _ _ _ h => h) rfl hHeld ?_ ?_
      rotate_left
      · (intro W hW; go_simp; try with_reducible rfl)
      try simp only [Act.put, List.setIfInBounds_toArray, List.set_cons_zero, List.set_cons_succ]
      refine wpB_step 29 _ rfl (by kernel_rfl) rfl rfl (fun K hK_ => ?_)
      go_simp
      refine (hg5' _ hHeld).mono ?_
      rintro e w29 ⟨la, lc, rfl, ho1, k29⟩
      refine hK_.out _ _ (by exact hHeld.trans k29) (fun hHeld => ?_)
      clear hK_ K
      try simp only [Act.put, List.setIfInBounds_toArray, List.set_cons_zero, List.set_cons_succ]
      refine wpB_step 35 _ rfl (by kernel_rfl) rfl rfl (fun K hK_ => ?_)
      go_simp
      refine (hg6' _ hHeld).mono ?_
      rintro e w35 ⟨la2, lc2, rfl, ho2, k35⟩
      refine hK_.out _ _ (by exact hHeld.trans k35) (fun hHeld => ?_)
      clear hK_ K
      try simp only [Act.put, List.setIfInBounds_toArray, List.set_cons_zero, List.set_cons_succ]
      refine wpB_step 36 _ rfl (by kernel_rfl) rfl rfl (fun K hK_ => ?_)
      go_simp
      refine (r02same_keys _ _ _ _ _ _ _ (SliceAt.of_owns (owns_other ho1 k35 (fun _ _ => by simp))) (SliceAt.of_owns ho2) (by omega)).mono ?_
      rintro e wq ⟨rfl, kq⟩
      rw [decide_eq_true (by rfl)]
      refine hK_.out _ _ (by exact hHeld.trans kq) (fun hHeld => ?_)
      clear hK_ K
      try simp only [Act.put, List.setIfInBounds_toArray, List.set_cons_zero, List.set_cons_succ]
      refine wpB_take 37 _ ?_ rfl (by kernel_rfl) (fun _ _ _ h => h) rfl hHeld ?_ ?_
      rotate_left
      · (intro W hW; go_simp; try with_reducible rfl)
      try simp only [Act.put, List.setIfInBounds_toArray, List.set_cons_zero, List.set_cons_succ]
      refine wpB_take 38 _ ?_ rfl (by kernel_rfl) (fun _ _ _ h => h) rfl hHeld ?_ ?_
      rotate_left
      · (intro W hW; go_simp; try with_reducible rfl)
      try simp only [Act.put, List.setIfInBounds_toArray, List.set_cons_zero, List.set_cons_succ]
      refine wpB_done (by kernel_rfl) ?_ _
      have hKx := hK4.trans hHeld
      clear hHeld p0 p1 p2 p3 p4 q0 q1 q2 q3 q4 d0' hg3' hg4' hg5' hg6'
      go_wp2_with fail
      go_roundg g'
      case rel => exact ⟨m + 1, st_next HM.out, by go_num, hKx⟩
      case measure => omega
    · obtain rfl : m = ks.length := by omega
      obtain rfl : gk = 0 := by omega
      clear hm
      obtain ⟨wA, hwA⟩ : ∃ wA : World, wA = wr := ⟨_, rfl⟩
      rw [← hwA] at hK ⊢
      clear hwA
      have hKA := Kp.refl [] wA
      go_wp2_with fail
      go_loopg [12] 9 (fun g i wr => ∃ d : Int, d + g = 8 ∧ -1 ≤ d ∧ i = .int .i64 d ∧ Kp [] wA wr)
      case atStart => exact ⟨-1, by omega, by omega, rfl, hKA⟩
      case round =>
        clear hKA
        obtain ⟨d, hd, hd1, rfl, hKr⟩ := hrel
        have HD := Lib.hid hd
        have hKw := hK.trans hKr
        by_cases hlt : d < 8
        · obtain ⟨g', rfl⟩ : ∃ g', gk = g' + 1 := ⟨gk - 1, by omega⟩
          clear hd
          have hg1 := hiv d (wf_i64 (by omega) (by omega))
          have hg2 := hkv d
          have hvz := vol_locs_le hi d
          obtain ⟨V, hV⟩ : ∃ V, V = x.vol d := ⟨_, rfl⟩
          rw [← hV] at hg1 hg2 hvz
          obtain ⟨⟨a0, a1, a2, al⟩, ve⟩ := V
          simp only at hg1 hg2 hvz
          clear hV
          go_wp2_with fail
          refine (hg1 _ hKw).mono ?_
          rintro e w1 ⟨lv, rfl, hl1, k1⟩
          obtain ⟨sa, sc, rfl⟩ := slice_ex hl1
          simp only [VolVA]
          have hK1 := hKw.trans k1
          obtain ⟨w2, hw2⟩ : ∃ w2, w2 = w1.alloc (.cells #[.int .i64 a0, .int .i64 a1, .int .i64 a2, .slice sa al.length sc] 36) := ⟨_, rfl⟩
          have k2 : Kp [] w1 w2 := hw2 ▸ (Kp.refl _ _).alloc _
          have b2 : w2.heap[w1.heap.size]? = some (.cells #[.int .i64 a0, .int .i64 a1, .int .i64 a2, .slice sa al.length sc] 36 (0, 0)) := by rw [hw2]; exact block_new _ _
          have hK2 := hK1.trans k2
          have HW2 := Lib.hid hw2
          clear hw2
          go_wp2_with fail
          rw [← HW2.out]
          refine (hg2 _ hK2).mono ?_
          rintro e w3 ⟨lv3, rfl, hl3, k3⟩
          obtain ⟨ta, tc, rfl⟩ := slice_ex hl3
          simp only [VolVA]
          obtain ⟨w4, hw4⟩ : ∃ w4, w4 = w3.alloc (.cells #[.int .i64 a0, .int .i64 a1, .int .i64 a2, .slice ta al.length tc] 36) := ⟨_, rfl⟩
          have k4 : Kp [] w3 w4 := hw4 ▸ (Kp.refl _ _).alloc _
          have b4 : w4.heap[w3.heap.size]? = some (.cells #[.int .i64 a0, .int .i64 a1, .int .i64 a2, .slice ta al.length tc] 36 (0, 0)) := by rw [hw4]; exact block_new _ _
          have k24 := k3.trans k4
          have hK4 := hK2.trans k24
          have b2' := (k24.block _ (lt_of_block b2) (by simp)).trans b2
          have p0 := cell_of_cells (o := 0) (v := .int .i64 a0) b2' rfl
          have p1 := cell_of_cells (o := 1) (v := .int .i64 a1) b2' rfl
          have p2 := cell_of_cells (o := 2) (v := .int .i64 a2) b2' rfl
          have p3 := cell_of_cells (o := 3) (v := .slice sa al.length sc) b2' rfl
          have q0 := cell_of_cells (o := 0) (v := .int .i64 a0) b4 rfl
          have q1 := cell_of_cells (o := 1) (v := .int .i64 a1) b4 rfl
          have q2 := cell_of_cells (o := 2) (v := .int .i64 a2) b4 rfl
          have q3 := cell_of_cells (o := 3) (v := .slice ta al.length tc) b4 rfl
          have hq := r11vols ⟨a0, a1, a2, al⟩ ⟨a0, a1, a2, al⟩ (.slice sa al.length sc) (.slice ta al.length tc) _ _ w4 (hl1.keep0 (k2.trans k24)) (hl3.keep0 k4) hvz
          rw [decide_eq_true (by rfl)] at hq
          simp only [VolVA] at hq
          rw [hw4] at p0 p1 p2 p3 q0 q1 q2 q3
          have HW4 := Lib.hid hw4
          have HQ := Lib.hid hq
          have hKr4 := (hKr.trans k1).trans (k2.trans k24)
          clear hw4 b2 b2' b4 k1 k2 k3 k4 k24 hK1 hK2 hK4 hg1 hg2 hl1 hl3 hq hvz hKw hKr
          go_wp2_with fail
          rw [← HW4.out]
          refine HQ.out.mono ?_
          rintro e w5 ⟨rfl, k5⟩
          have hKx := hKr4.trans k5
          clear p0 p1 p2 p3 q0 q1 q2 q3 k5
          go_wp2_with fail
          go_roundg g'
          case rel => exact ⟨d + 1, by have := HD.out; omega, by omega, by go_num, hKx⟩
          case measure => omega
        · obtain rfl : gk = 0 := by omega
          clear hd
          obtain ⟨LS, hLS⟩ : ∃ LS, LS = x.list E0 1000 := ⟨_, rfl⟩
          have hlz : LS.length ≤ 1000 := by rw [hLS]; have := list_len x E0 1000; have := hf.E; omega
          have hg5 := hil E0 1000
          have hg6 := hkl E0 1000 (by decide)
          rw [← hLS] at hg5 hg6
          obtain ⟨VS, hVS⟩ : ∃ VS, VS = x.volumes := ⟨_, rfl⟩
          rw [← hVS] at hiw hkw hloc hvl
          obtain ⟨NN, hNN⟩ : ∃ NN, NN = x.N := ⟨_, rfl⟩
          rw [← hNN] at hin hknx
          clear hLS hVS hNN hig hkg hik hkk hil hkl hiv hkv
          go_wp2_with fail
          refine (hiw _ hKw).mono ?_
          rintro e w1 ⟨v1, rfl, hv1, k1⟩
          obtain ⟨-, a1, c1, rfl, -⟩ := id hv1
          have hK1 := hKw.trans k1
          go_wp2_with fail
          refine (hkw _ hK1).mono ?_
          rintro e w2 ⟨v2, rfl, hv2, k2⟩
          obtain ⟨-, a2, c2, rfl, -⟩ := id hv2
          have hK2 := hK1.trans k2
          have hv12 := hv1.vols.keep0 k2
          clear hv1 k1 k2 hK1
          go_wp2_with fail
          refine (r13same _ _ _ _ _ _ _ hv12 hv2 (by omega) hloc).mono ?_
          rintro e w3 ⟨rfl, k3⟩
          rw [decide_eq_true (by rfl)]
          have hK3 := hK2.trans k3
          clear hv12 hv2 hK2 k3
          go_wp2_with fail
          refine (hin _ hK3).mono ?_
          rintro e w4 ⟨rfl, k4⟩
          have hK4 := hK3.trans k4
          clear hK3 k4
          go_wp2_with fail
          refine (hknx _ hK4).mono ?_
          rintro e w5 ⟨rfl, k5⟩
          have hK5 := hK4.trans k5
          clear hK4 k5
          go_wp2_with fail
          refine (hg5 _ hK5).mono ?_
          rintro e w6 ⟨a6, c6, rfl, ho6, k6⟩
          have hK6 := hK5.trans k6
          clear hK5 k6
          go_wp2_with fail
          refine (hg6 _ hK6).mono ?_
          rintro e w7 ⟨a7, c7, rfl, ho7, k7⟩
          have hK7 := hK6.trans k7
          have ho67 := owns_other ho6 k7 (fun _ _ => by simp)
          clear hK6 k7 ho6
          go_wp2_with fail
          refine (r02same_keys _ _ _ _ _ _ _ (SliceAt.of_owns ho67) (SliceAt.of_owns ho7) (by omega)).mono ?_
          rintro e w8 ⟨rfl, k8⟩
          rw [decide_eq_true (by rfl)]
          have hK8 := hK7.trans k8
          go_wp2_with fail
          go_ret
          exact ⟨rfl, hK8⟩
end Go.Proofs.YtdhhddifmkijhaaGreat
