/-
  What the document's space does, call by call: Give, All, Same.
-/
import Derived.Test.YtmegcmjklealbaaSpcS
namespace Go.Proofs.Ytmegcmjklealbaa
open Go.RowKit

def rgiveE (xs : List (Int × Int)) (d s : Int) : Int := if xs.contains (d, s) then 0 else 1
def rgiveL (xs : List (Int × Int)) (d s : Int) : List (Int × Int) := if xs.contains (d, s) then xs.filter (fun p => p != (d, s)) else xs
theorem filter_snoc (xs : List (Int × Int)) (n : Nat) (h : n < xs.length) (p : Int × Int → Bool) : (xs.take (n + 1)).filter p = (xs.take n).filter p ++ if p xs[n] then [xs[n]] else [] := by
  rw [List.take_succ_eq_append_getElem h, List.filter_append]
  cases hp : p xs[n] <;> simp [hp]

set_option maxHeartbeats 1000000 in
theorem rgive_in (k : Nat) (v : Value) (xs : List (Int × Int)) (d s : Int) (w : World) (hr : RefAt w k v xs) (hlen : xs.length ≤ 6000) (hc : xs.contains (d, s) = true) :
    Calls Try.prog 24 #[.pointer (some ⟨k, 0, none⟩), .agg #[.int .i64 d, .int .i64 s]] w fun e w' => ∃ v' : Value, e = .returned (.int .i64 0) ∧ RefAt w' k v' (xs.filter (fun p => p != (d, s))) ∧ Kp [k] w w' ∧ (∀ g, v'.ownBlock = some g → w.heap.size ≤ g) := by
  obtain ⟨av, cv, rfl⟩ := ownsRow_ex hr.own
  have hlt := hr.lt
  have HC := Lib.hid hc
  clear hc
  go_enter Try.func24, Try.ntmps24
  obtain ⟨w0, hw0⟩ : ∃ w0, w0 = (w.alloc (Obj.cells #[Value.int IntKind.i64 d, Value.int IntKind.i64 s] 31)) := ⟨_, rfl⟩
  have kw0 : Kp [] w w0 := hw0 ▸ (Kp.refl _ _).alloc _
  have c2 := Kp.cellAt (X := []) (w0 := w0) (p := ⟨w.heap.size, 0, none⟩) (v := .int .i64 d) (by rw [hw0]; exact cell_of_cells (block_new _ _) rfl) (by simp)
  have c3 := Kp.cellAt (X := []) (w0 := w0) (p := ⟨w.heap.size, 1, none⟩) (v := .int .i64 s) (by rw [hw0]; exact cell_of_cells (block_new _ _) rfl) (by simp)
  have Hw0 := Lib.hid hw0
  clear hw0
  go_wp2_with fail
  rw [← Hw0.out]
  have hK := Kp.refl [] w0
  go_wp2_with fail
  refine (rtaken_any k _ xs _ _ _ (hr.keep0 kw0) hlen).mono ?_
  rintro e w1 ⟨rfl, h1⟩
  rw [HC.out]
  have hK := h1
  have hr1 := (hr.keep0 kw0).keep0 h1
  have c1 := Kp.cellAt (X := []) (hr.keep0 kw0).cell (by simp)
  have kw1 := kw0.trans h1
  go_wp2_with fail
  go_loopg [5, 6] xs.length (fun g u i wr => ∃ (n : Nat) (au : Option Addr) (ln cu : Nat), n + g = xs.length ∧ i = .int .i64 n ∧ Kp [] w0 wr ∧ u = .slice au ln cu ∧ ln = ((xs.take n).filter (fun p => p != (d, s))).length ∧
    wr.ownsRow w0.heap.size 31 2 (.slice au ln cu) ln (Pairs ((xs.take n).filter (fun p => p != (d, s)))))
  case atStart => exact ⟨0, none, 0, 0, by omega, rfl, h1, rfl, by simp, by simpa using World.ownsRow_nil _ _ _ _⟩
  case round =>
    clear hK h1 hr1 kw1
    obtain ⟨n, au, ln, cu, hn, rfl, hK, rfl, hln, hown⟩ := hrel
    have HN := Lib.hid hn
    have HLN := Lib.hid hln
    have hln6 : ln ≤ 6000 := by
      have := List.length_filter_le (fun p => p != (d, s)) (xs.take n)
      have := List.length_take_le n xs
      rw [hln]; have := List.length_take_le' n xs; omega
    clear hln
    by_cases hlt : n < xs.length
    · obtain ⟨g', rfl⟩ : ∃ g', gk = g' + 1 := ⟨gk - 1, by omega⟩
      clear hn
      have hltI : (n : Int) < (xs.length : Int) := by omega
      obtain ⟨g, c, hv, e1, e2⟩ := own_at (hr.keep0 kw0).own n hlt
      simp only [Value.slice.injEq] at hv
      obtain ⟨rfl, -, rfl⟩ := hv
      have d1 := Kp.cellAt (X := []) e1 (by simp)
      have d2 := Kp.cellAt (X := []) e2 (by simp)
      clear e1 e2
      have HTS := Lib.hid (filter_snoc xs n hlt (fun p => p != (d, s)))
      have HOWN := Lib.hid hown
      clear hown
      go_wp2_with fail
      refine wpB_begin 999 (Kp [] w0) (by kernel_rfl) (by first | exact hK.drew | exact Kp.drew (Kp.refl _ _)) (fun hHeld => ?_)
      refine wpB_take 0 _ ?_ rfl (by kernel_rfl) (fun _ _ _ h => h) rfl hHeld ?_ ?_
      rotate_left
      · (intro W hW; go_simp; try with_reducible rfl)
      try simp only [Act.put, List.setIfInBounds_toArray, List.set_cons_zero, List.set_cons_succ]
      refine wpB_take 1 _ ?_ rfl (by kernel_rfl) (fun _ _ _ h => h) rfl hHeld ?_ ?_
      rotate_left
      · (intro W hW; go_simp; try with_reducible rfl)
      try simp only [Act.put, List.setIfInBounds_toArray, List.set_cons_zero, List.set_cons_succ]
      refine wpB_take 2 _ ?_ rfl (by kernel_rfl) (fun _ _ _ h => h) rfl hHeld ?_ ?_
      rotate_left
      · (intro W hW; go_simp; try with_reducible rfl)
      try simp only [Act.put, List.setIfInBounds_toArray, List.set_cons_zero, List.set_cons_succ]
      refine wpB_take 3 _ ?_ rfl (by kernel_rfl) (fun _ _ _ h => h) rfl hHeld ?_ ?_
      rotate_left
      · (intro W hW; go_simp; try with_reducible rfl)
      try simp only [Act.put, List.setIfInBounds_toArray, List.set_cons_zero, List.set_cons_succ]
      refine wpB_take 4 _ ?_ rfl (by kernel_rfl) (fun _ _ _ h => h) rfl hHeld ?_ ?_
      rotate_left
      · (intro W hW; go_simp; try with_reducible rfl)
      try simp only [Act.put, List.setIfInBounds_toArray, List.set_cons_zero, List.set_cons_succ]
      refine wpB_take 5 _ ?_ rfl (by kernel_rfl) (fun _ _ _ h => h) rfl hHeld ?_ ?_
      rotate_left
      · (intro W hW; go_simp; try with_reducible rfl)
      try simp only [Act.put, List.setIfInBounds_toArray, List.set_cons_zero, List.set_cons_succ]
      refine wpB_take 6 _ ?_ rfl (by kernel_rfl) (fun _ _ _ h => h) rfl hHeld ?_ ?_
      rotate_left
      · (intro W hW; go_simp; try with_reducible rfl)
      try simp only [Act.put, List.setIfInBounds_toArray, List.set_cons_zero, List.set_cons_succ]
      refine wpB_take 7 _ ?_ rfl (by kernel_rfl) (fun _ _ _ h => h) rfl hHeld ?_ ?_
      rotate_left
      · (intro W hW; go_simp; try with_reducible rfl)
      try simp only [Act.put, List.setIfInBounds_toArray, List.set_cons_zero, List.set_cons_succ]
      refine wpB_take 8 _ ?_ rfl (by kernel_rfl) (fun _ _ _ h => h) rfl hHeld ?_ ?_
      rotate_left
      · (intro W hW; go_simp; exact ne_pair _ (d, s) _)
      try simp only [Act.put, List.setIfInBounds_toArray, List.set_cons_zero, List.set_cons_succ]
      refine wpB_done (by kernel_rfl) ?_ _
      have kr : Kp [] wr wr.drew := (Kp.refl _ _).drew
      obtain ⟨wq, hwq⟩ : ∃ wq, wq = wr.drew := ⟨_, rfl⟩
      rw [← hwq] at hHeld kr
      rw [← hwq]
      clear hwq
      obtain ⟨bq, hbq⟩ : ∃ bq, bq = (xs[n] != (d, s)) := ⟨_, rfl⟩
      rw [← hbq]
      have HBQ := Lib.hid hbq
      clear hbq
      have hownq := ownsRow_keep HOWN.out kr (fun _ _ => by simp)
      cases bq with
      | false =>
        have HOQ := Lib.hid hownq
        clear hownq
        go_wp2_with fail
        go_roundg g'
        case rel =>
          have hn := HN.out
          have e1 : (xs.take (n + 1)).filter (fun p => p != (d, s)) = (xs.take n).filter (fun p => p != (d, s)) := by
            rw [HTS.out, ← HBQ.out]; simp
          exact ⟨n + 1, _, _, _, by omega, by go_num, hHeld, rfl, by rw [e1]; exact HLN.out, by rw [e1]; exact HOQ.out⟩
        case measure => omega
      | true =>
        obtain ⟨i0, hi, hz0, hz1, hz2⟩ := info_parts Try.info31
        have hszq := hHeld.size
        go_wp2_with (first | (at_builtin; refine wpList_append_mine _ rfl (.tmp 29) (.tmp 37) 27 rfl w0.heap.size 31 i0 (.agg #[.int .i64 0, .int .i64 0]) 2 16 Try.underlying27 hi hz0 hz1 hz2 rfl (by decide) (.slice au ln cu) ln _ rfl (ownsRow_keep (X := []) hownq ((Kp.refl _ wq).alloc _) (fun _ _ => by simp)) ⟨wq.heap.size, 0, none⟩ 1 1 [.int .i64 xs[n].1, .int .i64 xs[n].2] rfl rfl (new_cells wq _ _) (one_cells2 rfl rfl) (by unfold maxLen; omega) (by omega) (by simp; omega) ?_))
        intro v' w3 hown' hkp _ _
        obtain ⟨av', cv', rfl⟩ := ownsRow_ex hown'
        have hge := own_block_ge hownq
        have k3 : Kp [] w0 w3 := (hHeld.alloc _).step hkp (fun i hi hm => by
          simp only [Option.mem_toList, Option.mem_def] at hm
          have := hge i hm; omega)
        have HO := Lib.hid hown'
        clear hown' hkp hge hownq
        go_wp2_with fail
        go_roundg g'
        case rel =>
          have hn := HN.out
          have e1 : (xs.take (n + 1)).filter (fun p => p != (d, s)) = (xs.take n).filter (fun p => p != (d, s)) ++ [xs[n]] := by
            rw [HTS.out, ← HBQ.out]; simp
          refine ⟨n + 1, _, _, _, by omega, by go_num, k3, rfl, by rw [e1, List.length_append, ← HLN.out]; rfl, ?_⟩
          rw [e1]
          have e2 : Pairs ((xs.take n).filter (fun p => p != (d, s)) ++ [xs[n]]) = Pairs ((xs.take n).filter (fun p => p != (d, s))) ++ [.int .i64 xs[n].1, .int .i64 xs[n].2] := by simp [Pairs]
          rw [e2]; exact HO.out
        case measure => omega
    · obtain rfl : n = xs.length := by omega
      obtain rfl : gk = 0 := by omega
      clear hn
      have f1 := Kp.frozenAt (X := []) (hr.keep0 kw0).cell (hr.keep0 kw0).fr (by simp)
      have HOWN := Lib.hid hown
      clear hown
      have hszw := kw0.size
      have hKr := kw0.trans hK
      have ck := (hK.cell (lt_of_cell (hr.keep0 kw0).cell) (by simp)).trans (hr.keep0 kw0).cell
      have fk := (hK.frozen (lt_of_cell (hr.keep0 kw0).cell) (by simp)).trans (hr.keep0 kw0).fr
      have HCK := Lib.hid ck
      have HFK := Lib.hid fk
      clear ck fk
      go_wp2_with fail
      go_ret
      have hown := HOWN.out
      rw [HLN.out, List.take_length] at hown
      have hge := own_block_ge hown
      refine ⟨_, rfl, ⟨World.cell?_setCell_same _ _ _ HCK.out, by rw [World.frozen?_setCell]; exact HFK.out, ?_⟩, ?_, ?_⟩
      · have hx : xs.filter (fun p => p != (d, s)) = (xs.take xs.length).filter (fun p => p != (d, s)) := by rw [List.take_length]
        rw [HLN.out, List.take_length]
        exact ownsRow_base (ownsRow_keep (X := [k]) hown ((Kp.refl _ wr).setCell (.inl (by simp)) _) (fun i hi => by simp; omega)) (by omega)
      · exact (hKr.weaken (fun _ _ h => by cases h)).setCell (.inl (by simp)) _
      · intro g hg
        have hln2 : ln = (xs.filter (fun p => p != (d, s))).length := by rw [HLN.out, List.take_length]
        rw [hln2] at hg
        exact Nat.le_trans hszw (hge g hg)

theorem rgive_any (k : Nat) (v : Value) (xs : List (Int × Int)) (d s : Int) (w : World) (hr : RefAt w k v xs) (hlen : xs.length ≤ 6000) :
    Calls Try.prog 24 #[.pointer (some ⟨k, 0, none⟩), .agg #[.int .i64 d, .int .i64 s]] w fun e w' => ∃ v' : Value, e = .returned (.int .i64 (rgiveE xs d s)) ∧ RefAt w' k v' (rgiveL xs d s) ∧ Kp [k] w w' ∧ (∀ g, v'.ownBlock = some g → v.ownBlock = some g ∨ w.heap.size ≤ g) := by
  cases hc : xs.contains (d, s) with
  | true =>
    have e1 : rgiveE xs d s = 0 := by simp only [rgiveE, hc, if_true]
    have e2 : rgiveL xs d s = xs.filter (fun p => p != (d, s)) := by simp only [rgiveL, hc, if_true]
    rw [e1, e2]
    refine (rgive_in k v xs d s w hr hlen hc).mono ?_
    rintro e w' ⟨v', rfl, h1, h2, h3⟩
    exact ⟨v', rfl, h1, h2, fun g hg => .inr (h3 g hg)⟩
  | false =>
    have e1 : rgiveE xs d s = 1 := by simp only [rgiveE, hc, if_false, Bool.false_eq_true]
    have e2 : rgiveL xs d s = xs := by simp only [rgiveL, hc, if_false, Bool.false_eq_true]
    rw [e1, e2]
    have HC := Lib.hid hc
    clear hc e1 e2
    go_enter Try.func24, Try.ntmps24
    obtain ⟨w0, hw0⟩ : ∃ w0, w0 = (w.alloc (Obj.cells #[Value.int IntKind.i64 d, Value.int IntKind.i64 s] 31)) := ⟨_, rfl⟩
    have kw0 : Kp [] w w0 := hw0 ▸ (Kp.refl _ _).alloc _
    have c2 := Kp.cellAt (X := []) (w0 := w0) (p := ⟨w.heap.size, 0, none⟩) (v := .int .i64 d) (by rw [hw0]; exact cell_of_cells (block_new _ _) rfl) (by simp)
    have c3 := Kp.cellAt (X := []) (w0 := w0) (p := ⟨w.heap.size, 1, none⟩) (v := .int .i64 s) (by rw [hw0]; exact cell_of_cells (block_new _ _) rfl) (by simp)
    have Hw0 := Lib.hid hw0
    clear hw0
    go_wp2_with fail
    rw [← Hw0.out]
    have hK := Kp.refl [] w0
    go_wp2_with fail
    refine (rtaken_any k _ xs _ _ _ (hr.keep0 kw0) hlen).mono ?_
    rintro e w1 ⟨rfl, h1⟩
    rw [HC.out]
    go_wp2_with fail
    go_ret
    exact ⟨v, rfl, hr.keep0 (kw0.trans h1), (kw0.trans h1).weaken (fun _ _ h => by cases h), fun g hg => .inl hg⟩

theorem RefGo.trans {a b c : World} {k : Nat} {v v1 v2 : Value} {n m : Nat} (h : RefGo a b k v v1 n) (g : RefGo b c k v1 v2 m) (hnm : n ≤ m) (hge : ∀ i, v.ownBlock = some i → k < i ∧ i < a.heap.size) : RefGo a c k v v2 n := by
  refine ⟨h.keep.step g.keep ?_, h.pre.trans ?_, ?_⟩
  · intro i hi hm
    rcases List.mem_cons.1 hm with rfl | hm
    · exact List.mem_cons_self ..
    · simp only [Option.mem_toList, Option.mem_def] at hm
      rcases h.grow i hm with h' | h'
      · exact List.mem_cons_of_mem _ (by simp [h'])
      · omega
  · intro i hi
    by_cases e : v1.ownBlock = some i
    · exact g.pre.mono (Nat.mul_le_mul_right 2 hnm) i e
    · refine Prefix.of_kp (X := k :: v1.ownBlock.toList) g.keep (fun j hj => ?_) i hi
      rw [hi] at hj
      obtain rfl : i = j := by simpa using hj
      simp only [List.mem_cons, Option.mem_toList, Option.mem_def, not_or]
      exact ⟨by have := (hge i hi).1; omega, e⟩
  · intro i hi
    rcases g.grow i hi with h' | h'
    · exact h.grow i h'
    · exact .inr (Nat.le_trans h.keep.size h')

def rallGo (xs0 : List (Int × Int)) : List (Int × Int) → List Int → List (Int × Int) → List (Int × Int) × Int × List (Int × Int)
  | xs, [], acc => (acc, 0, xs)
  | xs, d :: ds, acc => if (rtakeR xs d).2 = 0 then rallGo xs0 (rtakeL xs d) ds (acc ++ [(d, (rtakeR xs d).1)]) else ([], (rtakeR xs d).2, xs0)
theorem rtakeL_le (xs : List (Int × Int)) (d : Int) : xs.length ≤ (rtakeL xs d).length ∧ (rtakeL xs d).length ≤ xs.length + 1 := by
  unfold rtakeL
  split
  · split <;> simp
  · simp

set_option maxHeartbeats 1000000 in
theorem rall_any (k : Nat) (v : Value) (xs : List (Int × Int)) (u : Value) (ds : List Int) (w : World) (hr : RefAt w k v xs) (B : Nat) (hu : SliceAt B w u 1 ds.length (ds.map (Value.int .i64)))
    (hsep : 0 < ds.length → ∀ b1 o c, u = .slice (some ⟨b1, o, none⟩) ds.length c → b1 ≠ k ∧ v.ownBlock ≠ some b1) (hds : ds.length ≤ 60) (hlen : xs.length ≤ 5900) :
    Calls Try.prog 25 #[.pointer (some ⟨k, 0, none⟩), u] w fun e w' => ∃ (r v' : Value), e = .returned (.tuple #[r, .int .i64 (rallGo xs xs ds []).2.1]) ∧ RefAt w' k v' (rallGo xs xs ds []).2.2 ∧ RefGo w w' k v v' xs.length ∧
      w'.ownsRow w.heap.size 31 2 r (rallGo xs xs ds []).1.length (Pairs (rallGo xs xs ds []).1) ∧ (∀ g, r.ownBlock = some g → v'.ownBlock ≠ some g) := by
  obtain ⟨av, cv, rfl⟩ := ownsRow_ex hr.own
  obtain ⟨au, cu, rfl⟩ := slice_ex hu
  have c1 := hr.cell
  have hge : ∀ i, (Value.slice av xs.length cv).ownBlock = some i → k < i ∧ i < w.heap.size := fun i hi => ⟨own_block_ge hr.own i hi, own_lt hr.own i hi⟩
  have HGE := Lib.hid hge
  clear hge
  go_enter Try.func25, Try.ntmps25
  go_wp2_with fail
  clear c1
  go_loopg [7, 8] ds.length (fun g o i wr => ∃ (n : Nat) (xk acc : List (Int × Int)) (ao : Option Addr) (co : Nat) (vk : Value), n + g = ds.length ∧ i = .int .i64 n ∧ o = .slice ao acc.length co ∧ acc.length = n ∧ xs.length ≤ xk.length ∧ xk.length ≤ xs.length + n ∧
    RefAt wr k vk xk ∧ RefGo w wr k (.slice av xs.length cv) vk xs.length ∧ wr.ownsRow w.heap.size 31 2 (.slice ao acc.length co) acc.length (Pairs acc) ∧ (∀ j, (Value.slice ao acc.length co).ownBlock = some j → vk.ownBlock ≠ some j) ∧
    rallGo xs xs ds [] = rallGo xs xk (ds.drop n) acc)
  case atStart => exact ⟨0, xs, [], none, 0, _, by omega, rfl, rfl, rfl, Nat.le_refl _, by omega, hr, RefGo.of_kp (Kp.refl _ _), World.ownsRow_nil _ _ _ _, (fun _ h => by cases h), rfl⟩
  case round =>
    obtain ⟨n, xk, acc, ao, co, vk, hn, rfl, rfl, hacc, hx1, hx2, hrk, hgo, hown, hdis, hall⟩ := hrel
    have HN := Lib.hid hn
    have HACC := Lib.hid hacc
    have HOWN := Lib.hid hown
    have HDIS := Lib.hid hdis
    have HALL := Lib.hid hall
    have hszr := hgo.keep.size
    have hac6 : acc.length ≤ 60 := by omega
    clear hacc hown hdis hall
    by_cases hlt : n < ds.length
    · obtain ⟨g', rfl⟩ : ∃ g', gk = g' + 1 := ⟨gk - 1, by omega⟩
      have hn60 : n < 60 := by omega
      clear hn
      have hltI : (n : Int) < (ds.length : Int) := by omega
      obtain ⟨bu, ou, rfl, hcell⟩ : ∃ bu ou, au = some ⟨bu, ou, none⟩ ∧ wr.cell? ⟨bu, ou + n, none⟩ = some (.int .i64 ds[n]) := by
        obtain ⟨b1, o1, hv, -, -, hb2, hcell0⟩ := hu.cells (by omega)
        have hb1 := hsep (by omega) b1 o1 cu (by rw [hv])
        have hcell : ∀ (j : Nat) (u : Value), (ds.map (Value.int .i64))[j]? = some u → wr.cell? ⟨b1, o1 + j, none⟩ = some u := fun j u hu => (hgo.keep.cell hb2 (by
          simp only [List.mem_cons, Option.mem_toList, Option.mem_def, not_or]
          exact hb1)).trans (hcell0 j u hu)
        exact ⟨b1, o1, hv, hcell n (.int .i64 ds[n]) (by simp [hlt])⟩
      go_wp2_with fail
      refine (rtake_any k vk xk _ _ hrk (by omega)).mono ?_
      rintro e w2 ⟨vk2, rfl, hr2, hg2⟩
      have hgo2 := hgo.trans hg2 hx1 HGE.out
      obtain ⟨r1, r2, hrr⟩ : ∃ r1 r2, rtakeR xk ds[n] = (r1, r2) := ⟨_, _, rfl⟩
      have HR := Lib.hid hrr
      rw [hrr]
      clear hrr
      have hL := rtakeL_le xk ds[n]
      have hdrop : ds.drop n = ds[n] :: ds.drop (n + 1) := by rw [List.drop_eq_getElem_cons hlt]
      have HD := Lib.hid hdrop
      clear hdrop
      have hown2 : w2.ownsRow w.heap.size 31 2 (.slice ao acc.length co) acc.length (Pairs acc) := by
        refine ownsRow_prefix HOWN.out (m := acc.length * 2) ?_ (Nat.le_refl _)
        intro j hj
        refine Prefix.of_kp hg2.keep (fun i hi => ?_) j hj
        have h1 := own_block_ge HOWN.out i hi
        have h2 := hrk.lt
        have h3 := hr.lt
        simp only [List.mem_cons, Option.mem_toList, Option.mem_def, not_or]
        exact ⟨by omega, HDIS.out i hi⟩
      have hdis2 : ∀ j, (Value.slice ao acc.length co).ownBlock = some j → vk2.ownBlock ≠ some j := by
        intro j hj hc
        rcases hg2.grow j hc with h | h
        · exact HDIS.out j hj h
        · have := own_lt HOWN.out j hj
          omega
      have hcell2 : w2.cell? ⟨bu, ou + n, none⟩ = some (.int .i64 ds[n]) := by
        refine (hg2.keep.cell (lt_of_cell hcell) ?_).trans hcell
        obtain ⟨h1, h2⟩ : (bu ≠ k ∧ (Value.slice av xs.length cv).ownBlock ≠ some bu) ∧ bu < w.heap.size := by
          obtain ⟨b1, o1, hv, -, -, hb, -⟩ := hu.cells (by omega)
          refine ⟨hsep (by omega) bu ou cu rfl, ?_⟩
          simp only [Option.some.injEq, Addr.mk.injEq] at hv
          rw [hv.1]; exact hb
        simp only [List.mem_cons, Option.mem_toList, Option.mem_def, not_or]
        refine ⟨h1.1, fun e => ?_⟩
        rcases hgo.grow bu e with h | h
        · exact h1.2 h
        · omega
      have hsz2 := hgo2.keep.size
      have HR2 := Lib.hid hr2
      have HG2 := Lib.hid hgo2
      have HD2 := Lib.hid hdis2
      clear hr2 hgo2 hdis2 hg2 hrk hgo hcell hszr
      by_cases he : r2 = 0
      · subst he
        obtain ⟨i0, hi, hz0, hz1, hz2⟩ := info_parts Try.info31
        go_wp2_with (first | (at_builtin; refine wpList_append_mine _ rfl (.tmp 37) (.tmp 44) 27 rfl w.heap.size 31 i0 (.agg #[.int .i64 0, .int .i64 0]) 2 16 Try.underlying27 hi hz0 hz1 hz2 rfl (by decide) (.slice ao acc.length co) acc.length (Pairs acc) rfl (ownsRow_keep (X := []) hown2 ((Kp.refl _ w2).alloc _) (fun _ _ => by simp)) ⟨w2.heap.size, 0, none⟩ 1 1 [.int .i64 ds[n], .int .i64 r1] rfl rfl (new_cells w2 _ _) (one_cells2 rfl rfl) (by unfold maxLen; omega) (by omega) (by simp; omega) ?_))
        intro v' w3 hown' hkp _ hgrow3
        obtain ⟨av', cv', rfl⟩ := ownsRow_ex hown'
        have hge2 := own_block_ge hown2
        have hd2 := HD2.out
        have k3 : Kp (Value.slice ao acc.length co).ownBlock.toList w2 w3 := ((Kp.refl _ w2).alloc _).trans hkp
        have hr3 : RefAt w3 k vk2 (rtakeL xk ds[n]) := by
          refine HR2.out.keep k3 ?_ ?_
          · simp only [Option.mem_toList, Option.mem_def]
            intro e
            have := hge2 k e
            have := hr.lt
            omega
          · intro g hg hm
            simp only [Option.mem_toList, Option.mem_def] at hm
            exact hd2 g hm hg
        have hg3 : RefGo w w3 k (.slice av xs.length cv) vk2 xs.length := by
          refine ⟨HG2.out.keep.step k3 (fun i hi hm => ?_), HG2.out.pre.trans (Prefix.of_kp k3 (fun i hi hm => ?_)), HG2.out.grow⟩
          · simp only [Option.mem_toList, Option.mem_def] at hm
            have := hge2 i hm
            omega
          · simp only [Option.mem_toList, Option.mem_def] at hm
            have := hge2 i hm
            have := (HGE.out i hi).2
            omega
        have hd3 : ∀ j, (Value.slice av' (acc.length + 1) cv').ownBlock = some j → vk2.ownBlock ≠ some j := by
          intro j hj hc
          rcases hgrow3 j hj with h | h
          · exact hd2 j h hc
          · have := own_lt HR2.out.own j hc
            omega
        have HO := Lib.hid hown'
        have HR3 := Lib.hid hr3
        have HG3 := Lib.hid hg3
        have HD3 := Lib.hid hd3
        clear hown' hkp hgrow3 hge2 hd2 k3 hr3 hg3 hd3 hown2
        go_wp2_with fail
        go_roundg g'
        case rel =>
          have hn := HN.out
          have hacc := HACC.out
          have e1 : (acc ++ [(ds[n], r1)]).length = acc.length + 1 := by simp
          have e2 : Pairs (acc ++ [(ds[n], r1)]) = Pairs acc ++ [.int .i64 ds[n], .int .i64 r1] := by simp [Pairs]
          refine ⟨n + 1, rtakeL xk ds[n], acc ++ [(ds[n], r1)], av', cv', vk2, by omega, by go_num, by rw [e1], by rw [e1]; omega, by omega, by omega, HR3.out, HG3.out, ?_, ?_, ?_⟩
          · rw [e1, e2]; exact HO.out
          · rw [e1]; exact HD3.out
          · rw [HALL.out, HD.out]
            show (if (rtakeR xk ds[n]).2 = 0 then _ else _) = _
            rw [HR.out, if_pos rfl]
        case measure => omega
      · have hne : (r2 != 0) = true := by simpa using he
        have HNE := Lib.hid he
        clear he
        have ck := HR2.out.cell
        have fk := HR2.out.fr
        obtain ⟨a2, c2, rfl⟩ := ownsRow_ex HR2.out.own
        go_wp2_with fail
        go_ret2
        have hgo3 : rallGo xs xs ds [] = ([], r2, xs) := by
          rw [HALL.out, HD.out]
          show (if (rtakeR xk ds[n]).2 = 0 then _ else _) = _
          rw [HR.out, if_neg HNE.out]
        rw [hgo3]
        have ks : Kp [k] w2 (w2.setCell ⟨k, 0, none⟩ (.slice av xs.length cv)) := (Kp.refl _ _).setCell (.inl (by simp)) _
        have hown0 : w2.ownsRow (k + 1) 31 2 (.slice av xs.length cv) xs.length (Pairs xs) := ownsRow_prefix hr.own HG2.out.pre (Nat.le_refl _)
        refine ⟨.slice none 0 0, .slice av xs.length cv, rfl, ⟨World.cell?_setCell_same _ _ _ ck, by rw [World.frozen?_setCell]; exact fk, ownsRow_keep hown0 ks (fun i hi => by simp; omega)⟩, ⟨?_, ?_, fun g hg => .inl hg⟩, World.ownsRow_nil _ _ _ _, fun g hg => by cases hg⟩
        · exact HG2.out.keep.setCell (.inl (by simp)) _
        · refine HG2.out.pre.trans (Prefix.of_kp ks (fun i hi => ?_))
          have := (HGE.out i hi).1
          simp; omega
    · obtain rfl : n = ds.length := by omega
      obtain rfl : gk = 0 := by omega
      clear hn
      go_wp2_with fail
      go_ret2
      have hgo3 : rallGo xs xs ds [] = (acc, 0, xk) := by rw [HALL.out, List.drop_length]; rfl
      rw [hgo3]
      exact ⟨_, vk, rfl, hrk, hgo, HOWN.out, HDIS.out⟩
end Go.Proofs.Ytmegcmjklealbaa
