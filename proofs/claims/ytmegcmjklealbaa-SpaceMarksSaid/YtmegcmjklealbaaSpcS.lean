/-
  What the document's space does, call by call: Take, Free, Same.
-/
import Derived.Test.YtmegcmjklealbaaSpcR
import Derived.Deep.LoopGhost
namespace Go.Proofs.Ytmegcmjklealbaa
open Go.RowKit

/-- the least slot that is not in the list -/
def rleast (xs : List (Int × Int)) (d : Int) : Nat → Nat → Option Nat
  | 0, _ => none
  | n + 1, k => if xs.contains (d, (k : Int)) then rleast xs d n (k + 1) else some k
def rtakeR (xs : List (Int × Int)) (d : Int) : Int × Int := if DiskB d then (match rleast xs d 48 0 with | some k => ((k : Int), 0) | none => (0, 7)) else (0, 1)
def rtakeL (xs : List (Int × Int)) (d : Int) : List (Int × Int) := if DiskB d then (match rleast xs d 48 0 with | some k => xs ++ [(d, (k : Int))] | none => xs) else xs

theorem rtake_out (k : Nat) (v : Value) (xs : List (Int × Int)) (d : Int) (w : World) (hr : RefAt w k v xs) (hD : DiskB d = false) :
    Calls Try.prog 22 #[.pointer (some ⟨k, 0, none⟩), .int .i64 d] w fun e w' => e = .returned (.tuple #[.int .i64 0, .int .i64 1]) ∧ Kp [] w w' := by
  simp only [DiskB, decide_eq_false_iff_not] at hD
  by_cases h0 : d < 0
  · go_enter Try.func22, Try.ntmps22
    go_wp2_with fail
    go_ret2
    exact ⟨rfl, Kp.refl _ _⟩
  · have h1 : 11 < d := by omega
    clear hD
    go_enter Try.func22, Try.ntmps22
    go_wp2_with fail
    go_ret2
    exact ⟨rfl, Kp.refl _ _⟩

set_option maxHeartbeats 1000000 in
theorem rtake_in (k : Nat) (v : Value) (xs : List (Int × Int)) (d : Int) (w : World) (hr : RefAt w k v xs) (hlen : xs.length ≤ 6000) (hD : DiskB d = true) :
    Calls Try.prog 22 #[.pointer (some ⟨k, 0, none⟩), .int .i64 d] w fun e w' => ∃ v' : Value, e = .returned (.tuple #[.int .i64 (rtakeR xs d).1, .int .i64 (rtakeR xs d).2]) ∧ RefAt w' k v' (rtakeL xs d) ∧ RefGo w w' k v v' xs.length := by
  have hD1 := hD
  simp only [DiskB, decide_eq_true_eq] at hD1
  obtain ⟨h0, h1⟩ := hD1
  have HD := Lib.hid hD
  clear hD
  have h1' : d ≤ 11 := by omega
  have hlt2 := own_lt hr.own
  have hge := own_block_ge hr.own
  have HE := Lib.hid hge
  have HL2 := Lib.hid hlt2
  clear hge hlt2
  go_enter Try.func22, Try.ntmps22
  go_wp2_with fail
  go_loopg [6] 48 (fun g i wr => ∃ n : Nat, n + g = 48 ∧ i = .int .i64 n ∧ Kp [] w wr ∧ rleast xs d 48 0 = rleast xs d g n)
  case atStart => exact ⟨0, by omega, rfl, Kp.refl _ _, rfl⟩
  case round =>
    obtain ⟨n, hn, rfl, kr, hl⟩ := hrel
    have HN := Lib.hid hn
    have HL := Lib.hid hl
    clear hl
    have hnI : (n : Int) ≤ 48 := by omega
    by_cases hlt : n < 48
    · obtain ⟨g', rfl⟩ : ∃ g', gk = g' + 1 := ⟨gk - 1, by omega⟩
      clear hn
      have hnI : (n : Int) < 48 := by omega
      go_wp2_with fail
      obtain ⟨w1, hw1⟩ : ∃ w1, w1 = (wr.alloc (Obj.cells #[Value.int IntKind.i64 d, Value.int IntKind.i64 n] 31)) := ⟨_, rfl⟩
      rw [← hw1]
      have k1 : Kp [] wr w1 := hw1 ▸ (Kp.refl _ _).alloc _
      have c2 := Kp.cellAt (X := []) (w0 := w1) (p := ⟨wr.heap.size, 0, none⟩) (v := .int .i64 d) (by rw [hw1]; exact cell_of_cells (block_new _ _) rfl) (by simp)
      have c3 := Kp.cellAt (X := []) (w0 := w1) (p := ⟨wr.heap.size, 1, none⟩) (v := .int .i64 n) (by rw [hw1]; exact cell_of_cells (block_new _ _) rfl) (by simp)
      have HW1 := Lib.hid hw1
      clear hw1
      have kw1 := kr.trans k1
      refine (rtaken_any k v xs _ _ _ (hr.keep0 kw1) hlen).mono ?_
      rintro e w2 ⟨rfl, h2⟩
      have kw2 := kw1.trans h2
      have hK := h2
      have hr2 := hr.keep0 kw2
      have hsz2 := kw2.size
      have hszr := kr.size
      have hsz12 := (k1.trans h2).size
      cases hc : xs.contains (d, (n : Int)) with
      | true =>
        have HC := Lib.hid hc
        clear hc hr2 hsz2 hszr hsz12 k1 kw1 c2 c3
        go_wp2_with fail
        go_roundg g'
        case rel =>
          have hn := HN.out
          refine ⟨n + 1, by omega, by go_num, kw2, ?_⟩
          rw [HL.out]; show (if xs.contains (d, (n : Int)) = true then _ else _) = _; rw [HC.out]; rfl
        case measure => omega
      | false =>
        have HC := Lib.hid hc
        clear hc
        obtain ⟨av, cv, rfl⟩ := ownsRow_ex hr2.own
        obtain ⟨X, hX⟩ : ∃ X, X = (Value.slice av xs.length cv).ownBlock.toList := ⟨_, rfl⟩
        have hXk : k ∉ X := fun hm => by
          rw [hX] at hm; simp only [Option.mem_toList, Option.mem_def] at hm
          have := HE.out _ hm; omega
        have hXn : wr.heap.size ∉ X := fun hm => by
          rw [hX] at hm; simp only [Option.mem_toList, Option.mem_def] at hm
          have := HL2.out _ hm; omega
        have e1 := Kp.cellAt (X := X) hr2.cell hXk
        have e1f := Kp.frozenAt (X := X) hr2.cell hr2.fr hXk
        have e2 := Kp.cellAt (X := X) (c2 _ hK) hXn
        have e3 := Kp.cellAt (X := X) (c3 _ hK) hXn
        clear c2 c3
        have HX := Lib.hid hX
        clear hX hXk hXn
        obtain ⟨i0, hi, hz0, hz1, hz2⟩ := info_parts Try.info31
        have HR2 := Lib.hid hr2
        clear hr2
        have hk2 := HR2.out.lt
        go_wp2_with fail
        have hK := Kp.refl X w2
        refine wpB_begin 10 (Kp X w2) (by kernel_rfl) (by first | exact hK.drew | exact Kp.drew (Kp.refl _ _)) (fun hHeld => ?_)
        refine wpB_take 0 _ ?_ rfl (by kernel_rfl) (fun _ _ _ h => h) rfl hHeld ?_ ?_
        rotate_left
        · (intro W hW; go_simp; try with_reducible rfl)
        try simp only [Act.put, List.setIfInBounds_toArray, List.set_cons_zero, List.set_cons_succ]
        refine wpB_take 1 _ ?_ rfl (by kernel_rfl) (fun _ _ _ h => h) rfl hHeld ?_ ?_
        rotate_left
        · (intro W hW; go_simp; try with_reducible rfl)
        try simp only [Act.put, List.setIfInBounds_toArray, List.set_cons_zero, List.set_cons_succ]
        refine wpB_take 2 _ ?_ rfl (by kernel_rfl) (fun _ _ _ h => h) rfl hHeld ?_ ?_
        rotate_left
        · (intro W hW; go_simp; try with_reducible rfl)
        try simp only [Act.put, List.setIfInBounds_toArray, List.set_cons_zero, List.set_cons_succ]
        refine wpB_take 3 _ ?_ rfl (by kernel_rfl) (fun _ _ _ h => h) rfl hHeld ?_ ?_
        rotate_left
        · (intro W hW; go_simp; try with_reducible rfl)
        try simp only [Act.put, List.setIfInBounds_toArray, List.set_cons_zero, List.set_cons_succ]
        refine wpB_take 4 _ ?_ rfl (by kernel_rfl) (fun _ _ _ h => h) rfl hHeld ?_ ?_
        rotate_left
        · (intro W hW; go_simp; try with_reducible rfl)
        try simp only [Act.put, List.setIfInBounds_toArray, List.set_cons_zero, List.set_cons_succ]
        refine wpB_take 5 _ ?_ rfl (by kernel_rfl) (fun _ _ _ h => h) rfl hHeld ?_ ?_
        rotate_left
        · (intro W hW; go_simp; try with_reducible rfl)
        try simp only [Act.put, List.setIfInBounds_toArray, List.set_cons_zero, List.set_cons_succ]
        refine wpB_step 6 _ rfl (by kernel_rfl) rfl rfl (fun K hK_ => ?_)
        go_simp
        refine hK_.out _ _ (by first | exact hHeld | exact hHeld.call ‹_› | exact hHeld.alloc _) (fun hHeld => ?_)
        clear hK_ K
        try simp only [Act.put, List.setIfInBounds_toArray, List.set_cons_zero, List.set_cons_succ]
        refine wpB_step 7 _ rfl (by kernel_rfl) rfl rfl (fun K hK_ => ?_)
        refine wp_append_mine _ (.tmp 29) (.tmp 31) 27 rfl (k + 1) 31 i0 (.agg #[.int .i64 0, .int .i64 0]) 2 16 Try.underlying27 hi hz0 hz1 hz2 rfl (by decide) (.slice av xs.length cv) xs.length (Pairs xs) rfl (ownsRow_keep (X := []) HR2.out.own ((Kp.refl _ w2).drew.alloc _) (fun _ _ => by simp)) ⟨w2.heap.size, 0, none⟩ 1 1 [.int .i64 d, .int .i64 n] rfl rfl (new_cells w2.drew _ _) (one_cells2 rfl rfl) (by unfold maxLen; omega) (by omega) (by simp; omega) ?_
        intro v' w3 hown' hkp hpre hgrow
        obtain ⟨av', cv', rfl⟩ := ownsRow_ex hown'
        refine hK_.out _ _ (by exact hHeld.trans (HX.out ▸ hkp)) (fun hHeld => ?_)
        clear hK_ K
        try simp only [Act.put, List.setIfInBounds_toArray, List.set_cons_zero, List.set_cons_succ]
        refine wpB_take 8 _ ?_ rfl (by kernel_rfl) (fun _ _ _ h => h) rfl hHeld ?_ ?_
        rotate_left
        · (intro W hW; go_simp; try with_reducible rfl)
        try simp only [Act.put, List.setIfInBounds_toArray, List.set_cons_zero, List.set_cons_succ]
        refine wpB_take 9 _ ?_ rfl (by kernel_rfl) (fun _ _ _ h => h) rfl hHeld ?_ ?_
        rotate_left
        · (intro W hW; go_simp; try with_reducible rfl)
        try simp only [Act.put, List.setIfInBounds_toArray, List.set_cons_zero, List.set_cons_succ]
        refine wpB_bar (Kp (k :: X) w2) 999 _ rfl (by kernel_rfl) rfl (fun K hK_ => ?_)
        go_simp
        refine hK_.out _ _ (by exact (hHeld.weaken (fun _ _ h => List.mem_cons_of_mem _ h)).setCell (.inl (by simp)) _) (fun hHeld => ?_)
        clear hK_ K
        try simp only [Act.put, List.setIfInBounds_toArray, List.set_cons_zero, List.set_cons_succ]
        refine wpB_done (by kernel_rfl) ?_ _
        have HO := Lib.hid hown'
        have HG := Lib.hid hgrow
        clear hown' hgrow
        go_wp2_with fail
        go_ret2
        have hl : rleast xs d 48 0 = some n := by rw [HL.out]; show (if xs.contains (d, (n : Int)) = true then _ else _) = _; rw [HC.out]; rfl
        have f1 : rtakeR xs d = ((n : Int), 0) := by simp only [rtakeR, HD.out, if_true, hl]
        have f2 : rtakeL xs d = xs ++ [(d, (n : Int))] := by simp only [rtakeL, HD.out, if_true, hl]
        rw [f1, f2]
        have hkp' : Kp (Value.slice av xs.length cv).ownBlock.toList w2 w3 := ((Kp.refl _ w2).drew.alloc _).trans hkp
        refine ⟨_, rfl, refAt_store HR2.out (ys := xs ++ [(d, (n : Int))]) ?_ hkp', ?_, ?_, ?_⟩
        · have e1 : (xs ++ [(d, (n : Int))]).length = xs.length + 1 := by simp
          have e2 : Pairs (xs ++ [(d, (n : Int))]) = Pairs xs ++ [.int .i64 d, .int .i64 n] := by simp [Pairs]
          rw [e1, e2]; exact HO.out
        · refine ((kw2.weaken (fun _ _ h => by cases h)).trans (hkp'.weaken (fun _ _ h => List.mem_cons_of_mem _ h))).setCell (.inl (by simp)) _
        · have q1 : Prefix (Value.slice av xs.length cv).ownBlock (xs.length * 2) w (w2.drew.alloc (.cells #[.int .i64 d, .int .i64 n] 31)) :=
            Prefix.of_kp ((kw2.drew).alloc _) (fun _ _ => by simp)
          have q2 : Prefix (Value.slice av xs.length cv).ownBlock (xs.length * 2) w3 (w3.setCell ⟨k, 0, none⟩ (.slice av' (xs.length + 1) cv')) :=
            Prefix.of_kp (X := [k]) ((Kp.refl _ w3).setCell (.inl (by simp)) _) (fun b hb => by
              have := HE.out b hb
              simp; omega)
          exact (q1.trans hpre).trans q2
        · intro g hg
          rcases HG.out g hg with h | h
          · exact .inl h
          · refine .inr (Nat.le_trans ?_ h)
            have := kw2.size
            simp; omega
    · obtain rfl : n = 48 := by omega
      obtain rfl : gk = 0 := by omega
      clear hn
      go_wp2_with fail
      go_ret2
      have hl : rleast xs d 48 0 = none := HL.out
      have f1 : rtakeR xs d = (0, 7) := by simp only [rtakeR, HD.out, if_true, hl]
      have f2 : rtakeL xs d = xs := by simp only [rtakeL, HD.out, if_true, hl]
      rw [f1, f2]
      exact ⟨rfl, v, RefGo.done kr hr⟩
theorem rtake_any (k : Nat) (v : Value) (xs : List (Int × Int)) (d : Int) (w : World) (hr : RefAt w k v xs) (hlen : xs.length ≤ 6000) :
    Calls Try.prog 22 #[.pointer (some ⟨k, 0, none⟩), .int .i64 d] w fun e w' => ∃ v' : Value, e = .returned (.tuple #[.int .i64 (rtakeR xs d).1, .int .i64 (rtakeR xs d).2]) ∧ RefAt w' k v' (rtakeL xs d) ∧ RefGo w w' k v v' xs.length := by
  cases hD : DiskB d with
  | true => exact rtake_in k v xs d w hr hlen hD
  | false =>
    refine (rtake_out k v xs d w hr hD).mono ?_
    rintro e w' ⟨rfl, h⟩
    have f1 : rtakeR xs d = (0, 1) := by simp only [rtakeR, hD, Bool.false_eq_true, if_false]
    have f2 : rtakeL xs d = xs := by simp only [rtakeL, hD, Bool.false_eq_true, if_false]
    rw [f1, f2]
    exact ⟨v, rfl, RefGo.done h hr⟩

def rfreeN (xs : List (Int × Int)) (d : Int) : Int := if DiskB d then 48 - (xs.countP fun p => p.1 == d : Nat) else 0
theorem count_snoc (xs : List (Int × Int)) (n : Nat) (h : n < xs.length) (p : Int × Int → Bool) : (xs.take (n + 1)).countP p = (xs.take n).countP p + if p xs[n] then 1 else 0 := by
  rw [List.take_succ_eq_append_getElem h, List.countP_append]
  simp [List.countP_cons]

set_option maxHeartbeats 400000 in
theorem rfree_any (k : Nat) (v : Value) (xs : List (Int × Int)) (d : Int) (w : World) (hr : RefAt w k v xs) (hlen : xs.length ≤ 6000) :
    Calls Try.prog 13 #[.pointer (some ⟨k, 0, none⟩), .int .i64 d] w fun e w' => e = .returned (.int .i64 (rfreeN xs d)) ∧ Kp [] w w' := by
  cases hD : DiskB d with
  | false =>
    have e1 : rfreeN xs d = 0 := by simp [rfreeN, hD]
    rw [e1]
    simp only [DiskB, decide_eq_false_iff_not] at hD
    by_cases h0 : d < 0
    · go_enter Try.func13, Try.ntmps13
      go_wp2_with fail
      go_ret
      exact ⟨rfl, Kp.refl _ _⟩
    · have h1 : 11 < d := by omega
      clear hD e1
      go_enter Try.func13, Try.ntmps13
      go_wp2_with fail
      go_ret
      exact ⟨rfl, Kp.refl _ _⟩
  | true =>
    have e1 : rfreeN xs d = 48 - (xs.countP fun p => p.1 == d : Nat) := by simp [rfreeN, hD]
    rw [e1]
    simp only [DiskB, decide_eq_true_eq] at hD
    obtain ⟨h0, h1⟩ := hD
    have h1' : d ≤ 11 := by omega
    clear e1
    obtain ⟨av, cv, rfl⟩ := ownsRow_ex hr.own
    have c1 := Kp.cellAt (X := []) hr.cell (by simp)
    go_enter Try.func13, Try.ntmps13
    go_wp2_with fail
    go_loopg [5, 6] xs.length (fun g m i wr => ∃ n t : Nat, n + g = xs.length ∧ t ≤ n ∧ m = .int .i64 (48 - (t : Int)) ∧ i = .int .i64 n ∧ Kp [] w wr ∧ (xs.take n).countP (fun p => p.1 == d) = t)
    case atStart => exact ⟨0, 0, by omega, by omega, rfl, rfl, Kp.refl _ _, by simp⟩
    case round =>
      obtain ⟨n, t, hn, ht, rfl, rfl, kr, hc⟩ := hrel
      have HN := Lib.hid hn
      have HC := Lib.hid hc
      clear hc
      by_cases hlt : n < xs.length
      · obtain ⟨g', rfl⟩ : ∃ g', gk = g' + 1 := ⟨gk - 1, by omega⟩
        clear hn
        have hltI : (n : Int) < (xs.length : Int) := by omega
        obtain ⟨g, c, hv, e1, e2⟩ := own_at hr.own n hlt
        simp only [Value.slice.injEq] at hv
        obtain ⟨rfl, -, rfl⟩ := hv
        have d1 := Kp.cellAt (X := []) e1 (by simp)
        clear e1 e2
        have hts := count_snoc xs n hlt (fun p => p.1 == d)
        have HTS := Lib.hid hts
        clear hts
        cases hb : (xs[n].1 == d) with
        | true =>
          go_wp2_with fail
          go_roundg g'
          case rel =>
            have hn := HN.out
            refine ⟨n + 1, t + 1, by omega, by omega, by go_num, by go_num, kr, ?_⟩
            rw [HTS.out, HC.out, hb]; rfl
          case measure => omega
        | false =>
          go_wp2_with fail
          go_roundg g'
          case rel =>
            have hn := HN.out
            refine ⟨n + 1, t, by omega, by omega, rfl, by go_num, kr, ?_⟩
            rw [HTS.out, HC.out, hb]; rfl
          case measure => omega
      · obtain rfl : n = xs.length := by omega
        obtain rfl : gk = 0 := by omega
        clear hn
        go_wp2_with fail
        go_ret
        have h := HC.out
        rw [List.take_length] at h
        rw [h]
        exact ⟨rfl, kr⟩
end Go.Proofs.Ytmegcmjklealbaa
