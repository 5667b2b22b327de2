/-
  The document's record: Volume, Check.
-/
import Derived.Test.YtdhhddifmkijhaaGreatIdxRa
import Derived.Test.YtdhhddifmkijhaaGreatIdxE
namespace Go.Proofs.YtdhhddifmkijhaaGreat
open Go.RowKit

theorem addDisk_len (l : List Int) (d : Int) : (addDisk l d).length = if d ∈ l then l.length else l.length + 1 := by
  unfold addDisk
  split <;> simp
theorem disksFrom (l : List (Int × Int)) : ∀ a : List Int, a.Nodup → ((l.foldl (fun a p => addDisk a p.1) a).length = a.length + l.length ↔ (a ++ l.map (·.1)).Nodup) ∧ (l.foldl (fun a p => addDisk a p.1) a).length ≤ a.length + l.length := by
  induction l with
  | nil => intro a ha; simp [ha]
  | cons p r ih =>
    intro a ha
    simp only [List.foldl_cons, List.map_cons, List.length_cons]
    by_cases h : p.1 ∈ a
    · have e : addDisk a p.1 = a := by unfold addDisk; rw [if_pos h]
      rw [e]
      have := (ih a ha).2
      refine ⟨⟨fun h2 => by omega, fun h2 => ?_⟩, by omega⟩
      exact absurd rfl ((List.nodup_append.1 h2).2.2 p.1 h p.1 (List.mem_cons_self ..))
    · have e : addDisk a p.1 = a ++ [p.1] := by unfold addDisk; rw [if_neg h]
      have hn : (a ++ [p.1]).Nodup := List.nodup_append.2 ⟨ha, by simp, fun x hx y hy e => by simp only [List.mem_singleton] at hy; subst hy; exact h (e ▸ hx)⟩
      rw [e]
      have := ih (a ++ [p.1]) hn
      rw [List.length_append, List.length_singleton, List.append_assoc] at this
      refine ⟨?_, by have := this.2; omega⟩
      rw [← show a ++ ([p.1] ++ r.map (·.1)) = a ++ p.1 :: r.map (·.1) from rfl, ← this.1]
      omega
theorem disks_nodup {l : List (Int × Int)} {n : Nat} (h : l.length = n) : (disksTo l).length = n ↔ (l.map (·.1)).Nodup := by
  have := (disksFrom l [] List.nodup_nil).1
  simp only [List.length_nil, Nat.zero_add, List.nil_append, h] at this
  exact this
theorem nodup_fst {l : List (Int × Int)} : (l.map (·.1)).Nodup ↔ ∀ i (hi : i < l.length) j (hj : j < i), l[j].1 ≠ l[i].1 := by
  rw [List.Nodup, List.pairwise_map, List.pairwise_iff_getElem]
  constructor
  · intro h i hi j hj; exact h j i (by omega) hi hj
  · intro h i j hi hj hij; exact h j hj i hij
set_option maxHeartbeats 4000000 in
set_option maxRecDepth 20000 in
theorem rvolume (v : VolD) (lv : Value) (B : Nat) (w : World) (hl : LocsAt B w lv v.locs) : Calls Tryz.prog 55 #[.agg (VolVA v lv)] w fun e w' => e = .returned (.bool (volOk v)) ∧ Kp [] w w' := by
  obtain ⟨la, lc, rfl⟩ := slice_ex hl
  obtain ⟨R, hR⟩ : ∃ R, R = volOk v := ⟨_, rfl⟩
  rw [← hR]
  obtain ⟨x0, x1, x2, ls⟩ := v
  simp only at hl
  simp only [VolVA]
  obtain ⟨w0, hw0⟩ : ∃ w0, w0 = w.alloc (.cells #[.int .i64 x0, .int .i64 x1, .int .i64 x2, .slice la ls.length lc] 36) := ⟨_, rfl⟩
  have k0 : Kp [] w w0 := hw0 ▸ (Kp.refl _ _).alloc _
  have b0 : w0.heap[w.heap.size]? = some (.cells #[.int .i64 x0, .int .i64 x1, .int .i64 x2, .slice la ls.length lc] 36 (0, 0)) := by rw [hw0]; exact block_new _ _
  obtain ⟨f0, f1, f2, f3⟩ := read4 b0
  have c0 := Kp.cellAt (X := []) f0 (by simp)
  have c1 := Kp.cellAt (X := []) f1 (by simp)
  have c2 := Kp.cellAt (X := []) f2 (by simp)
  have c3 := Kp.cellAt (X := []) f3 (by simp)
  have hl0 := hl.keep0 k0
  have hK := Kp.refl [] w0
  have HR := Lib.hid hR
  have Hw0 := Lib.hid hw0
  clear hR hw0 b0 f0 f1 f2 f3
  have n0 := rnum x0
  have n1 := rnum x1
  cases hb0 : inB x0 1099511627776 with
  | false =>
    rw [hb0] at n0
    have hr : R = false := by rw [HR.out]; unfold volOk; simp [hb0]
    have HZ := Lib.hid hr
    clear hr
    go_enter Tryz.func55, Tryz.ntmps55
    go_wp2_with fail
    rw [← Hw0.out]
    refine (n0 _).mono ?_
    rintro e wz ⟨rfl, hwz⟩
    rw [hwz]
    clear hwz wz n0 n1
    go_wp2_with fail
    go_ret
    exact ⟨by rw [HZ.out]; rfl, k0⟩
  | true =>
    rw [hb0] at n0
    cases hb1 : inB x1 1099511627776 with
    | false =>
      rw [hb1] at n1
      have hr : R = false := by rw [HR.out]; unfold volOk; simp [hb1]
      have HZ := Lib.hid hr
      clear hr
      go_enter Tryz.func55, Tryz.ntmps55
      go_wp2_with fail
      rw [← Hw0.out]
      refine (n0 _).mono ?_
      rintro e wz ⟨rfl, hwz⟩
      rw [hwz]
      clear hwz wz
      go_wp2_with fail
      refine (n1 _).mono ?_
      rintro e wz ⟨rfl, hwz⟩
      rw [hwz]
      clear hwz wz n0 n1
      go_wp2_with fail
      go_ret
      exact ⟨by rw [HZ.out]; rfl, k0⟩
    | true =>
      rw [hb1] at n1
      by_cases hrest : 0 ≤ x2 ∧ x2 ≤ 384 ∧ ls.length = 9
      · obtain ⟨hx0, hx1, hl9⟩ := hrest
        have hb2 : inB x2 384 = true := by unfold inB; rw [decide_eq_true hx0, decide_eq_true hx1]; rfl
        have HL9 := Lib.hid hl9
        have hlb : ((ls.length : Int) != 9) = false := by simp; omega
        have HB0 := Lib.hid hb0
        have HB1 := Lib.hid hb1
        have HB2 := Lib.hid hb2
        clear hl9 hb0 hb1 hb2
        go_enter Tryz.func55, Tryz.ntmps55
        go_wp2_with fail
        rw [← Hw0.out]
        refine (n0 _).mono ?_
        rintro e wz ⟨rfl, hwz⟩
        rw [hwz]
        clear hwz wz
        go_wp2_with fail
        refine (n1 _).mono ?_
        rintro e wz ⟨rfl, hwz⟩
        rw [hwz]
        clear hwz wz n0 n1
        go_wp2_with fail
        go_loopg [3] 9 (fun g i wr => ∃ n : Nat, n + g = 9 ∧ i = .int .i64 n ∧ Kp [] w0 wr ∧ (∀ j (hj : j < ls.length), j < n → locOk ls[j] = true) ∧ ∀ i (hi : i < ls.length), i < n → ∀ j (hj : j < i), ls[j].1 ≠ ls[i].1)
        case atStart => exact ⟨0, by omega, rfl, hK, fun j _ h => absurd h (Nat.not_lt_zero _), fun j _ h => absurd h (Nat.not_lt_zero _)⟩
        case round =>
          clear hK
          obtain ⟨n, hn, rfl, hK, hok, hno⟩ := hrel
          have HN := Lib.hid hn
          have HOK := Lib.hid hok
          have HNO := Lib.hid hno
          clear hok hno
          by_cases hlt : n < 9
          · obtain ⟨g', rfl⟩ : ∃ g', gk = g' + 1 := ⟨gk - 1, by omega⟩
            clear hn
            have hltI : (n : Int) < 9 := by omega
            have hlts : n < ls.length := by have := HL9.out; omega
            have hltL : (n : Int) < (ls.length : Int) := by omega
            obtain ⟨g, o, c, hv', e1, e1'⟩ := loc_at hl0 n hlts
            simp only [Value.slice.injEq] at hv'
            obtain ⟨rfl, -, rfl⟩ := hv'
            have d1 := Kp.cellAt (X := []) e1 (by simp)
            have d1' := Kp.cellAt (X := []) e1' (by simp)
            obtain ⟨⟨d, s⟩, hp⟩ : ∃ p, p = ls[n] := ⟨_, rfl⟩
            rw [← hp] at d1 d1'
            simp only at d1 d1'
            have his := fun W => ris d s W
            have HP := Lib.hid hp
            clear e1 e1' hp
            cases hlo : locOk (d, s) with
            | false =>
              rw [hlo] at his
              have hr : R = false := by
                rw [HR.out]
                unfold volOk
                have : ls.all locOk = false := by
                  rw [Bool.eq_false_iff]
                  intro h
                  rw [List.all_eq_true] at h
                  have := h _ (List.getElem_mem hlts)
                  rw [← HP.out, hlo] at this
                  cases this
                simp only
                rw [this]
                rfl
              have HZ := Lib.hid hr
              clear hr
              go_wp2_with fail
              refine (his _).mono ?_
              rintro e w3 ⟨rfl, k3⟩
              have hk := (k0.trans hK).trans k3
              clear his
              go_wp2_with fail
              go_ret
              exact ⟨by rw [HZ.out]; rfl, hk⟩
            | true =>
              rw [hlo] at his
              have HLO := Lib.hid hlo
              clear hlo
              go_wp2_with fail
              refine (his _).mono ?_
              rintro e w3 ⟨rfl, k3⟩
              have hK3 := hK.trans k3
              obtain ⟨w4, hw4⟩ : ∃ w4, w4 = w3 := ⟨_, rfl⟩
              have hKi := Kp.refl [] w3
              clear his hK k3 hw4 w4
              go_wp2_with fail
              go_loopg [4] n (fun g i wr => ∃ m : Nat, m + g = n ∧ i = .int .i64 m ∧ Kp [] w0 wr ∧ ∀ j (hj : j < ls.length), j < m → ls[j].1 ≠ d)
              case atStart => exact ⟨0, by omega, rfl, hK3, fun j _ h => absurd h (Nat.not_lt_zero _)⟩
              case round =>
                clear hK3 hKi
                obtain ⟨m, hm, rfl, hK, hne⟩ := hrel
                have HM := Lib.hid hm
                have HNE := Lib.hid hne
                clear hne
                by_cases hmx : m < n
                · obtain ⟨g2, rfl⟩ : ∃ g2, gk = g2 + 1 := ⟨gk - 1, by omega⟩
                  clear hm
                  have hmI : (m : Int) < (n : Int) := by omega
                  have hml : m < ls.length := by omega
                  have hmL : (m : Int) < (ls.length : Int) := by omega
                  obtain ⟨g3, o3, c3', hv', e2, -⟩ := loc_at hl0 m hml
                  simp only [Value.slice.injEq, Option.some.injEq, Addr.mk.injEq] at hv'
                  obtain ⟨⟨rfl, rfl, -⟩, -, -⟩ := hv'
                  have d2 := Kp.cellAt (X := []) e2 (by simp)
                  obtain ⟨q, hq⟩ : ∃ q, q = ls[m].1 := ⟨_, rfl⟩
                  rw [← hq] at d2
                  have HQ := Lib.hid hq
                  clear e2 hq
                  by_cases hqd : q = d
                  · have hb : (q == d) = true := by simp [hqd]
                    have hr : R = false := by
                      rw [HR.out]
                      unfold volOk
                      have : decide ((disksTo ls).length = 9) = false := decide_eq_false (fun h => by
                        have h2 := nodup_fst.1 ((disks_nodup HL9.out).1 h) n hlts m hmx
                        rw [← HQ.out, ← HP.out] at h2
                        exact h2 hqd)
                      simp only
                      rw [this, Bool.and_false, Bool.and_false]
                    have HZ := Lib.hid hr
                    clear hr hqd
                    go_wp2_with fail
                    refine wpB_begin 999 (Kp [] w0) (by kernel_rfl) (by exact hK.drew) (fun hHeld => ?_)
                    refine wpB_take 0 _ ?_ rfl (by kernel_rfl) (fun _ _ _ h => h) rfl hHeld ?_ ?_
                    rotate_left
                    · (intro W hW; go_simp; try with_reducible rfl)
                    try simp only [Act.put, List.setIfInBounds_toArray, List.set_cons_zero, List.set_cons_succ]
                    refine wpB_take 1 _ ?_ rfl (by kernel_rfl) (fun _ _ _ h => h) rfl hHeld ?_ ?_
                    rotate_left
                    · (intro W hW; go_simp; try with_reducible rfl)
                    try simp only [Act.put, List.setIfInBounds_toArray, List.set_cons_zero, List.set_cons_succ]
                    refine wpB_take 2 _ ?_ rfl (by kernel_rfl) (fun _ _ _ h => h) rfl hHeld ?_ ?_
                    rotate_left
                    · (intro W hW; go_simp; try with_reducible rfl)
                    try simp only [Act.put, List.setIfInBounds_toArray, List.set_cons_zero, List.set_cons_succ]
                    refine wpB_take 3 _ ?_ rfl (by kernel_rfl) (fun _ _ _ h => h) rfl hHeld ?_ ?_
                    rotate_left
                    · (intro W hW; go_simp; try with_reducible rfl)
                    try simp only [Act.put, List.setIfInBounds_toArray, List.set_cons_zero, List.set_cons_succ]
                    refine wpB_take 4 _ ?_ rfl (by kernel_rfl) (fun _ _ _ h => h) rfl hHeld ?_ ?_
                    rotate_left
                    · (intro W hW; go_simp; try with_reducible rfl)
                    try simp only [Act.put, List.setIfInBounds_toArray, List.set_cons_zero, List.set_cons_succ]
                    refine wpB_take 5 _ ?_ rfl (by kernel_rfl) (fun _ _ _ h => h) rfl hHeld ?_ ?_
                    rotate_left
                    · (intro W hW; go_simp; try with_reducible rfl)
                    try simp only [Act.put, List.setIfInBounds_toArray, List.set_cons_zero, List.set_cons_succ]
                    refine wpB_take 6 _ ?_ rfl (by kernel_rfl) (fun _ _ _ h => h) rfl hHeld ?_ ?_
                    rotate_left
                    · (intro W hW; go_simp; try with_reducible rfl)
                    try simp only [Act.put, List.setIfInBounds_toArray, List.set_cons_zero, List.set_cons_succ]
                    refine wpB_take 7 _ ?_ rfl (by kernel_rfl) (fun _ _ _ h => h) rfl hHeld ?_ ?_
                    rotate_left
                    · (intro W hW; go_simp; try with_reducible rfl)
                    try simp only [Act.put, List.setIfInBounds_toArray, List.set_cons_zero, List.set_cons_succ]
                    refine wpB_take 8 _ ?_ rfl (by kernel_rfl) (fun _ _ _ h => h) rfl hHeld ?_ ?_
                    rotate_left
                    · (intro W hW; go_simp; try with_reducible rfl)
                    try simp only [Act.put, List.setIfInBounds_toArray, List.set_cons_zero, List.set_cons_succ]
                    refine wpB_take 9 _ ?_ rfl (by kernel_rfl) (fun _ _ _ h => h) rfl hHeld ?_ ?_
                    rotate_left
                    · (intro W hW; go_simp; try with_reducible rfl)
                    try simp only [Act.put, List.setIfInBounds_toArray, List.set_cons_zero, List.set_cons_succ]
                    refine wpB_take 10 _ ?_ rfl (by kernel_rfl) (fun _ _ _ h => h) rfl hHeld ?_ ?_
                    rotate_left
                    · (intro W hW; go_simp; try with_reducible rfl)
                    try simp only [Act.put, List.setIfInBounds_toArray, List.set_cons_zero, List.set_cons_succ]
                    refine wpB_take 11 _ ?_ rfl (by kernel_rfl) (fun _ _ _ h => h) rfl hHeld ?_ ?_
                    rotate_left
                    · (intro W hW; go_simp; try with_reducible rfl)
                    try simp only [Act.put, List.setIfInBounds_toArray, List.set_cons_zero, List.set_cons_succ]
                    refine wpB_take 12 _ ?_ rfl (by kernel_rfl) (fun _ _ _ h => h) rfl hHeld ?_ ?_
                    rotate_left
                    · (intro W hW; go_simp; try with_reducible rfl)
                    try simp only [Act.put, List.setIfInBounds_toArray, List.set_cons_zero, List.set_cons_succ]
                    refine wpB_done (by kernel_rfl) ?_ _
                    have hk := k0.trans hHeld
                    clear hHeld
                    go_wp2_with fail
                    go_ret
                    exact ⟨by rw [HZ.out]; rfl, hk⟩
                  · have hb := int_ne hqd
                    have hne2 : ∀ j (hj : j < ls.length), j < m + 1 → ls[j].1 ≠ d := fun j hj hjm => by
                      by_cases e : j = m
                      · subst e; rw [← HQ.out]; exact hqd
                      · exact HNE.out j hj (by omega)
                    have HN2 := Lib.hid hne2
                    clear hne2 hqd
                    go_wp2_with fail
                    refine wpB_begin 999 (Kp [] w0) (by kernel_rfl) (by exact hK.drew) (fun hHeld => ?_)
                    refine wpB_take 0 _ ?_ rfl (by kernel_rfl) (fun _ _ _ h => h) rfl hHeld ?_ ?_
                    rotate_left
                    · (intro W hW; go_simp; try with_reducible rfl)
                    try simp only [Act.put, List.setIfInBounds_toArray, List.set_cons_zero, List.set_cons_succ]
                    refine wpB_take 1 _ ?_ rfl (by kernel_rfl) (fun _ _ _ h => h) rfl hHeld ?_ ?_
                    rotate_left
                    · (intro W hW; go_simp; try with_reducible rfl)
                    try simp only [Act.put, List.setIfInBounds_toArray, List.set_cons_zero, List.set_cons_succ]
                    refine wpB_take 2 _ ?_ rfl (by kernel_rfl) (fun _ _ _ h => h) rfl hHeld ?_ ?_
                    rotate_left
                    · (intro W hW; go_simp; try with_reducible rfl)
                    try simp only [Act.put, List.setIfInBounds_toArray, List.set_cons_zero, List.set_cons_succ]
                    refine wpB_take 3 _ ?_ rfl (by kernel_rfl) (fun _ _ _ h => h) rfl hHeld ?_ ?_
                    rotate_left
                    · (intro W hW; go_simp; try with_reducible rfl)
                    try simp only [Act.put, List.setIfInBounds_toArray, List.set_cons_zero, List.set_cons_succ]
                    refine wpB_take 4 _ ?_ rfl (by kernel_rfl) (fun _ _ _ h => h) rfl hHeld ?_ ?_
                    rotate_left
                    · (intro W hW; go_simp; try with_reducible rfl)
                    try simp only [Act.put, List.setIfInBounds_toArray, List.set_cons_zero, List.set_cons_succ]
                    refine wpB_take 5 _ ?_ rfl (by kernel_rfl) (fun _ _ _ h => h) rfl hHeld ?_ ?_
                    rotate_left
                    · (intro W hW; go_simp; try with_reducible rfl)
                    try simp only [Act.put, List.setIfInBounds_toArray, List.set_cons_zero, List.set_cons_succ]
                    refine wpB_take 6 _ ?_ rfl (by kernel_rfl) (fun _ _ _ h => h) rfl hHeld ?_ ?_
                    rotate_left
                    · (intro W hW; go_simp; try with_reducible rfl)
                    try simp only [Act.put, List.setIfInBounds_toArray, List.set_cons_zero, List.set_cons_succ]
                    refine wpB_take 7 _ ?_ rfl (by kernel_rfl) (fun _ _ _ h => h) rfl hHeld ?_ ?_
                    rotate_left
                    · (intro W hW; go_simp; try with_reducible rfl)
                    try simp only [Act.put, List.setIfInBounds_toArray, List.set_cons_zero, List.set_cons_succ]
                    refine wpB_take 8 _ ?_ rfl (by kernel_rfl) (fun _ _ _ h => h) rfl hHeld ?_ ?_
                    rotate_left
                    · (intro W hW; go_simp; try with_reducible rfl)
                    try simp only [Act.put, List.setIfInBounds_toArray, List.set_cons_zero, List.set_cons_succ]
                    refine wpB_take 9 _ ?_ rfl (by kernel_rfl) (fun _ _ _ h => h) rfl hHeld ?_ ?_
                    rotate_left
                    · (intro W hW; go_simp; try with_reducible rfl)
                    try simp only [Act.put, List.setIfInBounds_toArray, List.set_cons_zero, List.set_cons_succ]
                    refine wpB_take 10 _ ?_ rfl (by kernel_rfl) (fun _ _ _ h => h) rfl hHeld ?_ ?_
                    rotate_left
                    · (intro W hW; go_simp; try with_reducible rfl)
                    try simp only [Act.put, List.setIfInBounds_toArray, List.set_cons_zero, List.set_cons_succ]
                    refine wpB_take 11 _ ?_ rfl (by kernel_rfl) (fun _ _ _ h => h) rfl hHeld ?_ ?_
                    rotate_left
                    · (intro W hW; go_simp; try with_reducible rfl)
                    try simp only [Act.put, List.setIfInBounds_toArray, List.set_cons_zero, List.set_cons_succ]
                    refine wpB_take 12 _ ?_ rfl (by kernel_rfl) (fun _ _ _ h => h) rfl hHeld ?_ ?_
                    rotate_left
                    · (intro W hW; go_simp; try with_reducible rfl)
                    try simp only [Act.put, List.setIfInBounds_toArray, List.set_cons_zero, List.set_cons_succ]
                    refine wpB_done (by kernel_rfl) ?_ _
                    go_wp2_with fail
                    go_roundg g2
                    case rel => exact ⟨m + 1, st_next HM.out, by go_num, hHeld, HN2.out⟩
                    case measure => omega
                · obtain rfl : m = n := by omega
                  obtain rfl : gk = 0 := by omega
                  have hok2 : ∀ j (hj : j < ls.length), j < m + 1 → locOk ls[j] = true := fun j hj hjm => by
                    by_cases e : j = m
                    · subst e; rw [← HP.out]; exact HLO.out
                    · exact HOK.out j hj (by omega)
                  have hno2 : ∀ i (hi : i < ls.length), i < m + 1 → ∀ j (hj : j < i), ls[j].1 ≠ ls[i].1 := fun i hi him j hj => by
                    by_cases e : i = m
                    · subst e; rw [← HP.out]; exact HNE.out j (by omega) hj
                    · exact HNO.out i hi (by omega) j hj
                  have HOK2 := Lib.hid hok2
                  have HNO2 := Lib.hid hno2
                  clear hm hok2 hno2
                  go_wp2_with fail
                  go_roundg g'
                  case rel => exact ⟨m + 1, st_next HN.out, by go_num, hK, HOK2.out, HNO2.out⟩
                  case measure => omega
          · obtain rfl : n = 9 := by omega
            obtain rfl : gk = 0 := by omega
            have hr : R = true := by
              rw [HR.out]
              unfold volOk
              have h9 := HL9.out
              have a1 : ls.all locOk = true := by
                rw [List.all_eq_true]
                intro p hp
                obtain ⟨j, hj, he⟩ := List.getElem_of_mem hp
                rw [← he]
                exact HOK.out j hj (by omega)
              have a2 : (disksTo ls).length = 9 := (disks_nodup h9).2 (nodup_fst.2 fun i hi j hj => HNO.out i hi (by omega) j hj)
              simp only
              rw [a1, HB0.out, HB1.out, HB2.out, decide_eq_true h9, decide_eq_true a2]
              rfl
            have HZ := Lib.hid hr
            have hk := k0.trans hK
            clear hr hn
            go_wp2_with fail
            go_ret
            exact ⟨by rw [HZ.out]; rfl, hk⟩
      · have hr : R = false := by
          rw [HR.out]
          unfold volOk
          simp only
          by_cases h1 : inB x2 384 = true
          · have h2 : decide (ls.length = 9) = false := decide_eq_false (fun h => hrest ⟨(inB_true h1).1, (inB_true h1).2, h⟩)
            rw [h2]; simp
          · rw [Bool.eq_false_iff.2 h1]; simp
        have HZ := Lib.hid hr
        clear hr
        by_cases hx0 : x2 < 0
        · skip
          clear hrest
          go_enter Tryz.func55, Tryz.ntmps55
          go_wp2_with fail
          rw [← Hw0.out]
          refine (n0 _).mono ?_
          rintro e wz ⟨rfl, hwz⟩
          rw [hwz]
          clear hwz wz
          go_wp2_with fail
          refine (n1 _).mono ?_
          rintro e wz ⟨rfl, hwz⟩
          rw [hwz]
          clear hwz wz n0 n1
          go_wp2_with fail
          go_ret
          exact ⟨by rw [HZ.out]; rfl, k0⟩
        by_cases hx1 : 384 < x2
        · skip
          clear hrest
          go_enter Tryz.func55, Tryz.ntmps55
          go_wp2_with fail
          rw [← Hw0.out]
          refine (n0 _).mono ?_
          rintro e wz ⟨rfl, hwz⟩
          rw [hwz]
          clear hwz wz
          go_wp2_with fail
          refine (n1 _).mono ?_
          rintro e wz ⟨rfl, hwz⟩
          rw [hwz]
          clear hwz wz n0 n1
          go_wp2_with fail
          go_ret
          exact ⟨by rw [HZ.out]; rfl, k0⟩
        have hlb : ((ls.length : Int) != 9) = true := by simp; omega
        clear hrest
        go_enter Tryz.func55, Tryz.ntmps55
        go_wp2_with fail
        rw [← Hw0.out]
        refine (n0 _).mono ?_
        rintro e wz ⟨rfl, hwz⟩
        rw [hwz]
        clear hwz wz
        go_wp2_with fail
        refine (n1 _).mono ?_
        rintro e wz ⟨rfl, hwz⟩
        rw [hwz]
        clear hwz wz n0 n1
        go_wp2_with fail
        go_ret
        exact ⟨by rw [HZ.out]; rfl, k0⟩
set_option maxHeartbeats 4000000 in
set_option maxRecDepth 20000 in
theorem rchk_no (x0 x1 x2 x3 x4 x7 x8 x9 xc xd : Int) (lx : List (Int × Int)) (x6 xa xb : ByteArray) (la : Option Addr) (lc B : Nat) (w : World) (hl : LocsAt B w (.slice la lx.length lc) lx) (hz : lx.length ≤ 1000) (h6 : x6.size < 16384) (hxb : xb.size < 16384) (hs : (inB x0 63 && inB x1 3) = false) :
    Calls Tryz.prog 25 #[.agg #[.int .i64 x0, .int .i64 x1, .int .i64 x2, .int .i64 x3, .int .i64 x4, .slice la lx.length lc, .string x6, .int .i64 x7, .int .i64 x8, .int .i64 x9, .string xa, .string xb, .int .i64 xc, .int .i64 xd]] w fun e w' => e = .returned (.int .i64 (recCheck ⟨x0, x1, ⟨x2, x3, x4, lx⟩, ⟨x6, x7, x8, x9, xa⟩, xb, xc, xd⟩)) ∧ Kp [] w w' := by
  obtain ⟨R, hR⟩ : ∃ R, R = recCheck ⟨x0, x1, ⟨x2, x3, x4, lx⟩, ⟨x6, x7, x8, x9, xa⟩, xb, xc, xd⟩ := ⟨_, rfl⟩
  rw [← hR]
  have HR := Lib.hid hR
  clear hR
  obtain ⟨w1, hw1⟩ : ∃ w1, w1 = w.alloc (.cells #[.int .i64 x0, .int .i64 x1, .int .i64 x2, .int .i64 x3, .int .i64 x4, .slice la lx.length lc, .string x6, .int .i64 x7, .int .i64 x8, .int .i64 x9, .string xa, .string xb, .int .i64 xc, .int .i64 xd] 40) := ⟨_, rfl⟩
  have k1 : Kp [] w w1 := hw1 ▸ (Kp.refl _ _).alloc _
  have b1 : w1.heap[w.heap.size]? = some (.cells #[.int .i64 x0, .int .i64 x1, .int .i64 x2, .int .i64 x3, .int .i64 x4, .slice la lx.length lc, .string x6, .int .i64 x7, .int .i64 x8, .int .i64 x9, .string xa, .string xb, .int .i64 xc, .int .i64 xd] 40 (0, 0)) := by rw [hw1]; exact block_new _ _
  obtain ⟨c0, c1, c2, c3, c4, c5, c6, c7, c8, c9, c10, c11, c12, c13⟩ := cells14 b1
  have hl1 : LocsAt B w1 (.slice la lx.length lc) lx := hl.keep0 k1
  have hK := Kp.refl [] w1
  have Hw1 := Lib.hid hw1
  clear hw1 b1
  have hr : R = 1 := by rw [HR.out]; unfold recCheck; rw [hs]; rfl
  have HZ := Lib.hid hr
  clear hr
  by_cases h : x0 < 0
  · clear hs
    go_enter Tryz.func25, Tryz.ntmps25
    go_wp2_with fail
    rw [← Hw1.out]
    go_ret
    exact ⟨by rw [HZ.out]; rfl, k1⟩
  replace h : ¬ (x0 < 0) := h
  have hh0 := h
  clear h
  by_cases h : 63 < x0
  · clear hs
    go_enter Tryz.func25, Tryz.ntmps25
    go_wp2_with fail
    rw [← Hw1.out]
    go_ret
    exact ⟨by rw [HZ.out]; rfl, k1⟩
  replace h : ¬ (63 < x0) := h
  have hh1 := h
  clear h
  by_cases h : x1 < 0
  · clear hs
    go_enter Tryz.func25, Tryz.ntmps25
    go_wp2_with fail
    rw [← Hw1.out]
    go_ret
    exact ⟨by rw [HZ.out]; rfl, k1⟩
  replace h : ¬ (x1 < 0) := h
  have hh2 := h
  clear h
  by_cases h : 3 < x1
  · clear hs
    go_enter Tryz.func25, Tryz.ntmps25
    go_wp2_with fail
    rw [← Hw1.out]
    go_ret
    exact ⟨by rw [HZ.out]; rfl, k1⟩
  replace h : ¬ (3 < x1) := h
  have hh3 := h
  clear h
  exfalso
  unfold inB at hs
  rw [decide_eq_true (show 0 ≤ x0 by omega), decide_eq_true (show x0 ≤ 63 by omega), decide_eq_true (show 0 ≤ x1 by omega), decide_eq_true (show x1 ≤ 3 by omega)] at hs
  cases hs
set_option maxHeartbeats 4000000 in
set_option maxRecDepth 20000 in
theorem rchk2 (x0 x2 x3 x4 x7 x8 x9 xc xd : Int) (lx : List (Int × Int)) (x6 xa xb : ByteArray) (la : Option Addr) (lc B : Nat) (w : World) (hl : LocsAt B w (.slice la lx.length lc) lx) (hz : lx.length ≤ 1000) (h6 : x6.size < 16384) (hxb : xb.size < 16384) (hs : inB x0 63 = true) :
    Calls Tryz.prog 25 #[.agg #[.int .i64 x0, .int .i64 2, .int .i64 x2, .int .i64 x3, .int .i64 x4, .slice la lx.length lc, .string x6, .int .i64 x7, .int .i64 x8, .int .i64 x9, .string xa, .string xb, .int .i64 xc, .int .i64 xd]] w fun e w' => e = .returned (.int .i64 (recCheck ⟨x0, 2, ⟨x2, x3, x4, lx⟩, ⟨x6, x7, x8, x9, xa⟩, xb, xc, xd⟩)) ∧ Kp [] w w' := by
  obtain ⟨R, hR⟩ : ∃ R, R = recCheck ⟨x0, 2, ⟨x2, x3, x4, lx⟩, ⟨x6, x7, x8, x9, xa⟩, xb, xc, xd⟩ := ⟨_, rfl⟩
  rw [← hR]
  have HR := Lib.hid hR
  clear hR
  obtain ⟨w1, hw1⟩ : ∃ w1, w1 = w.alloc (.cells #[.int .i64 x0, .int .i64 2, .int .i64 x2, .int .i64 x3, .int .i64 x4, .slice la lx.length lc, .string x6, .int .i64 x7, .int .i64 x8, .int .i64 x9, .string xa, .string xb, .int .i64 xc, .int .i64 xd] 40) := ⟨_, rfl⟩
  have k1 : Kp [] w w1 := hw1 ▸ (Kp.refl _ _).alloc _
  have b1 : w1.heap[w.heap.size]? = some (.cells #[.int .i64 x0, .int .i64 2, .int .i64 x2, .int .i64 x3, .int .i64 x4, .slice la lx.length lc, .string x6, .int .i64 x7, .int .i64 x8, .int .i64 x9, .string xa, .string xb, .int .i64 xc, .int .i64 xd] 40 (0, 0)) := by rw [hw1]; exact block_new _ _
  obtain ⟨c0, c1, c2, c3, c4, c5, c6, c7, c8, c9, c10, c11, c12, c13⟩ := cells14 b1
  have hl1 : LocsAt B w1 (.slice la lx.length lc) lx := hl.keep0 k1
  have hK := Kp.refl [] w1
  have Hw1 := Lib.hid hw1
  clear hw1 b1
  unfold inB at hs
  simp only [Bool.and_eq_true, decide_eq_true_eq] at hs
  obtain ⟨s0, s1⟩ := hs
  have hs : inB x0 63 = true := by unfold inB; rw [decide_eq_true s0, decide_eq_true s1]; rfl
  have HSQ := Lib.hid hs
  clear hs
  have hk : inB 2 3 = true := by decide
  have HKD := Lib.hid hk
  clear hk
  have hv0 := rvolume ⟨x2, x3, x4, lx⟩ (.slice la lx.length lc) B w1 hl1
  simp only [VolVA] at hv0
  cases hv : volOk ⟨x2, x3, x4, lx⟩ with
  | false =>
    rw [hv] at hv0
    go_enter Tryz.func25, Tryz.ntmps25
    go_wp2_with fail
    rw [← Hw1.out]
    refine hv0.mono ?_
    rintro e w2 ⟨rfl, k2⟩
    clear hv0
    have hk2 := k1.trans k2
    have hr : R = 1 := by rw [HR.out]; simp [recCheck, entOk, fromOk, HSQ.out, HKD.out, hv]
    have HZ := Lib.hid hr
    clear hr
    go_wp2_with fail
    go_ret
    exact ⟨by rw [HZ.out]; rfl, hk2⟩
  | true =>
    rw [hv] at hv0
    have hbv := vol_len hv
    have HV := Lib.hid hv
    clear hv
    go_enter Tryz.func25, Tryz.ntmps25
    go_wp2_with fail
    rw [← Hw1.out]
    refine hv0.mono ?_
    rintro e w2 ⟨rfl, k2⟩
    clear hv0
    have hKc := hK.trans k2
    have hln : LocsAt B w1 (namedV 2 (.slice la lx.length lc)) (namedR ⟨x0, 2, ⟨x2, x3, x4, lx⟩, ⟨x6, x7, x8, x9, xa⟩, xb, xc, xd⟩).vol.locs := named_locs (c := ⟨x0, 2, ⟨x2, x3, x4, lx⟩, ⟨x6, x7, x8, x9, xa⟩, xb, xc, xd⟩) hl1
    have hlz : (namedR ⟨x0, 2, ⟨x2, x3, x4, lx⟩, ⟨x6, x7, x8, x9, xa⟩, xb, xc, xd⟩).vol.locs.length ≤ 100000 := by show lx.length ≤ 100000; omega
    have hon := fun W => ronly ⟨x0, 2, ⟨x2, x3, x4, lx⟩, ⟨x6, x7, x8, x9, xa⟩, xb, xc, xd⟩ la lx.length lc W
    have hsm := fun W (k : Kp [] w1 W) => rsame11 (namedR ⟨x0, 2, ⟨x2, x3, x4, lx⟩, ⟨x6, x7, x8, x9, xa⟩, xb, xc, xd⟩) ⟨x0, 2, ⟨x2, x3, x4, lx⟩, ⟨x6, x7, x8, x9, xa⟩, xb, xc, xd⟩ _ _ B W (hln.keep0 k) (hl1.keep0 k) hlz
    simp only [RecV] at hon hsm
    obtain ⟨D, hD⟩ : ∃ D, D = decide (namedR ⟨x0, 2, ⟨x2, x3, x4, lx⟩, ⟨x6, x7, x8, x9, xa⟩, xb, xc, xd⟩ = ⟨x0, 2, ⟨x2, x3, x4, lx⟩, ⟨x6, x7, x8, x9, xa⟩, xb, xc, xd⟩) := ⟨_, rfl⟩
    rw [← hD] at hsm
    have HD := Lib.hid hD
    clear hD hln hlz
    go_wp2_with fail
    refine wpB_begin 999 (Kp [] w1) (by kernel_rfl) (by exact hKc.drew) (fun hHeld => ?_)
    refine wpB_take 0 _ ?_ rfl (by kernel_rfl) (fun _ _ _ h => h) rfl hHeld ?_ ?_
    rotate_left
    · (intro W hW; go_simp; try with_reducible rfl)
    try simp only [Act.put, List.setIfInBounds_toArray, List.set_cons_zero, List.set_cons_succ]
    refine wpB_take 2 _ ?_ rfl (by kernel_rfl) (fun _ _ _ h => h) rfl hHeld ?_ ?_
    rotate_left
    · (intro W hW; go_simp; try with_reducible rfl)
    try simp only [Act.put, List.setIfInBounds_toArray, List.set_cons_zero, List.set_cons_succ]
    refine wpB_step 1 _ rfl (by kernel_rfl) rfl rfl (fun K hK_ => ?_)
    go_simp
    refine (hon _).mono ?_
    rintro e w5 ⟨rfl, k5⟩
    refine hK_.out _ _ (by exact hHeld.trans k5) (fun hHeld => ?_)
    clear hK_ K
    try simp only [Act.put, List.setIfInBounds_toArray, List.set_cons_zero, List.set_cons_succ]
    refine wpB_step 3 _ rfl (by kernel_rfl) rfl rfl (fun K hK_ => ?_)
    go_simp
    refine (hsm _ hHeld).mono ?_
    rintro e w6 ⟨rfl, k6⟩
    refine hK_.out _ _ (by exact hHeld.trans k6) (fun hHeld => ?_)
    clear hK_ K
    try simp only [Act.put, List.setIfInBounds_toArray, List.set_cons_zero, List.set_cons_succ]
    refine wpB_take 4 _ ?_ rfl (by kernel_rfl) (fun _ _ _ h => h) rfl hHeld ?_ ?_
    rotate_left
    · (intro W hW; go_simp; try with_reducible rfl)
    try simp only [Act.put, List.setIfInBounds_toArray, List.set_cons_zero, List.set_cons_succ]
    refine wpB_done (by kernel_rfl) ?_ _
    have hkz := k1.trans hHeld
    clear hHeld hon hsm
    cases D with
    | true =>
      have hr : R = 0 := by rw [HR.out]; simp [recCheck, entOk, fromOk, HSQ.out, HKD.out, HV.out, of_decide_eq_true HD.out.symm]
      have HZ := Lib.hid hr
      clear hr
      go_wp2_with fail
      go_ret
      exact ⟨by rw [HZ.out]; rfl, hkz⟩
    | false =>
      have hr : R = 1 := by rw [HR.out]; simp [recCheck, entOk, fromOk, HSQ.out, HKD.out, HV.out, of_decide_eq_false HD.out.symm]
      have HZ := Lib.hid hr
      clear hr
      go_wp2_with fail
      go_ret
      exact ⟨by rw [HZ.out]; rfl, hkz⟩
set_option maxHeartbeats 4000000 in
set_option maxRecDepth 20000 in
theorem rchk0 (x0 x2 x3 x4 x7 x8 x9 xc xd : Int) (lx : List (Int × Int)) (x6 xa xb : ByteArray) (la : Option Addr) (lc B : Nat) (w : World) (hl : LocsAt B w (.slice la lx.length lc) lx) (hz : lx.length ≤ 1000) (h6 : x6.size < 16384) (hxb : xb.size < 16384) (hs : inB x0 63 = true) :
    Calls Tryz.prog 25 #[.agg #[.int .i64 x0, .int .i64 0, .int .i64 x2, .int .i64 x3, .int .i64 x4, .slice la lx.length lc, .string x6, .int .i64 x7, .int .i64 x8, .int .i64 x9, .string xa, .string xb, .int .i64 xc, .int .i64 xd]] w fun e w' => e = .returned (.int .i64 (recCheck ⟨x0, 0, ⟨x2, x3, x4, lx⟩, ⟨x6, x7, x8, x9, xa⟩, xb, xc, xd⟩)) ∧ Kp [] w w' := by
  obtain ⟨R, hR⟩ : ∃ R, R = recCheck ⟨x0, 0, ⟨x2, x3, x4, lx⟩, ⟨x6, x7, x8, x9, xa⟩, xb, xc, xd⟩ := ⟨_, rfl⟩
  rw [← hR]
  have HR := Lib.hid hR
  clear hR
  obtain ⟨w1, hw1⟩ : ∃ w1, w1 = w.alloc (.cells #[.int .i64 x0, .int .i64 0, .int .i64 x2, .int .i64 x3, .int .i64 x4, .slice la lx.length lc, .string x6, .int .i64 x7, .int .i64 x8, .int .i64 x9, .string xa, .string xb, .int .i64 xc, .int .i64 xd] 40) := ⟨_, rfl⟩
  have k1 : Kp [] w w1 := hw1 ▸ (Kp.refl _ _).alloc _
  have b1 : w1.heap[w.heap.size]? = some (.cells #[.int .i64 x0, .int .i64 0, .int .i64 x2, .int .i64 x3, .int .i64 x4, .slice la lx.length lc, .string x6, .int .i64 x7, .int .i64 x8, .int .i64 x9, .string xa, .string xb, .int .i64 xc, .int .i64 xd] 40 (0, 0)) := by rw [hw1]; exact block_new _ _
  obtain ⟨c0, c1, c2, c3, c4, c5, c6, c7, c8, c9, c10, c11, c12, c13⟩ := cells14 b1
  have hl1 : LocsAt B w1 (.slice la lx.length lc) lx := hl.keep0 k1
  have hK := Kp.refl [] w1
  have Hw1 := Lib.hid hw1
  clear hw1 b1
  unfold inB at hs
  simp only [Bool.and_eq_true, decide_eq_true_eq] at hs
  obtain ⟨s0, s1⟩ := hs
  have hs : inB x0 63 = true := by unfold inB; rw [decide_eq_true s0, decide_eq_true s1]; rfl
  have HSQ := Lib.hid hs
  clear hs
  have hk : inB 0 3 = true := by decide
  have HKD := Lib.hid hk
  clear hk
  have hv0 := rvolume ⟨x2, x3, x4, lx⟩ (.slice la lx.length lc) B w1 hl1
  simp only [VolVA] at hv0
  cases hv : volOk ⟨x2, x3, x4, lx⟩ with
  | false =>
    rw [hv] at hv0
    go_enter Tryz.func25, Tryz.ntmps25
    go_wp2_with fail
    rw [← Hw1.out]
    refine hv0.mono ?_
    rintro e w2 ⟨rfl, k2⟩
    clear hv0
    have hk2 := k1.trans k2
    have hr : R = 1 := by rw [HR.out]; simp [recCheck, entOk, fromOk, HSQ.out, HKD.out, hv]
    have HZ := Lib.hid hr
    clear hr
    go_wp2_with fail
    go_ret
    exact ⟨by rw [HZ.out]; rfl, hk2⟩
  | true =>
    rw [hv] at hv0
    have hbv := vol_len hv
    have HV := Lib.hid hv
    clear hv
    go_enter Tryz.func25, Tryz.ntmps25
    go_wp2_with fail
    rw [← Hw1.out]
    refine hv0.mono ?_
    rintro e w2 ⟨rfl, k2⟩
    clear hv0
    have hKc := hK.trans k2
    have hky := r8key x6 h6
    obtain ⟨Q, hQ⟩ : ∃ Q, Q = keyOk x6 := ⟨_, rfl⟩
    rw [← hQ] at hky
    have HKY := Lib.hid hQ.symm
    clear hQ
    go_wp2_with fail
    refine (hky _).mono ?_
    rintro e w3 ⟨rfl, k3⟩
    replace hKc := hKc.trans k3
    clear hky
    cases Q with
    | false =>
      have hk3 := k1.trans hKc
      have hr : R = 11 := by rw [HR.out]; simp [recCheck, entOk, fromOk, HSQ.out, HKD.out, HV.out, HKY.out]
      have HZ := Lib.hid hr
      clear hr
      go_wp2_with fail
      go_ret
      exact ⟨by rw [HZ.out]; rfl, hk3⟩
    | true =>
      by_cases j0 : x7 = x2
      · skip
        have b0 : (x7 != x2) = false := by simp [j0]
        by_cases j1 : 0 ≤ x8
        · skip
          by_cases j2 : 0 ≤ x9
          · skip
            by_cases j3 : x8 ≤ 384
            · skip
              by_cases j4 : x9 ≤ 384
              · skip
                have hwr := wrap_id (x8 + x9) (by omega) (by omega)
                by_cases j5 : x8 + x9 ≤ x4
                · skip
                  by_cases j6 : xa.size = 32
                  · skip
                    have b6 : ((xa.size : Int) != 32) = false := by simp; omega
                    have hen : entOk ⟨x0, 0, ⟨x2, x3, x4, lx⟩, ⟨x6, x7, x8, x9, xa⟩, xb, xc, xd⟩ = true := by
                      unfold entOk
                      have e1 : decide (x7 = x2) = true := decide_eq_true j0
                      have e2 : inB x8 x4 = true := by unfold inB; rw [decide_eq_true j1, decide_eq_true (show x8 ≤ x4 by omega)]; rfl
                      have e3 : inB x9 (x4 - x8) = true := by unfold inB; rw [decide_eq_true j2, decide_eq_true (show x9 ≤ x4 - x8 by omega)]; rfl
                      have e4 : decide (xa.size = 32) = true := decide_eq_true j6
                      simp only
                      rw [e1, e2, e3, e4]; rfl
                    have HEN := Lib.hid hen
                    clear hen j0 j6
                    have hln : LocsAt B w1 (namedV 0 (.slice la lx.length lc)) (namedR ⟨x0, 0, ⟨x2, x3, x4, lx⟩, ⟨x6, x7, x8, x9, xa⟩, xb, xc, xd⟩).vol.locs := named_locs (c := ⟨x0, 0, ⟨x2, x3, x4, lx⟩, ⟨x6, x7, x8, x9, xa⟩, xb, xc, xd⟩) hl1
                    have hlz : (namedR ⟨x0, 0, ⟨x2, x3, x4, lx⟩, ⟨x6, x7, x8, x9, xa⟩, xb, xc, xd⟩).vol.locs.length ≤ 100000 := by show lx.length ≤ 100000; omega
                    have hon := fun W => ronly ⟨x0, 0, ⟨x2, x3, x4, lx⟩, ⟨x6, x7, x8, x9, xa⟩, xb, xc, xd⟩ la lx.length lc W
                    have hsm := fun W (k : Kp [] w1 W) => rsame11 (namedR ⟨x0, 0, ⟨x2, x3, x4, lx⟩, ⟨x6, x7, x8, x9, xa⟩, xb, xc, xd⟩) ⟨x0, 0, ⟨x2, x3, x4, lx⟩, ⟨x6, x7, x8, x9, xa⟩, xb, xc, xd⟩ _ _ B W (hln.keep0 k) (hl1.keep0 k) hlz
                    simp only [RecV] at hon hsm
                    obtain ⟨D, hD⟩ : ∃ D, D = decide (namedR ⟨x0, 0, ⟨x2, x3, x4, lx⟩, ⟨x6, x7, x8, x9, xa⟩, xb, xc, xd⟩ = ⟨x0, 0, ⟨x2, x3, x4, lx⟩, ⟨x6, x7, x8, x9, xa⟩, xb, xc, xd⟩) := ⟨_, rfl⟩
                    rw [← hD] at hsm
                    have HD := Lib.hid hD
                    clear hD hln hlz
                    go_wp2_with fail
                    refine wpB_begin 999 (Kp [] w1) (by kernel_rfl) (by exact hKc.drew) (fun hHeld => ?_)
                    refine wpB_take 0 _ ?_ rfl (by kernel_rfl) (fun _ _ _ h => h) rfl hHeld ?_ ?_
                    rotate_left
                    · (intro W hW; go_simp; try with_reducible rfl)
                    try simp only [Act.put, List.setIfInBounds_toArray, List.set_cons_zero, List.set_cons_succ]
                    refine wpB_take 2 _ ?_ rfl (by kernel_rfl) (fun _ _ _ h => h) rfl hHeld ?_ ?_
                    rotate_left
                    · (intro W hW; go_simp; try with_reducible rfl)
                    try simp only [Act.put, List.setIfInBounds_toArray, List.set_cons_zero, List.set_cons_succ]
                    refine wpB_step 1 _ rfl (by kernel_rfl) rfl rfl (fun K hK_ => ?_)
                    go_simp
                    refine (hon _).mono ?_
                    rintro e w5 ⟨rfl, k5⟩
                    refine hK_.out _ _ (by exact hHeld.trans k5) (fun hHeld => ?_)
                    clear hK_ K
                    try simp only [Act.put, List.setIfInBounds_toArray, List.set_cons_zero, List.set_cons_succ]
                    refine wpB_step 3 _ rfl (by kernel_rfl) rfl rfl (fun K hK_ => ?_)
                    go_simp
                    refine (hsm _ hHeld).mono ?_
                    rintro e w6 ⟨rfl, k6⟩
                    refine hK_.out _ _ (by exact hHeld.trans k6) (fun hHeld => ?_)
                    clear hK_ K
                    try simp only [Act.put, List.setIfInBounds_toArray, List.set_cons_zero, List.set_cons_succ]
                    refine wpB_take 4 _ ?_ rfl (by kernel_rfl) (fun _ _ _ h => h) rfl hHeld ?_ ?_
                    rotate_left
                    · (intro W hW; go_simp; try with_reducible rfl)
                    try simp only [Act.put, List.setIfInBounds_toArray, List.set_cons_zero, List.set_cons_succ]
                    refine wpB_done (by kernel_rfl) ?_ _
                    have hkz := k1.trans hHeld
                    clear hHeld hon hsm
                    cases D with
                    | true =>
                      have hr : R = 0 := by rw [HR.out]; simp [recCheck, fromOk, HSQ.out, HKD.out, HV.out, HKY.out, HEN.out, of_decide_eq_true HD.out.symm]
                      have HZ := Lib.hid hr
                      clear hr
                      go_wp2_with fail
                      go_ret
                      exact ⟨by rw [HZ.out]; rfl, hkz⟩
                    | false =>
                      have hr : R = 1 := by rw [HR.out]; simp [recCheck, fromOk, HSQ.out, HKD.out, HV.out, HKY.out, HEN.out, of_decide_eq_false HD.out.symm]
                      have HZ := Lib.hid hr
                      clear hr
                      go_wp2_with fail
                      go_ret
                      exact ⟨by rw [HZ.out]; rfl, hkz⟩
                  · skip
                    have b6 : ((xa.size : Int) != 32) = true := by simp; omega
                    have hen : entOk ⟨x0, 0, ⟨x2, x3, x4, lx⟩, ⟨x6, x7, x8, x9, xa⟩, xb, xc, xd⟩ = false := by
                      unfold entOk
                      have e4 : decide (xa.size = 32) = false := decide_eq_false j6
                      simp only
                      rw [e4]; simp
                    have HEN := Lib.hid hen
                    clear hen j0 j6
                    have hk3 := k1.trans hKc
                    have hr : R = 1 := by rw [HR.out]; simp [recCheck, fromOk, HSQ.out, HKD.out, HV.out, HKY.out, HEN.out]
                    have HZ := Lib.hid hr
                    clear hr
                    go_wp2_with fail
                    go_ret
                    exact ⟨by rw [HZ.out]; rfl, hk3⟩
                · skip
                  have hen : entOk ⟨x0, 0, ⟨x2, x3, x4, lx⟩, ⟨x6, x7, x8, x9, xa⟩, xb, xc, xd⟩ = false := by
                    unfold entOk
                    have e3 : inB x9 (x4 - x8) = false := by unfold inB; rw [decide_eq_false (show ¬ x9 ≤ x4 - x8 by omega)]; simp
                    simp only
                    rw [e3]; simp
                  have HEN := Lib.hid hen
                  clear hen j0
                  have hk3 := k1.trans hKc
                  have hr : R = 1 := by rw [HR.out]; simp [recCheck, fromOk, HSQ.out, HKD.out, HV.out, HKY.out, HEN.out]
                  have HZ := Lib.hid hr
                  clear hr
                  go_wp2_with fail
                  go_ret
                  exact ⟨by rw [HZ.out]; rfl, hk3⟩
              · skip
                have hen : entOk ⟨x0, 0, ⟨x2, x3, x4, lx⟩, ⟨x6, x7, x8, x9, xa⟩, xb, xc, xd⟩ = false := by
                  unfold entOk
                  have e3 : inB x9 (x4 - x8) = false := by unfold inB; rw [decide_eq_false (show ¬ x9 ≤ x4 - x8 by omega)]; simp
                  simp only
                  rw [e3]; simp
                have HEN := Lib.hid hen
                clear hen j0
                have hk3 := k1.trans hKc
                have hr : R = 1 := by rw [HR.out]; simp [recCheck, fromOk, HSQ.out, HKD.out, HV.out, HKY.out, HEN.out]
                have HZ := Lib.hid hr
                clear hr
                go_wp2_with fail
                go_ret
                exact ⟨by rw [HZ.out]; rfl, hk3⟩
            · skip
              have hen : entOk ⟨x0, 0, ⟨x2, x3, x4, lx⟩, ⟨x6, x7, x8, x9, xa⟩, xb, xc, xd⟩ = false := by
                unfold entOk
                have e2 : inB x8 x4 = false := by unfold inB; rw [decide_eq_false (show ¬ x8 ≤ x4 by omega)]; simp
                simp only
                rw [e2]; simp
              have HEN := Lib.hid hen
              clear hen j0
              have hk3 := k1.trans hKc
              have hr : R = 1 := by rw [HR.out]; simp [recCheck, fromOk, HSQ.out, HKD.out, HV.out, HKY.out, HEN.out]
              have HZ := Lib.hid hr
              clear hr
              go_wp2_with fail
              go_ret
              exact ⟨by rw [HZ.out]; rfl, hk3⟩
          · skip
            have hen : entOk ⟨x0, 0, ⟨x2, x3, x4, lx⟩, ⟨x6, x7, x8, x9, xa⟩, xb, xc, xd⟩ = false := by
              unfold entOk
              have e3 : inB x9 (x4 - x8) = false := by unfold inB; rw [decide_eq_false j2]; rfl
              simp only
              rw [e3]; simp
            have HEN := Lib.hid hen
            clear hen j0
            have hk3 := k1.trans hKc
            have hr : R = 1 := by rw [HR.out]; simp [recCheck, fromOk, HSQ.out, HKD.out, HV.out, HKY.out, HEN.out]
            have HZ := Lib.hid hr
            clear hr
            go_wp2_with fail
            go_ret
            exact ⟨by rw [HZ.out]; rfl, hk3⟩
        · skip
          have hen : entOk ⟨x0, 0, ⟨x2, x3, x4, lx⟩, ⟨x6, x7, x8, x9, xa⟩, xb, xc, xd⟩ = false := by
            unfold entOk
            have e2 : inB x8 x4 = false := by unfold inB; rw [decide_eq_false j1]; rfl
            simp only
            rw [e2]; simp
          have HEN := Lib.hid hen
          clear hen j0
          have hk3 := k1.trans hKc
          have hr : R = 1 := by rw [HR.out]; simp [recCheck, fromOk, HSQ.out, HKD.out, HV.out, HKY.out, HEN.out]
          have HZ := Lib.hid hr
          clear hr
          go_wp2_with fail
          go_ret
          exact ⟨by rw [HZ.out]; rfl, hk3⟩
      · skip
        have b0 : (x7 != x2) = true := by simp [j0]
        have hen : entOk ⟨x0, 0, ⟨x2, x3, x4, lx⟩, ⟨x6, x7, x8, x9, xa⟩, xb, xc, xd⟩ = false := by
          unfold entOk
          have e1 : decide (x7 = x2) = false := decide_eq_false j0
          simp only
          rw [e1]; rfl
        have HEN := Lib.hid hen
        clear hen j0
        have hk3 := k1.trans hKc
        have hr : R = 1 := by rw [HR.out]; simp [recCheck, fromOk, HSQ.out, HKD.out, HV.out, HKY.out, HEN.out]
        have HZ := Lib.hid hr
        clear hr
        go_wp2_with fail
        go_ret
        exact ⟨by rw [HZ.out]; rfl, hk3⟩
set_option maxHeartbeats 4000000 in
set_option maxRecDepth 20000 in
theorem rchk3 (x0 x2 x3 x4 x7 x8 x9 xc xd : Int) (lx : List (Int × Int)) (x6 xa xb : ByteArray) (la : Option Addr) (lc B : Nat) (w : World) (hl : LocsAt B w (.slice la lx.length lc) lx) (hz : lx.length ≤ 1000) (h6 : x6.size < 16384) (hxb : xb.size < 16384) (hs : inB x0 63 = true) :
    Calls Tryz.prog 25 #[.agg #[.int .i64 x0, .int .i64 3, .int .i64 x2, .int .i64 x3, .int .i64 x4, .slice la lx.length lc, .string x6, .int .i64 x7, .int .i64 x8, .int .i64 x9, .string xa, .string xb, .int .i64 xc, .int .i64 xd]] w fun e w' => e = .returned (.int .i64 (recCheck ⟨x0, 3, ⟨x2, x3, x4, lx⟩, ⟨x6, x7, x8, x9, xa⟩, xb, xc, xd⟩)) ∧ Kp [] w w' := by
  obtain ⟨R, hR⟩ : ∃ R, R = recCheck ⟨x0, 3, ⟨x2, x3, x4, lx⟩, ⟨x6, x7, x8, x9, xa⟩, xb, xc, xd⟩ := ⟨_, rfl⟩
  rw [← hR]
  have HR := Lib.hid hR
  clear hR
  obtain ⟨w1, hw1⟩ : ∃ w1, w1 = w.alloc (.cells #[.int .i64 x0, .int .i64 3, .int .i64 x2, .int .i64 x3, .int .i64 x4, .slice la lx.length lc, .string x6, .int .i64 x7, .int .i64 x8, .int .i64 x9, .string xa, .string xb, .int .i64 xc, .int .i64 xd] 40) := ⟨_, rfl⟩
  have k1 : Kp [] w w1 := hw1 ▸ (Kp.refl _ _).alloc _
  have b1 : w1.heap[w.heap.size]? = some (.cells #[.int .i64 x0, .int .i64 3, .int .i64 x2, .int .i64 x3, .int .i64 x4, .slice la lx.length lc, .string x6, .int .i64 x7, .int .i64 x8, .int .i64 x9, .string xa, .string xb, .int .i64 xc, .int .i64 xd] 40 (0, 0)) := by rw [hw1]; exact block_new _ _
  obtain ⟨c0, c1, c2, c3, c4, c5, c6, c7, c8, c9, c10, c11, c12, c13⟩ := cells14 b1
  have hl1 : LocsAt B w1 (.slice la lx.length lc) lx := hl.keep0 k1
  have hK := Kp.refl [] w1
  have Hw1 := Lib.hid hw1
  clear hw1 b1
  unfold inB at hs
  simp only [Bool.and_eq_true, decide_eq_true_eq] at hs
  obtain ⟨s0, s1⟩ := hs
  have hs : inB x0 63 = true := by unfold inB; rw [decide_eq_true s0, decide_eq_true s1]; rfl
  have HSQ := Lib.hid hs
  clear hs
  have hk : inB 3 3 = true := by decide
  have HKD := Lib.hid hk
  clear hk
  have hv0 := rvolume ⟨x2, x3, x4, lx⟩ (.slice la lx.length lc) B w1 hl1
  simp only [VolVA] at hv0
  cases hv : volOk ⟨x2, x3, x4, lx⟩ with
  | false =>
    rw [hv] at hv0
    go_enter Tryz.func25, Tryz.ntmps25
    go_wp2_with fail
    rw [← Hw1.out]
    refine hv0.mono ?_
    rintro e w2 ⟨rfl, k2⟩
    clear hv0
    have hk2 := k1.trans k2
    have hr : R = 1 := by rw [HR.out]; simp [recCheck, entOk, fromOk, HSQ.out, HKD.out, hv]
    have HZ := Lib.hid hr
    clear hr
    go_wp2_with fail
    go_ret
    exact ⟨by rw [HZ.out]; rfl, hk2⟩
  | true =>
    rw [hv] at hv0
    have hbv := vol_len hv
    have HV := Lib.hid hv
    clear hv
    go_enter Tryz.func25, Tryz.ntmps25
    go_wp2_with fail
    rw [← Hw1.out]
    refine hv0.mono ?_
    rintro e w2 ⟨rfl, k2⟩
    clear hv0
    have hKc := hK.trans k2
    have m0 := rnum xc
    have m1 := rnum xd
    obtain ⟨Q0, hQ0⟩ : ∃ Q, Q = inB xc 1099511627776 := ⟨_, rfl⟩
    obtain ⟨Q1, hQ1⟩ : ∃ Q, Q = inB xd 1099511627776 := ⟨_, rfl⟩
    rw [← hQ0] at m0
    rw [← hQ1] at m1
    have HQ0 := Lib.hid hQ0.symm
    have HQ1 := Lib.hid hQ1.symm
    clear hQ0 hQ1
    go_wp2_with fail
    refine (m0 _).mono ?_
    rintro e wz ⟨rfl, hwz⟩
    rw [hwz]
    clear hwz wz m0
    have hk3 := k1.trans hKc
    cases Q0 with
    | false =>
      have hr : R = 1 := by rw [HR.out]; simp [recCheck, entOk, fromOk, HSQ.out, HKD.out, HV.out, HQ0.out]
      have HZ := Lib.hid hr
      clear hr
      go_wp2_with fail
      go_ret
      exact ⟨by rw [HZ.out]; rfl, hk3⟩
    | true =>
      go_wp2_with fail
      refine (m1 _).mono ?_
      rintro e wz ⟨rfl, hwz⟩
      rw [hwz]
      clear hwz wz m1
      cases Q1 with
      | false =>
        have hr : R = 1 := by rw [HR.out]; simp [recCheck, entOk, fromOk, HSQ.out, HKD.out, HV.out, HQ0.out, HQ1.out]
        have HZ := Lib.hid hr
        clear hr
        go_wp2_with fail
        go_ret
        exact ⟨by rw [HZ.out]; rfl, hk3⟩
      | true =>
        by_cases hcd : xc = xd
        · have hb : (xc == xd) = true := by simp [hcd]
          have HCD := Lib.hid hcd
          clear hcd
          have hr : R = 1 := by rw [HR.out]; simp [recCheck, entOk, fromOk, HSQ.out, HKD.out, HV.out, HQ0.out, HQ1.out, HCD.out]
          have HZ := Lib.hid hr
          clear hr
          go_wp2_with fail
          go_ret
          exact ⟨by rw [HZ.out]; rfl, hk3⟩
        · have hb := int_ne hcd
          have HCD := Lib.hid hcd
          clear hcd
          have hln : LocsAt B w1 (namedV 3 (.slice la lx.length lc)) (namedR ⟨x0, 3, ⟨x2, x3, x4, lx⟩, ⟨x6, x7, x8, x9, xa⟩, xb, xc, xd⟩).vol.locs := named_locs (c := ⟨x0, 3, ⟨x2, x3, x4, lx⟩, ⟨x6, x7, x8, x9, xa⟩, xb, xc, xd⟩) hl1
          have hlz : (namedR ⟨x0, 3, ⟨x2, x3, x4, lx⟩, ⟨x6, x7, x8, x9, xa⟩, xb, xc, xd⟩).vol.locs.length ≤ 100000 := by show lx.length ≤ 100000; omega
          have hon := fun W => ronly ⟨x0, 3, ⟨x2, x3, x4, lx⟩, ⟨x6, x7, x8, x9, xa⟩, xb, xc, xd⟩ la lx.length lc W
          have hsm := fun W (k : Kp [] w1 W) => rsame11 (namedR ⟨x0, 3, ⟨x2, x3, x4, lx⟩, ⟨x6, x7, x8, x9, xa⟩, xb, xc, xd⟩) ⟨x0, 3, ⟨x2, x3, x4, lx⟩, ⟨x6, x7, x8, x9, xa⟩, xb, xc, xd⟩ _ _ B W (hln.keep0 k) (hl1.keep0 k) hlz
          simp only [RecV] at hon hsm
          obtain ⟨D, hD⟩ : ∃ D, D = decide (namedR ⟨x0, 3, ⟨x2, x3, x4, lx⟩, ⟨x6, x7, x8, x9, xa⟩, xb, xc, xd⟩ = ⟨x0, 3, ⟨x2, x3, x4, lx⟩, ⟨x6, x7, x8, x9, xa⟩, xb, xc, xd⟩) := ⟨_, rfl⟩
          rw [← hD] at hsm
          have HD := Lib.hid hD
          clear hD hln hlz
          go_wp2_with fail
          refine wpB_begin 999 (Kp [] w1) (by kernel_rfl) (by exact hKc.drew) (fun hHeld => ?_)
          refine wpB_take 0 _ ?_ rfl (by kernel_rfl) (fun _ _ _ h => h) rfl hHeld ?_ ?_
          rotate_left
          · (intro W hW; go_simp; try with_reducible rfl)
          try simp only [Act.put, List.setIfInBounds_toArray, List.set_cons_zero, List.set_cons_succ]
          refine wpB_take 2 _ ?_ rfl (by kernel_rfl) (fun _ _ _ h => h) rfl hHeld ?_ ?_
          rotate_left
          · (intro W hW; go_simp; try with_reducible rfl)
          try simp only [Act.put, List.setIfInBounds_toArray, List.set_cons_zero, List.set_cons_succ]
          refine wpB_step 1 _ rfl (by kernel_rfl) rfl rfl (fun K hK_ => ?_)
          go_simp
          refine (hon _).mono ?_
          rintro e w5 ⟨rfl, k5⟩
          refine hK_.out _ _ (by exact hHeld.trans k5) (fun hHeld => ?_)
          clear hK_ K
          try simp only [Act.put, List.setIfInBounds_toArray, List.set_cons_zero, List.set_cons_succ]
          refine wpB_step 3 _ rfl (by kernel_rfl) rfl rfl (fun K hK_ => ?_)
          go_simp
          refine (hsm _ hHeld).mono ?_
          rintro e w6 ⟨rfl, k6⟩
          refine hK_.out _ _ (by exact hHeld.trans k6) (fun hHeld => ?_)
          clear hK_ K
          try simp only [Act.put, List.setIfInBounds_toArray, List.set_cons_zero, List.set_cons_succ]
          refine wpB_take 4 _ ?_ rfl (by kernel_rfl) (fun _ _ _ h => h) rfl hHeld ?_ ?_
          rotate_left
          · (intro W hW; go_simp; try with_reducible rfl)
          try simp only [Act.put, List.setIfInBounds_toArray, List.set_cons_zero, List.set_cons_succ]
          refine wpB_done (by kernel_rfl) ?_ _
          have hkz := k1.trans hHeld
          clear hHeld hon hsm
          cases D with
          | true =>
            have hr : R = 0 := by rw [HR.out]; simp [recCheck, entOk, fromOk, HSQ.out, HKD.out, HV.out, HQ0.out, HQ1.out, HCD.out, of_decide_eq_true HD.out.symm]
            have HZ := Lib.hid hr
            clear hr
            go_wp2_with fail
            go_ret
            exact ⟨by rw [HZ.out]; rfl, hkz⟩
          | false =>
            have hr : R = 1 := by rw [HR.out]; simp [recCheck, entOk, fromOk, HSQ.out, HKD.out, HV.out, HQ0.out, HQ1.out, HCD.out, of_decide_eq_false HD.out.symm]
            have HZ := Lib.hid hr
            clear hr
            go_wp2_with fail
            go_ret
            exact ⟨by rw [HZ.out]; rfl, hkz⟩
set_option maxHeartbeats 4000000 in
set_option maxRecDepth 20000 in
theorem rchk1 (x0 x2 x3 x4 x7 x8 x9 xc xd : Int) (lx : List (Int × Int)) (x6 xa xb : ByteArray) (la : Option Addr) (lc B : Nat) (w : World) (hl : LocsAt B w (.slice la lx.length lc) lx) (hz : lx.length ≤ 1000) (h6 : x6.size < 16384) (hxb : xb.size < 16384) (hs : inB x0 63 = true) :
    Calls Tryz.prog 25 #[.agg #[.int .i64 x0, .int .i64 1, .int .i64 x2, .int .i64 x3, .int .i64 x4, .slice la lx.length lc, .string x6, .int .i64 x7, .int .i64 x8, .int .i64 x9, .string xa, .string xb, .int .i64 xc, .int .i64 xd]] w fun e w' => e = .returned (.int .i64 (recCheck ⟨x0, 1, ⟨x2, x3, x4, lx⟩, ⟨x6, x7, x8, x9, xa⟩, xb, xc, xd⟩)) ∧ Kp [] w w' := by
  obtain ⟨R, hR⟩ : ∃ R, R = recCheck ⟨x0, 1, ⟨x2, x3, x4, lx⟩, ⟨x6, x7, x8, x9, xa⟩, xb, xc, xd⟩ := ⟨_, rfl⟩
  rw [← hR]
  have HR := Lib.hid hR
  clear hR
  obtain ⟨w1, hw1⟩ : ∃ w1, w1 = w.alloc (.cells #[.int .i64 x0, .int .i64 1, .int .i64 x2, .int .i64 x3, .int .i64 x4, .slice la lx.length lc, .string x6, .int .i64 x7, .int .i64 x8, .int .i64 x9, .string xa, .string xb, .int .i64 xc, .int .i64 xd] 40) := ⟨_, rfl⟩
  have k1 : Kp [] w w1 := hw1 ▸ (Kp.refl _ _).alloc _
  have b1 : w1.heap[w.heap.size]? = some (.cells #[.int .i64 x0, .int .i64 1, .int .i64 x2, .int .i64 x3, .int .i64 x4, .slice la lx.length lc, .string x6, .int .i64 x7, .int .i64 x8, .int .i64 x9, .string xa, .string xb, .int .i64 xc, .int .i64 xd] 40 (0, 0)) := by rw [hw1]; exact block_new _ _
  obtain ⟨c0, c1, c2, c3, c4, c5, c6, c7, c8, c9, c10, c11, c12, c13⟩ := cells14 b1
  have hl1 : LocsAt B w1 (.slice la lx.length lc) lx := hl.keep0 k1
  have hK := Kp.refl [] w1
  have Hw1 := Lib.hid hw1
  clear hw1 b1
  unfold inB at hs
  simp only [Bool.and_eq_true, decide_eq_true_eq] at hs
  obtain ⟨s0, s1⟩ := hs
  have hs : inB x0 63 = true := by unfold inB; rw [decide_eq_true s0, decide_eq_true s1]; rfl
  have HSQ := Lib.hid hs
  clear hs
  have hk : inB 1 3 = true := by decide
  have HKD := Lib.hid hk
  clear hk
  have hky := r8key xb hxb
  obtain ⟨Q, hQ⟩ : ∃ Q, Q = keyOk xb := ⟨_, rfl⟩
  rw [← hQ] at hky
  have HKY := Lib.hid hQ.symm
  clear hQ
  go_enter Tryz.func25, Tryz.ntmps25
  go_wp2_with fail
  rw [← Hw1.out]
  refine (hky _).mono ?_
  rintro e w3 ⟨rfl, k3⟩
  have hKc := hK.trans k3
  clear hky
  cases Q with
  | false =>
    have hk3 := k1.trans hKc
    have hr : R = 11 := by rw [HR.out]; simp [recCheck, entOk, fromOk, HSQ.out, HKD.out, HKY.out]
    have HZ := Lib.hid hr
    clear hr
    go_wp2_with fail
    go_ret
    exact ⟨by rw [HZ.out]; rfl, hk3⟩
  | true =>
    have hln : LocsAt B w1 (namedV 1 (.slice la lx.length lc)) (namedR ⟨x0, 1, ⟨x2, x3, x4, lx⟩, ⟨x6, x7, x8, x9, xa⟩, xb, xc, xd⟩).vol.locs := named_locs (c := ⟨x0, 1, ⟨x2, x3, x4, lx⟩, ⟨x6, x7, x8, x9, xa⟩, xb, xc, xd⟩) hl1
    have hlz : (namedR ⟨x0, 1, ⟨x2, x3, x4, lx⟩, ⟨x6, x7, x8, x9, xa⟩, xb, xc, xd⟩).vol.locs.length ≤ 100000 := by show ([] : List (Int × Int)).length ≤ 100000; decide
    have hon := fun W => ronly ⟨x0, 1, ⟨x2, x3, x4, lx⟩, ⟨x6, x7, x8, x9, xa⟩, xb, xc, xd⟩ la lx.length lc W
    have hsm := fun W (k : Kp [] w1 W) => rsame11 (namedR ⟨x0, 1, ⟨x2, x3, x4, lx⟩, ⟨x6, x7, x8, x9, xa⟩, xb, xc, xd⟩) ⟨x0, 1, ⟨x2, x3, x4, lx⟩, ⟨x6, x7, x8, x9, xa⟩, xb, xc, xd⟩ _ _ B W (hln.keep0 k) (hl1.keep0 k) hlz
    simp only [RecV] at hon hsm
    obtain ⟨D, hD⟩ : ∃ D, D = decide (namedR ⟨x0, 1, ⟨x2, x3, x4, lx⟩, ⟨x6, x7, x8, x9, xa⟩, xb, xc, xd⟩ = ⟨x0, 1, ⟨x2, x3, x4, lx⟩, ⟨x6, x7, x8, x9, xa⟩, xb, xc, xd⟩) := ⟨_, rfl⟩
    rw [← hD] at hsm
    have HD := Lib.hid hD
    clear hD hln hlz
    go_wp2_with fail
    refine wpB_begin 999 (Kp [] w1) (by kernel_rfl) (by exact hKc.drew) (fun hHeld => ?_)
    refine wpB_take 0 _ ?_ rfl (by kernel_rfl) (fun _ _ _ h => h) rfl hHeld ?_ ?_
    rotate_left
    · (intro W hW; go_simp; try with_reducible rfl)
    try simp only [Act.put, List.setIfInBounds_toArray, List.set_cons_zero, List.set_cons_succ]
    refine wpB_take 2 _ ?_ rfl (by kernel_rfl) (fun _ _ _ h => h) rfl hHeld ?_ ?_
    rotate_left
    · (intro W hW; go_simp; try with_reducible rfl)
    try simp only [Act.put, List.setIfInBounds_toArray, List.set_cons_zero, List.set_cons_succ]
    refine wpB_step 1 _ rfl (by kernel_rfl) rfl rfl (fun K hK_ => ?_)
    go_simp
    refine (hon _).mono ?_
    rintro e w5 ⟨rfl, k5⟩
    refine hK_.out _ _ (by exact hHeld.trans k5) (fun hHeld => ?_)
    clear hK_ K
    try simp only [Act.put, List.setIfInBounds_toArray, List.set_cons_zero, List.set_cons_succ]
    refine wpB_step 3 _ rfl (by kernel_rfl) rfl rfl (fun K hK_ => ?_)
    go_simp
    refine (hsm _ hHeld).mono ?_
    rintro e w6 ⟨rfl, k6⟩
    refine hK_.out _ _ (by exact hHeld.trans k6) (fun hHeld => ?_)
    clear hK_ K
    try simp only [Act.put, List.setIfInBounds_toArray, List.set_cons_zero, List.set_cons_succ]
    refine wpB_take 4 _ ?_ rfl (by kernel_rfl) (fun _ _ _ h => h) rfl hHeld ?_ ?_
    rotate_left
    · (intro W hW; go_simp; try with_reducible rfl)
    try simp only [Act.put, List.setIfInBounds_toArray, List.set_cons_zero, List.set_cons_succ]
    refine wpB_done (by kernel_rfl) ?_ _
    have hkz := k1.trans hHeld
    clear hHeld hon hsm
    cases D with
    | true =>
      have hr : R = 0 := by rw [HR.out]; simp [recCheck, entOk, fromOk, HSQ.out, HKD.out, HKY.out, of_decide_eq_true HD.out.symm]
      have HZ := Lib.hid hr
      clear hr
      go_wp2_with fail
      go_ret
      exact ⟨by rw [HZ.out]; rfl, hkz⟩
    | false =>
      have hr : R = 1 := by rw [HR.out]; simp [recCheck, entOk, fromOk, HSQ.out, HKD.out, HKY.out, of_decide_eq_false HD.out.symm]
      have HZ := Lib.hid hr
      clear hr
      go_wp2_with fail
      go_ret
      exact ⟨by rw [HZ.out]; rfl, hkz⟩
theorem rcheck11 (c : RecD) (lv : Value) (B : Nat) (w : World) (hl : LocsAt B w lv c.vol.locs) (hz : c.vol.locs.length ≤ 1000) (h6 : c.ent.key.size < 16384) (hxb : c.key.size < 16384) :
    Calls Tryz.prog 25 #[.agg (RecV c lv)] w fun e w' => e = .returned (.int .i64 (recCheck c)) ∧ Kp [] w w' := by
  obtain ⟨la, lc, rfl⟩ := slice_ex hl
  obtain ⟨x0, x1, ⟨x2, x3, x4, lx⟩, ⟨x6, x7, x8, x9, xa⟩, xb, xc, xd⟩ := c
  simp only [RecV]
  simp only at hl hz h6 hxb
  cases hs : (inB x0 63 && inB x1 3) with
  | false => exact rchk_no x0 x1 x2 x3 x4 x7 x8 x9 xc xd lx x6 xa xb la lc B w hl hz h6 hxb hs
  | true =>
    rw [Bool.and_eq_true] at hs
    have hb := inB_true hs.2
    have : x1 = 0 ∨ x1 = 1 ∨ x1 = 2 ∨ x1 = 3 := by omega
    rcases this with rfl | rfl | rfl | rfl
    · exact rchk0 x0 x2 x3 x4 x7 x8 x9 xc xd lx x6 xa xb la lc B w hl hz h6 hxb hs.1
    · exact rchk1 x0 x2 x3 x4 x7 x8 x9 xc xd lx x6 xa xb la lc B w hl hz h6 hxb hs.1
    · exact rchk2 x0 x2 x3 x4 x7 x8 x9 xc xd lx x6 xa xb la lc B w hl hz h6 hxb hs.1
    · exact rchk3 x0 x2 x3 x4 x7 x8 x9 xc xd lx x6 xa xb la lc B w hl hz h6 hxb hs.1
end Go.Proofs.YtdhhddifmkijhaaGreat
