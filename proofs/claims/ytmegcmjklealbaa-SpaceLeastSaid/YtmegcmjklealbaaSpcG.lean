/-
  SpaceLeast: what is taken is the least slot that is free. For every script and disk.
  Conditions: none beyond the row's own.
-/
import Derived.Test.YtmegcmjklealbaaSpcO
namespace Go.Proofs.Ytmegcmjklealbaa
open Go.ChangeShapes Go.WideShapes Go.ChangeAt Go.RowKit Go.WideElems

def wantOf : Option Nat → Int
  | none => -1
  | some k => k
theorem free_upd {f : Int → Int → Bool} {d : Int} {k : Nat} (hf : f d k = false) : ∀ n j : Nat, freeFrom (upd f d k true) d n j + (if j ≤ k ∧ k < j + n then 1 else 0) = freeFrom f d n j
  | 0, j => by
    simp only [freeFrom]
    rw [if_neg (by omega)]
  | n + 1, j => by
    simp only [freeFrom]
    have ih := free_upd hf n (j + 1)
    by_cases e : j = k
    · subst e
      have h1 : upd f d j true d j = true := by simp [upd]
      have c1 : ¬ (j + 1 ≤ j ∧ j < j + 1 + n) := by omega
      have c2 : j ≤ j ∧ j < j + (n + 1) := by omega
      rw [if_neg c1] at ih
      rw [if_pos c2, h1, hf]
      simp
      omega
    · have h1 : upd f d k true d j = f d j := by
        simp only [upd]
        rw [if_neg (by omega)]
      rw [h1]
      by_cases h2 : j + 1 ≤ k ∧ k < j + 1 + n
      · have c2 : j ≤ k ∧ k < j + (n + 1) := by omega
        rw [if_pos h2] at ih
        rw [if_pos c2]
        omega
      · have c2 : ¬ (j ≤ k ∧ k < j + (n + 1)) := by omega
        rw [if_neg h2] at ih
        rw [if_neg c2]
        omega
theorem freeN_take {f : Int → Int → Bool} {d : Int} {k : Nat} (hd : DiskB d = true) (hk : k < 48) (hf : f d k = false) : freeN (upd f d k true) d + 1 = freeN f d := by
  unfold freeN
  rw [hd, if_pos rfl, if_pos rfl]
  have := free_upd hf 48 0
  rw [if_pos (by omega)] at this
  exact this
theorem least_free {f : Int → Int → Bool} {d : Int} : ∀ n j : Nat, leastFrom f d n j = none → freeFrom f d n j = 0
  | 0, _, _ => rfl
  | n + 1, j, h => by
    simp only [leastFrom] at h
    by_cases hc : f d j = true
    · rw [if_pos hc] at h
      simp only [freeFrom]
      rw [hc, if_pos rfl, least_free n (j + 1) h]
    · rw [if_neg hc] at h
      cases h

set_option maxHeartbeats 2000000 in
theorem least_walk (v : Value) (os : List OpV) (d : Int) (w : World) (hv : SliceAt w.heap.size w v 4 os.length (os.flatMap opCells)) (ho : ∀ o ∈ os, SliceAt w.heap.size w o.2 1 o.1.ds.length (o.1.ds.map (Value.int .i64))) :
    Calls Try.prog 7 #[v, .int .i64 d] w fun e w' => e = .returned (.bool true) ∧ Kp [] w w' := by
  obtain ⟨av, cv, rfl⟩ := slice_ex hv
  by_cases hlen : 60 < os.length
  · have hlenI : (60 : Int) < (os.length : Int) := by omega
    go_enter Try.func7, Try.ntmps7
    go_wp2_with fail
    refine (live_true _).mono ?_
    rintro e w1 ⟨rfl, h1⟩
    go_wp2_with fail
    go_ret
    exact ⟨rfl, h1⟩
  have hlenI : (os.length : Int) ≤ 60 := by omega
  by_cases g1 : d < 0
  · go_enter Try.func7, Try.ntmps7
    go_wp2_with fail
    refine (live_true _).mono ?_
    rintro e w1 ⟨rfl, h1⟩
    go_wp2_with fail
    go_ret
    exact ⟨rfl, h1⟩
  by_cases g2 : d > 11
  · go_enter Try.func7, Try.ntmps7
    go_wp2_with fail
    refine (live_true _).mono ?_
    rintro e w1 ⟨rfl, h1⟩
    go_wp2_with fail
    go_ret
    exact ⟨rfl, h1⟩
  have hd : DiskB d = true := by simp [DiskB]; omega
  have HD := Lib.hid hd
  have hIs : ∀ s : Nat, s < 48 → IsB d s = true := fun s hs => IsB_of hd hs
  have HIS := Lib.hid hIs
  clear hd hIs
  go_enter Try.func7, Try.ntmps7
  go_wp2_with fail
  clear g1 g2
  refine (new_any _).mono ?_
  rintro e w1 ⟨rfl, k1, s1, z1⟩
  obtain ⟨b, hb⟩ : ∃ b, b = w.heap.size := ⟨_, rfl⟩
  rw [← hb] at s1 ⊢
  have HB := Lib.hid hb
  clear hb z1
  go_wp2_with fail
  go_loopg [6] os.length (fun g i wr => ∃ (n : Nat) (f : Int → Int → Bool), n + g = os.length ∧ i = .int .i64 n ∧ SpaceAt wr b f ∧ Kp [] w wr)
  case atStart => exact ⟨0, _, by omega, rfl, s1, k1⟩
  case round =>
    clear s1 k1
    obtain ⟨n, f, hn, rfl, hs, hK⟩ := hrel
    have HN := Lib.hid hn
    by_cases hlt : n < os.length
    · obtain ⟨g', rfl⟩ : ∃ g', gk = g' + 1 := ⟨gk - 1, by omega⟩
      clear hn
      have hltI : (n : Int) < (os.length : Int) := by omega
      obtain ⟨gv, ov, c, hv', e0, e1, e2, e3⟩ := script_at hv n hlt
      simp only [Value.slice.injEq] at hv'
      obtain ⟨rfl, -, rfl⟩ := hv'
      have d0 := (hK.cell (lt_of_cell e0) (by simp)).trans e0
      have d1 := (hK.cell (lt_of_cell e1) (by simp)).trans e1
      have d2 := (hK.cell (lt_of_cell e2) (by simp)).trans e2
      have d3 := (hK.cell (lt_of_cell e3) (by simp)).trans e3
      obtain ⟨⟨o, l⟩, hol⟩ : ∃ ol, ol = os[n] := ⟨_, rfl⟩
      rw [← hol] at d0 d1 d2 d3
      simp only at d0 d1 d2 d3
      have hlo := ho (o, l) (by rw [hol]; exact List.getElem_mem hlt)
      have HOL := Lib.hid hol
      clear e0 e1 e2 e3 hol
      simp only at hlo
      obtain ⟨al, cl, rfl⟩ := slice_ex hlo
      have hKa : Kp [] wr (wr.alloc (.cells #[.slice none 0 0] 29)) := (Kp.refl [] _).alloc _
      have f0 := (hKa.cell (lt_of_cell d0) (by simp)).trans d0
      have f1 := (hKa.cell (lt_of_cell d1) (by simp)).trans d1
      have f2 := (hKa.cell (lt_of_cell d2) (by simp)).trans d2
      have f3 := (hKa.cell (lt_of_cell d3) (by simp)).trans d3
      by_cases hds : 60 < o.ds.length
      · have hdsI : (60 : Int) < (o.ds.length : Int) := by omega
        go_wp2_with fail
        refine (live_true _).mono ?_
        rintro e w1 ⟨rfl, h1⟩
        go_wp2_with fail
        go_ret
        exact ⟨rfl, hK.trans h1⟩
      · have hdsI : (o.ds.length : Int) ≤ 60 := by omega
        go_wp2_with fail
        obtain ⟨k, hk⟩ : ∃ k, k = wr.heap.size := ⟨_, rfl⟩
        have hlt2 := hs.lt
        have s2 : SpaceAt (wr.alloc (.cells #[.slice none 0 0] 29)) b f := hs.keep ((Kp.refl [] _).alloc _) (by simp)
        have r2 : RefAt (wr.alloc (.cells #[.slice none 0 0] 29)) k (.slice none 0 0) [] := by
          rw [hk]
          exact ⟨cell_of_cells (block_new _ _) rfl, frozen_of_cells (block_new _ _) _, World.ownsRow_nil _ _ _ _⟩
        rw [← hk]
        have hbw := HB.out
        refine (does_any b k f _ [] o _ w.heap.size _ s2 r2 (by omega) ((hlo.keep0 hK).keep0 ((Kp.refl [] _).alloc _)) (by omega) (by omega) (by simp)).mono ?_
        rintro e w2 ⟨vk', rfl, hB⟩
        have hs2 := hB.sp
        have hK2 : Kp [] w w2 := (hK.alloc _).step hB.keep (fun i hi hm => by
          simp only [List.mem_cons, Option.mem_toList] at hm
          rcases hm with hm | hm | hm
          · omega
          · have := hK.size
            omega
          · cases hm)
        clear hs r2 hK hKa hB d0 d1 d2 d3 f0 f1 f2 f3 s2 hk hlt2 hbw
        go_wp2_with fail
        go_roundg g'
        case rel =>
          have hn := HN.out
          exact ⟨n + 1, _, by omega, by go_num, hs2, hK2⟩
        case measure => omega
    · obtain rfl : n = os.length := by omega
      obtain rfl : gk = 0 := by omega
      clear hn
      go_wp2_with fail
      refine (free_any b f d _ hs).mono ?_
      rintro e w2 ⟨rfl, k2⟩
      have s2 := hs.keep k2 (by simp)
      have hK2 := hK.trans k2
      have hf48 : freeN f d ≤ 48 := by
        unfold freeN
        rw [HD.out]
        exact freeFrom_le f d 48 0
      clear hs k2 hK
      go_wp2_with fail
      go_loopg [8, 9] 48 (fun g u i wx => ∃ m : Nat, m + g = 48 ∧ i = .int .i64 (47 - (m : Int)) ∧ u = .int .i64 (wantOf (leastFrom f d m (48 - m))) ∧ Kp [] w2 wx)
      case atStart => exact ⟨0, by omega, rfl, rfl, Kp.refl _ _⟩
      case round =>
        obtain ⟨m, hm, rfl, rfl, hKx⟩ := hrel
        have HM := Lib.hid hm
        by_cases hmx : m < 48
        · obtain ⟨g2, rfl⟩ : ∃ g2, gk = g2 + 1 := ⟨gk - 1, by omega⟩
          clear hm
          have hmI : 0 ≤ 47 - (m : Int) := by omega
          obtain ⟨q, hq⟩ : ∃ q : Nat, (q : Int) = 47 - (m : Int) := ⟨47 - m, by omega⟩
          have HQ := Lib.hid hq
          rw [← hq] at hmI ⊢
          have hst : leastFrom f d (m + 1) (48 - (m + 1)) = if f d q then leastFrom f d m (48 - m) else some q := by
            have e1 : 48 - (m + 1) = q := by omega
            have e2 : 48 - m = q + 1 := by omega
            rw [e1, e2]; rfl
          have HST := Lib.hid hst
          have hq2 : IsB d q = true := HIS.out q (by omega)
          have HQ2 := Lib.hid hq2
          have hqb : q < 48 := by omega
          obtain ⟨wv, hwv⟩ : ∃ wv, wv = wantOf (leastFrom f d m (48 - m)) := ⟨_, rfl⟩
          rw [← hwv]
          have HWV := Lib.hid hwv
          clear hwv
          clear hst hq hq2
          go_wp2_with fail
          refine (taken_any b f d q _ (s2.keep hKx (by simp))).mono ?_
          rintro e w3 ⟨rfl, k3⟩
          rw [HQ2.out, Bool.true_and]
          have hKx := hKx.trans k3
          clear k3
          obtain ⟨bq, hbq⟩ : ∃ bq, bq = f d q := ⟨_, rfl⟩
          rw [← hbq]
          have HBQ := Lib.hid hbq
          clear hbq
          cases bq with
          | true =>
            go_wp2_with fail
            go_roundg g2
            case rel =>
              have hm := HM.out
              have hq := HQ.out
              refine ⟨m + 1, by omega, by go_num, ?_, hKx⟩
              rw [HST.out, ← HBQ.out, if_pos rfl, HWV.out]
            case measure => omega
          | false =>
            go_wp2_with fail
            go_roundg g2
            case rel =>
              have hm := HM.out
              have hq := HQ.out
              refine ⟨m + 1, by omega, by go_num, ?_, hKx⟩
              rw [HST.out, ← HBQ.out]
              rfl
            case measure => omega
        · obtain rfl : m = 48 := by omega
          obtain rfl : gk = 0 := by omega
          clear hm
          go_wp2_with fail
          refine (take_any b f d _ (s2.keep hKx (by simp))).mono ?_
          rintro e w3 ⟨rfl, k3, s3⟩
          have hK3 : Kp [] w w3 := (hK2.trans hKx).step k3 (fun i hi hm => by
            have := HB.out
            simp only [List.mem_singleton] at hm
            omega)
          cases hl : leastFrom f d 48 0 with
          | none =>
            have e1 : takeR f d = (0, 7) := by unfold takeR; rw [HD.out, hl]; rfl
            have e2 : freeN f d = 0 := by unfold freeN; rw [HD.out]; exact least_free 48 0 hl
            rw [e1, e2]
            simp only [wantOf]
            clear hl e1 e2 s3 hK2 s2 hKx k3 hf48
            go_wp2_with fail
            refine (live_true _).mono ?_
            rintro e w4 ⟨rfl, h4⟩
            go_wp2_with fail
            go_ret
            exact ⟨rfl, hK3.trans h4⟩
          | some k =>
            obtain ⟨-, q2, q3⟩ := leastFrom_spec _ _ _ hl
            have e1 : takeR f d = ((k : Int), 0) := by unfold takeR; rw [HD.out, hl]; rfl
            have e2 : takeF f d = upd f d k true := by unfold takeF; rw [HD.out, hl]; rfl
            have e3 := freeN_take HD.out (by omega) q3
            have E3 := Lib.hid e3
            rw [e1]
            rw [e2] at s3
            simp only [wantOf]
            clear hl e1 e2 hK2 s2 hKx k3 q3 e3
            have hk0 : ¬ ((k : Int) < 0) := by omega
            go_wp2_with fail
            refine (free_any b _ d _ s3).mono ?_
            rintro e w4 ⟨rfl, k4⟩
            have e4 : (freeN (upd f d k true) d : Int) = (freeN f d : Int) - 1 := by have := E3.out; omega
            rw [e4]
            clear e4
            have hK3 := hK3.trans k4
            clear k4 s3
            go_wp2_with fail
            refine (live_true _).mono ?_
            rintro e w5 ⟨rfl, h5⟩
            go_wp2_with fail
            go_ret
            exact ⟨rfl, hK3.trans h5⟩

theorem least_lifted (os : Os) (started : os.Started) (H : Type) (enc : TypeId × Value → H) :
    ReturnsInHanded {} Try.checked os 7 .any (Rows.spaceLeastSpec.pre6 enc Try.prog Try.f7 Rows.spaceLeastRow.domain false) (Rows.spaceLeastSpec.post enc Try.prog Try.f7 false true false false) := by
  refine law_lifted Rows.spaceLeastSpec Try.func7 (by kernel_rfl) Try.underlying4 rfl (by decide +kernel) rfl ?_ ?_ os started H enc
    (ChangeSpec.witness6 (enc := enc) (C := Try.checked) false ⟨#[], #[.slice none 0 0, .int .i64 0], []⟩ 8 (by kernel_rfl) (by kernel_rfl) (by kernel_rfl) (by kernel_rfl))
  · intro H ds hl
    match ds, hl with
    | [d, d2], _ => exact ⟨rfl, rfl, rfl⟩
  · rintro W vs ⟨v, vs', base, rfl, hok, hrd, v2, vs2, base2, rfl, hok2, hrd2, rfl⟩
    obtain ⟨av, l, c, rfl, -⟩ := okWide_slice Try.underlying22 hok
    obtain ⟨d2, rfl, -⟩ := okWide_int Try.underlying3 hok2
    obtain ⟨xs, hs, hq⟩ := script_of hrd rfl
    exact least_walk _ xs d2 W hs hq

theorem space_least_holds : Rows.SpaceLeastSaid :=
  OpenClaim.holds_of_wide 7 Try.f7 rfl rfl rfl rfl rfl rfl rfl ⟨rfl, rfl, rfl, rfl, rfl⟩ rfl rfl rfl rfl rfl (by kernel_rfl) Try.func7 (by kernel_rfl)
    (of_decide_eq_true (by kernel_rfl)) (by unfold Func.isWrapper; first | (rw [if_pos (by decide +kernel)]; kernel_rfl) | (rw [if_neg (by decide +kernel)]; exact ⟨rfl, rfl⟩))
    (fun os started H enc _ => least_lifted os started H enc)
end Go.Proofs.Ytmegcmjklealbaa
