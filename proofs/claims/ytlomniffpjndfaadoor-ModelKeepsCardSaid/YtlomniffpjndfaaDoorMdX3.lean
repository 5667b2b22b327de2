/-
  ModelKeeps: with an error nothing is changed; what reads changes nothing; a copy goes on by itself. For every list of requests, every request.
  Conditions: none beyond the row's own.
-/
import Derived.Test.YtlomniffpjndfaaDoorMdY
namespace Go.Proofs.YtlomniffpjndfaaDoor
open Go.ChangeShapes Go.WideShapes Go.ChangeAt Go.RowKit Go.WideElems Go.Sort

set_option maxHeartbeats 8000000 in
set_option maxRecDepth 100000 in
theorem keeps_walk (v : Value) (rs : List RqD) (d1 : Int) (k1 v1 : ByteArray) (w : World) (hr : ReqsAt w.heap.size w v rs) (htab : Lib.TabIs Tryd.prog w "internal/strconv.uint64pow10" .u64 Lib.pow10Tab) :
    Calls Tryd.prog 5 #[v, ReqV d1 k1 v1] w fun e w' => e = .returned (.bool true) ∧ Kp [] w w' := by
  obtain ⟨va, vc, rfl⟩ := slice_ex hr
  obtain ⟨w0, hw0⟩ : ∃ w0, w0 = w.alloc (.cells #[.int .i64 d1, .string k1, .string v1] 32) := ⟨_, rfl⟩
  have k0 : Kp [] w w0 := hw0 ▸ (Kp.refl _ _).alloc _
  have b0 : w0.heap[w.heap.size]? = some (.cells #[.int .i64 d1, .string k1, .string v1] 32 (0, 0)) := by rw [hw0]; exact block_new _ _
  have c0 := Kp.cellAt (X := []) (cell_of_cells (o := 0) (v := .int .i64 d1) b0 rfl) (by simp)
  have c1 := Kp.cellAt (X := []) (cell_of_cells (o := 1) (v := .string k1) b0 rfl) (by simp)
  have c2 := Kp.cellAt (X := []) (cell_of_cells (o := 2) (v := .string v1) b0 rfl) (by simp)
  have hk00 := Kp.refl [] w0
  have HW0 := Lib.hid hw0
  have htab0 := htab.keep k0
  replace hr := hr.keep0 k0
  clear hw0 b0
  by_cases hlen : 30 < rs.length
  · have hlenI : (30 : Int) < (rs.length : Int) := by omega
    go_enter Tryd.func5, Tryd.ntmps5
    go_wp2_with fail
    rw [← HW0.out]
    refine (live_true _ (htab.keep (k0))).mono ?_
    rintro e wl ⟨rfl, kl⟩
    have hkl := (k0).trans kl
    clear kl
    go_wp2_with fail
    go_ret
    exact ⟨rfl, hkl⟩
  have hlenI : (rs.length : Int) ≤ 30 := by omega
  obtain ⟨S1, hS1⟩ : ∃ S, S = smallQ k1 v1 := ⟨_, rfl⟩
  have hs1 := fun W => rsmall16 d1 k1 v1 W
  rw [← hS1] at hs1
  have HS1 := Lib.hid hS1
  clear hS1
  go_enter Tryd.func5, Tryd.ntmps5
  go_wp2_with fail
  rw [← HW0.out]
  refine (hs1 _).mono ?_
  rintro e x1 ⟨rfl, hK⟩
  clear hs1 hk00
  cases S1 with
  | false =>
    go_wp2_with fail
    refine (live_true _ (htab.keep (k0.trans hK))).mono ?_
    rintro e wl ⟨rfl, kl⟩
    have hkl := (k0.trans hK).trans kl
    clear kl
    go_wp2_with fail
    go_ret
    exact ⟨rfl, hkl⟩
  | true =>
  obtain ⟨hk1, hv1⟩ := small_q HS1.out.symm
  go_wp2_with fail
  refine (mnew _).mono ?_
  rintro e w3 ⟨mb, eb, rfl, hM, k3, hmb, heb⟩
  have hbs := hK.size
  replace hK := hK.trans k3
  clear k3
  have hmw : w0.heap.size ≤ mb := by omega
  have hew : w0.heap.size ≤ eb := by omega
  clear hmb heb hbs
  go_wp2_with fail
  go_loopg [6] rs.length (fun g i wr => ∃ n : Nat, n + g = rs.length ∧ i = .int .i64 n ∧ Kp [] w0 wr ∧ MdAt mb eb wr (Mdl.run (rs.take n)))
  case atStart => exact ⟨0, by omega, rfl, hK, hM⟩
  case round =>
    clear hK hM
    obtain ⟨n, hn, rfl, hK, hM⟩ := hrel
    have HN := Lib.hid hn
    by_cases hlt : n < rs.length
    · obtain ⟨g', rfl⟩ : ∃ g', gk = g' + 1 := ⟨gk - 1, by omega⟩
      clear hn
      have hltI : (n : Int) < (rs.length : Int) := by omega
      obtain ⟨g, o, c, hv', f0, f1, f2⟩ := req_at hr n hlt
      simp only [Value.slice.injEq] at hv'
      obtain ⟨rfl, -, rfl⟩ := hv'
      obtain ⟨q, hq⟩ : ∃ q, q = rs[n] := ⟨_, rfl⟩
      have hnx := run_next hlt
      rw [← hq] at f0 f1 f2 hnx
      obtain ⟨qd, qk, qv⟩ := q
      simp only at f0 f1 f2
      have r0 := Kp.cellAt (X := []) f0 (by simp)
      have r1 := Kp.cellAt (X := []) f1 (by simp)
      have r2 := Kp.cellAt (X := []) f2 (by simp)
      have HQR := Lib.hid hq
      have HNX := Lib.hid hnx
      clear f0 f1 f2 hq hnx
      obtain ⟨SM, hSM⟩ : ∃ SM, SM = smallQ qk qv := ⟨_, rfl⟩
      have hs3 := fun W => rsmall16 qd qk qv W
      rw [← hSM] at hs3
      have HSM := Lib.hid hSM
      clear hSM
      go_wp2_with fail
      refine (hs3 _).mono ?_
      rintro e w4 ⟨rfl, k4⟩
      replace hM := hM.keep0 k4
      replace hK := hK.trans k4
      clear hs3 k4
      cases SM with
      | false =>
        go_wp2_with fail
        refine (live_true _ (htab.keep (k0.trans hK))).mono ?_
        rintro e wl ⟨rfl, kl⟩
        have hkl := (k0.trans hK).trans kl
        clear kl
        go_wp2_with fail
        go_ret
        exact ⟨rfl, hkl⟩
      | true =>
        obtain ⟨hqk, hqv⟩ := small_q HSM.out.symm
        go_wp2_with fail
        refine (mdoq sum_ok (run_short _) (by have := run_take rs n; omega) qd qk qv hqk hqv _ hM (htab0.keep hK)).mono ?_
        rintro e w5 ⟨av, cv, rfl, -, hM2, k5⟩
        clear hM
        replace hK := kp_up hK k5 (by simp only [List.mem_singleton]; omega)
        clear k5
        have HMM := Lib.hid hM2
        clear hM2
        go_wp2_with fail
        go_roundg g'
        case rel => exact ⟨n + 1, st_next HN.out, by go_num, hK, by rw [HNX.out]; exact HMM.out⟩
        case measure => omega
    · obtain rfl : n = rs.length := by omega
      obtain rfl : gk = 0 := by omega
      clear hn hlt
      obtain ⟨M, hMd⟩ : ∃ M, M = Mdl.run (rs.take rs.length) := ⟨_, rfl⟩
      have hMs : Short M := hMd ▸ run_short _
      have hMn : Nod M := hMd ▸ run_nod _
      have hMl : M.length ≤ 30 := by have := run_take rs rs.length; rw [← hMd] at this; omega
      rw [← hMd] at hM
      clear hMd
      have hsm0 := fun W (h : MdAt mb eb W M) => mstate hMs (by omega) W h
      have hch := state_changed (f := sumF) hMn d1 k1 v1
      have hsm1 := fun W (h : MdAt mb eb W (M.after d1 k1 v1)) => mstate (after_short hMs _ _ _) (by have := after_len M d1 k1 v1; omega) W h
      have hsc1 := fun (mb2 eb2 : Nat) W (h : MdAt mb2 eb2 W (M.after d1 k1 v1)) => mstate (after_short hMs _ _ _) (by have := after_len M d1 k1 v1; omega) W h
      obtain ⟨S0, hS0⟩ : ∃ S, S = SB M.state := ⟨_, rfl⟩
      obtain ⟨ST, hST⟩ : ∃ S, S = SB (M.after d1 k1 v1).state := ⟨_, rfl⟩
      rw [← hS0] at hsm0 hch
      rw [← hST] at hsm1 hsc1 hch
      clear hS0 hST
      go_wp2_with fail
      refine (hsm0 _ hM).mono ?_
      rintro e w4 ⟨rfl, k2⟩
      replace hM := hM.keep0 k2
      replace hK := hK.trans k2
      clear k2
      go_wp2_with fail
      have hl0 := hM.lts
      refine (mcopy _ hM).mono ?_
      rintro e w6 ⟨mb2, eb2, rfl, hC, k2, h1, h2⟩
      obtain ⟨B0, hB0⟩ : ∃ B, B = w6.heap.size := ⟨_, rfl⟩
      have hl1 := hC.lts
      have hsz : B0 ≤ w6.heap.size := by omega
      have hl2 := k2.size
      have hq0 : w0.heap.size ≤ eb2 := by have := hK.size; omega
      have q1 : mb < B0 ∧ eb < B0 ∧ mb2 < B0 ∧ eb2 < B0 := by omega
      have q2 : mb ≠ eb2 ∧ eb ≠ eb2 ∧ mb2 ≠ eb ∧ eb2 ≠ eb := by omega
      replace hM := hM.keep0 k2
      replace hK := hK.trans k2
      clear hl0 hl1 hl2 h1 h2 hB0 k2
      go_wp2_with fail
      refine (mdoq sum_ok hMs (by omega) d1 k1 v1 hk1 hv1 _ hC (htab0.keep hK)).mono ?_
      rintro e vw1 ⟨av1, cv1, rfl, G1, hM2, k2⟩
      clear hC
      obtain ⟨A1, hA1⟩ : ∃ A, A = Mdl.answer sumF M d1 k1 v1 := ⟨_, rfl⟩
      rw [← hA1] at G1 ⊢
      have HA1 := Lib.hid hA1
      clear hA1
      replace G1 := G1.base hsz
      replace hM := hM.keep k2 (by simp only [List.mem_singleton]; omega) (by simp only [List.mem_singleton]; omega)
      replace hK := kp_up hK k2 (by intro i hi; simp only [List.mem_singleton] at hi; omega)
      replace hsz := Nat.le_trans hsz k2.size
      have hC := hM2
      clear hM2 k2

      have hk7 : Kp [] w0 (vw1.alloc (.cells #[.int .i64 A1.code, .string A1.val, .slice av1 A1.keys.length cv1] 37)) := hK.alloc _
      go_wp2_with fail
      obtain ⟨u1, hu⟩ : ∃ u, u = vw1.alloc (.cells #[.int .i64 A1.code, .string A1.val, .slice av1 A1.keys.length cv1] 37) := ⟨_, rfl⟩
      have ku : Kp [] vw1 u1 := hu ▸ (Kp.refl _ _).alloc _
      obtain ⟨p1, hp⟩ : ∃ p, p = vw1.heap.size := ⟨_, rfl⟩
      have b1 : u1.heap[p1]? = some (.cells #[.int .i64 A1.code, .string A1.val, .slice av1 A1.keys.length cv1] 37 (0, 0)) := by rw [hu, hp]; exact block_new _ _
      have g1 : B0 ≤ p1 := by rw [hp]; exact hsz
      replace G1 := G1.keepX ku (by intro j hj; cases hj)
      rw [← hu]
      try rw [← hp]
      clear hu hp
      replace hC := hC.keep ku (by simp) (by simp)
      replace hM := hM.keep ku (by simp) (by simp)
      replace hK := kp_up hK ku (by intro i hi; cases hi)
      replace hsz := Nat.le_trans hsz ku.size
      clear ku
      refine (hsm0 _ hM).mono ?_
      rintro e w7 ⟨rfl, k2⟩
      replace hM := hM.keep k2 (by simp) (by simp)
      replace hC := hC.keep k2 (by simp) (by simp)
      replace b1 := (k2.block _ (lt_of_block b1) (by simp)).trans b1
      replace G1 := G1.keepX k2 (by intro i hi; cases hi)
      replace hK := kp_up hK k2 (by intro i hi; cases hi)
      replace hsz := Nat.le_trans hsz k2.size
      clear k2
      go_wp2_with fail
      refine (mdoq sum_ok hMs (by omega) d1 k1 v1 hk1 hv1 _ hM (htab0.keep hK)).mono ?_
      rintro e vw2 ⟨av2, cv2, rfl, G2, hM2, k2⟩
      clear hM
      obtain ⟨A2, hA2⟩ : ∃ A, A = Mdl.answer sumF M d1 k1 v1 := ⟨_, rfl⟩
      rw [← hA2] at G2 ⊢
      have HA2 := Lib.hid hA2
      clear hA2
      replace G2 := G2.base hsz
      replace hC := hC.keep k2 (by simp only [List.mem_singleton]; omega) (by simp only [List.mem_singleton]; omega)
      replace b1 := (k2.block _ (lt_of_block b1) (by simp only [List.mem_singleton]; have := g1; omega)).trans b1
      replace G1 := G1.keepX k2 (by intro i hi; simp only [List.mem_singleton] at hi; omega)
      replace hK := kp_up hK k2 (by intro i hi; simp only [List.mem_singleton] at hi; omega)
      replace hsz := Nat.le_trans hsz k2.size
      have hM := hM2
      clear hM2 k2

      have x1 := Kp.cellAt (X := []) (cell_of_cells (o := 0) (v := .int .i64 A1.code) b1 rfl) (by simp)
      have x1b := Kp.cellAt (X := []) (cell_of_cells (o := 1) (v := .string A1.val) b1 rfl) (by simp)
      have x1c := Kp.cellAt (X := []) (cell_of_cells (o := 2) (v := .slice av1 A1.keys.length cv1) b1 rfl) (by simp)
      have hk6 : Kp [] vw2 (vw2.alloc (.cells #[.int .i64 A2.code, .string A2.val, .slice av2 A2.keys.length cv2] 37)) := (Kp.refl _ _).alloc _
      have hk7 : Kp [] w0 (vw2.alloc (.cells #[.int .i64 A2.code, .string A2.val, .slice av2 A2.keys.length cv2] 37)) := hK.alloc _
      have e12 : A1 = A2 := by rw [HA1.out, HA2.out]
      have a1 : A1.keys.length ≤ 1000 := by rw [HA1.out]; exact answer_keys _ _ _ _ _
      rw [← HA1.out] at hch
      have HE := Lib.hid e12
      have HC := Lib.hid hch
      clear e12 hch
      by_cases hc : A1.code = 0
      · have hcb : (A1.code == 0) = true := by rw [hc]; rfl
        by_cases hd0 : d1 = 0
        · have hne : ¬ ST = S0 := fun e => HC.out.1 e ⟨hc, .inl hd0⟩
          have hnb := bytes_ne hne
          subst hd0
          clear hc hne
          go_wp2_with fail
          obtain ⟨u2, hu⟩ : ∃ u, u = vw2.alloc (.cells #[.int .i64 A2.code, .string A2.val, .slice av2 A2.keys.length cv2] 37) := ⟨_, rfl⟩
          have ku : Kp [] vw2 u2 := hu ▸ (Kp.refl _ _).alloc _
          obtain ⟨p2, hp⟩ : ∃ p, p = vw2.heap.size := ⟨_, rfl⟩
          have b2 : u2.heap[p2]? = some (.cells #[.int .i64 A2.code, .string A2.val, .slice av2 A2.keys.length cv2] 37 (0, 0)) := by rw [hu, hp]; exact block_new _ _
          have g2 : B0 ≤ p2 := by rw [hp]; exact hsz
          replace G2 := G2.keepX ku (by intro j hj; cases hj)
          rw [← hu]
          try rw [← hp]
          clear hu hp
          replace hM := hM.keep ku (by simp) (by simp)
          replace hC := hC.keep ku (by simp) (by simp)
          replace b1 := (ku.block _ (lt_of_block b1) (by simp)).trans b1
          replace G1 := G1.keepX ku (by intro i hi; cases hi)
          replace hK := kp_up hK ku (by intro i hi; cases hi)
          replace hsz := Nat.le_trans hsz ku.size
          clear ku
          refine (rsame16 _ G1 G2 a1).mono ?_
          rintro e w8 ⟨rfl, k2⟩
          rw [decide_eq_true HE.out]
          replace hM := hM.keep k2 (by simp) (by simp)
          replace hC := hC.keep k2 (by simp) (by simp)
          replace b1 := (k2.block _ (lt_of_block b1) (by simp)).trans b1
          replace G1 := G1.keepX k2 (by intro i hi; cases hi)
          replace b2 := (k2.block _ (lt_of_block b2) (by simp)).trans b2
          replace G2 := G2.keepX k2 (by intro i hi; cases hi)
          replace hK := kp_up hK k2 (by intro i hi; cases hi)
          replace hsz := Nat.le_trans hsz k2.size
          clear k2
          go_wp2_with fail
          refine (hsm1 _ hM).mono ?_
          rintro e w9 ⟨rfl, k2⟩
          replace hM := hM.keep k2 (by simp) (by simp)
          replace hC := hC.keep k2 (by simp) (by simp)
          replace b1 := (k2.block _ (lt_of_block b1) (by simp)).trans b1
          replace G1 := G1.keepX k2 (by intro i hi; cases hi)
          replace b2 := (k2.block _ (lt_of_block b2) (by simp)).trans b2
          replace G2 := G2.keepX k2 (by intro i hi; cases hi)
          replace hK := kp_up hK k2 (by intro i hi; cases hi)
          replace hsz := Nat.le_trans hsz k2.size
          clear k2
          go_wp2_with fail
          refine (hsc1 _ _ _ hC).mono ?_
          rintro e wa ⟨rfl, k2⟩
          replace hM := hM.keep k2 (by simp) (by simp)
          replace hC := hC.keep k2 (by simp) (by simp)
          replace b1 := (k2.block _ (lt_of_block b1) (by simp)).trans b1
          replace G1 := G1.keepX k2 (by intro i hi; cases hi)
          replace b2 := (k2.block _ (lt_of_block b2) (by simp)).trans b2
          replace G2 := G2.keepX k2 (by intro i hi; cases hi)
          replace hK := kp_up hK k2 (by intro i hi; cases hi)
          replace hsz := Nat.le_trans hsz k2.size
          clear k2
          go_wp2_with fail
          refine (hsm1 _ hM).mono ?_
          rintro e wb ⟨rfl, k2⟩
          replace hM := hM.keep k2 (by simp) (by simp)
          replace hC := hC.keep k2 (by simp) (by simp)
          replace b1 := (k2.block _ (lt_of_block b1) (by simp)).trans b1
          replace G1 := G1.keepX k2 (by intro i hi; cases hi)
          replace b2 := (k2.block _ (lt_of_block b2) (by simp)).trans b2
          replace G2 := G2.keepX k2 (by intro i hi; cases hi)
          replace hK := kp_up hK k2 (by intro i hi; cases hi)
          replace hsz := Nat.le_trans hsz k2.size
          clear k2
          go_wp2_with fail
          refine (live_true _ (htab.keep (k0.trans hK))).mono ?_
          rintro e wl ⟨rfl, kl⟩
          have hkl := (k0.trans hK).trans kl
          clear kl
          go_wp2_with fail
          go_ret
          exact ⟨rfl, hkl⟩
        have hd0b : (d1 == 0) = false := by simpa using hd0
        by_cases hd2 : d1 = 2
        · have hne : ¬ ST = S0 := fun e => HC.out.1 e ⟨hc, .inr hd2⟩
          have hnb := bytes_ne hne
          subst hd2
          clear hc hne hd0
          go_wp2_with fail
          obtain ⟨u2, hu⟩ : ∃ u, u = vw2.alloc (.cells #[.int .i64 A2.code, .string A2.val, .slice av2 A2.keys.length cv2] 37) := ⟨_, rfl⟩
          have ku : Kp [] vw2 u2 := hu ▸ (Kp.refl _ _).alloc _
          obtain ⟨p2, hp⟩ : ∃ p, p = vw2.heap.size := ⟨_, rfl⟩
          have b2 : u2.heap[p2]? = some (.cells #[.int .i64 A2.code, .string A2.val, .slice av2 A2.keys.length cv2] 37 (0, 0)) := by rw [hu, hp]; exact block_new _ _
          have g2 : B0 ≤ p2 := by rw [hp]; exact hsz
          replace G2 := G2.keepX ku (by intro j hj; cases hj)
          rw [← hu]
          try rw [← hp]
          clear hu hp
          replace hM := hM.keep ku (by simp) (by simp)
          replace hC := hC.keep ku (by simp) (by simp)
          replace b1 := (ku.block _ (lt_of_block b1) (by simp)).trans b1
          replace G1 := G1.keepX ku (by intro i hi; cases hi)
          replace hK := kp_up hK ku (by intro i hi; cases hi)
          replace hsz := Nat.le_trans hsz ku.size
          clear ku
          refine (rsame16 _ G1 G2 a1).mono ?_
          rintro e w8 ⟨rfl, k2⟩
          rw [decide_eq_true HE.out]
          replace hM := hM.keep k2 (by simp) (by simp)
          replace hC := hC.keep k2 (by simp) (by simp)
          replace b1 := (k2.block _ (lt_of_block b1) (by simp)).trans b1
          replace G1 := G1.keepX k2 (by intro i hi; cases hi)
          replace b2 := (k2.block _ (lt_of_block b2) (by simp)).trans b2
          replace G2 := G2.keepX k2 (by intro i hi; cases hi)
          replace hK := kp_up hK k2 (by intro i hi; cases hi)
          replace hsz := Nat.le_trans hsz k2.size
          clear k2
          go_wp2_with fail
          refine (hsm1 _ hM).mono ?_
          rintro e w9 ⟨rfl, k2⟩
          replace hM := hM.keep k2 (by simp) (by simp)
          replace hC := hC.keep k2 (by simp) (by simp)
          replace b1 := (k2.block _ (lt_of_block b1) (by simp)).trans b1
          replace G1 := G1.keepX k2 (by intro i hi; cases hi)
          replace b2 := (k2.block _ (lt_of_block b2) (by simp)).trans b2
          replace G2 := G2.keepX k2 (by intro i hi; cases hi)
          replace hK := kp_up hK k2 (by intro i hi; cases hi)
          replace hsz := Nat.le_trans hsz k2.size
          clear k2
          go_wp2_with fail
          refine (hsc1 _ _ _ hC).mono ?_
          rintro e wa ⟨rfl, k2⟩
          replace hM := hM.keep k2 (by simp) (by simp)
          replace hC := hC.keep k2 (by simp) (by simp)
          replace b1 := (k2.block _ (lt_of_block b1) (by simp)).trans b1
          replace G1 := G1.keepX k2 (by intro i hi; cases hi)
          replace b2 := (k2.block _ (lt_of_block b2) (by simp)).trans b2
          replace G2 := G2.keepX k2 (by intro i hi; cases hi)
          replace hK := kp_up hK k2 (by intro i hi; cases hi)
          replace hsz := Nat.le_trans hsz k2.size
          clear k2
          go_wp2_with fail
          refine (hsm1 _ hM).mono ?_
          rintro e wb ⟨rfl, k2⟩
          replace hM := hM.keep k2 (by simp) (by simp)
          replace hC := hC.keep k2 (by simp) (by simp)
          replace b1 := (k2.block _ (lt_of_block b1) (by simp)).trans b1
          replace G1 := G1.keepX k2 (by intro i hi; cases hi)
          replace b2 := (k2.block _ (lt_of_block b2) (by simp)).trans b2
          replace G2 := G2.keepX k2 (by intro i hi; cases hi)
          replace hK := kp_up hK k2 (by intro i hi; cases hi)
          replace hsz := Nat.le_trans hsz k2.size
          clear k2
          go_wp2_with fail
          refine (live_true _ (htab.keep (k0.trans hK))).mono ?_
          rintro e wl ⟨rfl, kl⟩
          have hkl := (k0.trans hK).trans kl
          clear kl
          go_wp2_with fail
          go_ret
          exact ⟨rfl, hkl⟩
        have hd2b : (d1 == 2) = false := by simpa using hd2
        obtain rfl : ST = S0 := HC.out.2 (fun h => h.2.elim hd0 hd2)
        clear hc hd0 hd2
        go_wp2_with fail
        obtain ⟨u2, hu⟩ : ∃ u, u = vw2.alloc (.cells #[.int .i64 A2.code, .string A2.val, .slice av2 A2.keys.length cv2] 37) := ⟨_, rfl⟩
        have ku : Kp [] vw2 u2 := hu ▸ (Kp.refl _ _).alloc _
        obtain ⟨p2, hp⟩ : ∃ p, p = vw2.heap.size := ⟨_, rfl⟩
        have b2 : u2.heap[p2]? = some (.cells #[.int .i64 A2.code, .string A2.val, .slice av2 A2.keys.length cv2] 37 (0, 0)) := by rw [hu, hp]; exact block_new _ _
        have g2 : B0 ≤ p2 := by rw [hp]; exact hsz
        replace G2 := G2.keepX ku (by intro j hj; cases hj)
        rw [← hu]
        try rw [← hp]
        clear hu hp
        replace hM := hM.keep ku (by simp) (by simp)
        replace hC := hC.keep ku (by simp) (by simp)
        replace b1 := (ku.block _ (lt_of_block b1) (by simp)).trans b1
        replace G1 := G1.keepX ku (by intro i hi; cases hi)
        replace hK := kp_up hK ku (by intro i hi; cases hi)
        replace hsz := Nat.le_trans hsz ku.size
        clear ku
        refine (rsame16 _ G1 G2 a1).mono ?_
        rintro e w8 ⟨rfl, k2⟩
        rw [decide_eq_true HE.out]
        replace hM := hM.keep k2 (by simp) (by simp)
        replace hC := hC.keep k2 (by simp) (by simp)
        replace b1 := (k2.block _ (lt_of_block b1) (by simp)).trans b1
        replace G1 := G1.keepX k2 (by intro i hi; cases hi)
        replace b2 := (k2.block _ (lt_of_block b2) (by simp)).trans b2
        replace G2 := G2.keepX k2 (by intro i hi; cases hi)
        replace hK := kp_up hK k2 (by intro i hi; cases hi)
        replace hsz := Nat.le_trans hsz k2.size
        clear k2
        go_wp2_with fail
        refine (hsm1 _ hM).mono ?_
        rintro e w9 ⟨rfl, k2⟩
        replace hM := hM.keep k2 (by simp) (by simp)
        replace hC := hC.keep k2 (by simp) (by simp)
        replace b1 := (k2.block _ (lt_of_block b1) (by simp)).trans b1
        replace G1 := G1.keepX k2 (by intro i hi; cases hi)
        replace b2 := (k2.block _ (lt_of_block b2) (by simp)).trans b2
        replace G2 := G2.keepX k2 (by intro i hi; cases hi)
        replace hK := kp_up hK k2 (by intro i hi; cases hi)
        replace hsz := Nat.le_trans hsz k2.size
        clear k2
        go_wp2_with fail
        refine (hsc1 _ _ _ hC).mono ?_
        rintro e wa ⟨rfl, k2⟩
        replace hM := hM.keep k2 (by simp) (by simp)
        replace hC := hC.keep k2 (by simp) (by simp)
        replace b1 := (k2.block _ (lt_of_block b1) (by simp)).trans b1
        replace G1 := G1.keepX k2 (by intro i hi; cases hi)
        replace b2 := (k2.block _ (lt_of_block b2) (by simp)).trans b2
        replace G2 := G2.keepX k2 (by intro i hi; cases hi)
        replace hK := kp_up hK k2 (by intro i hi; cases hi)
        replace hsz := Nat.le_trans hsz k2.size
        clear k2
        go_wp2_with fail
        refine (hsm1 _ hM).mono ?_
        rintro e wb ⟨rfl, k2⟩
        replace hM := hM.keep k2 (by simp) (by simp)
        replace hC := hC.keep k2 (by simp) (by simp)
        replace b1 := (k2.block _ (lt_of_block b1) (by simp)).trans b1
        replace G1 := G1.keepX k2 (by intro i hi; cases hi)
        replace b2 := (k2.block _ (lt_of_block b2) (by simp)).trans b2
        replace G2 := G2.keepX k2 (by intro i hi; cases hi)
        replace hK := kp_up hK k2 (by intro i hi; cases hi)
        replace hsz := Nat.le_trans hsz k2.size
        clear k2
        go_wp2_with fail
        refine (live_true _ (htab.keep (k0.trans hK))).mono ?_
        rintro e wl ⟨rfl, kl⟩
        have hkl := (k0.trans hK).trans kl
        clear kl
        go_wp2_with fail
        go_ret
        exact ⟨rfl, hkl⟩
      have hcb : (A1.code == 0) = false := by simpa using hc
      obtain rfl : ST = S0 := HC.out.2 (fun h => hc h.1)
      clear hc
      go_wp2_with fail
      obtain ⟨u2, hu⟩ : ∃ u, u = vw2.alloc (.cells #[.int .i64 A2.code, .string A2.val, .slice av2 A2.keys.length cv2] 37) := ⟨_, rfl⟩
      have ku : Kp [] vw2 u2 := hu ▸ (Kp.refl _ _).alloc _
      obtain ⟨p2, hp⟩ : ∃ p, p = vw2.heap.size := ⟨_, rfl⟩
      have b2 : u2.heap[p2]? = some (.cells #[.int .i64 A2.code, .string A2.val, .slice av2 A2.keys.length cv2] 37 (0, 0)) := by rw [hu, hp]; exact block_new _ _
      have g2 : B0 ≤ p2 := by rw [hp]; exact hsz
      replace G2 := G2.keepX ku (by intro j hj; cases hj)
      rw [← hu]
      try rw [← hp]
      clear hu hp
      replace hM := hM.keep ku (by simp) (by simp)
      replace hC := hC.keep ku (by simp) (by simp)
      replace b1 := (ku.block _ (lt_of_block b1) (by simp)).trans b1
      replace G1 := G1.keepX ku (by intro i hi; cases hi)
      replace hK := kp_up hK ku (by intro i hi; cases hi)
      replace hsz := Nat.le_trans hsz ku.size
      clear ku
      refine (rsame16 _ G1 G2 a1).mono ?_
      rintro e w8 ⟨rfl, k2⟩
      rw [decide_eq_true HE.out]
      replace hM := hM.keep k2 (by simp) (by simp)
      replace hC := hC.keep k2 (by simp) (by simp)
      replace b1 := (k2.block _ (lt_of_block b1) (by simp)).trans b1
      replace G1 := G1.keepX k2 (by intro i hi; cases hi)
      replace b2 := (k2.block _ (lt_of_block b2) (by simp)).trans b2
      replace G2 := G2.keepX k2 (by intro i hi; cases hi)
      replace hK := kp_up hK k2 (by intro i hi; cases hi)
      replace hsz := Nat.le_trans hsz k2.size
      clear k2
      go_wp2_with fail
      refine (hsm1 _ hM).mono ?_
      rintro e w9 ⟨rfl, k2⟩
      replace hM := hM.keep k2 (by simp) (by simp)
      replace hC := hC.keep k2 (by simp) (by simp)
      replace b1 := (k2.block _ (lt_of_block b1) (by simp)).trans b1
      replace G1 := G1.keepX k2 (by intro i hi; cases hi)
      replace b2 := (k2.block _ (lt_of_block b2) (by simp)).trans b2
      replace G2 := G2.keepX k2 (by intro i hi; cases hi)
      replace hK := kp_up hK k2 (by intro i hi; cases hi)
      replace hsz := Nat.le_trans hsz k2.size
      clear k2
      go_wp2_with fail
      refine (hsc1 _ _ _ hC).mono ?_
      rintro e wa ⟨rfl, k2⟩
      replace hM := hM.keep k2 (by simp) (by simp)
      replace hC := hC.keep k2 (by simp) (by simp)
      replace b1 := (k2.block _ (lt_of_block b1) (by simp)).trans b1
      replace G1 := G1.keepX k2 (by intro i hi; cases hi)
      replace b2 := (k2.block _ (lt_of_block b2) (by simp)).trans b2
      replace G2 := G2.keepX k2 (by intro i hi; cases hi)
      replace hK := kp_up hK k2 (by intro i hi; cases hi)
      replace hsz := Nat.le_trans hsz k2.size
      clear k2
      go_wp2_with fail
      refine (hsm1 _ hM).mono ?_
      rintro e wb ⟨rfl, k2⟩
      replace hM := hM.keep k2 (by simp) (by simp)
      replace hC := hC.keep k2 (by simp) (by simp)
      replace b1 := (k2.block _ (lt_of_block b1) (by simp)).trans b1
      replace G1 := G1.keepX k2 (by intro i hi; cases hi)
      replace b2 := (k2.block _ (lt_of_block b2) (by simp)).trans b2
      replace G2 := G2.keepX k2 (by intro i hi; cases hi)
      replace hK := kp_up hK k2 (by intro i hi; cases hi)
      replace hsz := Nat.le_trans hsz k2.size
      clear k2
      go_wp2_with fail
      refine (live_true _ (htab.keep (k0.trans hK))).mono ?_
      rintro e wl ⟨rfl, kl⟩
      have hkl := (k0.trans hK).trans kl
      clear kl
      go_wp2_with fail
      go_ret
      exact ⟨rfl, hkl⟩
set_option maxRecDepth 100000 in
theorem keeps_lifted (os : Os) (started : os.Started) (H : Type) (enc : TypeId × Value → H) :
    ReturnsInHanded {} Tryd.checked os 5 .any (fun w args => (Rows.modelKeepsSpec.pre enc Tryd.prog Tryd.f5 [] false w args ∧ laidMetH Tryd.prog laidAll w) ∧ sizedMet enc Tryd.prog Tryd.f5 (OpenSpec.ofChange Rows.modelKeepsSpec) false w args) (Rows.modelKeepsSpec.post enc Tryd.prog Tryd.f5 false true false false) := by
  refine law_laid Rows.modelKeepsSpec laidAll Tryd.func5 (by kernel_rfl) Tryd.underlying4 rfl (by decide +kernel) rfl ?_ ?_ os started H enc
    (ChangeSpec.witness_shaped (enc := enc) (C := Tryd.checked) (os := os) (X := fun w _ => laidMetH Tryd.prog laidAll w) false (World.laidAll Tryd.prog os laidAll) #[.slice Option.none 0 0, .agg #[.int .i64 0, .string ⟨#[]⟩, .string ⟨#[]⟩]] 8 (World.laidAll_os _ _ _)
      (World.shaped_of_ZipB (by kernel_rfl) (by kernel_rfl)) (by kernel_rfl) (by kernel_rfl) (by kernel_rfl)
      (by rw [MakeChecks.laidMetH_plain _ _ _ (by kernel_rfl)]; exact laidMet_laidAll _ (by kernel_rfl) (by kernel_rfl)))
  · intro H ds hl
    match ds, hl with | [d, e], _ => exact ⟨rfl, rfl, rfl⟩
  · intro W vs hvs hsh hL
    have htab := tab_of_laid hL
    obtain ⟨a, vs', base, rfl, hok, hrd, hvs⟩ := hvs; obtain ⟨b, vs', base', rfl, hok', hrd', rfl⟩ := hvs; obtain ⟨rs, hr⟩ := reqs_arg hok hrd; obtain ⟨d1, k1, v1, rfl⟩ := req_arg hok' hrd'; exact keeps_walk _ rs d1 k1 v1 W hr htab
theorem keeps_holds : Rows.modelKeepsRow.holds Tryd.pinned (OpenSpec.ofChange Rows.modelKeepsSpec) :=
  OpenClaim.holds_of_wide 5 Tryd.f5 rfl rfl rfl rfl rfl rfl rfl ⟨rfl, rfl, rfl, rfl, rfl⟩ rfl rfl rfl rfl rfl (by kernel_rfl) Tryd.func5 (by kernel_rfl)
    (of_decide_eq_true (by kernel_rfl)) (by unfold Func.isWrapper; first | (rw [if_pos (by decide +kernel)]; kernel_rfl) | (rw [if_neg (by decide +kernel)]; exact ⟨rfl, rfl⟩))
    (fun os started H enc _ => keeps_lifted os started H enc)
theorem keeps_card_holds : Rows.ModelKeepsCardSaid :=
  Claim7.holds_tied_plain_at .later [] [.data, .data, .data] true (true, "2cefe6d09119607abfe5cfff860bee4d30d7b53d56c22658d1f12a51c6d1870c") true keeps_holds (fun _ h => by cases h) (by kernel_rfl) (fun _ h => by cases h) modelKeeps_row_tie rfl ⟨rfl, rfl⟩ (by kernel_rfl) rfl
    (fun f fn hf hfn => by
      obtain rfl : f = 5 := Option.some.inj ((show Tryd.prog.funcNamed "sluicegate/sluicegatelaw16.ModelKeeps" = some 5 by kernel_rfl).symm.trans hf) |>.symm
      obtain rfl : fn = Tryd.f5 := (Option.some.inj (Tryd.func5.symm.trans hfn)).symm
      exact ⟨by kernel_rfl, fun j t ht => by
        have hall : (Tryd.f5.params.toList.all fun u => !Tryd.prog.wantsStandIn u) = true := by kernel_rfl
        exact (show Tryd.prog.wantsStandIn t = false by simpa using List.all_eq_true.1 hall t (by simpa using Array.mem_of_getElem? ht))⟩)
    (by kernel_rfl)
#print axioms keeps_card_holds
end Go.Proofs.YtlomniffpjndfaaDoor
