/-
  ModelOrder: requests of two keys do not hang on one another. For every list of requests, every two requests.
  Conditions: none beyond the row's own.
-/
import Derived.Test.YtlomniffpjndfaaDoorMdY
namespace Go.Proofs.YtlomniffpjndfaaDoor
open Go.ChangeShapes Go.WideShapes Go.ChangeAt Go.RowKit Go.WideElems Go.Sort

set_option maxHeartbeats 4000000 in
set_option maxRecDepth 100000 in
theorem order_walk (v : Value) (rs : List RqD) (d1 : Int) (k1 v1 : ByteArray) (d2 : Int) (k2' v2 : ByteArray) (w : World) (hr : ReqsAt w.heap.size w v rs) (htab : Lib.TabIs Tryd.prog w "internal/strconv.uint64pow10" .u64 Lib.pow10Tab) :
    Calls Tryd.prog 7 #[v, ReqV d1 k1 v1, ReqV d2 k2' v2] w fun e w' => e = .returned (.bool true) ∧ Kp [] w w' := by
  obtain ⟨va, vc, rfl⟩ := slice_ex hr
  obtain ⟨w0, hw0⟩ : ∃ w0, w0 = (w.alloc (.cells #[.int .i64 d1, .string k1, .string v1] 32)).alloc (.cells #[.int .i64 d2, .string k2', .string v2] 32) := ⟨_, rfl⟩
  have k0 : Kp [] w w0 := hw0 ▸ ((Kp.refl _ _).alloc _).alloc _
  have b1 := block_new (w.alloc (.cells #[.int .i64 d1, .string k1, .string v1] 32)) (.cells #[.int .i64 d2, .string k2', .string v2] 32)
  rw [World.size_alloc, ← hw0] at b1
  have b0 : w0.heap[w.heap.size]? = some (.cells #[.int .i64 d1, .string k1, .string v1] 32 (0, 0)) := by
    rw [hw0]; exact (((Kp.refl [] _).alloc _).block _ (lt_of_block (block_new _ _)) (by simp)).trans (block_new _ _)
  have c0 := Kp.cellAt (X := []) (cell_of_cells (o := 0) (v := .int .i64 d1) b0 rfl) (by simp)
  have c1 := Kp.cellAt (X := []) (cell_of_cells (o := 1) (v := .string k1) b0 rfl) (by simp)
  have c2 := Kp.cellAt (X := []) (cell_of_cells (o := 2) (v := .string v1) b0 rfl) (by simp)
  have d0 := Kp.cellAt (X := []) (cell_of_cells (o := 0) (v := .int .i64 d2) b1 rfl) (by simp)
  have d1' := Kp.cellAt (X := []) (cell_of_cells (o := 1) (v := .string k2') b1 rfl) (by simp)
  have d2' := Kp.cellAt (X := []) (cell_of_cells (o := 2) (v := .string v2) b1 rfl) (by simp)
  have hk00 := Kp.refl [] w0
  have HW0 := Lib.hid hw0
  have htab0 := htab.keep k0
  replace hr := hr.keep0 k0
  clear hw0 b0 b1
  by_cases hlen : 20 < rs.length
  · have hlenI : (20 : Int) < (rs.length : Int) := by omega
    go_enter Tryd.func7, Tryd.ntmps7
    go_wp2_with fail
    rw [← HW0.out]
    refine (live_true _ (htab.keep (k0))).mono ?_
    rintro e wl ⟨rfl, kl⟩
    have hkl := (k0).trans kl
    clear kl
    go_wp2_with fail
    go_ret
    exact ⟨rfl, hkl⟩
  have hlenI : (rs.length : Int) ≤ 20 := by omega
  obtain ⟨S1, hS1⟩ : ∃ S, S = smallQ k1 v1 := ⟨_, rfl⟩
  obtain ⟨S2, hS2⟩ : ∃ S, S = smallQ k2' v2 := ⟨_, rfl⟩
  have hs1 := fun W => rsmall16 d1 k1 v1 W
  have hs2 := fun W => rsmall16 d2 k2' v2 W
  rw [← hS1] at hs1
  rw [← hS2] at hs2
  have HS1 := Lib.hid hS1
  have HS2 := Lib.hid hS2
  clear hS1 hS2
  go_enter Tryd.func7, Tryd.ntmps7
  go_wp2_with fail
  rw [← HW0.out]
  refine (hs1 _).mono ?_
  rintro e x1 ⟨rfl, hK⟩
  clear hs1 hk00
  cases S1 with
  | false =>
    go_wp2_with fail
    refine (live_true _ (htab.keep (k0.trans hK))).mono ?_
    rintro e wl ⟨rfl, kl⟩
    have hkl := (k0.trans hK).trans kl
    clear kl
    go_wp2_with fail
    go_ret
    exact ⟨rfl, hkl⟩
  | true =>
  obtain ⟨hk1, hv1⟩ := small_q HS1.out.symm
  go_wp2_with fail
  refine (hs2 _).mono ?_
  rintro e x2 ⟨rfl, k2⟩
  replace hK := hK.trans k2
  clear hs2 k2
  cases S2 with
  | false =>
    go_wp2_with fail
    refine (live_true _ (htab.keep (k0.trans hK))).mono ?_
    rintro e wl ⟨rfl, kl⟩
    have hkl := (k0.trans hK).trans kl
    clear kl
    go_wp2_with fail
    go_ret
    exact ⟨rfl, hkl⟩
  | true =>
  obtain ⟨hk2, hv2⟩ := small_q HS2.out.symm
  by_cases hke : k1 = k2'
  · subst hke
    go_wp2_with fail
    refine (live_true _ (htab.keep (k0.trans hK))).mono ?_
    rintro e wl ⟨rfl, kl⟩
    have hkl := (k0.trans hK).trans kl
    clear kl
    go_wp2_with fail
    go_ret
    exact ⟨rfl, hkl⟩
  have hkb := bytes_ne hke
  by_cases h14 : d1 = 4
  · subst h14
    go_wp2_with fail
    refine (live_true _ (htab.keep (k0.trans hK))).mono ?_
    rintro e wl ⟨rfl, kl⟩
    have hkl := (k0.trans hK).trans kl
    clear kl
    go_wp2_with fail
    go_ret
    exact ⟨rfl, hkl⟩
  have h14b : (d1 == 4) = false := by simpa using h14
  by_cases h24 : d2 = 4
  · subst h24
    go_wp2_with fail
    refine (live_true _ (htab.keep (k0.trans hK))).mono ?_
    rintro e wl ⟨rfl, kl⟩
    have hkl := (k0.trans hK).trans kl
    clear kl
    go_wp2_with fail
    go_ret
    exact ⟨rfl, hkl⟩
  have h24b : (d2 == 4) = false := by simpa using h24
  have HKE := Lib.hid hke
  have H14 := Lib.hid h14
  have H24 := Lib.hid h24
  clear hke h14 h24
  go_wp2_with fail
  refine (mnew _).mono ?_
  rintro e w3 ⟨mb, eb, rfl, hM, k3, hmb, heb⟩
  have hbs := hK.size
  replace hK := hK.trans k3
  clear k3
  have hmw : w0.heap.size ≤ mb := by omega
  have hew : w0.heap.size ≤ eb := by omega
  clear hmb heb hbs
  go_wp2_with fail
  go_loopg [8] rs.length (fun g i wr => ∃ n : Nat, n + g = rs.length ∧ i = .int .i64 n ∧ Kp [] w0 wr ∧ MdAt mb eb wr (Mdl.run (rs.take n)))
  case atStart => exact ⟨0, by omega, rfl, hK, hM⟩
  case round =>
    clear hK hM
    obtain ⟨n, hn, rfl, hK, hM⟩ := hrel
    have HN := Lib.hid hn
    by_cases hlt : n < rs.length
    · obtain ⟨g', rfl⟩ : ∃ g', gk = g' + 1 := ⟨gk - 1, by omega⟩
      clear hn
      have hltI : (n : Int) < (rs.length : Int) := by omega
      obtain ⟨g, o, c, hv', f0, f1, f2⟩ := req_at hr n hlt
      simp only [Value.slice.injEq] at hv'
      obtain ⟨rfl, -, rfl⟩ := hv'
      obtain ⟨q, hq⟩ : ∃ q, q = rs[n] := ⟨_, rfl⟩
      have hnx := run_next hlt
      rw [← hq] at f0 f1 f2 hnx
      obtain ⟨qd, qk, qv⟩ := q
      simp only at f0 f1 f2
      have r0 := Kp.cellAt (X := []) f0 (by simp)
      have r1 := Kp.cellAt (X := []) f1 (by simp)
      have r2 := Kp.cellAt (X := []) f2 (by simp)
      have HQR := Lib.hid hq
      have HNX := Lib.hid hnx
      clear f0 f1 f2 hq hnx
      obtain ⟨SM, hSM⟩ : ∃ SM, SM = smallQ qk qv := ⟨_, rfl⟩
      have hs3 := fun W => rsmall16 qd qk qv W
      rw [← hSM] at hs3
      have HSM := Lib.hid hSM
      clear hSM
      go_wp2_with fail
      refine (hs3 _).mono ?_
      rintro e w4 ⟨rfl, k4⟩
      replace hM := hM.keep0 k4
      replace hK := hK.trans k4
      clear hs3 k4
      cases SM with
      | false =>
        go_wp2_with fail
        refine (live_true _ (htab.keep (k0.trans hK))).mono ?_
        rintro e wl ⟨rfl, kl⟩
        have hkl := (k0.trans hK).trans kl
        clear kl
        go_wp2_with fail
        go_ret
        exact ⟨rfl, hkl⟩
      | true =>
        obtain ⟨hqk, hqv⟩ := small_q HSM.out.symm
        go_wp2_with fail
        refine (mdoq sum_ok (run_short _) (by have := run_take rs n; omega) qd qk qv hqk hqv _ hM (htab0.keep hK)).mono ?_
        rintro e w5 ⟨av, cv, rfl, -, hM2, k5⟩
        clear hM
        replace hK := kp_up hK k5 (by simp only [List.mem_singleton]; omega)
        clear k5
        have HMM := Lib.hid hM2
        clear hM2
        go_wp2_with fail
        go_roundg g'
        case rel => exact ⟨n + 1, st_next HN.out, by go_num, hK, by rw [HNX.out]; exact HMM.out⟩
        case measure => omega
    · obtain rfl : n = rs.length := by omega
      obtain rfl : gk = 0 := by omega
      clear hn hlt
      obtain ⟨M, hMd⟩ : ∃ M, M = Mdl.run (rs.take rs.length) := ⟨_, rfl⟩
      have hMs : Short M := hMd ▸ run_short _
      have hMn : Nod M := hMd ▸ run_nod _
      have hMl : M.length ≤ 30 := by have := run_take rs rs.length; rw [← hMd] at this; omega
      rw [← hMd] at hM
      clear hMd
      go_wp2_with fail
      have hl0 := hM.lts
      refine (mcopy _ hM).mono ?_
      rintro e w6 ⟨mb2, eb2, rfl, hC, k2, h1, h2⟩
      obtain ⟨B0, hB0⟩ : ∃ B, B = w6.heap.size := ⟨_, rfl⟩
      have hl1 := hC.lts
      have hsz : B0 ≤ w6.heap.size := by omega
      have hl2 := k2.size
      have hq0 : w0.heap.size ≤ eb2 := by have := hK.size; omega
      have q1 : mb < B0 ∧ eb < B0 ∧ mb2 < B0 ∧ eb2 < B0 := by omega
      have q2 : mb ≠ eb2 ∧ eb ≠ eb2 ∧ mb2 ≠ eb ∧ eb2 ≠ eb := by omega
      replace hM := hM.keep0 k2
      replace hK := hK.trans k2
      clear hl0 hl1 hl2 h1 h2 hB0 k2
      go_wp2_with fail
      refine (mdoq sum_ok hMs (by omega) d1 k1 v1 hk1 hv1 _ hM (htab0.keep hK)).mono ?_
      rintro e vw1 ⟨av1, cv1, rfl, G1, hM2, k2⟩
      clear hM
      obtain ⟨A1, hA1⟩ : ∃ A, A = Mdl.answer sumF M d1 k1 v1 := ⟨_, rfl⟩
      rw [← hA1] at G1 ⊢
      have HA1 := Lib.hid hA1
      clear hA1
      replace G1 := G1.base hsz
      replace hC := hC.keep k2 (by simp only [List.mem_singleton]; omega) (by simp only [List.mem_singleton]; omega)
      replace hK := kp_up hK k2 (by intro i hi; simp only [List.mem_singleton] at hi; omega)
      replace hsz := Nat.le_trans hsz k2.size
      have hM := hM2
      clear hM2 k2

      have hk7 : Kp [] w0 (vw1.alloc (.cells #[.int .i64 A1.code, .string A1.val, .slice av1 A1.keys.length cv1] 37)) := hK.alloc _
      go_wp2_with fail
      obtain ⟨u1, hu⟩ : ∃ u, u = vw1.alloc (.cells #[.int .i64 A1.code, .string A1.val, .slice av1 A1.keys.length cv1] 37) := ⟨_, rfl⟩
      have ku : Kp [] vw1 u1 := hu ▸ (Kp.refl _ _).alloc _
      obtain ⟨p1, hp⟩ : ∃ p, p = vw1.heap.size := ⟨_, rfl⟩
      have b1 : u1.heap[p1]? = some (.cells #[.int .i64 A1.code, .string A1.val, .slice av1 A1.keys.length cv1] 37 (0, 0)) := by rw [hu, hp]; exact block_new _ _
      have g1 : B0 ≤ p1 := by rw [hp]; exact hsz
      replace G1 := G1.keepX ku (by intro j hj; cases hj)
      rw [← hu]
      try rw [← hp]
      clear hu hp
      replace hM := hM.keep ku (by simp) (by simp)
      replace hC := hC.keep ku (by simp) (by simp)
      replace hK := kp_up hK ku (by intro i hi; cases hi)
      replace hsz := Nat.le_trans hsz ku.size
      clear ku
      refine (mdoq sum_ok (after_short hMs _ _ _) (by have := after_len M d1 k1 v1; omega) d2 k2' v2 hk2 hv2 _ hM (htab0.keep hK)).mono ?_
      rintro e vw2 ⟨av2, cv2, rfl, G2, hM2, k2⟩
      clear hM
      obtain ⟨A2, hA2⟩ : ∃ A, A = Mdl.answer sumF (M.after d1 k1 v1) d2 k2' v2 := ⟨_, rfl⟩
      rw [← hA2] at G2 ⊢
      have HA2 := Lib.hid hA2
      clear hA2
      replace G2 := G2.base hsz
      replace hC := hC.keep k2 (by simp only [List.mem_singleton]; omega) (by simp only [List.mem_singleton]; omega)
      replace b1 := (k2.block _ (lt_of_block b1) (by simp only [List.mem_singleton]; have := g1; omega)).trans b1
      replace G1 := G1.keepX k2 (by intro i hi; simp only [List.mem_singleton] at hi; omega)
      replace hK := kp_up hK k2 (by intro i hi; simp only [List.mem_singleton] at hi; omega)
      replace hsz := Nat.le_trans hsz k2.size
      have hM := hM2
      clear hM2 k2

      have hk7 : Kp [] w0 (vw2.alloc (.cells #[.int .i64 A2.code, .string A2.val, .slice av2 A2.keys.length cv2] 37)) := hK.alloc _
      go_wp2_with fail
      obtain ⟨u2, hu⟩ : ∃ u, u = vw2.alloc (.cells #[.int .i64 A2.code, .string A2.val, .slice av2 A2.keys.length cv2] 37) := ⟨_, rfl⟩
      have ku : Kp [] vw2 u2 := hu ▸ (Kp.refl _ _).alloc _
      obtain ⟨p2, hp⟩ : ∃ p, p = vw2.heap.size := ⟨_, rfl⟩
      have b2 : u2.heap[p2]? = some (.cells #[.int .i64 A2.code, .string A2.val, .slice av2 A2.keys.length cv2] 37 (0, 0)) := by rw [hu, hp]; exact block_new _ _
      have g2 : B0 ≤ p2 := by rw [hp]; exact hsz
      replace G2 := G2.keepX ku (by intro j hj; cases hj)
      rw [← hu]
      try rw [← hp]
      clear hu hp
      replace hM := hM.keep ku (by simp) (by simp)
      replace hC := hC.keep ku (by simp) (by simp)
      replace b1 := (ku.block _ (lt_of_block b1) (by simp)).trans b1
      replace G1 := G1.keepX ku (by intro i hi; cases hi)
      replace hK := kp_up hK ku (by intro i hi; cases hi)
      replace hsz := Nat.le_trans hsz ku.size
      clear ku
      refine (mdoq sum_ok hMs (by omega) d2 k2' v2 hk2 hv2 _ hC (htab0.keep hK)).mono ?_
      rintro e vw3 ⟨av3, cv3, rfl, G3, hM2, k2⟩
      clear hC
      obtain ⟨A3, hA3⟩ : ∃ A, A = Mdl.answer sumF M d2 k2' v2 := ⟨_, rfl⟩
      rw [← hA3] at G3 ⊢
      have HA3 := Lib.hid hA3
      clear hA3
      replace G3 := G3.base hsz
      replace hM := hM.keep k2 (by simp only [List.mem_singleton]; omega) (by simp only [List.mem_singleton]; omega)
      replace b1 := (k2.block _ (lt_of_block b1) (by simp only [List.mem_singleton]; have := g1; omega)).trans b1
      replace G1 := G1.keepX k2 (by intro i hi; simp only [List.mem_singleton] at hi; omega)
      replace b2 := (k2.block _ (lt_of_block b2) (by simp only [List.mem_singleton]; have := g2; omega)).trans b2
      replace G2 := G2.keepX k2 (by intro i hi; simp only [List.mem_singleton] at hi; omega)
      replace hK := kp_up hK k2 (by intro i hi; simp only [List.mem_singleton] at hi; omega)
      replace hsz := Nat.le_trans hsz k2.size
      have hC := hM2
      clear hM2 k2

      have hk7 : Kp [] w0 (vw3.alloc (.cells #[.int .i64 A3.code, .string A3.val, .slice av3 A3.keys.length cv3] 37)) := hK.alloc _
      go_wp2_with fail
      obtain ⟨u3, hu⟩ : ∃ u, u = vw3.alloc (.cells #[.int .i64 A3.code, .string A3.val, .slice av3 A3.keys.length cv3] 37) := ⟨_, rfl⟩
      have ku : Kp [] vw3 u3 := hu ▸ (Kp.refl _ _).alloc _
      obtain ⟨p3, hp⟩ : ∃ p, p = vw3.heap.size := ⟨_, rfl⟩
      have b3 : u3.heap[p3]? = some (.cells #[.int .i64 A3.code, .string A3.val, .slice av3 A3.keys.length cv3] 37 (0, 0)) := by rw [hu, hp]; exact block_new _ _
      have g3 : B0 ≤ p3 := by rw [hp]; exact hsz
      replace G3 := G3.keepX ku (by intro j hj; cases hj)
      rw [← hu]
      try rw [← hp]
      clear hu hp
      replace hC := hC.keep ku (by simp) (by simp)
      replace hM := hM.keep ku (by simp) (by simp)
      replace b1 := (ku.block _ (lt_of_block b1) (by simp)).trans b1
      replace G1 := G1.keepX ku (by intro i hi; cases hi)
      replace b2 := (ku.block _ (lt_of_block b2) (by simp)).trans b2
      replace G2 := G2.keepX ku (by intro i hi; cases hi)
      replace hK := kp_up hK ku (by intro i hi; cases hi)
      replace hsz := Nat.le_trans hsz ku.size
      clear ku
      refine (mdoq sum_ok (after_short hMs _ _ _) (by have := after_len M d2 k2' v2; omega) d1 k1 v1 hk1 hv1 _ hC (htab0.keep hK)).mono ?_
      rintro e vw4 ⟨av4, cv4, rfl, G4, hM2, k2⟩
      clear hC
      obtain ⟨A4, hA4⟩ : ∃ A, A = Mdl.answer sumF (M.after d2 k2' v2) d1 k1 v1 := ⟨_, rfl⟩
      rw [← hA4] at G4 ⊢
      have HA4 := Lib.hid hA4
      clear hA4
      replace G4 := G4.base hsz
      replace hM := hM.keep k2 (by simp only [List.mem_singleton]; omega) (by simp only [List.mem_singleton]; omega)
      replace b1 := (k2.block _ (lt_of_block b1) (by simp only [List.mem_singleton]; have := g1; omega)).trans b1
      replace G1 := G1.keepX k2 (by intro i hi; simp only [List.mem_singleton] at hi; omega)
      replace b2 := (k2.block _ (lt_of_block b2) (by simp only [List.mem_singleton]; have := g2; omega)).trans b2
      replace G2 := G2.keepX k2 (by intro i hi; simp only [List.mem_singleton] at hi; omega)
      replace b3 := (k2.block _ (lt_of_block b3) (by simp only [List.mem_singleton]; have := g3; omega)).trans b3
      replace G3 := G3.keepX k2 (by intro i hi; simp only [List.mem_singleton] at hi; omega)
      replace hK := kp_up hK k2 (by intro i hi; simp only [List.mem_singleton] at hi; omega)
      replace hsz := Nat.le_trans hsz k2.size
      have hC := hM2
      clear hM2 k2

      have x1 := Kp.cellAt (X := []) (cell_of_cells (o := 0) (v := .int .i64 A1.code) b1 rfl) (by simp)
      have x1b := Kp.cellAt (X := []) (cell_of_cells (o := 1) (v := .string A1.val) b1 rfl) (by simp)
      have x1c := Kp.cellAt (X := []) (cell_of_cells (o := 2) (v := .slice av1 A1.keys.length cv1) b1 rfl) (by simp)
      have x2 := Kp.cellAt (X := []) (cell_of_cells (o := 0) (v := .int .i64 A2.code) b2 rfl) (by simp)
      have x2b := Kp.cellAt (X := []) (cell_of_cells (o := 1) (v := .string A2.val) b2 rfl) (by simp)
      have x2c := Kp.cellAt (X := []) (cell_of_cells (o := 2) (v := .slice av2 A2.keys.length cv2) b2 rfl) (by simp)
      have x3 := Kp.cellAt (X := []) (cell_of_cells (o := 0) (v := .int .i64 A3.code) b3 rfl) (by simp)
      have x3b := Kp.cellAt (X := []) (cell_of_cells (o := 1) (v := .string A3.val) b3 rfl) (by simp)
      have x3c := Kp.cellAt (X := []) (cell_of_cells (o := 2) (v := .slice av3 A3.keys.length cv3) b3 rfl) (by simp)
      have hk6 : Kp [] vw4 (vw4.alloc (.cells #[.int .i64 A4.code, .string A4.val, .slice av4 A4.keys.length cv4] 37)) := (Kp.refl _ _).alloc _
      have hk7 : Kp [] w0 (vw4.alloc (.cells #[.int .i64 A4.code, .string A4.val, .slice av4 A4.keys.length cv4] 37)) := hK.alloc _
      go_wp2_with fail
      obtain ⟨u4, hu⟩ : ∃ u, u = vw4.alloc (.cells #[.int .i64 A4.code, .string A4.val, .slice av4 A4.keys.length cv4] 37) := ⟨_, rfl⟩
      have ku : Kp [] vw4 u4 := hu ▸ (Kp.refl _ _).alloc _
      obtain ⟨p4, hp⟩ : ∃ p, p = vw4.heap.size := ⟨_, rfl⟩
      have b4 : u4.heap[p4]? = some (.cells #[.int .i64 A4.code, .string A4.val, .slice av4 A4.keys.length cv4] 37 (0, 0)) := by rw [hu, hp]; exact block_new _ _
      have g4 : B0 ≤ p4 := by rw [hp]; exact hsz
      replace G4 := G4.keepX ku (by intro j hj; cases hj)
      rw [← hu]
      try rw [← hp]
      clear hu hp
      replace hC := hC.keep ku (by simp) (by simp)
      replace hM := hM.keep ku (by simp) (by simp)
      replace b1 := (ku.block _ (lt_of_block b1) (by simp)).trans b1
      replace G1 := G1.keepX ku (by intro i hi; cases hi)
      replace b2 := (ku.block _ (lt_of_block b2) (by simp)).trans b2
      replace G2 := G2.keepX ku (by intro i hi; cases hi)
      replace b3 := (ku.block _ (lt_of_block b3) (by simp)).trans b3
      replace G3 := G3.keepX ku (by intro i hi; cases hi)
      replace hK := kp_up hK ku (by intro i hi; cases hi)
      replace hsz := Nat.le_trans hsz ku.size
      clear ku
      have e14 : A1 = A4 := by rw [HA1.out, HA4.out]; exact answer_congr H14.out (after_other (fun e => HKE.out e.symm)).symm
      have e23 : A2 = A3 := by rw [HA2.out, HA3.out]; exact answer_congr H24.out (after_other HKE.out)
      have a1 : A1.keys.length ≤ 1000 := by rw [HA1.out]; exact answer_keys _ _ _ _ _
      have a2 : A2.keys.length ≤ 1000 := by rw [HA2.out]; exact answer_keys _ _ _ _ _
      have hst := order_state (d1 := d1) (d2 := d2) (k1 := k1) (k2 := k2') (v1 := v1) (v2 := v2) hMn HKE.out
      have hsm := fun W (h : MdAt mb eb W ((M.after d1 k1 v1).after d2 k2' v2)) => mstate (after_short (after_short hMs _ _ _) _ _ _) (by have := after_len M d1 k1 v1; have := after_len (M.after d1 k1 v1) d2 k2' v2; omega) W h
      have hsc := fun W (h : MdAt mb2 eb2 W ((M.after d2 k2' v2).after d1 k1 v1)) => mstate (after_short (after_short hMs _ _ _) _ _ _) (by have := after_len M d2 k2' v2; have := after_len (M.after d2 k2' v2) d1 k1 v1; omega) W h
      rw [← hst] at hsc
      obtain ⟨ST, hST⟩ : ∃ S, S = SB ((M.after d1 k1 v1).after d2 k2' v2).state := ⟨_, rfl⟩
      rw [← hST] at hsc hsm
      clear hst hST
      have HE14 := Lib.hid e14
      have HE23 := Lib.hid e23
      clear e14 e23
      refine (rsame16 _ G1 G4 a1).mono ?_
      rintro e w7 ⟨rfl, k2⟩
      rw [decide_eq_true HE14.out]
      replace hM := hM.keep k2 (by simp) (by simp)
      replace hC := hC.keep k2 (by simp) (by simp)
      replace b1 := (k2.block _ (lt_of_block b1) (by simp)).trans b1
      replace G1 := G1.keepX k2 (by intro i hi; cases hi)
      replace b2 := (k2.block _ (lt_of_block b2) (by simp)).trans b2
      replace G2 := G2.keepX k2 (by intro i hi; cases hi)
      replace b3 := (k2.block _ (lt_of_block b3) (by simp)).trans b3
      replace G3 := G3.keepX k2 (by intro i hi; cases hi)
      replace b4 := (k2.block _ (lt_of_block b4) (by simp)).trans b4
      replace G4 := G4.keepX k2 (by intro i hi; cases hi)
      replace hK := kp_up hK k2 (by intro i hi; cases hi)
      replace hsz := Nat.le_trans hsz k2.size
      clear k2
      have x2 := cell_of_cells (o := 0) (v := .int .i64 A2.code) b2 rfl
      have x2b := cell_of_cells (o := 1) (v := .string A2.val) b2 rfl
      have x2c := cell_of_cells (o := 2) (v := .slice av2 A2.keys.length cv2) b2 rfl
      have x3 := cell_of_cells (o := 0) (v := .int .i64 A3.code) b3 rfl
      have x3b := cell_of_cells (o := 1) (v := .string A3.val) b3 rfl
      have x3c := cell_of_cells (o := 2) (v := .slice av3 A3.keys.length cv3) b3 rfl
      go_wp2_with fail
      refine (rsame16 _ G2 G3 a2).mono ?_
      rintro e w8 ⟨rfl, k2⟩
      rw [decide_eq_true HE23.out]
      replace hM := hM.keep k2 (by simp) (by simp)
      replace hC := hC.keep k2 (by simp) (by simp)
      replace b1 := (k2.block _ (lt_of_block b1) (by simp)).trans b1
      replace G1 := G1.keepX k2 (by intro i hi; cases hi)
      replace b2 := (k2.block _ (lt_of_block b2) (by simp)).trans b2
      replace G2 := G2.keepX k2 (by intro i hi; cases hi)
      replace b3 := (k2.block _ (lt_of_block b3) (by simp)).trans b3
      replace G3 := G3.keepX k2 (by intro i hi; cases hi)
      replace b4 := (k2.block _ (lt_of_block b4) (by simp)).trans b4
      replace G4 := G4.keepX k2 (by intro i hi; cases hi)
      replace hK := kp_up hK k2 (by intro i hi; cases hi)
      replace hsz := Nat.le_trans hsz k2.size
      clear k2
      go_wp2_with fail
      refine (hsm _ hM).mono ?_
      rintro e w9 ⟨rfl, k2⟩
      replace hM := hM.keep k2 (by simp) (by simp)
      replace hC := hC.keep k2 (by simp) (by simp)
      replace b1 := (k2.block _ (lt_of_block b1) (by simp)).trans b1
      replace G1 := G1.keepX k2 (by intro i hi; cases hi)
      replace b2 := (k2.block _ (lt_of_block b2) (by simp)).trans b2
      replace G2 := G2.keepX k2 (by intro i hi; cases hi)
      replace b3 := (k2.block _ (lt_of_block b3) (by simp)).trans b3
      replace G3 := G3.keepX k2 (by intro i hi; cases hi)
      replace b4 := (k2.block _ (lt_of_block b4) (by simp)).trans b4
      replace G4 := G4.keepX k2 (by intro i hi; cases hi)
      replace hK := kp_up hK k2 (by intro i hi; cases hi)
      replace hsz := Nat.le_trans hsz k2.size
      clear k2
      go_wp2_with fail
      refine (hsc _ hC).mono ?_
      rintro e wa ⟨rfl, k2⟩
      replace hM := hM.keep k2 (by simp) (by simp)
      replace hC := hC.keep k2 (by simp) (by simp)
      replace b1 := (k2.block _ (lt_of_block b1) (by simp)).trans b1
      replace G1 := G1.keepX k2 (by intro i hi; cases hi)
      replace b2 := (k2.block _ (lt_of_block b2) (by simp)).trans b2
      replace G2 := G2.keepX k2 (by intro i hi; cases hi)
      replace b3 := (k2.block _ (lt_of_block b3) (by simp)).trans b3
      replace G3 := G3.keepX k2 (by intro i hi; cases hi)
      replace b4 := (k2.block _ (lt_of_block b4) (by simp)).trans b4
      replace G4 := G4.keepX k2 (by intro i hi; cases hi)
      replace hK := kp_up hK k2 (by intro i hi; cases hi)
      replace hsz := Nat.le_trans hsz k2.size
      clear k2
      go_wp2_with fail
      refine (live_true _ (htab.keep (k0.trans hK))).mono ?_
      rintro e wl ⟨rfl, kl⟩
      have hkl := (k0.trans hK).trans kl
      clear kl
      go_wp2_with fail
      go_ret
      exact ⟨rfl, hkl⟩

set_option maxRecDepth 100000 in
theorem order_lifted (os : Os) (started : os.Started) (H : Type) (enc : TypeId × Value → H) :
    ReturnsInHanded {} Tryd.checked os 7 .any (fun w args => (Rows.modelOrderSpec.pre enc Tryd.prog Tryd.f7 [] false w args ∧ laidMetH Tryd.prog laidAll w) ∧ sizedMet enc Tryd.prog Tryd.f7 (OpenSpec.ofChange Rows.modelOrderSpec) false w args) (Rows.modelOrderSpec.post enc Tryd.prog Tryd.f7 false true false false) := by
  refine law_laid Rows.modelOrderSpec laidAll Tryd.func7 (by kernel_rfl) Tryd.underlying4 rfl (by decide +kernel) rfl ?_ ?_ os started H enc
    (ChangeSpec.witness_shaped (enc := enc) (C := Tryd.checked) (os := os) (X := fun w _ => laidMetH Tryd.prog laidAll w) false (World.laidAll Tryd.prog os laidAll) #[.slice Option.none 0 0, .agg #[.int .i64 0, .string ⟨#[]⟩, .string ⟨#[]⟩], .agg #[.int .i64 0, .string ⟨#[]⟩, .string ⟨#[]⟩]] 8 (World.laidAll_os _ _ _)
      (World.shaped_of_ZipB (by kernel_rfl) (by kernel_rfl)) (by kernel_rfl) (by kernel_rfl) (by kernel_rfl)
      (by rw [MakeChecks.laidMetH_plain _ _ _ (by kernel_rfl)]; exact laidMet_laidAll _ (by kernel_rfl) (by kernel_rfl)))
  · intro H ds hl
    match ds, hl with | [d, e, f], _ => exact ⟨rfl, rfl, rfl⟩
  · intro W vs hvs hsh hL
    have htab := tab_of_laid hL
    obtain ⟨a, vs', base, rfl, hok, hrd, hvs⟩ := hvs; obtain ⟨b, vs', base', rfl, hok', hrd', hvs⟩ := hvs; obtain ⟨c, vs', base'', rfl, hok'', hrd'', rfl⟩ := hvs; obtain ⟨rs, hr⟩ := reqs_arg hok hrd; obtain ⟨d1, k1, v1, rfl⟩ := req_arg hok' hrd'; obtain ⟨d2, k2, v2, rfl⟩ := req_arg hok'' hrd''; exact order_walk _ rs d1 k1 v1 d2 k2 v2 W hr htab
theorem order_holds : Rows.modelOrderRow.holds Tryd.pinned (OpenSpec.ofChange Rows.modelOrderSpec) :=
  OpenClaim.holds_of_wide 7 Tryd.f7 rfl rfl rfl rfl rfl rfl rfl ⟨rfl, rfl, rfl, rfl, rfl⟩ rfl rfl rfl rfl rfl (by kernel_rfl) Tryd.func7 (by kernel_rfl)
    (of_decide_eq_true (by kernel_rfl)) (by unfold Func.isWrapper; first | (rw [if_pos (by decide +kernel)]; kernel_rfl) | (rw [if_neg (by decide +kernel)]; exact ⟨rfl, rfl⟩))
    (fun os started H enc _ => order_lifted os started H enc)
theorem order_card_holds : Rows.ModelOrderCardSaid :=
  Claim7.holds_tied_plain_at .later [] [.data, .data, .data] true (true, "2cefe6d09119607abfe5cfff860bee4d30d7b53d56c22658d1f12a51c6d1870c") true order_holds (fun _ h => by cases h) (by kernel_rfl) (fun _ h => by cases h) modelOrder_row_tie rfl ⟨rfl, rfl⟩ (by kernel_rfl) rfl
    (fun f fn hf hfn => by
      obtain rfl : f = 7 := Option.some.inj ((show Tryd.prog.funcNamed "sluicegate/sluicegatelaw16.ModelOrder" = some 7 by kernel_rfl).symm.trans hf) |>.symm
      obtain rfl : fn = Tryd.f7 := (Option.some.inj (Tryd.func7.symm.trans hfn)).symm
      exact ⟨by kernel_rfl, fun j t ht => by
        have hall : (Tryd.f7.params.toList.all fun u => !Tryd.prog.wantsStandIn u) = true := by kernel_rfl
        exact (show Tryd.prog.wantsStandIn t = false by simpa using List.all_eq_true.1 hall t (by simpa using Array.mem_of_getElem? ht))⟩)
    (by kernel_rfl)
#print axioms order_card_holds
end Go.Proofs.YtlomniffpjndfaaDoor
