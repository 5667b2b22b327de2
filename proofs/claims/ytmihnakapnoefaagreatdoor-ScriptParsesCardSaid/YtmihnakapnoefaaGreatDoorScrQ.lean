/-
  The command of a line that is no call: Parse, the program's.
-/
import Derived.Test.YtmihnakapnoefaaGreatDoorScrO
import Derived.WalkMore
namespace Go.Proofs.YtmihnakapnoefaaGreatDoor
open Go.RowKit Go.WideShapes

theorem ptr_some (C k j o : Nat) : ∃ q, Value.pointer q = ptrV C k j o := by
  unfold ptrV
  split
  · exact ⟨_, rfl⟩
  · exact ⟨_, rfl⟩
theorem st_next {j g n : Nat} (h : j + (g + 1) = n) : j + 1 + g = n := by omega
theorem len_next {α : Type} {vs : List α} {v : α} {j : Nat} (h : vs.length = j) : (vs ++ [v]).length = j + 1 := by simp [h]
theorem words_many : ∀ l : List UInt8, (wordsOf l).length ≤ l.length + 1
  | [] => by simp [wordsOf]
  | b :: l => by
    have ih := words_many l
    unfold wordsOf
    split
    · simp; omega
    · split
      · rename_i x r h
        rw [h] at ih
        simp at ih ⊢; omega
      · simp
theorem nilBools (W : World) : BoolsAt W.heap.size W (.slice none 0 0) [] := ⟨rfl, none, 0, rfl, fun h => absurd h (by decide)⟩
set_option maxHeartbeats 16000000 in
set_option maxRecDepth 20000 in
theorem sparse_line (s : ByteArray) (hs : s.size < 16384) (hc : isCall s = false) (w : World) (hE : Env w) :
    Calls Tryz.prog 12 #[.string s] w fun e w' => ∃ kv tv, e = .returned (.tuple #[.agg (CmdV (parseC s).1 kv tv), .int .i64 (parseC s).2]) ∧ BoolsAt w'.heap.size w' kv (parseC s).1.keep ∧ BoolsAt w'.heap.size w' tv (parseC s).1.torn ∧ Kp [] w w' := by
  obtain ⟨w0, hw0⟩ : ∃ w0, w0 = w.alloc (.cells #[.int .i64 0, .int .i64 0, .string E0, .string E0, .int .i64 0, .int .i64 0, .int .i64 0, .string E0, .slice none 0 0, .slice none 0 0] 32) := ⟨_, rfl⟩
  have kw0 : Kp [] w w0 := hw0 ▸ (Kp.refl _ _).alloc _
  obtain ⟨R, hR⟩ : ∃ R, R = w.heap.size := ⟨_, rfl⟩
  have hbR : w0.heap[R]? = some (.cells #[.int .i64 0, .int .i64 0, .string E0, .string E0, .int .i64 0, .int .i64 0, .int .i64 0, .string E0, .slice none 0 0, .slice none 0 0] 32 (0, 0)) := by rw [hw0, hR]; exact block_new _ _
  have HR := Lib.hid hR
  have Hw0 := Lib.hid hw0
  have HBR := Lib.hid hbR
  obtain ⟨⟨pc, pe⟩, hp⟩ : ∃ p, p = parseC s := ⟨_, rfl⟩
  rw [← hp]
  have HP := Lib.hid hp
  have hE0 := hE.keep kw0
  have HCL := Lib.hid hc
  clear hw0 hR hp hbR hc
  go_enter Tryz.func12, Tryz.ntmps12
  go_wp2_with fail
  rw [← Hw0.out, ← HR.out]
  go_step3
  go_wp2_with fail
  refine (Tryz.strings_CutPrefix s ⟨#[99, 97, 108, 108, 32]⟩ w0).mono ?_
  rintro e w1 ⟨rfl, e1⟩
  rw [e1]
  clear e1 w1
  have hpre : Lib.hasPrefix s.data.toList (⟨#[99, 97, 108, 108, 32]⟩ : ByteArray).data.toList = isCall s := call_prefix s
  rw [hpre, HCL.out]
  have hc := HCL.out
  clear HCL
  clear hpre
  obtain ⟨xs, hxs⟩ : ∃ xs, xs = piecesOf s := ⟨_, rfl⟩
  have hxl : Lib.countB s ⟨#[32]⟩ + 1 = xs.length := by rw [hxs, pieces_len]
  obtain ⟨x0, rest, rfl⟩ : ∃ x0 rest, xs = x0 :: rest := by
    match xs, hxl with
    | [], h => simp at h
    | x0 :: rest, _ => exact ⟨x0, rest, rfl⟩
  have hpz : ∀ x ∈ x0 :: rest, x.size ≤ s.size := by rw [hxs]; exact pieces_le s
  have hpar : (pc, pe) = okOr (readC (actOf x0) rest) := by
    rw [HP.out]; unfold parseC; rw [hc, ← hxs]; rfl
  have HPAR := Lib.hid hpar
  have HPZ := Lib.hid hpz
  have HXL := Lib.hid hxl
  have HXS := Lib.hid hxs
  clear hxs hxl hpz hpar hc HP
  go_wp2_with fail
  refine (Tryz.strings_Split_shaped s ⟨#[32]⟩ w0 hE0.sh (by omega) (by decide)).mono ?_
  rintro e w1 ⟨rfl, hw1⟩
  rw [HXL.out]
  rw [show Lib.splitB ⟨#[32]⟩ 0 (Lib.countB s ⟨#[32]⟩) s = x0 :: rest from HXS.out.symm] at hw1
  have k1 : Kp [] w0 w1 := by rw [hw1]; exact (Kp.refl _ _).alloc _
  have hbB : w1.heap[w0.heap.size]? = some (.cells ((x0 :: rest).map Value.string).toArray 9 (0, 0)) := by rw [hw1]; exact block_new _ _
  obtain ⟨B, hB⟩ : ∃ B, B = w0.heap.size := ⟨_, rfl⟩
  rw [← hB] at hbB ⊢
  have hbR1 := Kp.blockAt (X := []) HBR.out (by simp) _ k1
  have hBlt := lt_of_block hbB
  have HBB := Lib.hid hbB
  have HBR1 := Lib.hid hbR1
  have hkw1 := kw0.trans k1
  obtain ⟨rl, hrl⟩ : ∃ rl, rl = rest.length := ⟨_, rfl⟩
  have hlen : (x0 :: rest).length = rl + 1 := by rw [hrl]; rfl
  have hrb : rl ≤ 20000 := by
    have h1 := words_many s.data.toList
    have h2 : (x0 :: rest).length = (wordsOf s.data.toList).length := by rw [HXS.out, ← pieces_words, List.length_map]
    rw [len_data] at h1
    omega
  have hrw : wrap64 (rl : Int) = (rl : Int) := by unfold wrap64; omega
  rw [hlen]
  have HRL := Lib.hid hrl
  have e0 : ∀ W, Kp [] w1 W → W.cell? ⟨B, 0, none⟩ = some (.string x0) := Kp.cellAt (X := []) (cell_of_cells hbB rfl) (by simp)
  have hK1 := Kp.refl [] w1
  clear hw1 hB hbB hbR1 hrl hlen HXL HXS
  go_wp2_with fail
  go_step3
  go_wp2_with fail
  go_loopg [9] 7 (fun g i wr => ∃ d : Nat, d + g = 8 ∧ 1 ≤ d ∧ i = .int .i64 d ∧ Kp [] w1 wr ∧ Hid (∀ d' : Nat, 1 ≤ d' → d' < d → ¬ (actOf x0 = d' ∧ rest.length = (partsK (d' : Int)).length)))
  case atStart => exact ⟨1, by omega, by omega, rfl, hK1, fun d' h1 h2 => by omega⟩
  case round =>
    clear hK1
    obtain ⟨d, hd, hd1, rfl, hKr, HNO⟩ := hrel
    have HD := Lib.hid hd
    by_cases hlt : d < 8
    · obtain ⟨g', rfl⟩ : ∃ g', gk = g' + 1 := ⟨gk - 1, by omega⟩
      clear hd
      have hltI : (d : Int) ≤ 7 := by omega
      obtain ⟨C, hC⟩ : ∃ C, C = wr.heap.size := ⟨_, rfl⟩
      obtain ⟨wc, hwc⟩ : ∃ wc, wc = wr.alloc (.cells (zeroV d) 32) := ⟨_, rfl⟩
      have hbC : wc.heap[C]? = some (.cells (zeroV d) 32 (0, 0)) := by rw [hwc, hC]; exact block_new _ _
      have kc : Kp [] wr wc := by rw [hwc]; exact (Kp.refl _ _).alloc _
      have hCB : w1.heap.size ≤ C := by have := hKr.size; omega
      have hcC : wc.cell? ⟨C, 0, none⟩ = some (.int .i64 d) := cell_of_cells hbC rfl
      have HWC := Lib.hid hwc
      have HC := Lib.hid hC
      have HBC := Lib.hid hbC
      clear hwc hC hbC
      go_wp2_with fail
      simp only [zeroV] at HWC
      rw [← HWC.out, ← HC.out]
      refine (parts_any d C wc hcC).mono ?_
      rintro e w3 ⟨v2, rfl, hp2, k3⟩
      obtain ⟨a2, rfl, -⟩ := id hp2
      obtain ⟨ps, hps⟩ : ∃ ps, ps = partsK (d : Int) := ⟨_, rfl⟩
      rw [← hps] at hp2 ⊢
      have hps3 : ps.length ≤ 3 := by rw [hps]; exact parts_le _
      obtain ⟨N, hN⟩ : ∃ N, N = SB (nameA (d : Int)) := ⟨_, rfl⟩
      rw [← hN]
      have hNa : (N = x0) ↔ actOf x0 = d := by
        rw [hN, ← actOf_iff x0 d hd1 hlt]
        have : nameA (d : Int) = wordA d := by unfold nameA; rw [if_pos (by omega)]; rfl
        rw [this]
        exact ⟨fun e => e.symm, fun e => e.symm⟩
      have hK3 := (hKr.trans kc).trans k3
      have HNA := Lib.hid hNa
      have HPS := Lib.hid hps
      have rsub2 : ((rl : Int) + 1) - 1 = (rl : Int) := by omega
      clear hps hN hNa
      by_cases hname : N = x0
      · subst hname
        have hact := HNA.out.1 rfl
        have HACT := Lib.hid hact
        clear hact
        by_cases hlen : ps.length = rl
        · have HLEN := Lib.hid hlen
          have hlI : ((ps.length : Int) == (rl : Int)) = true := by simp; omega
          have hlI2 : ((ps.length : Int) != (rl : Int)) = false := by simp; omega
          have hbC3 := Kp.blockAt (X := []) HBC.out (by simp) _ k3
          have hCz : C < w3.heap.size := lt_of_block hbC3
          have hwc3 := k3.size
          have hbB3 := Kp.blockAt (X := []) HBB.out (by simp) _ hK3
          have hBC : B ≠ C := by omega
          have kw3 := hkw1.trans hK3
          have hwC : w.heap.size ≤ C := by have := hkw1.size; omega
          have HBC3 := Lib.hid hbC3
          have HBB3 := Lib.hid hbB3
          clear hlen hbC3 hbB3
          go_wp2_with fail
          go_loopg [56] ps.length (fun g i wr2 => ∃ (j : Nat) (vals : List Value), j + g = ps.length ∧ i = .int .i64 j ∧ Kp [C] w3 wr2 ∧ Kp [] w1 wr2 ∧ vals.length = j ∧ Hid (wr2.heap[C]? = some (.cells (fillV ((ps.take j).zip vals) (zeroV d)) 32 (0, 0)) ∧ ∀ (i : Nat) (p : Nat × Nat) (x : ByteArray) (v : Value), i < j → ps[i]? = some p → rest[i]? = some x → vals[i]? = some v → PartVal wr2 C p x v))
          case atStart => exact ⟨0, [], by omega, rfl, Kp.refl _ _, hK3, rfl, HBC3.out, fun i p x v h => by omega⟩
          case round =>
            obtain ⟨j, vals, hj, rfl, hK4, hK14, hvl, HF⟩ := hrel
            have HJ := Lib.hid hj
            by_cases hjlt : j < ps.length
            · obtain ⟨g'', rfl⟩ : ∃ g'', gk = g'' + 1 := ⟨gk - 1, by omega⟩
              have hjI : (j : Int) < (ps.length : Int) := by omega
              have hjr : j < rest.length := by have := HLEN.out; have := HRL.out; omega
              obtain ⟨p, hp⟩ : ∃ p, p = ps[j] := ⟨_, rfl⟩
              obtain ⟨x, hx⟩ : ∃ x, x = rest[j] := ⟨_, rfl⟩
              have hpn : ps[j]? = some p := by rw [List.getElem?_eq_getElem hjlt, hp]
              have hxn : rest[j]? = some x := by rw [List.getElem?_eq_getElem hjr, hx]
              have hmem : p ∈ partsK (d : Int) := by rw [← HPS.out, hp]; exact List.getElem_mem hjlt
              have hxz : x.size ≤ 20000 := by have := HPZ.out x (List.mem_cons_of_mem _ (by rw [hx]; exact List.getElem_mem hjr)); omega
              obtain ⟨g, hv2, hBg, hg, f20, f21, f22⟩ := part_at hp2 j p hpn
              simp only [Value.slice.injEq] at hv2
              obtain ⟨rfl, -, -⟩ := hv2
              have hwCC : C < wc.heap.size := lt_of_block HBC.out
              have hgC : g ≠ C := by omega
              have hword : wr.cell? ⟨B, 1 + j, none⟩ = some (.string x) := by
                have h1 : w3.cell? ⟨B, 1 + j, none⟩ = some (.string x) := cell_of_cells HBB3.out (by
                  rw [List.getElem?_toArray, List.getElem?_map, Nat.add_comm, List.getElem?_cons_succ, hxn]; rfl)
                exact (hK4.cell (lt_of_cell h1) (by simpa using hBC)).trans h1
              have hcells := HF.out.1
              have hini := ini_at vals HPS.out hpn
              have hkz2 : Kp [] w wr := hkw1.trans hK14
              have hCw1 : w1.heap.size ≤ C := hCB
              have HINI := Lib.hid hini
              have HCL := Lib.hid hcells
              have HPN := Lib.hid hpn
              have HXN := Lib.hid hxn
              have hjr0 : j < rl := by rw [← HLEN.out]; exact hjlt
              obtain ⟨hj1, hjw, hj0, hjr2, hjt, hjr3⟩ := jfacts hjr0 hrb
              clear hj hp hx hpn hxn hini hcells
              have hpcs := part_cases hmem
              obtain ⟨q0, hq0⟩ : ∃ q, Value.pointer q = ptrV C p.1 0 p.2 := ptr_some C p.1 0 p.2
              obtain ⟨q1, hq1⟩ : ∃ q, Value.pointer q = ptrV C p.1 1 p.2 := ptr_some C p.1 1 p.2
              obtain ⟨q2, hq2⟩ : ∃ q, Value.pointer q = ptrV C p.1 2 p.2 := ptr_some C p.1 2 p.2
              have htri : (tri C p).toArray = #[.pointer q0, .pointer q1, .pointer q2] := by rw [hq0, hq1, hq2]; rfl
              rw [← hq0] at f20
              rw [← hq1] at f21
              rw [← hq2] at f22
              have e20 : wr.cell? ⟨g, j * 3, none⟩ = some (.pointer q0) := (hK4.cell (lt_of_cell f20) (by simpa using hgC)).trans f20
              have e21 : wr.cell? ⟨g, j * 3 + 1, none⟩ = some (.pointer q1) := (hK4.cell (lt_of_cell f21) (by simpa using hgC)).trans f21
              have e22 : wr.cell? ⟨g, j * 3 + 2, none⟩ = some (.pointer q2) := (hK4.cell (lt_of_cell f22) (by simpa using hgC)).trans f22
              have HTRI := Lib.hid htri
              clear f20 f21 f22 hq0 hq1 hq2 htri hmem
              go_wp2_with fail
              obtain ⟨wb, hwb⟩ : ∃ wb, wb = wr.alloc (.cells #[.pointer q0, .pointer q1, .pointer q2] 54) := ⟨_, rfl⟩
              have kb : Kp [] wr wb := by rw [hwb]; exact (Kp.refl _ _).alloc _
              have hbb : wb.heap[wr.heap.size]? = some (.cells #[.pointer q0, .pointer q1, .pointer q2] 54 (0, 0)) := by rw [hwb]; exact block_new _ _
              rw [← hwb]
              have hCl := lt_of_block HCL.out
              have hbn : wr.heap.size ≠ C := by omega
              have bx0 := boxAt hbb (X := [C]) (by simpa using hbn) 0 _ rfl
              have bx1 := boxAt hbb (X := [C]) (by simpa using hbn) 1 _ rfl
              have bx2 := boxAt hbb (X := [C]) (by simpa using hbn) 2 _ rfl
              have bw := Kp.cellAt (X := [C]) (w0 := wb) ((kb.cell (lt_of_cell hword) (by simp)).trans hword) (by simpa using hBC)
              have hCb := (kb.block C hCl (by simp)).trans HCL.out
              have hKb := hkz2.trans kb
              have hK0 := Kp.refl [C] wb
              have HWB := Lib.hid hwb
              have HCB2 := Lib.hid hCb
              have HKB := Lib.hid kb
              clear hwb hbb e20 e21 e22 hCb kb
              refine wpB_begin 999 (Kp [C] wb) (by kernel_rfl) (by exact (Kp.refl _ _).drew) (fun hHeld => ?_)
              refine wpB_take 0 _ ?_ rfl (by kernel_rfl) (fun _ _ _ h => h) rfl hHeld ?_ ?_
              rotate_left
              · (intro W hW; go_simp; try with_reducible rfl)
              try simp only [Act.put, List.setIfInBounds_toArray, List.set_cons_zero, List.set_cons_succ]
              refine wpB_take 1 _ ?_ rfl (by kernel_rfl) (fun _ _ _ h => h) rfl hHeld ?_ ?_
              rotate_left
              · (intro W hW; go_simp; try with_reducible rfl)
              try simp only [Act.put, List.setIfInBounds_toArray, List.set_cons_zero, List.set_cons_succ]
              refine wpB_take 2 _ ?_ rfl (by kernel_rfl) (fun _ _ _ h => h) rfl hHeld ?_ ?_
              rotate_left
              · (intro W hW; go_simp; try with_reducible rfl)
              try simp only [Act.put, List.setIfInBounds_toArray, List.set_cons_zero, List.set_cons_succ]
              refine wpB_take 3 _ ?_ rfl (by kernel_rfl) (fun _ _ _ h => h) rfl hHeld ?_ ?_
              rotate_left
              · (intro W hW; go_simp; try with_reducible rfl)
              try simp only [Act.put, List.setIfInBounds_toArray, List.set_cons_zero, List.set_cons_succ]
              refine wpB_take 4 _ ?_ rfl (by kernel_rfl) (fun _ _ _ h => h) rfl hHeld ?_ ?_
              rotate_left
              · (intro W hW; go_simp; first | (with_reducible rfl) | (rw [hjw, if_pos ⟨hj0, hjr2⟩, hjt]; with_reducible rfl) | (rw [hjw, if_pos ⟨hj0, hjr2⟩, hjt]))
              try simp only [Act.put, List.setIfInBounds_toArray, List.set_cons_zero, List.set_cons_succ]
              refine wpB_take 5 _ ?_ rfl (by kernel_rfl) (fun _ _ _ h => h) rfl hHeld ?_ ?_
              rotate_left
              · (intro W hW; go_simp; try with_reducible rfl)
              try simp only [Act.put, List.setIfInBounds_toArray, List.set_cons_zero, List.set_cons_succ]
              refine wpB_step 6 _ rfl (by kernel_rfl) rfl rfl (fun K hK_ => ?_)
              go_simp
              rw [← HTRI.out]; refine (read_part p hpcs C _ 32 x hxz w _ hE hKb.drew hwC HCB2.out HINI.out).mono ?_
              rintro e w5 ⟨rfl, k5, val, hb5, hok⟩
              refine hK_.out _ _ (by exact hHeld.trans k5) (fun hHeld => ?_)
              clear hK_ K
              try simp only [Act.put, List.setIfInBounds_toArray, List.set_cons_zero, List.set_cons_succ]
              refine wpB_take 7 _ ?_ rfl (by kernel_rfl) (fun _ _ _ h => h) rfl hHeld ?_ ?_
              rotate_left
              · (intro W hW; go_simp; try with_reducible rfl)
              try simp only [Act.put, List.setIfInBounds_toArray, List.set_cons_zero, List.set_cons_succ]
              refine wpB_done (by kernel_rfl) ?_ _
              have hkz5 := hKb.over hHeld hwC
              have hk14 := (hK14.trans HKB.out).over hHeld hCw1
              have hk4 := (hK4.call HKB.out).trans hHeld
              have HK4' := Lib.hid (((Kp.refl [C] wr).call HKB.out).trans hHeld)
              have HOK := Lib.hid hok
              have HB5 := Lib.hid hb5
              clear hok hb5
              cases hk : okP p x with
              | false =>
                have hnone : readC (actOf N) rest = none := by
                  cases hr : readC (actOf N) rest with
                  | none => rfl
                  | some c =>
                    rw [HACT.out] at hr
                    have h2 := (read_some hr).2 j p x (by rw [← HPS.out]; exact HPN.out) HXN.out
                    rw [hk] at h2; cases h2
                have hpar : pc = zeroCmd ∧ pe = 14 := by
                  have := HPAR.out
                  rw [hnone] at this
                  simp only [okOr, Prod.mk.injEq] at this
                  exact this
                obtain ⟨rfl, rfl⟩ := hpar
                have hbR5 := Kp.blockAt (X := []) HBR1.out (by simp) _ hk14
                obtain ⟨⟨r0, r1, r2, r3, r4, r5, r6, r7, r8, r9⟩, rf⟩ := read10 hbR5
                have HBR5 := Lib.hid hbR5
                clear hnone hbR5 HPAR bx0 bx1 bx2 bw
                go_wp2_with fail
                rw [Exit.noGoto_ret]
                have hz := put10 (HBR5.out) (.int .i64 0) (.int .i64 0) (.string E0) (.string E0) (.int .i64 0) (.int .i64 0) (.int .i64 0) (.string E0) (.slice none 0 0) (.slice none 0 0)
                have hkz := (hkz5).put10 (R := R) (.inr (Nat.le_of_eq HR.out.symm)) (.int .i64 0) (.int .i64 0) (.string E0) (.string E0) (.int .i64 0) (.int .i64 0) (.int .i64 0) (.string E0) (.slice none 0 0) (.slice none 0 0)
                obtain ⟨Z, hZ⟩ : ∃ Z, Z = (((((((((((w5).setCell ⟨R, 0, none⟩ (.int .i64 0)).setCell ⟨R, 1, none⟩ (.int .i64 0)).setCell ⟨R, 2, none⟩ (.string E0)).setCell ⟨R, 3, none⟩ (.string E0)).setCell ⟨R, 4, none⟩ (.int .i64 0)).setCell ⟨R, 5, none⟩ (.int .i64 0)).setCell ⟨R, 6, none⟩ (.int .i64 0)).setCell ⟨R, 7, none⟩ (.string E0)).setCell ⟨R, 8, none⟩ (.slice none 0 0)).setCell ⟨R, 9, none⟩ (.slice none 0 0)) := ⟨_, rfl⟩
                rw [← hZ] at hz hkz ⊢
                have HZ := Lib.hid hZ
                clear hZ
                obtain ⟨⟨z0, z1, z2, z3, z4, z5, z6, z7, z8, z9⟩, -⟩ := read10 hz
                refine bodyPost_ret (by simp [results, Tryz.results12, go_sem, z0, z1, z2, z3, z4, z5, z6, z7, z8, z9]; try rfl) rfl ?_
                exact ⟨_, _, rfl, nilBools _, nilBools _, hkz⟩
              | true =>
                have HV := Lib.hid (HOK.out hk)
                clear bx0 bx1 bx2 bw
                go_wp2_with fail
                go_roundg g''
                case rel => exact ⟨j + 1, vals ++ [val], st_next HJ.out, by go_num, hk4, hk14, len_next hvl, (fill_step val _ hvl HPN.out).symm ▸ HB5.out, vals_step HF.out.2 HK4'.out hvl HPN.out HXN.out HV.out⟩
                case measure => first | exact Nat.lt_succ_self _ | omega
            · obtain rfl : gk = 0 := by omega
              have hje : j = ps.length := by omega
              subst hje
              obtain ⟨c, kv, tv, hrc, hfill, hbs⟩ := fill_done (W := wr) (C := C) (d := d) (R := R) (by rw [HR.out]; exact hwC) (r := rest) (vals := vals) hd1 hlt (by rw [← HPS.out, ← HRL.out]; exact HLEN.out.symm) (by rw [← HPS.out]; exact hvl)
                (fun i p x v e1 e2 e3 => by rw [← HPS.out] at e1; exact HF.out.2 i p x v (List.getElem?_eq_some_iff.1 e1).1 e1 e2 e3)
              have hpar : pc = c ∧ pe = 0 := by
                have := HPAR.out
                rw [HACT.out, hrc] at this
                simp only [okOr, Prod.mk.injEq] at this
                exact this
              obtain ⟨rfl, rfl⟩ := hpar
              have hcell := HF.out.1
              have hfull : fillV ((ps.take ps.length).zip vals) (zeroV d) = CmdV pc kv tv := by rw [List.take_length, HPS.out]; exact hfill
              rw [hfull] at hcell
              obtain ⟨ka, kc2, rfl⟩ := slice_ex (hbs wr (Kp.refl _ _)).1
              obtain ⟨ta, tc2, rfl⟩ := slice_ex (hbs wr (Kp.refl _ _)).2
              have hbRr := Kp.blockAt (X := []) HBR1.out (by simp) _ hK14
              obtain ⟨⟨r0, r1, r2, r3, r4, r5, r6, r7, r8, r9⟩, rf⟩ := read10 hbRr
              obtain ⟨⟨c0, c1, c2, c3, c4, c5, c6, c7, c8, c9⟩, cf⟩ := read10 hcell
              have HBRr := Lib.hid hbRr
              have HBS := Lib.hid hbs
              clear hbRr hcell hbs hfull hfill hrc HPAR
              go_wp2_with fail
              rw [Exit.noGoto_ret]
              have hz := put10 (HBRr.out) (.int .i64 pc.act) (.int .i64 pc.rk) (.string pc.rs) (.string pc.rv) (.int .i64 pc.n) (.int .i64 pc.a) (.int .i64 pc.b) (.string pc.text) (.slice ka pc.keep.length kc2) (.slice ta pc.torn.length tc2)
              have hkz := ((hkw1.trans hK14)).put10 (R := R) (.inr (Nat.le_of_eq HR.out.symm)) (.int .i64 pc.act) (.int .i64 pc.rk) (.string pc.rs) (.string pc.rv) (.int .i64 pc.n) (.int .i64 pc.a) (.int .i64 pc.b) (.string pc.text) (.slice ka pc.keep.length kc2) (.slice ta pc.torn.length tc2)
              obtain ⟨Z, hZ⟩ : ∃ Z, Z = (((((((((((wr).setCell ⟨R, 0, none⟩ (.int .i64 pc.act)).setCell ⟨R, 1, none⟩ (.int .i64 pc.rk)).setCell ⟨R, 2, none⟩ (.string pc.rs)).setCell ⟨R, 3, none⟩ (.string pc.rv)).setCell ⟨R, 4, none⟩ (.int .i64 pc.n)).setCell ⟨R, 5, none⟩ (.int .i64 pc.a)).setCell ⟨R, 6, none⟩ (.int .i64 pc.b)).setCell ⟨R, 7, none⟩ (.string pc.text)).setCell ⟨R, 8, none⟩ (.slice ka pc.keep.length kc2)).setCell ⟨R, 9, none⟩ (.slice ta pc.torn.length tc2)) := ⟨_, rfl⟩
              rw [← hZ] at hz hkz ⊢
              have HZ := Lib.hid hZ
              clear hZ
              obtain ⟨⟨z0, z1, z2, z3, z4, z5, z6, z7, z8, z9⟩, -⟩ := read10 hz
              refine bodyPost_ret (by simp [results, Tryz.results12, go_sem, z0, z1, z2, z3, z4, z5, z6, z7, z8, z9]; try rfl) rfl ?_
              have hZ := HBS.out Z (by rw [HZ.out]; exact (Kp.refl [R] wr).put10 (.inl (List.mem_singleton.2 rfl)) _ _ _ _ _ _ _ _ _ _)
              exact ⟨_, _, rfl, hZ.1, hZ.2, hkz⟩
        · have hlI : ((ps.length : Int) == (rl : Int)) = false := by simp; omega
          have hlI2 : ((ps.length : Int) != (rl : Int)) = true := by simp; omega
          have hno : ∀ d' : Nat, 1 ≤ d' → d' < d + 1 → ¬ (actOf N = d' ∧ rest.length = (partsK (d' : Int)).length) := fun d' h1 h2 h3 => by
            by_cases e : d' = d
            · subst e; rw [← HPS.out, ← HRL.out] at h3; exact hlen h3.2.symm
            · exact HNO.out d' h1 (by omega) h3
          have HNO2 := Lib.hid hno
          clear hno hlen
          go_wp2_with fail
          go_roundg g'
          case rel =>
            have hd := HD.out
            exact ⟨d + 1, by omega, by omega, by go_num, hK3, HNO2.out⟩
          case measure => omega
      · have hnb := str_ne hname
        have hno : ∀ d' : Nat, 1 ≤ d' → d' < d + 1 → ¬ (actOf x0 = d' ∧ rest.length = (partsK (d' : Int)).length) := fun d' h1 h2 h3 => by
          by_cases e : d' = d
          · subst e; exact hname (HNA.out.2 h3.1)
          · exact HNO.out d' h1 (by omega) h3
        have HNO2 := Lib.hid hno
        clear hno
        go_wp2_with fail
        go_roundg g'
        case rel =>
          have hd := HD.out
          exact ⟨d + 1, by omega, by omega, by go_num, hK3, HNO2.out⟩
        case measure => omega
    · obtain rfl : d = 8 := by omega
      obtain rfl : gk = 0 := by omega
      clear hd
      have hnone : readC (actOf x0) rest = none := by
        cases hr : readC (actOf x0) rest with
        | none => rfl
        | some c =>
          obtain ⟨h1, -⟩ := read_some hr
          have h0 : actOf x0 ≠ 0 := fun e => by rw [e, read_zero] at hr; cases hr
          have h8 := (actOf_eq (x := x0) rfl h0).2
          exact absurd ⟨rfl, h1⟩ (HNO.out (actOf x0) (by omega) h8)
      have hpar : pc = zeroCmd ∧ pe = 14 := by
        have := HPAR.out
        rw [hnone] at this
        simp only [okOr, Prod.mk.injEq] at this
        exact this
      obtain ⟨rfl, rfl⟩ := hpar
      have hbRr := Kp.blockAt (X := []) HBR1.out (by simp) _ hKr
      obtain ⟨⟨r0, r1, r2, r3, r4, r5, r6, r7, r8, r9⟩, rf⟩ := read10 hbRr
      have HBRr := Lib.hid hbRr
      clear hnone hbRr HPAR
      go_wp2_with fail
      have hz := put10 (HBRr.out) (.int .i64 0) (.int .i64 0) (.string E0) (.string E0) (.int .i64 0) (.int .i64 0) (.int .i64 0) (.string E0) (.slice none 0 0) (.slice none 0 0)
      have hkz := ((hkw1.trans hKr)).put10 (R := R) (.inr (Nat.le_of_eq HR.out.symm)) (.int .i64 0) (.int .i64 0) (.string E0) (.string E0) (.int .i64 0) (.int .i64 0) (.int .i64 0) (.string E0) (.slice none 0 0) (.slice none 0 0)
      obtain ⟨Z, hZ⟩ : ∃ Z, Z = (((((((((((wr).setCell ⟨R, 0, none⟩ (.int .i64 0)).setCell ⟨R, 1, none⟩ (.int .i64 0)).setCell ⟨R, 2, none⟩ (.string E0)).setCell ⟨R, 3, none⟩ (.string E0)).setCell ⟨R, 4, none⟩ (.int .i64 0)).setCell ⟨R, 5, none⟩ (.int .i64 0)).setCell ⟨R, 6, none⟩ (.int .i64 0)).setCell ⟨R, 7, none⟩ (.string E0)).setCell ⟨R, 8, none⟩ (.slice none 0 0)).setCell ⟨R, 9, none⟩ (.slice none 0 0)) := ⟨_, rfl⟩
      rw [← hZ] at hz hkz ⊢
      have HZ := Lib.hid hZ
      clear hZ
      obtain ⟨⟨z0, z1, z2, z3, z4, z5, z6, z7, z8, z9⟩, -⟩ := read10 hz
      refine bodyPost_ret (by simp [results, Tryz.results12, go_sem, z0, z1, z2, z3, z4, z5, z6, z7, z8, z9]; try rfl) rfl ?_
      exact ⟨_, _, rfl, nilBools _, nilBools _, hkz⟩
end Go.Proofs.YtmihnakapnoefaaGreatDoor
