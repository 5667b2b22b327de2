/-
  A command's line: Print, the program's.
-/
import Derived.Test.YtmihnakapnoefaaGreatDoorScrE
namespace Go.Proofs.YtmihnakapnoefaaGreatDoor
open Go.RowKit Go.WideShapes

/-- a part's word -/
def pwL (c : Cmd) (p : Nat × Nat) : List UInt8 :=
  if p = (0, 4) then numL c.n else if p = (0, 5) then numL c.a else if p = (0, 6) then numL c.b else if p = (1, 7) then digitsL c.text.data.toList else if p = (2, 8) then marksW c.keep else marksW c.torn
theorem parts_words (c : Cmd) (h1 : 1 ≤ c.act) (h7 : c.act ≤ 7) : partsC c = nameA c.act :: (partsK c.act).map (pwL c) := by
  unfold nameA
  rw [if_pos ⟨h1, h7⟩]
  obtain ⟨act, rk, rs, rv, n, a, b, text, keep, torn⟩ := c
  simp only at h1 h7 ⊢
  obtain rfl | rfl | rfl | rfl | rfl | rfl | rfl : act = 1 ∨ act = 2 ∨ act = 3 ∨ act = 4 ∨ act = 5 ∨ act = 6 ∨ act = 7 := by omega
  all_goals rfl
theorem checkC_nums {c : Cmd} (h : checkC c = 0) : (0 ≤ c.act ∧ c.act ≤ 7) ∧ (0 ≤ c.n ∧ c.n ≤ 99999) ∧ (0 ≤ c.a ∧ c.a ≤ 99999) ∧ (0 ≤ c.b ∧ c.b ≤ 99999) := by
  unfold checkC at h
  split at h
  · cases h
  · split at h
    · cases h
    · split at h
      · rename_i e; exact absurd h e.2
      · split at h
        · rename_i e
          unfold numOk at e
          simp only [Bool.and_eq_true, decide_eq_true_eq] at e
          omega
        · cases h
theorem numL_len {n : Int} (h : n ≤ 99999) : (numL n).length ≤ 30 := by
  unfold numL
  rw [Lib.decDigits_length]
  exact nDig_le _ (by omega)
theorem marksW_len (l : List Bool) : (marksW l).length ≤ l.length + 1 := by
  rw [marks_mark]; split
  · simp
  · rw [List.length_map]; omega
theorem pwL_len {c : Cmd} (h : checkC c = 0) (hk : c.keep.length ≤ 10000) (ht : c.torn.length ≤ 10000) (hx : c.text.size ≤ 10000) (p : Nat × Nat) : (pwL c p).length ≤ 20001 := by
  obtain ⟨-, ⟨-, h1⟩, ⟨-, h2⟩, ⟨-, h3⟩⟩ := checkC_nums h
  have := numL_len h1
  have := numL_len h2
  have := numL_len h3
  have hd := digits_len c.text.data.toList
  rw [len_data] at hd
  have := marksW_len c.keep
  have := marksW_len c.torn
  unfold pwL
  repeat' split
  all_goals omega
theorem lens_le (L : Nat) : ∀ xs : List (List UInt8), (∀ x ∈ xs, x.length ≤ L) → Lib.lens xs ≤ xs.length * L
  | [], _ => by simp [Lib.lens]
  | x :: xs, h => by
    have ih := lens_le L xs (fun y hy => h y (List.mem_cons_of_mem _ hy))
    have hx := h x (List.mem_cons_self ..)
    rw [List.length_cons, Nat.add_mul]
    simp only [Lib.lens, List.map_cons, List.sum_cons] at ih ⊢
    omega
theorem name_len (act : Int) : (nameA act).length ≤ 7 := by
  unfold nameA
  split
  · rename_i h
    obtain h | h | h | h | h | h | h : act = 1 ∨ act = 2 ∨ act = 3 ∨ act = 4 ∨ act = 5 ∨ act = 6 ∨ act = 7 := by omega
    all_goals (subst h; decide)
  · simp
theorem line_len {c : Cmd} (h : checkC c = 0) (h1 : 1 ≤ c.act) (hk : c.keep.length ≤ 10000) (ht : c.torn.length ≤ 10000) (hx : c.text.size ≤ 10000) : (lineC c).length ≤ 100000 := by
  have h7 := (checkC_nums h).1.2
  unfold lineC
  rw [parts_words c h1 h7, Lib.join_length]
  have hl : Lib.lens ((partsK c.act).map (pwL c)) ≤ ((partsK c.act).map (pwL c)).length * 20001 := lens_le 20001 _ (fun x hx' => by
    obtain ⟨p, -, rfl⟩ := List.mem_map.1 hx'
    exact pwL_len h hk ht hx p)
  have h3 := parts_le c.act
  have hn := name_len c.act
  have e : Lib.lens (nameA c.act :: (partsK c.act).map (pwL c)) = (nameA c.act).length + Lib.lens ((partsK c.act).map (pwL c)) := by simp [Lib.lens]
  rw [List.length_map] at hl
  rw [e, List.length_map]
  simp only [List.length_cons, List.length_nil]
  omega
theorem printL_size {kd : Int} {k v : ByteArray} (h : checkE kd k v = 0) : (SB (printL kd k.data.toList v.data.toList)).size ≤ k.size + 2 * v.size + 100 := by
  have := print_size kd k v
  unfold printR at this
  rw [if_pos h] at this
  exact this
set_option maxHeartbeats 4000000 in
set_option maxRecDepth 20000 in
theorem sprint (c : Cmd) (kv tv : Value) (B : Nat) (w : World) (h1 : BoolsAt B w kv c.keep) (h2 : BoolsAt B w tv c.torn) (z1 : c.keep.length ≤ 10000) (z2 : c.torn.length ≤ 10000)
    (hs : c.rs.size < 16384) (hv : c.rv.size < 16384) (hx : c.text.size ≤ 10000) (htab : Lib.TabIs Tryz.prog w "internal/strconv.uint64pow10" .u64 Lib.pow10Tab) :
    Calls Tryz.prog 7 #[.agg (CmdV c kv tv)] w fun e w' => e = .returned (.tuple #[.string (printC c).1, .int .i64 (printC c).2]) ∧ Kp [] w w' := by
  obtain ⟨ka, kc, rfl⟩ := slice_ex h1
  obtain ⟨ta, tc, rfl⟩ := slice_ex h2
  obtain ⟨w0, hw0⟩ : ∃ w0, w0 = w.alloc (.cells (CmdV c (.slice ka c.keep.length kc) (.slice ta c.torn.length tc)) 32) := ⟨_, rfl⟩
  have kw0 : Kp [] w w0 := hw0 ▸ (Kp.refl _ _).alloc _
  have hbx : w0.heap[w.heap.size]? = some (.cells (CmdV c (.slice ka c.keep.length kc) (.slice ta c.torn.length tc)) 32 (0, 0)) := by rw [hw0]; exact block_new _ _
  obtain ⟨a0, a1, a2, a3, a4, a5, a6, a7, a8, a9⟩ := cells10 hbx
  simp only [CmdV] at hw0 ⊢
  have hk1 := h1.keep0 kw0
  have hk2 := h2.keep0 kw0
  have Hw0 := Lib.hid hw0
  have hK := Kp.refl [] w0
  obtain ⟨⟨S, R⟩, hR⟩ : ∃ p, p = printC c := ⟨_, rfl⟩
  rw [← hR]
  have HR := Lib.hid hR
  obtain ⟨ce, hce⟩ : ∃ ce, ce = checkC c := ⟨_, rfl⟩
  have HCE := Lib.hid hce
  clear hw0 hbx h1 h2 hR hce
  go_enter Tryz.func7, Tryz.ntmps7
  go_wp2_with fail
  rw [← Hw0.out]
  refine (scheck c _ _ _ _ hk1 hk2 (by omega) (by omega) hs hv).mono ?_
  rintro e w1 ⟨rfl, k1⟩
  rw [← HCE.out]
  have hK := hK.trans k1
  by_cases h0 : ce = 0
  · subst h0
    have hc0 := HCE.out.symm
    obtain ⟨⟨n0, n7⟩, n1, n2, n3⟩ := checkC_nums hc0
    have hRR : S = SB (lineC c) ∧ R = 0 := by
      have := HR.out
      unfold printC at this
      rw [if_pos hc0] at this
      simp only [Prod.mk.injEq] at this
      exact this
    obtain ⟨hS, rfl⟩ := hRR
    have HS := Lib.hid hS
    have HC0 := Lib.hid hc0
    clear hc0 hS
    by_cases e0 : c.act = 0
    · have hab : (c.act == 0) = true := by simpa using e0
      have he : checkE c.rk c.rs c.rv = 0 := by
        rcases checkC_ok HC0.out with ⟨-, he, -⟩ | ⟨hc, -⟩ | ⟨hc, -⟩ | ⟨hc, -⟩ | ⟨hc, -⟩ | ⟨hc, -⟩ | ⟨hc, -⟩ | hc
        · exact he
        all_goals (rw [hc] at e0; simp at e0)
      have hline : SB (lineC c) = ⟨#[99, 97, 108, 108, 32]⟩ ++ SB (printL c.rk c.rs.data.toList c.rv.data.toList) := by
        rw [line_call c e0]
        exact bytes_inj (by simp [ByteArray.data_append])
      have hps := printL_size he
      have HL := Lib.hid hline
      obtain ⟨T, hT⟩ : ∃ T, T = SB (printL c.rk c.rs.data.toList c.rv.data.toList) := ⟨_, rfl⟩
      rw [← hT] at hps HL
      have hm : 5 + T.size ≤ 9223372036854775807 := by omega
      have HT := Lib.hid hT
      have HE := Lib.hid he
      clear e0 he hline hps hT
      go_wp2_with fail
      refine (qprint c.rk c.rs c.rv hs hv _).mono ?_
      rintro e w2 ⟨rfl, k2⟩
      rw [print_of HE.out]
      rw [show SB (Lib.join (partsL c.rk c.rs.data.toList c.rv.data.toList) [32]) = T from HT.out.symm]
      go_wp2_with fail
      go_ret2
      exact ⟨by rw [HS.out, HL.out]; rfl, kw0.trans (hK.trans k2)⟩
    · have hab := int_ne e0
      obtain ⟨C, hC⟩ : ∃ C, C = w.heap.size := ⟨_, rfl⟩
      obtain ⟨i0, hi, hz0, hz1, hz2⟩ := info_parts Tryz.info9
      obtain ⟨ws, hws⟩ : ∃ ws, ws = SB (nameA c.act) :: (partsK c.act).map (fun p => SB (pwL c p)) := ⟨_, rfl⟩
      have hline : lineC c = Lib.join (ws.map (·.data.toList)) [32] := by
        unfold lineC
        rw [parts_words c (by omega) n7, hws, List.map_cons, List.map_map]
        congr 2
      have hll := line_len HC0.out (by omega) z1 z2 hx
      have HLL := Lib.hid hll
      have HL := Lib.hid hline
      have HWS := Lib.hid hws
      clear hline hll hws
      rw [← hC] at a0 a1 a2 a3 a4 a5 a6 a7 a8 a9 ⊢
      have HC := Lib.hid hC
      clear hC e0
      go_wp2_with fail
      refine (parts_any c.act C _ (a0 _ hK)).mono ?_
      rintro e W1 ⟨v2, rfl, hp2, k2⟩
      obtain ⟨a2', rfl, -⟩ := id hp2
      obtain ⟨ps, hps⟩ : ∃ ps, ps = partsK c.act := ⟨_, rfl⟩
      rw [← hps] at hp2 HWS ⊢
      have hps3 : ps.length ≤ 3 := by rw [hps]; exact parts_le _
      have hK2 := hK.trans k2
      have hz := hK2.size
      have HZ := Lib.hid hz
      have HPS := Lib.hid hps
      clear hps hz
      go_wp2_with fail
      go_loopg [9, 37] ps.length (fun g o i wr => ∃ (n : Nat) (ao : Option Addr) (co : Nat), n + g = ps.length ∧ o = .slice ao (n + 1) co ∧ i = .int .i64 n ∧ Kp [] w0 wr ∧ Kp [] W1 wr ∧ wr.ownsRow W1.heap.size 9 1 (.slice ao (n + 1) co) (n + 1) ((ws.take (n + 1)).map Value.string))
      case atStart =>
        refine ⟨0, _, _, by omega, rfl, rfl, hK2.alloc _, (Kp.refl _ _).alloc _, ?_⟩
        have h1 := strs_own (base := W1.heap.size) (block_new W1 (.cells #[.string (SB (nameA c.act))] 9)) (Nat.le_refl _) 1 rfl (by unfold maxLen; omega)
        have e : (ws.take (0 + 1)).map Value.string = [.string (SB (nameA c.act))] := by rw [HWS.out]; rfl
        rw [e]; exact h1
      case round =>
        clear hK hK2
        obtain ⟨n, ao, co, hn, rfl, rfl, hK, hKp, hown⟩ := hrel
        have HN := Lib.hid hn
        by_cases hlt : n < ps.length
        · obtain ⟨g', rfl⟩ : ∃ g', gk = g' + 1 := ⟨gk - 1, by omega⟩
          clear hn
          have hltI : (n : Int) < (ps.length : Int) := by omega
          obtain ⟨p, hp⟩ : ∃ p, p = ps[n] := ⟨_, rfl⟩
          have hpn : ps[n]? = some p := by rw [List.getElem?_eq_getElem hlt, hp]
          have hmem : p ∈ partsK c.act := by rw [← HPS.out, hp]; exact List.getElem_mem hlt
          have hwn : ws[n + 1]? = some (SB (pwL c p)) := by rw [HWS.out, List.getElem?_cons_succ, List.getElem?_map, hpn]; rfl
          obtain ⟨g2, hv2, hB2, hg2, f20, f21, f22⟩ := part_at hp2 n p hpn
          simp only [Value.slice.injEq] at hv2
          obtain ⟨rfl, -, -⟩ := hv2
          have HW := Lib.hid hwn
          clear hp hpn hwn
          rcases part_cases hmem with hpc | hpc | hpc | hpc | hpc | hpc
          · subst hpc
            have e20 : wr.cell? ⟨g2, n * 3, none⟩ = some (ptrV C _ 0 _) := (hKp.cell (lt_of_cell f20) (by simp)).trans f20
            have e21 : wr.cell? ⟨g2, n * 3 + 1, none⟩ = some (ptrV C _ 1 _) := (hKp.cell (lt_of_cell f21) (by simp)).trans f21
            have e22 : wr.cell? ⟨g2, n * 3 + 2, none⟩ = some (ptrV C _ 2 _) := (hKp.cell (lt_of_cell f22) (by simp)).trans f22
            simp only [ptrV] at e20 e21 e22
            clear f20 f21 f22
            go_wp2_with fail
            refine (word_num C 4 c.n _ (a4 _ (hK.alloc _)) n1.1 (by omega) (htab.keep (kw0.trans (hK.alloc _)))).mono ?_
            rintro e w5 ⟨rfl, k5⟩
            have k45 := ((Kp.refl [] wr).alloc _).trans k5
            have hown5 := ownsRow_keep hown k45 (fun _ _ => by simp)
            have hK5 := hK.trans k45
            have hKp5 := hKp.trans k45
            have hge := own_block_ge hown5
            clear hown hK k5 k45 e20 e21 e22
            go_wp2_with (first | (at_builtin; refine wpList_append_mine _ rfl (.tmp 41) (.tmp 44) 49 rfl W1.heap.size 9 i0 (.string ByteArray.empty) 1 16 Tryz.underlying49 hi hz0 hz1 hz2 rfl (by decide) _ (n + 1) ((ws.take (n + 1)).map Value.string) rfl (ownsRow_keep (X := []) hown5 ((Kp.refl _ w5).alloc _) (fun _ _ => by simp)) ⟨w5.heap.size, 0, none⟩ 1 1 [.string (SB (numL c.n))] rfl rfl (new_cells w5 _ _) (fun u hu => by simp only [List.mem_singleton] at hu; subst hu; rfl) (by unfold maxLen; omega) (by omega) (by have := hKp5.size; simp; omega) ?_))
            intro v' w6 hown6 hkp _ _
            obtain ⟨av', cv', rfl⟩ := ownsRow_ex hown6
            have hs6 : ∀ i, i < W1.heap.size → i ∉ (Value.slice ao (n + 1) co).ownBlock.toList := fun i hi hm => by
              simp only [Option.mem_toList] at hm
              have := hge _ hm; omega
            have hK6 : Kp [] w0 w6 := hK5.step (((Kp.refl _ w5).alloc _).trans hkp) (fun i hi hm => absurd hm (hs6 i (by have := HZ.out; omega)))
            have hKp6 : Kp [] W1 w6 := hKp5.step (((Kp.refl _ w5).alloc _).trans hkp) (fun i hi hm => absurd hm (hs6 i hi))
            have hl6 : (ws.take (n + 1)).map Value.string ++ [Value.string (SB (numL c.n))] = (ws.take (n + 1 + 1)).map Value.string := by
              rw [List.take_add_one (i := n + 1), HW.out, List.map_append]
              rfl
            rw [← List.map_take, hl6] at hown6
            clear hkp hge hl6 hs6 hown5 hK5 hKp5
            go_wp2_with fail
            go_roundg g'
            case rel =>
              have hn := HN.out
              exact ⟨n + 1, _, _, by omega, rfl, by go_num, hK6, hKp6, hown6⟩
            case measure => omega
          · subst hpc
            have e20 : wr.cell? ⟨g2, n * 3, none⟩ = some (ptrV C _ 0 _) := (hKp.cell (lt_of_cell f20) (by simp)).trans f20
            have e21 : wr.cell? ⟨g2, n * 3 + 1, none⟩ = some (ptrV C _ 1 _) := (hKp.cell (lt_of_cell f21) (by simp)).trans f21
            have e22 : wr.cell? ⟨g2, n * 3 + 2, none⟩ = some (ptrV C _ 2 _) := (hKp.cell (lt_of_cell f22) (by simp)).trans f22
            simp only [ptrV] at e20 e21 e22
            clear f20 f21 f22
            go_wp2_with fail
            refine (word_num C 5 c.a _ (a5 _ (hK.alloc _)) n2.1 (by omega) (htab.keep (kw0.trans (hK.alloc _)))).mono ?_
            rintro e w5 ⟨rfl, k5⟩
            have k45 := ((Kp.refl [] wr).alloc _).trans k5
            have hown5 := ownsRow_keep hown k45 (fun _ _ => by simp)
            have hK5 := hK.trans k45
            have hKp5 := hKp.trans k45
            have hge := own_block_ge hown5
            clear hown hK k5 k45 e20 e21 e22
            go_wp2_with (first | (at_builtin; refine wpList_append_mine _ rfl (.tmp 41) (.tmp 44) 49 rfl W1.heap.size 9 i0 (.string ByteArray.empty) 1 16 Tryz.underlying49 hi hz0 hz1 hz2 rfl (by decide) _ (n + 1) ((ws.take (n + 1)).map Value.string) rfl (ownsRow_keep (X := []) hown5 ((Kp.refl _ w5).alloc _) (fun _ _ => by simp)) ⟨w5.heap.size, 0, none⟩ 1 1 [.string (SB (numL c.a))] rfl rfl (new_cells w5 _ _) (fun u hu => by simp only [List.mem_singleton] at hu; subst hu; rfl) (by unfold maxLen; omega) (by omega) (by have := hKp5.size; simp; omega) ?_))
            intro v' w6 hown6 hkp _ _
            obtain ⟨av', cv', rfl⟩ := ownsRow_ex hown6
            have hs6 : ∀ i, i < W1.heap.size → i ∉ (Value.slice ao (n + 1) co).ownBlock.toList := fun i hi hm => by
              simp only [Option.mem_toList] at hm
              have := hge _ hm; omega
            have hK6 : Kp [] w0 w6 := hK5.step (((Kp.refl _ w5).alloc _).trans hkp) (fun i hi hm => absurd hm (hs6 i (by have := HZ.out; omega)))
            have hKp6 : Kp [] W1 w6 := hKp5.step (((Kp.refl _ w5).alloc _).trans hkp) (fun i hi hm => absurd hm (hs6 i hi))
            have hl6 : (ws.take (n + 1)).map Value.string ++ [Value.string (SB (numL c.a))] = (ws.take (n + 1 + 1)).map Value.string := by
              rw [List.take_add_one (i := n + 1), HW.out, List.map_append]
              rfl
            rw [← List.map_take, hl6] at hown6
            clear hkp hge hl6 hs6 hown5 hK5 hKp5
            go_wp2_with fail
            go_roundg g'
            case rel =>
              have hn := HN.out
              exact ⟨n + 1, _, _, by omega, rfl, by go_num, hK6, hKp6, hown6⟩
            case measure => omega
          · subst hpc
            have e20 : wr.cell? ⟨g2, n * 3, none⟩ = some (ptrV C _ 0 _) := (hKp.cell (lt_of_cell f20) (by simp)).trans f20
            have e21 : wr.cell? ⟨g2, n * 3 + 1, none⟩ = some (ptrV C _ 1 _) := (hKp.cell (lt_of_cell f21) (by simp)).trans f21
            have e22 : wr.cell? ⟨g2, n * 3 + 2, none⟩ = some (ptrV C _ 2 _) := (hKp.cell (lt_of_cell f22) (by simp)).trans f22
            simp only [ptrV] at e20 e21 e22
            clear f20 f21 f22
            go_wp2_with fail
            refine (word_num C 6 c.b _ (a6 _ (hK.alloc _)) n3.1 (by omega) (htab.keep (kw0.trans (hK.alloc _)))).mono ?_
            rintro e w5 ⟨rfl, k5⟩
            have k45 := ((Kp.refl [] wr).alloc _).trans k5
            have hown5 := ownsRow_keep hown k45 (fun _ _ => by simp)
            have hK5 := hK.trans k45
            have hKp5 := hKp.trans k45
            have hge := own_block_ge hown5
            clear hown hK k5 k45 e20 e21 e22
            go_wp2_with (first | (at_builtin; refine wpList_append_mine _ rfl (.tmp 41) (.tmp 44) 49 rfl W1.heap.size 9 i0 (.string ByteArray.empty) 1 16 Tryz.underlying49 hi hz0 hz1 hz2 rfl (by decide) _ (n + 1) ((ws.take (n + 1)).map Value.string) rfl (ownsRow_keep (X := []) hown5 ((Kp.refl _ w5).alloc _) (fun _ _ => by simp)) ⟨w5.heap.size, 0, none⟩ 1 1 [.string (SB (numL c.b))] rfl rfl (new_cells w5 _ _) (fun u hu => by simp only [List.mem_singleton] at hu; subst hu; rfl) (by unfold maxLen; omega) (by omega) (by have := hKp5.size; simp; omega) ?_))
            intro v' w6 hown6 hkp _ _
            obtain ⟨av', cv', rfl⟩ := ownsRow_ex hown6
            have hs6 : ∀ i, i < W1.heap.size → i ∉ (Value.slice ao (n + 1) co).ownBlock.toList := fun i hi hm => by
              simp only [Option.mem_toList] at hm
              have := hge _ hm; omega
            have hK6 : Kp [] w0 w6 := hK5.step (((Kp.refl _ w5).alloc _).trans hkp) (fun i hi hm => absurd hm (hs6 i (by have := HZ.out; omega)))
            have hKp6 : Kp [] W1 w6 := hKp5.step (((Kp.refl _ w5).alloc _).trans hkp) (fun i hi hm => absurd hm (hs6 i hi))
            have hl6 : (ws.take (n + 1)).map Value.string ++ [Value.string (SB (numL c.b))] = (ws.take (n + 1 + 1)).map Value.string := by
              rw [List.take_add_one (i := n + 1), HW.out, List.map_append]
              rfl
            rw [← List.map_take, hl6] at hown6
            clear hkp hge hl6 hs6 hown5 hK5 hKp5
            go_wp2_with fail
            go_roundg g'
            case rel =>
              have hn := HN.out
              exact ⟨n + 1, _, _, by omega, rfl, by go_num, hK6, hKp6, hown6⟩
            case measure => omega
          · subst hpc
            have e20 : wr.cell? ⟨g2, n * 3, none⟩ = some (ptrV C _ 0 _) := (hKp.cell (lt_of_cell f20) (by simp)).trans f20
            have e21 : wr.cell? ⟨g2, n * 3 + 1, none⟩ = some (ptrV C _ 1 _) := (hKp.cell (lt_of_cell f21) (by simp)).trans f21
            have e22 : wr.cell? ⟨g2, n * 3 + 2, none⟩ = some (ptrV C _ 2 _) := (hKp.cell (lt_of_cell f22) (by simp)).trans f22
            simp only [ptrV] at e20 e21 e22
            clear f20 f21 f22
            go_wp2_with fail
            refine (word_text C 7 c.text _ (a7 _ (hK.alloc _)) (by omega)).mono ?_
            rintro e w5 ⟨rfl, k5⟩
            have k45 := ((Kp.refl [] wr).alloc _).trans k5
            have hown5 := ownsRow_keep hown k45 (fun _ _ => by simp)
            have hK5 := hK.trans k45
            have hKp5 := hKp.trans k45
            have hge := own_block_ge hown5
            clear hown hK k5 k45 e20 e21 e22
            go_wp2_with (first | (at_builtin; refine wpList_append_mine _ rfl (.tmp 41) (.tmp 44) 49 rfl W1.heap.size 9 i0 (.string ByteArray.empty) 1 16 Tryz.underlying49 hi hz0 hz1 hz2 rfl (by decide) _ (n + 1) ((ws.take (n + 1)).map Value.string) rfl (ownsRow_keep (X := []) hown5 ((Kp.refl _ w5).alloc _) (fun _ _ => by simp)) ⟨w5.heap.size, 0, none⟩ 1 1 [.string (SB (digitsL c.text.data.toList))] rfl rfl (new_cells w5 _ _) (fun u hu => by simp only [List.mem_singleton] at hu; subst hu; rfl) (by unfold maxLen; omega) (by omega) (by have := hKp5.size; simp; omega) ?_))
            intro v' w6 hown6 hkp _ _
            obtain ⟨av', cv', rfl⟩ := ownsRow_ex hown6
            have hs6 : ∀ i, i < W1.heap.size → i ∉ (Value.slice ao (n + 1) co).ownBlock.toList := fun i hi hm => by
              simp only [Option.mem_toList] at hm
              have := hge _ hm; omega
            have hK6 : Kp [] w0 w6 := hK5.step (((Kp.refl _ w5).alloc _).trans hkp) (fun i hi hm => absurd hm (hs6 i (by have := HZ.out; omega)))
            have hKp6 : Kp [] W1 w6 := hKp5.step (((Kp.refl _ w5).alloc _).trans hkp) (fun i hi hm => absurd hm (hs6 i hi))
            have hl6 : (ws.take (n + 1)).map Value.string ++ [Value.string (SB (digitsL c.text.data.toList))] = (ws.take (n + 1 + 1)).map Value.string := by
              rw [List.take_add_one (i := n + 1), HW.out, List.map_append]
              rfl
            rw [← List.map_take, hl6] at hown6
            clear hkp hge hl6 hs6 hown5 hK5 hKp5
            go_wp2_with fail
            go_roundg g'
            case rel =>
              have hn := HN.out
              exact ⟨n + 1, _, _, by omega, rfl, by go_num, hK6, hKp6, hown6⟩
            case measure => omega
          · subst hpc
            have e20 : wr.cell? ⟨g2, n * 3, none⟩ = some (ptrV C _ 0 _) := (hKp.cell (lt_of_cell f20) (by simp)).trans f20
            have e21 : wr.cell? ⟨g2, n * 3 + 1, none⟩ = some (ptrV C _ 1 _) := (hKp.cell (lt_of_cell f21) (by simp)).trans f21
            have e22 : wr.cell? ⟨g2, n * 3 + 2, none⟩ = some (ptrV C _ 2 _) := (hKp.cell (lt_of_cell f22) (by simp)).trans f22
            simp only [ptrV] at e20 e21 e22
            clear f20 f21 f22
            go_wp2_with fail
            refine (word_list C 8 c.keep _ _ _ (a8 _ (hK.alloc _)) (hk1.keep0 (hK.alloc _)) (by omega)).mono ?_
            rintro e w5 ⟨rfl, k5⟩
            have k45 := ((Kp.refl [] wr).alloc _).trans k5
            have hown5 := ownsRow_keep hown k45 (fun _ _ => by simp)
            have hK5 := hK.trans k45
            have hKp5 := hKp.trans k45
            have hge := own_block_ge hown5
            clear hown hK k5 k45 e20 e21 e22
            go_wp2_with (first | (at_builtin; refine wpList_append_mine _ rfl (.tmp 41) (.tmp 44) 49 rfl W1.heap.size 9 i0 (.string ByteArray.empty) 1 16 Tryz.underlying49 hi hz0 hz1 hz2 rfl (by decide) _ (n + 1) ((ws.take (n + 1)).map Value.string) rfl (ownsRow_keep (X := []) hown5 ((Kp.refl _ w5).alloc _) (fun _ _ => by simp)) ⟨w5.heap.size, 0, none⟩ 1 1 [.string (SB (marksW c.keep))] rfl rfl (new_cells w5 _ _) (fun u hu => by simp only [List.mem_singleton] at hu; subst hu; rfl) (by unfold maxLen; omega) (by omega) (by have := hKp5.size; simp; omega) ?_))
            intro v' w6 hown6 hkp _ _
            obtain ⟨av', cv', rfl⟩ := ownsRow_ex hown6
            have hs6 : ∀ i, i < W1.heap.size → i ∉ (Value.slice ao (n + 1) co).ownBlock.toList := fun i hi hm => by
              simp only [Option.mem_toList] at hm
              have := hge _ hm; omega
            have hK6 : Kp [] w0 w6 := hK5.step (((Kp.refl _ w5).alloc _).trans hkp) (fun i hi hm => absurd hm (hs6 i (by have := HZ.out; omega)))
            have hKp6 : Kp [] W1 w6 := hKp5.step (((Kp.refl _ w5).alloc _).trans hkp) (fun i hi hm => absurd hm (hs6 i hi))
            have hl6 : (ws.take (n + 1)).map Value.string ++ [Value.string (SB (marksW c.keep))] = (ws.take (n + 1 + 1)).map Value.string := by
              rw [List.take_add_one (i := n + 1), HW.out, List.map_append]
              rfl
            rw [← List.map_take, hl6] at hown6
            clear hkp hge hl6 hs6 hown5 hK5 hKp5
            go_wp2_with fail
            go_roundg g'
            case rel =>
              have hn := HN.out
              exact ⟨n + 1, _, _, by omega, rfl, by go_num, hK6, hKp6, hown6⟩
            case measure => omega
          · subst hpc
            have e20 : wr.cell? ⟨g2, n * 3, none⟩ = some (ptrV C _ 0 _) := (hKp.cell (lt_of_cell f20) (by simp)).trans f20
            have e21 : wr.cell? ⟨g2, n * 3 + 1, none⟩ = some (ptrV C _ 1 _) := (hKp.cell (lt_of_cell f21) (by simp)).trans f21
            have e22 : wr.cell? ⟨g2, n * 3 + 2, none⟩ = some (ptrV C _ 2 _) := (hKp.cell (lt_of_cell f22) (by simp)).trans f22
            simp only [ptrV] at e20 e21 e22
            clear f20 f21 f22
            go_wp2_with fail
            refine (word_list C 9 c.torn _ _ _ (a9 _ (hK.alloc _)) (hk2.keep0 (hK.alloc _)) (by omega)).mono ?_
            rintro e w5 ⟨rfl, k5⟩
            have k45 := ((Kp.refl [] wr).alloc _).trans k5
            have hown5 := ownsRow_keep hown k45 (fun _ _ => by simp)
            have hK5 := hK.trans k45
            have hKp5 := hKp.trans k45
            have hge := own_block_ge hown5
            clear hown hK k5 k45 e20 e21 e22
            go_wp2_with (first | (at_builtin; refine wpList_append_mine _ rfl (.tmp 41) (.tmp 44) 49 rfl W1.heap.size 9 i0 (.string ByteArray.empty) 1 16 Tryz.underlying49 hi hz0 hz1 hz2 rfl (by decide) _ (n + 1) ((ws.take (n + 1)).map Value.string) rfl (ownsRow_keep (X := []) hown5 ((Kp.refl _ w5).alloc _) (fun _ _ => by simp)) ⟨w5.heap.size, 0, none⟩ 1 1 [.string (SB (marksW c.torn))] rfl rfl (new_cells w5 _ _) (fun u hu => by simp only [List.mem_singleton] at hu; subst hu; rfl) (by unfold maxLen; omega) (by omega) (by have := hKp5.size; simp; omega) ?_))
            intro v' w6 hown6 hkp _ _
            obtain ⟨av', cv', rfl⟩ := ownsRow_ex hown6
            have hs6 : ∀ i, i < W1.heap.size → i ∉ (Value.slice ao (n + 1) co).ownBlock.toList := fun i hi hm => by
              simp only [Option.mem_toList] at hm
              have := hge _ hm; omega
            have hK6 : Kp [] w0 w6 := hK5.step (((Kp.refl _ w5).alloc _).trans hkp) (fun i hi hm => absurd hm (hs6 i (by have := HZ.out; omega)))
            have hKp6 : Kp [] W1 w6 := hKp5.step (((Kp.refl _ w5).alloc _).trans hkp) (fun i hi hm => absurd hm (hs6 i hi))
            have hl6 : (ws.take (n + 1)).map Value.string ++ [Value.string (SB (marksW c.torn))] = (ws.take (n + 1 + 1)).map Value.string := by
              rw [List.take_add_one (i := n + 1), HW.out, List.map_append]
              rfl
            rw [← List.map_take, hl6] at hown6
            clear hkp hge hl6 hs6 hown5 hK5 hKp5
            go_wp2_with fail
            go_roundg g'
            case rel =>
              have hn := HN.out
              exact ⟨n + 1, _, _, by omega, rfl, by go_num, hK6, hKp6, hown6⟩
            case measure => omega
        · obtain rfl : n = ps.length := by omega
          obtain rfl : gk = 0 := by omega
          clear hn
          have hwl : ws.length = ps.length + 1 := by rw [HWS.out]; simp
          rw [← hwl, List.take_length] at hown
          have hne : ws ≠ [] := by rw [HWS.out]; simp
          have hjl : (Lib.join (ws.map (·.data.toList)) [32]).length ≤ 1000000 := by rw [← HL.out]; have := HLL.out; omega
          have hw3 : ws.length ≤ 1000 := by omega
          have HJ := Lib.hid hjl
          clear hjl
          go_wp2_with fail
          rw [← hwl]
          refine (join_own hown hne HJ.out hw3).mono ?_
          rintro e w9 ⟨rfl, k9⟩
          go_wp2_with fail
          go_ret2
          exact ⟨by rw [HS.out, HL.out]; rfl, kw0.trans (hK.trans k9)⟩
  · have hne : (ce != 0) = true := by simpa using h0
    have hRR : S = E0 ∧ R = ce := by
      have := HR.out
      unfold printC at this
      rw [if_neg (by rw [← HCE.out]; exact h0), ← HCE.out] at this
      simp only [Prod.mk.injEq] at this
      exact this
    obtain ⟨rfl, rfl⟩ := hRR
    clear h0
    go_wp2_with fail
    go_ret2
    exact ⟨rfl, kw0.trans hK⟩
end Go.Proofs.YtmihnakapnoefaaGreatDoor
