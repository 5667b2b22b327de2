/-
  Reading a part's word: a text.
-/
import Derived.Test.YtmihnakapnoefaaGreatDoorScrI
namespace Go.Proofs.YtmihnakapnoefaaGreatDoor
open Go.RowKit Go.WideShapes

theorem pu_hex : ∀ x : Fin 256, puL [hexD (x.val / 16), hexD (x.val % 16)] = some x.val := by decide +kernel
theorem hex_drop : ∀ (u : List UInt8) (k : Nat) (y : UInt8), u[k]? = some y → (hexL u).drop (2 * k) = hexD (y.toNat / 16) :: hexD (y.toNat % 16) :: hexL (u.drop (k + 1))
  | [], k, y, h => by simp at h
  | x :: u, 0, y, h => by
    simp only [List.getElem?_cons_zero, Option.some.injEq] at h
    subst h
    rw [hexL_cons]; rfl
  | x :: u, k + 1, y, h => by
    rw [hexL_cons, show 2 * (k + 1) = 2 * k + 1 + 1 from by omega]
    simp only [List.drop_succ_cons]
    exact hex_drop u k y (by simpa using h)
/-- what two digits give, of a text that was written -/
theorem pair_of {s u : List UInt8} (h : hexL u = s) {k : Nat} (hk : 2 * k + 2 ≤ s.length) : ∃ y, u[k]? = some y ∧ puL ((s.drop (2 * k)).take 2) = some y.toNat := by
  have hl := hexL_len u
  rw [h] at hl
  have hg : u[k]? = some u[k] := List.getElem?_eq_getElem (by omega)
  refine ⟨u[k], hg, ?_⟩
  have hd := hex_drop u k _ hg
  rw [h] at hd
  rw [hd]
  have hb := (u[k]).toNat_lt
  exact pu_hex ⟨(u[k]).toNat, hb⟩
theorem undig_hex {s u : List UInt8} (h0 : s ≠ [45]) (h : undigR s = some u) : hexL u = s := by
  have := digits_undig s u h
  unfold digitsL at this
  split at this
  · exact absurd this.symm h0
  · exact this
theorem convB {w : World} {b : Nat} {x : Int} (h : w.heap[b]? = some (.cells #[.int .u8 x] 5 (0, 0))) (y : UInt8) (hy : (y.toNat : Int) = x) :
    (∀ W, Kp [] w W → (convert 79 9 (.slice (some ⟨b, 0, none⟩) 1 1)).run Tryz.prog W = .ok (.string ⟨#[y]⟩) W) ∧ Kp [] w w := by
  refine ⟨fun W hW => ?_, Kp.refl _ _⟩
  refine run_convert_bytes_back W _ _ _ ⟨b, 0, none⟩ 1 [y] Tryz.underlying79 Tryz.underlying5 Tryz.underlying9 (fun j hj => ?_)
  obtain rfl : j = 0 := by simp at hj; omega
  rw [show W.cell? ((⟨b, 0, none⟩ : Addr).add 0) = some (.int .u8 x) from cell_of_cells (Kp.blockAt h (by simp) W hW) rfl, ← hy]
  rfl
theorem ext_list (s : ByteArray) (i j : Nat) : (s.extract i j).data.toList = (s.data.toList.drop i).take (j - i) := by
  rw [ByteArray.data_extract, Array.toList_extract, List.extract_eq_take_drop]
set_option maxHeartbeats 4000000 in
set_option maxRecDepth 20000 in
/-- a text's word is read -/
theorem read_text (b o : Nat) (cs : Array Value) (t : TypeId) (s : ByteArray) (hs : s.size ≤ 20000) (wz w : World) (hE : Env wz) (kz : Kp [] wz w) (hbz : wz.heap.size ≤ b) (hb : w.heap[b]? = some (.cells cs t (0, 0))) (hu : cs[o]? = some (.string E0)) :
    Calls Tryz.prog 33 #[.agg (tri b (1, o)).toArray, .string s] w fun e w' => e = .returned (.bool (undigR s.data.toList).isSome) ∧ Kp [b] w w' ∧ ∃ T : ByteArray, w'.heap[b]? = some (.cells (cs.setIfInBounds o (.string T)) t (0, 0)) ∧ T.size ≤ 10000 ∧ ∀ u, undigR s.data.toList = some u → T = SB u := by
  show Calls Tryz.prog 33 #[.agg #[.pointer none, .pointer (some ⟨b, o, none⟩), .pointer none], .string s] w _
  obtain ⟨w0, hw0⟩ : ∃ w0, w0 = w.alloc (.cells #[.pointer none, .pointer (some ⟨b, o, none⟩), .pointer none] 54) := ⟨_, rfl⟩
  have kw0 : Kp [] w w0 := hw0 ▸ (Kp.refl _ _).alloc _
  have hbox : w0.heap[w.heap.size]? = some (.cells #[.pointer none, .pointer (some ⟨b, o, none⟩), .pointer none] 54 (0, 0)) := by rw [hw0]; exact block_new _ _
  have hblt := lt_of_block hb
  have hbw : w.heap.size ≠ b := by omega
  have hwb : b ≠ w.heap.size := by omega
  have c0 := boxAt hbox (X := [b]) (by simpa using hbw) 0 _ rfl
  have c1 := boxAt hbox (X := [b]) (by simpa using hbw) 1 _ rfl
  have c2 := boxAt hbox (X := [b]) (by simpa using hbw) 2 _ rfl
  have hb0 := Kp.blockAt (X := []) hb (by simp) _ kw0
  have C0 := Lib.hid c0
  have C1 := Lib.hid c1
  have C2 := Lib.hid c2
  have Hw0 := Lib.hid hw0
  have hK := Kp.refl [b] w0
  have HB0 := Lib.hid hb0
  clear hw0 hbox hb0
  obtain ⟨R, hR⟩ : ∃ R, R = (undigR s.data.toList).isSome := ⟨_, rfl⟩
  rw [← hR]
  have HR := Lib.hid hR
  clear hR
  have hsz : o < cs.size := (Array.getElem?_eq_some_iff.1 hu).1
  have kz0 := kz.trans kw0
  have hset : cs.setIfInBounds o (.string E0) = cs := by
    apply Array.ext_getElem?
    intro i
    rw [Array.getElem?_setIfInBounds]
    split
    · rename_i e; subst e; exact hu.symm
    · rfl
  have HSET := Lib.hid hset
  clear hset
  by_cases hm : s = SB [45]
  · have hr : R = true := by rw [HR.out, hm]; rfl
    have hval : ∀ u, undigR s.data.toList = some u → E0 = SB u := fun m h => by rw [hm] at h; cases h; rfl
    have HV := Lib.hid hval
    subst hr
    have hse : s = ⟨#[45]⟩ := hm
    clear hval hm
    subst hse
    go_enter Tryz.func33, Tryz.ntmps33
    go_wp2_with fail
    rw [← Hw0.out]
    go_ret
    exact ⟨rfl, kw0.weaken (fun _ _ h => by cases h), E0, by rw [HSET.out]; exact HB0.out, by decide, HV.out⟩
  · have hne : (s.toList == [45]) = false := by
      rw [ByteArray.toList_eq]
      simp only [beq_eq_false_iff_ne, ne_eq]
      exact fun e => hm (by rw [← SB_data s, e])
    have hml : s.data.toList ≠ [45] := fun e => hm (by rw [← e, SB_data])
    have HML := Lib.hid hml
    have hb0 := HB0.out
    have hzw : w.heap.size < w0.heap.size := by rw [Hw0.out]; simp
    clear hm hml
    go_enter Tryz.func33, Tryz.ntmps33
    go_wp2_with fail
    rw [← Hw0.out]
    go_loopg [9] (s.size / 2) (fun g i wr => ∃ (k : Nat) (m : Nat) (T : ByteArray), k + g = s.size / 2 ∧ Hid (m = 2 * k) ∧ m ≤ s.size ∧ i = .int .i64 m ∧ Kp [b] w0 wr ∧ wr.heap[b]? = some (.cells (cs.setIfInBounds o (.string T)) t (0, 0)) ∧ Kp [] wz wr ∧ T.size = k ∧ Hid (∀ u, hexL u = s.data.toList → T.data.toList = u.take k))
    case atStart => exact ⟨0, 0, E0, by omega, rfl, by omega, rfl, hK, by rw [HSET.out]; exact hb0, kz0, rfl, fun u _ => by simp⟩
    case round =>
      clear hK hb0
      obtain ⟨k, m, T, hn, HM, hms, rfl, hK, hbb, kzr, hT, HU⟩ := hrel
      have HN := Lib.hid hn
      have HBB := Lib.hid hbb
      by_cases hlt : k < s.size / 2
      · obtain ⟨g', rfl⟩ : ∃ g', gk = g' + 1 := ⟨gk - 1, by omega⟩
        have hm2 : m + 2 ≤ s.size := by have := HM.out; omega
        have hltI : (m : Int) + 1 < (s.size : Int) := by omega
        have hT9 : T.size + 1 ≤ 9223372036854775807 := by omega
        have HTS := Lib.hid hT
        have x0 : wr.cell? ⟨b, o, none⟩ = some (.string T) := cell_of_cells hbb (by simp [hsz])
        have xf : wr.frozen? ⟨b, o, none⟩ = false := frozen_of_cells hbb _
        clear hn hbb hT
        go_wp2_with fail
        have hex2 : (s.extract m (m + 2)).size = 2 := by rw [ByteArray.size_extract]; omega
        refine (pu16 (s.extract m (m + 2)) hex2 wr (hE.keep kzr)).mono ?_
        rintro e w1 ⟨n, er, rfl, k1, hres⟩
        have hlst : (s.extract m (m + 2)).data.toList = (s.data.toList.drop (2 * k)).take 2 := by
          rw [ext_list, HM.out]; congr 1; omega
        have hpair : ∀ u, hexL u = s.data.toList → ∃ y, u[k]? = some y ∧ puL (s.extract m (m + 2)).data.toList = some y.toNat := fun u hu => by
          rw [hlst]
          exact pair_of hu (by rw [len_data]; have := HM.out; omega)
        have HPAIR := Lib.hid hpair
        have hkw1 : Kp [b] w w1 := ((kw0.weaken (fun _ _ h => by cases h)).trans hK).call k1
        have hb1 := Kp.blockAt (X := []) HBB.out (by simp) _ k1
        have HB1 := Lib.hid hb1
        have kz1 := kzr.trans k1
        have hK1 : Kp [b] w0 w1 := hK.call k1
        clear hlst hpair hex2
        cases hp : puL (s.extract m (m + 2)).data.toList with
        | none =>
          rw [hp] at hres
          obtain ⟨tp, p, rfl⟩ := hres
          have hno : ∀ u, undigR s.data.toList ≠ some u := fun u hu => by
            obtain ⟨y, -, h2⟩ := HPAIR.out u (undig_hex HML.out hu)
            rw [hp] at h2; cases h2
          have hr : R = false := by
            rw [HR.out]
            cases hq : undigR s.data.toList with
            | none => rfl
            | some u => exact absurd hq (hno u)
          have hv : ∀ u, undigR s.data.toList = some u → T = SB u := fun u hu => absurd hu (hno u)
          have HV := Lib.hid hv
          subst hr
          clear hno hv hp hb1
          go_wp2_with fail
          go_ret
          exact ⟨rfl, hkw1, T, HB1.out, by have := HTS.out; omega, HV.out⟩
        | some u1 =>
          rw [hp] at hres
          obtain ⟨hn1, rfl⟩ := hres
          have hu256 : u1 < 256 := by
            have := puL_lt 2 (s.extract m (m + 2)).data.toList (by rw [len_data, ByteArray.size_extract]; omega) hp
            simpa using this
          obtain ⟨y, hy⟩ : ∃ y : UInt8, y = UInt8.ofNat u1 := ⟨_, rfl⟩
          have hyt : y.toNat = u1 := by rw [hy, UInt8.toNat_ofNat']; omega
          have hyn : (y.toNat : Int) = n := by rw [hyt, hn1]
          have hnw : IntKind.u8.wrap n = n := u8id _ (by omega) (by omega)
          have HP := Lib.hid hp
          have HYT := Lib.hid hyt
          have HYN := Lib.hid hyn
          have d1 : ∀ W, Kp [] w1 W → W.cell? ⟨w.heap.size, 1, none⟩ = some (.pointer (some ⟨b, o, none⟩)) := fun W hW => c1 W (hK1.call hW)
          have e3 : ∀ W, Kp [] w1 W → W.cell? ⟨b, o, none⟩ = some (.string T) := Kp.cellAt (X := []) (w0 := w1) (cell_of_cells hb1 (by simp [hsz])) (by simp)
          have f3 : ∀ W, Kp [] w1 W → W.frozen? ⟨b, o, none⟩ = false := fun W hW => frozen_of_cells (Kp.blockAt HB1.out (by simp) W hW) _
          have hKK := Kp.refl [] w1
          have hlast := HN.out
          clear hn1 hu256 hy hyt hyn hp hb1 x0 xf c0 c2 hlast
          go_wp2_with fail
          refine wpB_begin 10 (Kp [] w1) (by kernel_rfl) (by exact (Kp.refl _ _).drew) (fun hHeld => ?_)
          refine wpB_take 0 _ ?_ rfl (by kernel_rfl) (fun _ _ _ h => h) rfl hHeld ?_ ?_
          rotate_left
          · (intro W hW; go_simp; try with_reducible rfl)
          try simp only [Act.put, List.setIfInBounds_toArray, List.set_cons_zero, List.set_cons_succ]
          refine wpB_take 1 _ ?_ rfl (by kernel_rfl) (fun _ _ _ h => h) rfl hHeld ?_ ?_
          rotate_left
          · (intro W hW; go_simp; try with_reducible rfl)
          try simp only [Act.put, List.setIfInBounds_toArray, List.set_cons_zero, List.set_cons_succ]
          refine wpB_take 2 _ ?_ rfl (by kernel_rfl) (fun _ _ _ h => h) rfl hHeld ?_ ?_
          rotate_left
          · (intro W hW; go_simp; try with_reducible rfl)
          try simp only [Act.put, List.setIfInBounds_toArray, List.set_cons_zero, List.set_cons_succ]
          refine wpB_take 3 _ ?_ rfl (by kernel_rfl) (fun _ _ _ h => h) rfl hHeld ?_ ?_
          rotate_left
          · (intro W hW; go_simp; try with_reducible rfl)
          try simp only [Act.put, List.setIfInBounds_toArray, List.set_cons_zero, List.set_cons_succ]
          refine wpB_take 4 _ ?_ rfl (by kernel_rfl) (fun _ _ _ h => h) rfl hHeld ?_ ?_
          rotate_left
          · (intro W hW; go_simp; try with_reducible rfl)
          try simp only [Act.put, List.setIfInBounds_toArray, List.set_cons_zero, List.set_cons_succ]
          refine wpB_take 5 _ ?_ rfl (by kernel_rfl) (fun _ _ _ h => h) rfl hHeld ?_ ?_
          rotate_left
          · (intro W hW; go_simp; try with_reducible rfl)
          try simp only [Act.put, List.setIfInBounds_toArray, List.set_cons_zero, List.set_cons_succ]
          refine wpB_step 6 _ rfl (by kernel_rfl) rfl rfl (fun K hK_ => ?_)
          go_simp
          first | refine with_new (K := K) fun hc6 => ?_ | refine with_new_drew (K := K) fun hc6 => ?_
          obtain ⟨hcv, hr6⟩ := convB hc6 y HYN.out
          refine hK_.out _ _ (by first | exact hHeld | exact hHeld.call ‹_› | exact hHeld.alloc _) (fun hHeld => ?_)
          clear hK_ K
          try simp only [Act.put, List.setIfInBounds_toArray, List.set_cons_zero, List.set_cons_succ]
          refine wpB_step 7 _ rfl (by kernel_rfl) rfl rfl (fun K hK_ => ?_)
          go_simp
          refine hK_.out _ _ (by first | exact hHeld | exact hHeld.call ‹_› | exact hHeld.alloc _) (fun hHeld => ?_)
          clear hK_ K
          try simp only [Act.put, List.setIfInBounds_toArray, List.set_cons_zero, List.set_cons_succ]
          refine wpB_take 8 _ ?_ rfl (by kernel_rfl) (fun _ _ _ h => h) rfl hHeld ?_ ?_
          rotate_left
          · (intro W hW; go_simp; rw [if_neg (by omega)])
          try simp only [Act.put, List.setIfInBounds_toArray, List.set_cons_zero, List.set_cons_succ]
          refine wpB_take 9 _ ?_ rfl (by kernel_rfl) (fun _ _ _ h => h) rfl hHeld ?_ ?_
          rotate_left
          · (intro W hW; go_simp; try with_reducible rfl)
          try simp only [Act.put, List.setIfInBounds_toArray, List.set_cons_zero, List.set_cons_succ]
          refine wpB_bar (Kp [b] w1) 999 _ rfl (by kernel_rfl) rfl (fun K hK_ => ?_)
          go_simp
          refine hK_.out _ _ (by exact (hHeld.weaken (fun _ _ h => by cases h)).setCell (.inl (by simp)) _) (fun hHeld => ?_)
          clear hK_ K
          try simp only [Act.put, List.setIfInBounds_toArray, List.set_cons_zero, List.set_cons_succ]
          refine wpB_done (by kernel_rfl) ?_ _
          have hW4 : Kp [b] w0 (((w1.alloc (.cells #[.int .u8 n] 5)).setCell ⟨b, o, none⟩ (.string (T ++ ⟨#[y]⟩))).drew) := ((hK1.alloc _).setCell (.inl (by simp)) _).drew
          have hz4 : Kp [] wz (((w1.alloc (.cells #[.int .u8 n] 5)).setCell ⟨b, o, none⟩ (.string (T ++ ⟨#[y]⟩))).drew) := ((kz1.alloc _).setCell (.inr hbz) _).drew
          have hb4 : (((w1.alloc (.cells #[.int .u8 n] 5)).setCell ⟨b, o, none⟩ (.string (T ++ ⟨#[y]⟩))).drew).heap[b]? = some (.cells (cs.setIfInBounds o (.string (T ++ ⟨#[y]⟩))) t (0, 0)) := by
            show ((w1.alloc (.cells #[.int .u8 n] 5)).setCell ⟨b, o, none⟩ (.string (T ++ ⟨#[y]⟩))).heap[b]? = _
            rw [block_setCell (block_alloc HB1.out _)]
            congr 2
            simp
          have hun : ∀ u, hexL u = s.data.toList → (T ++ ⟨#[y]⟩).data.toList = u.take (k + 1) := fun u hu => by
            obtain ⟨z, hz1, hz2⟩ := HPAIR.out u hu
            rw [HP.out] at hz2
            have hzy : z = y := by
              have h1 : z.toNat = y.toNat := by rw [HYT.out]; injection hz2 with h; exact h.symm
              rw [← ofNat_toNat8 z, h1, ofNat_toNat8]
            rw [ByteArray.data_append, Array.toList_append, HU.out u hu, List.take_add_one, hz1, hzy]
            rfl
          have HW4 := Lib.hid hW4
          have HZ4 := Lib.hid hz4
          have HB4 := Lib.hid hb4
          have HUN := Lib.hid hun
          clear hW4 hz4 hb4 hun hcv hr6 hc6
          go_wp2_with fail
          go_roundg g'
          case rel =>
            have hn := HN.out
            have hm := HM.out
            exact ⟨k + 1, m + 2, _, by omega, by show m + 2 = 2 * (k + 1); omega, hm2, by go_num, HW4.out, HB4.out, HZ4.out, by rw [ByteArray.size_append, HTS.out]; rfl, HUN.out⟩
          case measure => omega
      · obtain rfl : k = s.size / 2 := by omega
        obtain rfl : gk = 0 := by omega
        have hno : ¬ (m : Int) + 1 < (s.size : Int) := by have := HM.out; omega
        have hcell : wr.cell? ⟨b, o, none⟩ = some (.string T) := cell_of_cells hbb (by simp [hsz])
        have hTz : T.size ≤ 10000 := by omega
        have hfull : ∀ u, undigR s.data.toList = some u → T = SB u := fun u hu => by
          have h1 := undig_hex HML.out hu
          have h2 := HU.out u h1
          have h3 := hexL_len u
          rw [h1, len_data] at h3
          rw [List.take_of_length_le (by omega)] at h2
          rw [← h2, SB_data]
        have hk' : Kp [b] w wr := (kw0.weaken (fun _ _ h => by cases h)).trans hK
        have HF := Lib.hid hfull
        clear hn hbb hfull hT
        go_wp2_with fail
        refine (word_text b o T _ hcell (by omega)).mono ?_
        rintro e w9 ⟨rfl, k9⟩
        have hk9 : Kp [b] w w9 := hk'.call k9
        have hb9 := Kp.blockAt (X := []) HBB.out (by simp) _ k9
        have HB9 := Lib.hid hb9
        obtain ⟨D, hD⟩ : ∃ D, D = SB (digitsL T.data.toList) := ⟨_, rfl⟩
        rw [← hD]
        have hTs : (D = s) ↔ (undigR s.data.toList).isSome = true := by
          rw [hD]
          constructor
          · intro e
            have : s.data.toList = digitsL T.data.toList := by rw [← e]
            rw [this, undig_digits]; rfl
          · intro e
            obtain ⟨u, hu⟩ := Option.isSome_iff_exists.1 e
            have h1 := HF.out u hu
            rw [h1]
            show SB (digitsL u) = s
            rw [digits_undig _ u hu, SB_data]
        clear hD hb9
        by_cases he : D = s
        · have hr : R = true := by rw [HR.out]; exact hTs.1 he
          subst hr
          clear hTs
          subst he
          go_wp2_with fail
          go_ret
          exact ⟨rfl, hk9, T, HB9.out, hTz, HF.out⟩
        · have hr : R = false := by
            rw [HR.out]
            cases hq : (undigR s.data.toList).isSome with
            | false => rfl
            | true => exact absurd (hTs.2 hq) he
          subst hr
          have hbe := str_ne he
          clear hTs he
          go_wp2_with fail
          go_ret
          exact ⟨rfl, hk9, T, HB9.out, hTz, HF.out⟩
end Go.Proofs.YtmihnakapnoefaaGreatDoor
