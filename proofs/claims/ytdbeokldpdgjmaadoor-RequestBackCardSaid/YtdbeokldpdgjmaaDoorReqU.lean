/-
  An answer's line: the program's.
-/
import Derived.Test.YtdbeokldpdgjmaaDoorReqV
namespace Go.Proofs.YtdbeokldpdgjmaaDoor
open Go.RowKit Go.WideShapes

theorem kp_grow (w : World) (k : Nat) (os : Array Obj) : Kp [] w (Go.Sort.grow (w.drewN k) os) := by
  have h1 := (Kp.refl [] w).drewN k
  refine ⟨h1.os, h1.tape, h1.output, ?_, fun i hi _ => ?_⟩
  · show w.heap.size ≤ (w.heap ++ os).size
    simp
  · show (w.heap ++ os)[i]? = w.heap[i]?
    rw [Array.getElem?_append_left hi]
theorem itoa_nat (n : Nat) (hn : n ≤ 9223372036854775807) (w : World) (htab : Lib.TabIs Tryd.prog w "internal/strconv.uint64pow10" .u64 Lib.pow10Tab) :
    Calls Tryd.prog 31 #[.int .i64 n] w fun e w' => e = .returned (.string (SB (Lib.decDigits n))) ∧ Kp [] w w' := by
  refine (Tryd.strconv_Itoa n (by omega) (by omega) w htab).mono ?_
  rintro e w' ⟨rfl, k, os, rfl⟩
  refine ⟨?_, kp_grow _ _ _⟩
  have : Lib.itoa (n : Int) = Lib.decDigits n := by
    unfold Lib.itoa
    rw [if_neg (by omega)]
    rfl
  rw [this]

theorem _root_.Go.Lib.TabIs.keep {P : Program} {w w' : World} {name : String} {k : IntKind} {zs : List Int} (h : Lib.TabIs P w name k zs) (kp : Kp [] w w') : Lib.TabIs P w' name k zs := by
  unfold Lib.TabIs World.var? at h ⊢
  cases hg : P.globalNamed name with
  | none => rw [hg] at h; cases h
  | some g =>
    rw [hg] at h
    simp only [Option.bind_some] at h ⊢
    cases hb : w.heap[g]? with
    | none => rw [hb] at h; cases h
    | some o => rw [kp.block g (lt_of_block hb) (by simp), hb]; rw [hb] at h; exact h
set_option maxHeartbeats 2000000 in
set_option maxRecDepth 20000 in
theorem qanswer (kind code : Int) (v : ByteArray) (kv : Value) (ks : List ByteArray) (w : World) (h0 : 0 ≤ code) (hc : code ≤ 9223372036854775807) (hv : v.size < 16384)
    (hk : SliceAt w.heap.size w kv 1 ks.length (ks.map Value.string)) (hkl : ks.length ≤ 30) (hks : ∀ k ∈ ks, k.size ≤ 100) (htab : Lib.TabIs Tryd.prog w "internal/strconv.uint64pow10" .u64 Lib.pow10Tab) :
    Calls Tryd.prog 17 #[.int .i64 kind, .agg #[.int .i64 code, .string v, kv]] w fun e w' => e = .returned (.string (SB (answerL kind code v ks))) ∧ Kp [] w w' := by
  obtain ⟨av, cv, rfl⟩ := slice_ex hk
  by_cases hcz : code = 0
  · subst hcz
    by_cases k0 : kind = 0
    · subst k0
      have hR : answerL 0 0 v ks = [111, 107] := rfl
      rw [hR]; clear hR
      go_enter Tryd.func17, Tryd.ntmps17
      go_wp2_with fail
      go_ret
      exact ⟨rfl, (Kp.refl _ _).alloc _⟩
    by_cases k2 : kind = 2
    · subst k2
      have hR : answerL 2 0 v ks = [111, 107] := rfl
      rw [hR]; clear hR
      go_enter Tryd.func17, Tryd.ntmps17
      go_wp2_with fail
      go_ret
      exact ⟨rfl, (Kp.refl _ _).alloc _⟩
    by_cases k1 : kind = 1
    · subst k1
      obtain ⟨S3, hS3⟩ : ∃ S3, S3 = SB (digitsL v.data.toList) := ⟨_, rfl⟩
      have hz : S3.size ≤ 40000 := by rw [hS3, SB_size]; have := digits_len v.data.toList; rw [len_data'] at this; omega
      have hR : SB (answerL 1 0 v ks) = ⟨#[118, 97, 108, 117, 101, 32]⟩ ++ S3 := by
        rw [hS3]
        exact bytes_inj (by simp [answerL, ByteArray.data_append])
      rw [hR]
      have hm : 6 + S3.size ≤ 9223372036854775807 := by omega
      have HS3 := Lib.hid hS3
      clear hR hS3
      go_enter Tryd.func17, Tryd.ntmps17
      go_wp2_with fail
      refine (qdigits v hv _).mono ?_
      rintro e w5 ⟨rfl, k5⟩
      rw [show (⟨(digitsL v.data.toList).toArray⟩ : ByteArray) = S3 from HS3.out.symm]
      go_wp2_with fail
      go_ret
      exact ⟨rfl, ((Kp.refl _ _).alloc _).trans k5⟩
    by_cases k3 : kind = 3
    · subst k3
      have hR : SB (answerL 3 0 v ks) = ⟨#[115, 116, 97, 116, 32]⟩ ++ v := bytes_inj (by simp [answerL, ByteArray.data_append])
      rw [hR]
      have hm : 5 + v.size ≤ 9223372036854775807 := by omega
      clear hR
      go_enter Tryd.func17, Tryd.ntmps17
      go_wp2_with fail
      go_ret
      exact ⟨rfl, (Kp.refl _ _).alloc _⟩
    by_cases k4 : kind = 4
    · subst k4
      have hR : answerL 4 0 v ks = [107, 101, 121, 115] ++ keysTail ks := rfl
      have HR := Lib.hid hR
      clear hR k0 k1 k2 k3
      go_enter Tryd.func17, Tryd.ntmps17
      obtain ⟨w0, hw0⟩ : ∃ w0, w0 = (w.alloc (Obj.cells #[Value.int IntKind.i64 0, Value.string v, Value.slice av ks.length cv] 36)) := ⟨_, rfl⟩
      have kw0 : Kp [] w w0 := hw0 ▸ (Kp.refl _ _).alloc _
      have c1 := Kp.cellAt (X := []) (w0 := w0) (p := ⟨w.heap.size, 0, none⟩) (v := .int .i64 0) (by rw [hw0]; exact cell_of_cells (block_new _ _) rfl) (by simp)
      have c2 := Kp.cellAt (X := []) (w0 := w0) (p := ⟨w.heap.size, 1, none⟩) (v := .string v) (by rw [hw0]; exact cell_of_cells (block_new _ _) rfl) (by simp)
      have c3 := Kp.cellAt (X := []) (w0 := w0) (p := ⟨w.heap.size, 2, none⟩) (v := .slice av ks.length cv) (by rw [hw0]; exact cell_of_cells (block_new _ _) rfl) (by simp)
      have Hw0 := Lib.hid hw0
      clear hw0
      have hk0 := hk.keep0 kw0
      have hK := Kp.refl [] w0
      obtain ⟨i0, hi, hz0, hz1, hz2⟩ := info_parts Tryd.info9
      match ks, hk, hk0, hkl, hks, HR, c3 with
      | [], hk, hk0, hkl, hks, HR, c3 =>
        have hsz : w.heap.size + 1 = w0.heap.size := by rw [Hw0.out]; simp
        change ∀ W, Kp [] w0 W → W.cell? ⟨w.heap.size, 2, none⟩ = some (.slice av 0 cv) at c3
        change Hid (w0 = w.alloc (.cells #[.int .i64 0, .string v, .slice av 0 cv] 36)) at Hw0
        have HSZ := Lib.hid hsz
        clear hsz
        cases av with
        | none =>
          go_wp2_with fail
          rw [← Hw0.out, HSZ.out]
          refine (join_own (base := 0) (xs := [SB [107, 101, 121, 115]]) (strs_own (n := 1) (block_new _ _) (by omega) rfl (by decide)) (by simp) (by simp [Lib.join_one]) (by simp)).mono ?_
          rintro e w9 ⟨rfl, k9⟩
          go_wp2_with fail
          go_ret
          exact ⟨by rw [HR.out]; simp [Lib.join_one, keysTail], kw0.trans (((Kp.refl _ _).alloc _).trans k9)⟩
        | some ad =>
          go_wp2_with fail
          rw [← Hw0.out, HSZ.out]
          refine (join_own (base := 0) (xs := [SB [107, 101, 121, 115]]) (strs_own (n := 1) (block_new _ _) (by omega) rfl (by decide)) (by simp) (by simp [Lib.join_one]) (by simp)).mono ?_
          rintro e w9 ⟨rfl, k9⟩
          go_wp2_with fail
          go_ret
          exact ⟨by rw [HR.out]; simp [Lib.join_one, keysTail], kw0.trans (((Kp.refl _ _).alloc _).trans k9)⟩
      | y :: ys, hk, hk0, hkl, hks, HR, c3 =>
        obtain ⟨kl, hkl2⟩ : ∃ kl, kl = (y :: ys).length := ⟨_, rfl⟩
        obtain ⟨b, o, rfl, hcap, hbB, hblt, hcell⟩ := hk0.cells (by simp)
        have hsz : w.heap.size + 1 = w0.heap.size := by rw [Hw0.out]; simp
        have hown : (w0.alloc (.cells #[.string ⟨#[107, 101, 121, 115]⟩] 9)).ownsRow w0.heap.size 9 1 (.slice (some ⟨w.heap.size + 1, 0, none⟩) 1 1) 1 [.string ⟨#[107, 101, 121, 115]⟩] := by rw [hsz]; exact strs_own (block_new _ _) (by omega) 1 rfl (by decide)
        have hnews : ∀ (j : Nat) (u : Value), ((y :: ys).map Value.string)[j]? = some u → (w0.alloc (.cells #[.string ⟨#[107, 101, 121, 115]⟩] 9)).cell? ((⟨b, o, none⟩ : Addr).add j) = some u := by
          intro j u hu
          rw [Addr.add_mid]
          have h1 := hcell j u hu
          exact (((Kp.refl [] w0).alloc _).cell (lt_of_cell h1) (by simp)).trans h1
        have hnl : ((y :: ys).map Value.string).length = kl * 1 := by rw [hkl2]; simp
        have hone : ∀ u, u ∈ (y :: ys).map Value.string → u.oneCell' = true := by
          intro u hu
          obtain ⟨x, -, rfl⟩ := List.mem_map.1 hu
          rfl
        have hkl3 : kl ≤ 30 := by rw [hkl2]; exact hkl
        rw [← hkl2] at c3 hcap Hw0 ⊢
        have HK2 := Lib.hid hkl2
        clear hkl2 hk hk0 hcell hsz
        go_wp2_with (first | (at_builtin; rw [← Hw0.out]; refine wpList_append_mine _ rfl (.tmp 29) (.tmp 31) 34 rfl w0.heap.size 9 i0 (.string ByteArray.empty) 1 16 Tryd.underlying34 hi hz0 hz1 hz2 rfl (by decide) _ 1 [.string ⟨#[107, 101, 121, 115]⟩] rfl hown ⟨b, o, none⟩ kl cv ((y :: ys).map Value.string) rfl hnl hnews hone (by unfold maxLen; omega) (by omega) (by simp) ?_))
        intro v' w4 hown4 hkp4 _ _
        obtain ⟨av', cv', rfl⟩ := ownsRow_ex hown4
        have hK4 : Kp [] w0 w4 := hK.step (((Kp.refl _ _).alloc _).trans hkp4) (fun i hi hm => by
          have hsz : w.heap.size + 1 = w0.heap.size := by rw [Hw0.out]; simp
          simp [Value.ownBlock] at hm; omega)
        have hlen : 1 + kl = (SB [107, 101, 121, 115] :: y :: ys).length := by rw [HK2.out]; simp; omega
        rw [hlen] at hown4 ⊢
        have hj : Lib.join ((SB [107, 101, 121, 115] :: y :: ys).map (·.data.toList)) [32] = answerL 4 0 v (y :: ys) := by
          rw [HR.out, List.map_cons, Lib.join_cons]
          congr 1
          unfold Lib.joinTail keysTail
          rw [List.flatMap_def]
          congr 1
          simp
        have hjl : (Lib.join ((SB [107, 101, 121, 115] :: y :: ys).map (·.data.toList)) [32]).length ≤ 1000000 := by
          rw [hj, HR.out, List.length_append]
          have := tail_len 100 (y :: ys) hks
          have h2 : (y :: ys).length * (100 + 1) ≤ 30 * 101 := Nat.mul_le_mul_right _ hkl
          simp at this h2 ⊢
          omega
        have HJ := Lib.hid hj
        have hlx : (SB [107, 101, 121, 115] :: y :: ys).length ≤ 1000 := by simp at hkl ⊢; omega
        clear hj
        go_wp2_with fail
        refine (join_own (xs := SB [107, 101, 121, 115] :: y :: ys) hown4 (by simp) hjl hlx).mono ?_
        rintro e w9 ⟨rfl, k9⟩
        go_wp2_with fail
        go_ret
        exact ⟨congrArg (fun l => Ending.returned (Value.string (SB l))) HJ.out, kw0.trans (hK4.trans k9)⟩
    · have hR : answerL kind 0 v ks = [] := by
        unfold answerL
        rw [if_neg (by simp), if_neg k0, if_neg k2, if_neg k1, if_neg k3, if_neg k4]
      rw [hR]; clear hR
      have b0 : (kind == 0) = false := by simpa using k0
      have b1 : (kind == 1) = false := by simpa using k1
      have b2 : (kind == 2) = false := by simpa using k2
      have b3 : (kind == 3) = false := by simpa using k3
      have b4 : (kind == 4) = false := by simpa using k4
      clear k0 k1 k2 k3 k4
      go_enter Tryd.func17, Tryd.ntmps17
      go_wp2_with fail
      go_ret
      exact ⟨rfl, (Kp.refl _ _).alloc _⟩
  · obtain ⟨n, hn⟩ : ∃ n : Nat, code = n := ⟨code.toNat, by omega⟩
    subst hn
    obtain ⟨S3, hS3⟩ : ∃ S3, S3 = SB (Lib.decDigits n) := ⟨_, rfl⟩
    have hz : S3.size ≤ 30 := by rw [hS3, SB_size, Lib.decDigits_length]; exact nDig_le n (by omega)
    have hR : SB (answerL kind n v ks) = ⟨#[101, 114, 114, 111, 114, 32]⟩ ++ S3 := by
      rw [hS3]
      unfold answerL
      rw [if_pos hcz]
      exact bytes_inj (by simp [ByteArray.data_append])
    rw [hR]
    have hm : 6 + S3.size ≤ 9223372036854775807 := by omega
    have hne : ((n : Int) != 0) = true := by simpa using hcz
    have hnn : n ≤ 9223372036854775807 := by omega
    have HS3 := Lib.hid hS3
    clear hR hS3 hcz
    go_enter Tryd.func17, Tryd.ntmps17
    go_wp2_with fail
    refine (itoa_nat n hnn _ (htab.keep ((Kp.refl _ _).alloc _))).mono ?_
    rintro e w5 ⟨rfl, k5⟩
    rw [← HS3.out]
    go_wp2_with fail
    go_ret
    exact ⟨rfl, ((Kp.refl _ _).alloc _).trans k5⟩
end Go.Proofs.YtdbeokldpdgjmaaDoor
