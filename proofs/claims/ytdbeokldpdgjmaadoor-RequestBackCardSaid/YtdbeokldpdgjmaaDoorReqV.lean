/-
  An answer's line: the document's.
-/
import Derived.Test.YtdbeokldpdgjmaaDoorReqN
namespace Go.Proofs.YtdbeokldpdgjmaaDoor
open Go.RowKit Go.WideShapes

def keysTail (ks : List ByteArray) : List UInt8 := ks.flatMap fun k => 32 :: k.data.toList
/-- an answer's line -/
def answerL (kind code : Int) (v : ByteArray) (ks : List ByteArray) : List UInt8 :=
  if code ≠ 0 then [101, 114, 114, 111, 114, 32] ++ Lib.decDigits code.toNat
  else if kind = 0 then [111, 107] else if kind = 2 then [111, 107]
  else if kind = 1 then [118, 97, 108, 117, 101, 32] ++ digitsL v.data.toList
  else if kind = 3 then [115, 116, 97, 116, 32] ++ v.data.toList
  else if kind = 4 then [107, 101, 121, 115] ++ keysTail ks else []
theorem len_data' (s : ByteArray) : s.data.toList.length = s.size := by simp
theorem tail_snoc (ks : List ByteArray) (n : Nat) (k : ByteArray) (h : ks[n]? = some k) : keysTail (ks.take (n + 1)) = keysTail (ks.take n) ++ 32 :: k.data.toList := by
  unfold keysTail
  rw [List.take_add_one, h, List.flatMap_append]
  simp
theorem tail_len (L : Nat) : ∀ ks : List ByteArray, (∀ k ∈ ks, k.size ≤ L) → (keysTail ks).length ≤ ks.length * (L + 1)
  | [], _ => by simp [keysTail]
  | k :: ks, h => by
    have ih := tail_len L ks (fun x hx => h x (List.mem_cons_of_mem _ hx))
    have hk := h k (List.mem_cons_self ..)
    have e : keysTail (k :: ks) = (32 :: k.data.toList) ++ keysTail ks := by simp [keysTail]
    rw [e, List.length_append, List.length_cons, len_data']
    show _ ≤ (ks.length + 1) * (L + 1)
    rw [Nat.add_mul]
    omega

set_option maxHeartbeats 2000000 in
set_option maxRecDepth 20000 in
theorem ranswer (kind code : Int) (v : ByteArray) (kv : Value) (ks : List ByteArray) (w : World) (h0 : 0 ≤ code) (hc : code ≤ 9223372036854775807) (hv : v.size < 16384)
    (hk : SliceAt w.heap.size w kv 1 ks.length (ks.map Value.string)) (hkl : ks.length ≤ 30) (hks : ∀ k ∈ ks, k.size ≤ 100) :
    Calls Tryd.prog 18 #[.int .i64 kind, .agg #[.int .i64 code, .string v, kv]] w fun e w' => e = .returned (.string (SB (answerL kind code v ks))) ∧ Kp [] w w' := by
  obtain ⟨av, cv, rfl⟩ := slice_ex hk
  by_cases hcz : code = 0
  · subst hcz
    by_cases k0 : kind = 0
    · subst k0
      have hR : answerL 0 0 v ks = [111, 107] := rfl
      rw [hR]; clear hR
      go_enter Tryd.func18, Tryd.ntmps18
      go_wp2_with fail
      go_ret
      exact ⟨rfl, (Kp.refl _ _).alloc _⟩
    by_cases k2 : kind = 2
    · subst k2
      have hR : answerL 2 0 v ks = [111, 107] := rfl
      rw [hR]; clear hR
      go_enter Tryd.func18, Tryd.ntmps18
      go_wp2_with fail
      go_ret
      exact ⟨rfl, (Kp.refl _ _).alloc _⟩
    by_cases k1 : kind = 1
    · subst k1
      obtain ⟨S3, hS3⟩ : ∃ S3, S3 = SB (digitsL v.data.toList) := ⟨_, rfl⟩
      have hz : S3.size ≤ 40000 := by rw [hS3, SB_size]; have := digits_len v.data.toList; rw [len_data'] at this; omega
      have hR : SB (answerL 1 0 v ks) = ⟨#[118, 97, 108, 117, 101, 32]⟩ ++ S3 := by
        rw [hS3]
        exact bytes_inj (by simp [answerL, ByteArray.data_append])
      rw [hR]
      have hm : 6 + S3.size ≤ 9223372036854775807 := by omega
      have HS3 := Lib.hid hS3
      clear hR hS3
      go_enter Tryd.func18, Tryd.ntmps18
      go_wp2_with fail
      refine (rdigits v hv _).mono ?_
      rintro e w5 ⟨rfl, k5⟩
      rw [show (⟨(digitsL v.data.toList).toArray⟩ : ByteArray) = S3 from HS3.out.symm]
      go_wp2_with fail
      go_ret
      exact ⟨rfl, ((Kp.refl _ _).alloc _).trans k5⟩
    by_cases k3 : kind = 3
    · subst k3
      have hR : SB (answerL 3 0 v ks) = ⟨#[115, 116, 97, 116, 32]⟩ ++ v := bytes_inj (by simp [answerL, ByteArray.data_append])
      rw [hR]
      have hm : 5 + v.size ≤ 9223372036854775807 := by omega
      clear hR
      go_enter Tryd.func18, Tryd.ntmps18
      go_wp2_with fail
      go_ret
      exact ⟨rfl, (Kp.refl _ _).alloc _⟩
    by_cases k4 : kind = 4
    · subst k4
      have hR : answerL 4 0 v ks = [107, 101, 121, 115] ++ keysTail ks := rfl
      have HR := Lib.hid hR
      clear hR k0 k1 k2 k3
      go_enter Tryd.func18, Tryd.ntmps18
      obtain ⟨w0, hw0⟩ : ∃ w0, w0 = (w.alloc (Obj.cells #[Value.int IntKind.i64 0, Value.string v, Value.slice av ks.length cv] 36)) := ⟨_, rfl⟩
      have kw0 : Kp [] w w0 := hw0 ▸ (Kp.refl _ _).alloc _
      have c1 := Kp.cellAt (X := []) (w0 := w0) (p := ⟨w.heap.size, 0, none⟩) (v := .int .i64 0) (by rw [hw0]; exact cell_of_cells (block_new _ _) rfl) (by simp)
      have c2 := Kp.cellAt (X := []) (w0 := w0) (p := ⟨w.heap.size, 1, none⟩) (v := .string v) (by rw [hw0]; exact cell_of_cells (block_new _ _) rfl) (by simp)
      have c3 := Kp.cellAt (X := []) (w0 := w0) (p := ⟨w.heap.size, 2, none⟩) (v := .slice av ks.length cv) (by rw [hw0]; exact cell_of_cells (block_new _ _) rfl) (by simp)
      have Hw0 := Lib.hid hw0
      clear hw0
      have hk0 := hk.keep0 kw0
      have hK := Kp.refl [] w0
      go_wp2_with fail
      rw [← Hw0.out]
      go_loopg [5, 6] ks.length (fun g o i wr => ∃ n : Nat, n + g = ks.length ∧ i = .int .i64 n ∧ o = .string (SB ([107, 101, 121, 115] ++ keysTail (ks.take n))) ∧ Kp [] w0 wr)
      case atStart => exact ⟨0, by omega, rfl, rfl, hK⟩
      case round =>
        clear hK
        obtain ⟨n, hn, rfl, rfl, hK⟩ := hrel
        have HN := Lib.hid hn
        by_cases hlt : n < ks.length
        · obtain ⟨g', rfl⟩ : ∃ g', gk = g' + 1 := ⟨gk - 1, by omega⟩
          clear hn
          have hltI : (n : Int) < (ks.length : Int) := by omega
          obtain ⟨g, o, c, hv', e1⟩ := strs_at hk0 n hlt
          simp only [Value.slice.injEq] at hv'
          obtain ⟨rfl, -, rfl⟩ := hv'
          obtain ⟨x, hx⟩ : ∃ x, x = ks[n] := ⟨_, rfl⟩
          rw [← hx] at e1
          have d1 := (hK.cell (lt_of_cell e1) (by simp)).trans e1
          have hxs : x.size ≤ 100 := hks x (by rw [hx]; exact List.getElem_mem hlt)
          have hget : ks[n]? = some x := by rw [List.getElem?_eq_getElem hlt, hx]
          obtain ⟨S0, hS0⟩ : ∃ S0, S0 = SB ([107, 101, 121, 115] ++ keysTail (ks.take n)) := ⟨_, rfl⟩
          have hz : S0.size ≤ 5000 := by
            rw [hS0, SB_size]
            have h1 := tail_len 100 (ks.take n) (fun k hk => hks k (List.mem_of_mem_take hk))
            have h2 := List.length_take_le n ks
            have h3 : (ks.take n).length ≤ 30 := by have := List.length_take_le' n ks; omega
            simp
            omega
          have hnew : S0 ++ ⟨#[32]⟩ ++ x = SB ([107, 101, 121, 115] ++ keysTail (ks.take (n + 1))) := by
            rw [hS0, tail_snoc ks n x hget]
            exact bytes_inj (by simp [ByteArray.data_append])
          have m1 : S0.size + 1 ≤ 9223372036854775807 := by omega
          have m2 : S0.size + 1 + x.size ≤ 9223372036854775807 := by omega
          have HNEW := Lib.hid hnew
          rw [← hS0]
          clear e1 hx hget hS0 hnew
          go_wp2_with fail
          go_roundg g'
          case rel =>
            have hn := HN.out
            exact ⟨n + 1, by omega, by go_num, by rw [← HNEW.out], hK⟩
          case measure => omega
        · obtain rfl : n = ks.length := by omega
          obtain rfl : gk = 0 := by omega
          clear hn
          rw [List.take_length]
          go_wp2_with fail
          go_ret
          exact ⟨by rw [HR.out]; rfl, kw0.trans hK⟩
    · have hR : answerL kind 0 v ks = [] := by
        unfold answerL
        rw [if_neg (by simp), if_neg k0, if_neg k2, if_neg k1, if_neg k3, if_neg k4]
      rw [hR]; clear hR
      have b0 : (kind == 0) = false := by simpa using k0
      have b1 : (kind == 1) = false := by simpa using k1
      have b2 : (kind == 2) = false := by simpa using k2
      have b3 : (kind == 3) = false := by simpa using k3
      have b4 : (kind == 4) = false := by simpa using k4
      clear k0 k1 k2 k3 k4
      go_enter Tryd.func18, Tryd.ntmps18
      go_wp2_with fail
      go_ret
      exact ⟨rfl, (Kp.refl _ _).alloc _⟩
  · obtain ⟨n, hn⟩ : ∃ n : Nat, code = n := ⟨code.toNat, by omega⟩
    subst hn
    obtain ⟨S3, hS3⟩ : ∃ S3, S3 = SB (Lib.decDigits n) := ⟨_, rfl⟩
    have hz : S3.size ≤ 30 := by rw [hS3, SB_size, Lib.decDigits_length]; exact nDig_le n (by omega)
    have hR : SB (answerL kind n v ks) = ⟨#[101, 114, 114, 111, 114, 32]⟩ ++ S3 := by
      rw [hS3]
      unfold answerL
      rw [if_pos hcz]
      exact bytes_inj (by simp [ByteArray.data_append])
    rw [hR]
    have hm : 6 + S3.size ≤ 9223372036854775807 := by omega
    have hne : ((n : Int) != 0) = true := by simpa using hcz
    have hnn : n ≤ 9223372036854775807 := by omega
    have HS3 := Lib.hid hS3
    clear hR hS3 hcz
    go_enter Tryd.func18, Tryd.ntmps18
    go_wp2_with fail
    refine (rnumber n hnn _).mono ?_
    rintro e w5 ⟨rfl, k5⟩
    rw [← HS3.out]
    go_wp2_with fail
    go_ret
    exact ⟨rfl, ((Kp.refl _ _).alloc _).trans k5⟩
end Go.Proofs.YtdbeokldpdgjmaaDoor
