/-
  The document's digest: a text filled up.
-/
import Derived.Test.YtlomniffpjndfaaDoorMdDd
namespace Go.Proofs.YtlomniffpjndfaaDoor
open Go.RowKit Go.WideShapes

def filledL (s : ByteArray) : List UInt8 := ((s.data.toList ++ [128]) ++ List.replicate (zeros (s.data.toList ++ [128]).length) 0) ++ szList s.size 8
set_option maxHeartbeats 4000000 in
set_option maxRecDepth 20000 in
theorem rfilled (s : ByteArray) (hs : s.size ≤ 1000) (w : World) : Calls Tryd.prog 47 #[.string s] w fun e w' => ∃ v, e = .returned v ∧ MRow w' w.heap.size v (filledL s) ∧ Kp [] w w' := by
  obtain ⟨i0, hi, hz0, hz1, hz2⟩ := info_parts Tryd.info5
  have hcp := grownCap_ge w s.size 0 5
  obtain ⟨cap, hcap⟩ : ∃ cap, cap = grownCap w s.size 0 5 := ⟨_, rfl⟩
  rw [← hcap] at hcp
  obtain ⟨w1, hw1⟩ : ∃ w1, w1 = w.drew.alloc (.cells (bytesRow s cap) 5 ((bytesRow s cap).size, (bytesRow s cap).size + 1)) := ⟨_, rfl⟩
  have hm1 := mrow_conv w s cap hcp w1 hw1
  have k1 : Kp [] w w1 := by rw [hw1]; exact ((Kp.refl _ _).drew).alloc _
  have hcv : (convert 9 60 (.string s)).run Tryd.prog w = .ok (.slice (some ⟨w.heap.size, 0, none⟩) s.size cap) w1 := by
    rw [run_bytes_of_string _ _ _ _ _ Tryd.underlying9 Tryd.underlying60 Tryd.underlying5, ← hcap, ← hw1]
  have hsl : s.data.toList.length = s.size := by simp
  have hw8 : IntKind.i64.wrap (8 * (s.size : Int)) = (s.size : Int) * 8 := by rw [wrap_id _ (by omega) (by omega)]; omega
  obtain ⟨S, hS⟩ : ∃ S, S = s.data.toList := ⟨_, rfl⟩
  rw [← hS] at hm1 hsl
  have HS := Lib.hid hS
  have HSL := Lib.hid hsl
  have hge1 := hm1.block_ge
  have hB1 := k1.size
  clear hcp hcap hw1 hS hsl
  go_enter Tryd.func47, Tryd.ntmps47
  go_wp2_with (first | (at_builtin; refine wpList_mrow _ rfl (.tmp 8) (.tmp 9) rfl w.heap.size (.slice (some ⟨w.heap.size, 0, none⟩) s.size cap) S rfl (hm1.keep0 ((Kp.refl _ _).alloc _)) ⟨w1.heap.size, 0, none⟩ 128 rfl (cell_of_cells (block_new _ _) rfl) (by rw [HSL.out]; omega) (by rw [World.size_alloc]; omega) ?_))
  intro v' w2 hM2 hk2
  have hK2 : Kp [] w w2 := (k1.trans ((Kp.refl [] w1).alloc _)).step hk2 (fun i hi hm => by
    rw [Option.mem_toList] at hm
    have := hge1 i hm
    omega)
  obtain ⟨L0, hL0⟩ : ∃ L0, L0 = S ++ [(128 : UInt8)] := ⟨_, rfl⟩
  have hL0l : L0.length = s.size + 1 := by rw [hL0, List.length_append, HSL.out]; rfl
  rw [← hL0] at hM2
  obtain ⟨v2, c2, rfl⟩ := hM2.ex
  have HL0 := Lib.hid hL0
  have hm0 : MRow w2 w.heap.size (.slice v2 L0.length c2) (L0 ++ List.replicate 0 0) := by simpa using hM2
  have HL0L := Lib.hid hL0l
  clear hL0 hM2 hk2 hm1 hcv hge1 hL0l
  go_wp2_with fail
  go_loopg [3] (zeros L0.length) (fun g' o wr => ∃ (k : Nat) (v : Value), k + g' = zeros L0.length ∧ o = v ∧ Kp [] w wr ∧ MRow wr w.heap.size v (L0 ++ List.replicate k 0))
  case atStart => exact ⟨0, _, by omega, rfl, hK2, hm0⟩
  case round =>
    clear hK2 hm0
    obtain ⟨k, v, hk, rfl, hK, hM⟩ := hrel
    have HK := Lib.hid hk
    obtain ⟨va, vc, rfl⟩ := hM.ex
    have hlen : (L0 ++ List.replicate k 0).length = L0.length + k := by rw [List.length_append, List.length_replicate]
    obtain ⟨n, hn⟩ : ∃ n, n = L0.length + k := ⟨_, rfl⟩
    rw [hlen, ← hn] at hM ⊢
    have hnz : n ≤ 1100 := by
      have : zeros L0.length < 64 := by unfold zeros; omega
      have := HL0L.out
      omega
    have HNN := Lib.hid hn
    by_cases hlt : k < zeros L0.length
    · obtain ⟨g', rfl⟩ : ∃ g', gk = g' + 1 := ⟨gk - 1, by omega⟩
      have hmod : ¬ (n : Int) % 64 = 56 := by
        have := zeros_lt L0.length k hlt
        omega
      have hml : (L0 ++ List.replicate k 0 ++ [0] : List UInt8) = L0 ++ List.replicate (k + 1) 0 := by
        rw [List.append_assoc, List.replicate_succ']
      obtain ⟨Lk, hLk⟩ : ∃ Lk, Lk = L0 ++ List.replicate k (0 : UInt8) := ⟨_, rfl⟩
      have hLkl : Lk.length = n := by rw [hLk, hlen, hn]
      rw [← hLk] at hM hml
      have HML := Lib.hid hml
      have HLK := Lib.hid hLkl
      clear hk hn hlen hLk hml
      have hBs : w.heap.size ≤ wr.heap.size := hK.size
      have hge := hM.block_ge
      go_wp2_with (first | (at_builtin; refine wpList_mrow _ rfl (.tmp 15) (.tmp 16) rfl w.heap.size (.slice va n vc) Lk rfl (hM.keep0 ((Kp.refl _ _).alloc _)) ⟨wr.heap.size, 0, none⟩ 0 rfl (cell_of_cells (block_new _ _) rfl) (by omega) (by rw [World.size_alloc]; omega) ?_))
      intro v' w4 hM4 hk4
      have hK4 : Kp [] w w4 := (hK.trans ((Kp.refl [] wr).alloc _)).step hk4 (fun i hi hm => by
        rw [Option.mem_toList] at hm
        have := hge i hm
        omega)
      obtain ⟨v4, c4, rfl⟩ := hM4.ex
      rw [HML.out] at hM4
      have HM4 := Lib.hid hM4
      clear hM4 hk4 hM hge
      go_wp2_with fail
      go_roundg g'
      case rel => exact ⟨k + 1, _, by have := HK.out; omega, rfl, hK4, by rw [HML.out]; exact HM4.out⟩
      case measure => omega
    · obtain rfl : k = zeros L0.length := by omega
      obtain rfl : gk = 0 := by omega
      have hmod : (n : Int) % 64 = 56 := by
        have := zeros_eq L0.length
        omega
      obtain ⟨L1, hL1⟩ : ∃ L1, L1 = L0 ++ List.replicate (zeros L0.length) (0 : UInt8) := ⟨_, rfl⟩
      have hL1n : L1.length = n := by rw [hL1, hlen, hn]
      rw [← hL1] at hM
      have HL1 := Lib.hid hL1
      have HLN := Lib.hid hL1n
      have hKr := Kp.refl [] wr
      have hM0 : MRow wr w.heap.size (.slice va n vc) (L1 ++ szList s.size 0) := by simpa [szList] using hM
      clear hk hn hlen hL1 hL1n hM
      go_wp2_with fail
      have HMOD := Lib.hid hmod
      clear hmod
      go_loopg [3, 5] 8 (fun g' o i wr2 => ∃ (j : Nat) (v : Value), j + g' = 8 ∧ i = .int .i64 (7 - (j : Int)) ∧ o = v ∧ Kp [] w wr2 ∧ MRow wr2 w.heap.size v (L1 ++ szList s.size j))
      case atStart => exact ⟨0, _, rfl, rfl, rfl, hK, hM0⟩
      case round =>
        clear hM0 hKr hK
        obtain ⟨j, v, hj, rfl, rfl, hK, hM⟩ := hrel
        have HJ := Lib.hid hj
        obtain ⟨va, vc, rfl⟩ := hM.ex
        have hlen : (L1 ++ szList s.size j).length = n + j := by rw [List.length_append, szList_len, HLN.out]
        rw [hlen] at hM ⊢
        by_cases hlt : j < 8
        · obtain ⟨g', rfl⟩ : ∃ g', gk = g' + 1 := ⟨gk - 1, by omega⟩
          have h0 : (0 : Int) ≤ 7 - (j : Int) := by omega
          obtain ⟨i, hi'⟩ : ∃ i : Int, i = 7 - (j : Int) := ⟨_, rfl⟩
          have hi0 : (0 : Int) ≤ i := by omega
          have hi7 : i ≤ 7 := by omega
          have hwi := wrap_id (8 * i) (by omega) (by omega)
          have hwu : IntKind.u64.wrap (8 * i) = 8 * i := by unfold IntKind.wrap; simp [IntKind.signed, IntKind.bits]; omega
          have hn8 : ¬ 8 * i < 0 := by omega
          rw [← hi'] at h0 ⊢
          have HI := Lib.hid hi'
          have HLEN := Lib.hid hlen
          have hBs : w.heap.size ≤ wr.heap.size := hK.size
          have hge := hM.block_ge
          have hnz2 : n + j ≤ 1200 := by omega
          have hml : L1 ++ szList s.size j ++ [szB s.size i] = L1 ++ szList s.size (j + 1) := by rw [List.append_assoc, HI.out]; rfl
          obtain ⟨Lj, hLj⟩ : ∃ Lj, Lj = L1 ++ szList s.size j := ⟨_, rfl⟩
          have hLjl : Lj.length = n + j := by rw [hLj]; exact HLEN.out
          rw [← hLj] at hM hml
          have HML := Lib.hid hml
          have HLJ := Lib.hid hLjl
          have hbv : BV (szB s.size i) = Value.int .u8 ((s.size : Int) * 8 / 2 ^ (8 * i).toNat % 256) := congrArg _ (szB_val _ _)
          have HBV := Lib.hid hbv
          obtain ⟨nj, hnj⟩ : ∃ nj, nj = n + j := ⟨_, rfl⟩
          rw [← hnj] at hM hnz2 HLJ hge ⊢
          have HNJ := Lib.hid hnj
          clear hi' hj hlen hLj hml hLjl hbv hnj
          go_wp2_with (first | (at_builtin; refine wpList_mrow _ rfl (.tmp 25) (.tmp 32) rfl w.heap.size (.slice va nj vc) Lj rfl (hM.keep0 ((Kp.refl _ _).alloc _)) ⟨wr.heap.size, 0, none⟩ (szB s.size i) rfl (by rw [HBV.out]; exact cell_of_cells (block_new _ _) rfl) (by rw [HLJ.out]; omega) (by rw [World.size_alloc]; omega) ?_))
          intro v' w4 hM4 hk4
          have hK4 : Kp [] w w4 := (hK.trans ((Kp.refl [] wr).alloc _)).step hk4 (fun i hi hm => by
            rw [Option.mem_toList] at hm
            have := hge i hm
            omega)
          obtain ⟨v4, c4, rfl⟩ := hM4.ex
          rw [HML.out] at hM4
          have HM4 := Lib.hid hM4
          clear hM4 hk4 hM hge
          go_wp2_with fail
          go_roundg g'
          case rel => exact ⟨j + 1, _, by have := HJ.out; omega, by have := HI.out; congr 1; omega, rfl, hK4, by rw [HML.out]; exact HM4.out⟩
          case measure => omega
        · obtain rfl : j = 8 := by omega
          obtain rfl : gk = 0 := by omega
          have hT : L1 ++ szList s.size 8 = filledL s := by
            unfold filledL
            rw [HL1.out, HL0.out, ← HS.out]
          rw [hT] at hM
          have hlow : ¬ (0 : Int) ≤ 7 - ((8 : Nat) : Int) := by omega
          clear hj hT hlen
          go_wp2_with fail
          go_ret
          exact ⟨_, rfl, hM, hK⟩
end Go.Proofs.YtlomniffpjndfaaDoor
