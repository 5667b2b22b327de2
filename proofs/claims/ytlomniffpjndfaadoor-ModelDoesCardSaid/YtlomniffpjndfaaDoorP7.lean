/-
  The document's digest: its bits are those of the program's.
  The document's digest: K, the words of a block.
-/
import Derived.Test.YtlomniffpjndfaaDoorMdV
namespace Go.Proofs.YtlomniffpjndfaaDoor
open Go.RowKit Go.WideShapes

abbrev B32 (x : Int) : BitVec 32 := BitVec.ofInt 32 x
theorem wrap32 (x : Int) : IntKind.u32.wrap x = x % 4294967296 := by unfold IntKind.wrap; simp [IntKind.signed, IntKind.bits]
theorem nat32 (v : BitVec 32) : B32 (v.toNat : Int) = v := by
  apply BitVec.eq_of_toNat_eq
  rw [BitVec.toNat_ofInt]
  have := v.isLt
  omega
theorem wrap_bv (v : BitVec 32) : IntKind.u32.wrap (v.toNat : Int) = (v.toNat : Int) := by
  rw [wrap32]
  have := v.isLt
  omega
theorem b32_wrap (x : Int) : B32 (IntKind.u32.wrap x) = B32 x := by
  rw [wrap32]
  apply BitVec.eq_of_toNat_eq
  rw [BitVec.toNat_ofInt, BitVec.toNat_ofInt]
  omega
theorem bits_and (x y : Int) : bits BinOp.and .u32 x y = ((B32 x &&& B32 y).toNat : Int) := wrap_bv _
theorem bits_or (x y : Int) : bits BinOp.or .u32 x y = ((B32 x ||| B32 y).toNat : Int) := wrap_bv _
theorem bits_xor (x y : Int) : bits BinOp.xor .u32 x y = ((B32 x ^^^ B32 y).toNat : Int) := wrap_bv _
theorem b32_not (x : Int) : B32 (IntKind.u32.wrap (-1 - x)) = ~~~ B32 x := by
  rw [b32_wrap]
  apply BitVec.eq_of_toNat_eq
  rw [BitVec.toNat_ofInt, BitVec.toNat_not, BitVec.toNat_ofInt]
  omega
theorem b32_shl8 (x : Int) : B32 (x * 256) = B32 x <<< 8 := by
  apply BitVec.eq_of_toNat_eq
  rw [BitVec.toNat_ofInt, BitVec.toNat_shiftLeft, BitVec.toNat_ofInt, Nat.shiftLeft_eq]
  omega
theorem b32_shl16 (x : Int) : B32 (x * 65536) = B32 x <<< 16 := by
  apply BitVec.eq_of_toNat_eq
  rw [BitVec.toNat_ofInt, BitVec.toNat_shiftLeft, BitVec.toNat_ofInt, Nat.shiftLeft_eq]
  omega
theorem b32_shl24 (x : Int) : B32 (x * 16777216) = B32 x <<< 24 := by
  apply BitVec.eq_of_toNat_eq
  rw [BitVec.toNat_ofInt, BitVec.toNat_shiftLeft, BitVec.toNat_ofInt, Nat.shiftLeft_eq]
  omega
set_option maxRecDepth 100000 in
theorem ch_eq (e f g : Int) : bits BinOp.xor .u32 (bits BinOp.and .u32 e f) (bits BinOp.and .u32 (IntKind.u32.wrap (-1 - e)) g) = chF e f g := by
  unfold chF
  simp only [bits_xor, bits_and, nat32, b32_not]
  congr 2
  ext i hi
  simp only [BitVec.getElem_xor, BitVec.getElem_and, BitVec.getElem_not]
  cases (B32 e)[i] <;> cases (B32 f)[i] <;> cases (B32 g)[i] <;> rfl
set_option maxRecDepth 100000 in
theorem maj_eq (a b c : Int) : bits BinOp.xor .u32 (bits BinOp.xor .u32 (bits BinOp.and .u32 a b) (bits BinOp.and .u32 a c)) (bits BinOp.and .u32 b c) = majF a b c := by
  unfold majF
  simp only [bits_xor, bits_and, bits_or, nat32]
  congr 2
  ext i hi
  simp only [BitVec.getElem_xor, BitVec.getElem_and, BitVec.getElem_or]
  cases (B32 a)[i] <;> cases (B32 b)[i] <;> cases (B32 c)[i] <;> rfl
theorem byte_wrap (b : ByteArray) (j : Nat) : IntKind.u32.wrap (byteI b j) = byteI b j := by
  rw [wrap32]
  unfold byteI
  have := (b.data.toList.getD j 0).toNat_lt
  omega
set_option maxRecDepth 100000 in
theorem part_eq (b : ByteArray) (i : Nat) : bits BinOp.or .u32 (bits BinOp.or .u32 (bits BinOp.or .u32 (IntKind.u32.wrap (byteI b (4 * i) * 16777216)) (IntKind.u32.wrap (byteI b (4 * i + 1) * 65536))) (IntKind.u32.wrap (byteI b (4 * i + 2) * 256))) (byteI b (4 * i + 3)) = part b i 4 := by
  simp only [part, byte_wrap, Nat.add_zero]
  have e0 : (0 : Int) * 256 = 0 := by omega
  rw [e0]
  obtain ⟨p, hp⟩ : ∃ p, p = byteI b (4 * i) := ⟨_, rfl⟩
  obtain ⟨q, hq⟩ : ∃ q, q = byteI b (4 * i + 1) := ⟨_, rfl⟩
  obtain ⟨r, hr⟩ : ∃ r, r = byteI b (4 * i + 2) := ⟨_, rfl⟩
  obtain ⟨s, hs⟩ : ∃ s, s = byteI b (4 * i + 3) := ⟨_, rfl⟩
  rw [← hp, ← hq, ← hr, ← hs]
  simp only [bits_or, b32_wrap, nat32]
  have h4 : ∀ v : BitVec 32, B32 ((v.toNat : Int) * 256) = v <<< 8 := fun v => by have := b32_shl8 (v.toNat : Int); rw [nat32] at this; exact this
  rw [b32_shl24, b32_shl16, b32_shl8, h4, h4, h4, show B32 (0 : Int) = 0#32 by decide, BitVec.zero_or]
  simp only [BitVec.shiftLeft_or_distrib, ← BitVec.shiftLeft_add]
set_option maxHeartbeats 1000000 in
set_option maxRecDepth 20000 in
theorem rrot (x n : Int) (h0 : 0 ≤ n) (h1 : n ≤ 32) (w : World) : Calls Tryd.prog 65 #[.int .u32 x, .int .u64 n] w fun e w' => e = .returned (.int .u32 (rotr x n)) ∧ Kp [] w w' := by
  have hK := Kp.refl [] w
  have hw : IntKind.u64.wrap (32 - n) = 32 - n := by unfold IntKind.wrap; simp [IntKind.signed, IntKind.bits]; omega
  have hn : ¬ n < 0 := by omega
  have hn2 : ¬ 32 - n < 0 := by omega
  go_enter Tryd.func65, Tryd.ntmps65
  go_wp2_with fail
  go_ret
  exact ⟨rfl, hK⟩
end Go.Proofs.YtlomniffpjndfaaDoor

namespace Go.Proofs.YtlomniffpjndfaaDoor
open Go.RowKit Go.WideShapes

set_option maxRecDepth 100000 in
theorem uV_k : uV kList = #[.int .u32 1116352408, .int .u32 1899447441, .int .u32 3049323471, .int .u32 3921009573, .int .u32 961987163, .int .u32 1508970993, .int .u32 2453635748, .int .u32 2870763221, .int .u32 3624381080, .int .u32 310598401, .int .u32 607225278, .int .u32 1426881987, .int .u32 1925078388, .int .u32 2162078206, .int .u32 2614888103, .int .u32 3248222580, .int .u32 3835390401, .int .u32 4022224774, .int .u32 264347078, .int .u32 604807628, .int .u32 770255983, .int .u32 1249150122, .int .u32 1555081692, .int .u32 1996064986, .int .u32 2554220882, .int .u32 2821834349, .int .u32 2952996808, .int .u32 3210313671, .int .u32 3336571891, .int .u32 3584528711, .int .u32 113926993, .int .u32 338241895, .int .u32 666307205, .int .u32 773529912, .int .u32 1294757372, .int .u32 1396182291, .int .u32 1695183700, .int .u32 1986661051, .int .u32 2177026350, .int .u32 2456956037, .int .u32 2730485921, .int .u32 2820302411, .int .u32 3259730800, .int .u32 3345764771, .int .u32 3516065817, .int .u32 3600352804, .int .u32 4094571909, .int .u32 275423344, .int .u32 430227734, .int .u32 506948616, .int .u32 659060556, .int .u32 883997877, .int .u32 958139571, .int .u32 1322822218, .int .u32 1537002063, .int .u32 1747873779, .int .u32 1955562222, .int .u32 2024104815, .int .u32 2227730452, .int .u32 2361852424, .int .u32 2428436474, .int .u32 2756734187, .int .u32 3204031479, .int .u32 3329325298] := by simp [uV, kList]
set_option maxHeartbeats 4000000 in
set_option maxRecDepth 100000 in
theorem rK (n : Nat) (hn : n < 64) (w : World) : Calls Tryd.prog 66 #[.int .i64 n] w fun e w' => e = .returned (.int .u32 (kList.getD n 0)) ∧ Kp [] w w' := by
  have hK := (Kp.refl [] w).alloc (.cells #[.int .u32 1116352408, .int .u32 1899447441, .int .u32 3049323471, .int .u32 3921009573, .int .u32 961987163, .int .u32 1508970993, .int .u32 2453635748, .int .u32 2870763221, .int .u32 3624381080, .int .u32 310598401, .int .u32 607225278, .int .u32 1426881987, .int .u32 1925078388, .int .u32 2162078206, .int .u32 2614888103, .int .u32 3248222580, .int .u32 3835390401, .int .u32 4022224774, .int .u32 264347078, .int .u32 604807628, .int .u32 770255983, .int .u32 1249150122, .int .u32 1555081692, .int .u32 1996064986, .int .u32 2554220882, .int .u32 2821834349, .int .u32 2952996808, .int .u32 3210313671, .int .u32 3336571891, .int .u32 3584528711, .int .u32 113926993, .int .u32 338241895, .int .u32 666307205, .int .u32 773529912, .int .u32 1294757372, .int .u32 1396182291, .int .u32 1695183700, .int .u32 1986661051, .int .u32 2177026350, .int .u32 2456956037, .int .u32 2730485921, .int .u32 2820302411, .int .u32 3259730800, .int .u32 3345764771, .int .u32 3516065817, .int .u32 3600352804, .int .u32 4094571909, .int .u32 275423344, .int .u32 430227734, .int .u32 506948616, .int .u32 659060556, .int .u32 883997877, .int .u32 958139571, .int .u32 1322822218, .int .u32 1537002063, .int .u32 1747873779, .int .u32 1955562222, .int .u32 2024104815, .int .u32 2227730452, .int .u32 2361852424, .int .u32 2428436474, .int .u32 2756734187, .int .u32 3204031479, .int .u32 3329325298] 82)
  have hc : (w.alloc (.cells #[.int .u32 1116352408, .int .u32 1899447441, .int .u32 3049323471, .int .u32 3921009573, .int .u32 961987163, .int .u32 1508970993, .int .u32 2453635748, .int .u32 2870763221, .int .u32 3624381080, .int .u32 310598401, .int .u32 607225278, .int .u32 1426881987, .int .u32 1925078388, .int .u32 2162078206, .int .u32 2614888103, .int .u32 3248222580, .int .u32 3835390401, .int .u32 4022224774, .int .u32 264347078, .int .u32 604807628, .int .u32 770255983, .int .u32 1249150122, .int .u32 1555081692, .int .u32 1996064986, .int .u32 2554220882, .int .u32 2821834349, .int .u32 2952996808, .int .u32 3210313671, .int .u32 3336571891, .int .u32 3584528711, .int .u32 113926993, .int .u32 338241895, .int .u32 666307205, .int .u32 773529912, .int .u32 1294757372, .int .u32 1396182291, .int .u32 1695183700, .int .u32 1986661051, .int .u32 2177026350, .int .u32 2456956037, .int .u32 2730485921, .int .u32 2820302411, .int .u32 3259730800, .int .u32 3345764771, .int .u32 3516065817, .int .u32 3600352804, .int .u32 4094571909, .int .u32 275423344, .int .u32 430227734, .int .u32 506948616, .int .u32 659060556, .int .u32 883997877, .int .u32 958139571, .int .u32 1322822218, .int .u32 1537002063, .int .u32 1747873779, .int .u32 1955562222, .int .u32 2024104815, .int .u32 2227730452, .int .u32 2361852424, .int .u32 2428436474, .int .u32 2756734187, .int .u32 3204031479, .int .u32 3329325298] 82)).cell? ⟨w.heap.size, n, none⟩ = some (.int .u32 (kList.getD n 0)) := by
    rw [← uV_k]
    exact uV_cell' (block_new _ _) n _ (kList_at n hn)
  have hnI : (n : Int) < 64 := by omega
  obtain ⟨X, hX⟩ : ∃ X, X = kList.getD n 0 := ⟨_, rfl⟩
  rw [← hX] at hc ⊢
  clear hX
  go_enter Tryd.func66, Tryd.ntmps66
  go_wp2_with fail
  go_ret
  exact ⟨rfl, hK⟩
end Go.Proofs.YtlomniffpjndfaaDoor
