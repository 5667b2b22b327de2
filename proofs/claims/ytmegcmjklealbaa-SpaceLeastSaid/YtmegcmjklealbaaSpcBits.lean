/-
  Bits of a word as a set of slots: plain lemmas.
-/
import Derived.WalkKit
import Derived.Laws.BitsLemmas
import Derived.Laws.Bits64
namespace Go.Proofs.Ytmegcmjklealbaa
open Go.RowKit

theorem bv_u64 (x : Nat) : BitVec.ofInt 64 (x : Int) = BitVec.ofNat 64 x := by
  apply BitVec.eq_of_toNat_eq
  simp
theorem bits_and_nat (x y : Nat) : bits BinOp.and IntKind.u64 (x : Int) (y : Int) = IntKind.u64.wrap ((BitVec.ofNat 64 x &&& BitVec.ofNat 64 y).toNat : Int) := by
  show IntKind.u64.wrap ((BitVec.ofInt 64 (x : Int) &&& BitVec.ofInt 64 (y : Int)).toNat : Int) = _
  rw [bv_u64, bv_u64]
theorem bits_or_nat (x y : Nat) : bits BinOp.or IntKind.u64 (x : Int) (y : Int) = IntKind.u64.wrap ((BitVec.ofNat 64 x ||| BitVec.ofNat 64 y).toNat : Int) := by
  show IntKind.u64.wrap ((BitVec.ofInt 64 (x : Int) ||| BitVec.ofInt 64 (y : Int)).toNat : Int) = _
  rw [bv_u64, bv_u64]
theorem bits_andNot_nat (x y : Nat) : bits BinOp.andNot IntKind.u64 (x : Int) (y : Int) = IntKind.u64.wrap ((BitVec.ofNat 64 x &&& ~~~ BitVec.ofNat 64 y).toNat : Int) := by
  show IntKind.u64.wrap ((BitVec.ofInt 64 (x : Int) &&& ~~~ BitVec.ofInt 64 (y : Int)).toNat : Int) = _
  rw [bv_u64, bv_u64]
theorem wrap_u64_nat (x : Nat) (h : x < 18446744073709551616) : IntKind.u64.wrap (x : Int) = (x : Int) := by
  rw [IntKind.wrap_u64]; omega
theorem pow_lt (s : Nat) (h : s < 48) : 2 ^ s < 18446744073709551616 :=
  Nat.lt_of_lt_of_le (Nat.pow_lt_pow_right (by decide) h) (by decide)
theorem wrap_pow (s : Nat) (h : s < 48) : IntKind.u64.wrap ((2 : Int) ^ s) = ((2 ^ s : Nat) : Int) := by
  have := wrap_u64_nat (2 ^ s) (pow_lt s h)
  rw [← this]; norm_cast
theorem bits_and_one (x s : Nat) (hx : x < 18446744073709551616) : (bits BinOp.and IntKind.u64 ((x : Int) / 2 ^ s) 1 == 1) = x.testBit s := by
  have e : ((x : Int) / 2 ^ s) = ((x / 2 ^ s : Nat) : Int) := by norm_cast
  have e1 : (1 : Int) = ((1 : Nat) : Int) := rfl
  have hd : x / 2 ^ s < 18446744073709551616 := Nat.lt_of_le_of_lt (Nat.div_le_self _ _) hx
  have hb : bits BinOp.and IntKind.u64 ((x : Int) / 2 ^ s) 1 = ((x / 2 ^ s % 2 : Nat) : Int) := by
    rw [e, e1, bits_and_nat]
    simp only [BitVec.toNat_and, BitVec.toNat_ofNat]
    rw [Nat.mod_eq_of_lt (by omega : x / 2 ^ s < 2 ^ 64), Nat.mod_eq_of_lt (by decide : (1 : Nat) < 2 ^ 64), Nat.and_one_is_mod, wrap_u64_nat _ (by omega)]
  rw [hb, Nat.testBit_eq_decide_div_mod_eq, Bool.eq_iff_iff]
  simp only [beq_iff_eq, decide_eq_true_eq]
  omega
def setB (x s : Nat) : Nat := x ||| 2 ^ s
def clrB (x s : Nat) : Nat := (BitVec.ofNat 64 x &&& ~~~ BitVec.ofNat 64 (2 ^ s)).toNat
theorem clrB_lt (x s : Nat) : clrB x s < 18446744073709551616 := (BitVec.ofNat 64 x &&& ~~~ BitVec.ofNat 64 (2 ^ s)).isLt
theorem setB_lt (x s : Nat) (hx : x < 18446744073709551616) (h : s < 48) : setB x s < 18446744073709551616 := by
  have := pow_lt s h
  exact Nat.or_lt_two_pow (n := 64) hx this
theorem bits_or_pow (x s : Nat) (hx : x < 18446744073709551616) (h : s < 48) : bits BinOp.or IntKind.u64 (x : Int) (IntKind.u64.wrap ((2 : Int) ^ s)) = (setB x s : Int) := by
  rw [wrap_pow s h, bits_or_nat]
  simp only [BitVec.toNat_or, BitVec.toNat_ofNat]
  rw [Nat.mod_eq_of_lt hx, Nat.mod_eq_of_lt (pow_lt s h)]
  exact wrap_u64_nat _ (setB_lt x s hx h)
theorem bits_clr_pow (x s : Nat) (h : s < 48) : bits BinOp.andNot IntKind.u64 (x : Int) (IntKind.u64.wrap ((2 : Int) ^ s)) = (clrB x s : Int) := by
  rw [wrap_pow s h, bits_andNot_nat]
  exact wrap_u64_nat _ (clrB_lt x s)
theorem testBit_setB (x s t : Nat) : (setB x s).testBit t = (x.testBit t || decide (t = s)) := by
  unfold setB
  rw [Nat.testBit_or, Nat.testBit_two_pow]
  congr 1
  simp [eq_comm]
theorem testBit_clrB (x s t : Nat) (ht : t < 48) : (clrB x s).testBit t = (x.testBit t && !decide (t = s)) := by
  unfold clrB
  have e : ∀ (v : BitVec 64), v.toNat.testBit t = v.getLsbD t := fun v => rfl
  rw [e, BitVec.getLsbD_and, BitVec.getLsbD_not, BitVec.getLsbD_ofNat, BitVec.getLsbD_ofNat, Nat.testBit_two_pow]
  have h64 : t < 64 := by omega
  simp [h64, eq_comm]
end Go.Proofs.Ytmegcmjklealbaa
