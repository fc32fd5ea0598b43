/- The walk's own words for 32 bits and for bytes: a number is T3 of a BitVec 32, T1 of a BitVec 8; what the operations make of them. -/
import Derived.Test.YtmghpoagpiljhaaDoorBase
namespace Go.Proofs.YtmghpoagpiljhaaDoor
open Go.RowKit
/-- A number of 32 bits. -/
def T3 (x : BitVec 32) : Int := (x.toNat : Int)
/-- A byte. -/
def T1 (x : BitVec 8) : Int := (x.toNat : Int)
abbrev wv (x : BitVec 32) : Value := .int .u32 (T3 x)
abbrev bv (x : BitVec 8) : Value := .int .u8 (T1 x)
theorem T3_lo (x : BitVec 32) : 0 ≤ T3 x := Int.natCast_nonneg _
theorem T3_hi (x : BitVec 32) : T3 x ≤ 4294967295 := by have := x.isLt; unfold T3; omega
theorem T1_lo (x : BitVec 8) : 0 ≤ T1 x := Int.natCast_nonneg _
theorem T1_hi (x : BitVec 8) : T1 x ≤ 255 := by have := x.isLt; unfold T1; omega
theorem T3_inj {x y : BitVec 32} (h : T3 x = T3 y) : x = y := BitVec.eq_of_toNat_eq (by unfold T3 at h; omega)
theorem T1_inj {x y : BitVec 8} (h : T1 x = T1 y) : x = y := BitVec.eq_of_toNat_eq (by unfold T1 at h; omega)
theorem ofInt_T3 (x : BitVec 32) : BitVec.ofInt 32 (T3 x) = x := by
  unfold T3
  rw [BitVec.ofInt_natCast, BitVec.ofNat_toNat, BitVec.setWidth_eq]
theorem wrap_3 (e : Int) : IntKind.u32.wrap e = T3 (BitVec.ofInt 32 e) := by
  unfold T3
  rw [IntKind.wrap_u32, BitVec.toNat_ofInt]
  omega
theorem wrap_1 (e : Int) : IntKind.u8.wrap e = T1 (BitVec.ofInt 8 e) := by
  unfold T1
  rw [IntKind.wrap_u8, BitVec.toNat_ofInt]
  omega
@[go_sem] theorem u3_add (x y : BitVec 32) : IntKind.u32.wrap (T3 x + T3 y) = T3 (x + y) := by rw [wrap_3, BitVec.ofInt_add, ofInt_T3, ofInt_T3]
theorem back_3 (x : BitVec 32) : IntKind.u32.wrap (x.toNat : Int) = T3 x := by
  rw [wrap_3, BitVec.ofInt_natCast, BitVec.ofNat_toNat, BitVec.setWidth_eq]
theorem bits3_and (a b : Int) : bits .and .u32 a b = T3 (BitVec.ofInt 32 a &&& BitVec.ofInt 32 b) := back_3 _
theorem bits3_or (a b : Int) : bits .or .u32 a b = T3 (BitVec.ofInt 32 a ||| BitVec.ofInt 32 b) := back_3 _
theorem bits3_xor (a b : Int) : bits .xor .u32 a b = T3 (BitVec.ofInt 32 a ^^^ BitVec.ofInt 32 b) := back_3 _
@[go_sem] theorem u3_and (x y : BitVec 32) : bits .and .u32 (T3 x) (T3 y) = T3 (x &&& y) := by rw [bits3_and, ofInt_T3, ofInt_T3]
@[go_sem] theorem u3_or (x y : BitVec 32) : bits .or .u32 (T3 x) (T3 y) = T3 (x ||| y) := by rw [bits3_or, ofInt_T3, ofInt_T3]
@[go_sem] theorem u3_xor (x y : BitVec 32) : bits .xor .u32 (T3 x) (T3 y) = T3 (x ^^^ y) := by rw [bits3_xor, ofInt_T3, ofInt_T3]
@[go_sem] theorem u3_signed : IntKind.u32.signed = false := rfl
@[go_sem] theorem u3_not (x : BitVec 32) : bits .xor .u32 4294967295 (T3 x) = T3 (~~~x) := by
  rw [bits3_xor, ofInt_T3]
  have e : BitVec.ofInt 32 4294967295 = BitVec.allOnes 32 := by decide
  rw [e, BitVec.allOnes_xor]
@[go_sem] theorem u3_not' (x : BitVec 32) : bits .xor .u32 IntKind.u32.max (T3 x) = T3 (~~~x) := u3_not x
@[go_sem] theorem u3_shl (x : BitVec 32) (k : Nat) : IntKind.u32.wrap (T3 x * 2 ^ min k 32) = T3 (x <<< k) := by
  rw [IntKind.wrap_u32]
  unfold T3
  rw [BitVec.toNat_shiftLeft, Nat.shiftLeft_eq]
  by_cases h : k ≤ 32
  · rw [Nat.min_eq_left h]
    have e : ((x.toNat : Int) * 2 ^ k) = ((x.toNat * 2 ^ k : Nat) : Int) := by rw [Int.natCast_mul, Int.natCast_pow]; rfl
    rw [e]
    generalize x.toNat * 2 ^ k = y
    omega
  · rw [Nat.min_eq_right (by omega)]
    have e1 : x.toNat * 2 ^ k % 2 ^ 32 = 0 := by
      rw [show k = 32 + (k - 32) by omega, Nat.pow_add, ← Nat.mul_assoc, Nat.mul_right_comm]
      exact Nat.mul_mod_left _ _
    rw [e1]
    omega
@[go_sem] theorem u3_shr (x : BitVec 32) (k : Nat) : T3 x / 2 ^ min k 32 = T3 (x >>> k) := by
  unfold T3
  rw [BitVec.toNat_ushiftRight, Nat.shiftRight_eq_div_pow]
  by_cases h : k ≤ 32
  · rw [Nat.min_eq_left h]
    have e : ((2 : Int) ^ k) = ((2 ^ k : Nat) : Int) := by rw [Int.natCast_pow]; rfl
    rw [e]
    exact (Int.natCast_ediv _ _).symm
  · rw [Nat.min_eq_right (by omega)]
    have hx := x.isLt
    have e1 : x.toNat / 2 ^ k = 0 := Nat.div_eq_of_lt (Nat.lt_of_lt_of_le hx (Nat.pow_le_pow_right (by omega) (by omega)))
    rw [e1]
    omega
@[go_sem] theorem u3_fshr (x : BitVec 32) (k : Nat) : (T3 x).fdiv (2 ^ min k 32) = T3 (x >>> k) := by
  rw [← u3_shr, Int.fdiv_eq_ediv_of_nonneg]
  exact Int.le_of_lt (Int.pow_pos (by decide))
@[go_sem] theorem u3_shl8 (x : BitVec 32) : IntKind.u32.wrap (T3 x * (256 : Int)) = T3 (x <<< 8) := u3_shl x 8
@[go_sem] theorem u3_shr3 (x : BitVec 32) : T3 x / (8 : Int) = T3 (x >>> 3) := u3_shr x 3
@[go_sem] theorem u3_shr10 (x : BitVec 32) : T3 x / (1024 : Int) = T3 (x >>> 10) := u3_shr x 10
@[go_sem] theorem u3_fshr3 (x : BitVec 32) : (T3 x).fdiv (8 : Int) = T3 (x >>> 3) := u3_fshr x 3
@[go_sem] theorem u3_fshr10 (x : BitVec 32) : (T3 x).fdiv (1024 : Int) = T3 (x >>> 10) := u3_fshr x 10
@[go_sem] theorem u3_of1 (c : BitVec 8) : IntKind.u32.wrap (T1 c) = T3 (c.setWidth 32) := by
  rw [IntKind.wrap_u32]
  unfold T1 T3
  have := c.isLt
  rw [BitVec.toNat_setWidth]
  omega
@[go_sem] theorem u1_of3 (x : BitVec 32) : IntKind.u8.wrap (T3 x) = T1 (x.setWidth 8) := by
  rw [IntKind.wrap_u8]
  unfold T1 T3
  rw [BitVec.toNat_setWidth]
  omega
@[go_sem] theorem u1_of (x : W) : IntKind.u8.wrap (T x) = T1 (x.setWidth 8) := by
  rw [IntKind.wrap_u8]
  unfold T1 T
  rw [BitVec.toNat_setWidth]
  omega
end Go.Proofs.YtmghpoagpiljhaaDoor
