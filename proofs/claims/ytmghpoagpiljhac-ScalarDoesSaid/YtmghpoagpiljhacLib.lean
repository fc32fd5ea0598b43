/- Contracts of math/bits, laid at the seat's program. -/
import Derived.Shelf.Small.Bits
import Derived.Shelf.Strconv.Itoa0
import Derived.Shelf.Bits.Mul64
import Derived.Test.YtmghpoagpiljhacBase
import Derived.Test.YtmghpoagpiljhacScalar
namespace Go.Proofs
open Go.Shelf
def Try.lays134_ren : Go.Shelf.Ren := ⟨fun | 134 => 62 | 129 => 48 | n => n, fun | 53 => 24 | 3 => 3 | 4 => 4 | 46 => 84 | 5 => 5 | 9 => 9 | n => n, fun | n => n⟩
theorem Try.lays134 : Go.Proofs.Lays.n134 Try.prog Try.lays134_ren := {
  mixed := by kernel_rfl
  f129 := Try.func48.trans (congrArg some (by kernel_rfl))
  f134 := Try.func62.trans (congrArg some (by kernel_rfl))
  t3 := Try.underlying3
  a3 := Try.isAgg3
  z3 := Try.sizeOf3
  v3 := Try.zeroValue3
  t4 := Try.underlying4
  a4 := Try.isAgg4
  z4 := Try.sizeOf4
  v4 := Try.zeroValue4
  t5 := Try.underlying5
  a5 := Try.isAgg5
  z5 := Try.sizeOf5
  v5 := Try.zeroValue5
  t9 := Try.underlying9
  a9 := Try.isAgg9
  z9 := Try.sizeOf9
  v9 := Try.zeroValue9
  t46 := Try.underlying84
  a46 := Try.isAgg84
  z46 := Try.sizeOf84
  v46 := Try.zeroValue84
  t53 := Try.underlying24
  a53 := Try.isAgg24
  z53 := Try.sizeOf24
  v53 := Try.zeroValue24 }
theorem Try.bits_LeadingZeros64 (x : Int) (w : World) (h0 : 0 ≤ x) (h1 : x ≤ 18446744073709551615) :
    Calls Try.prog 62 #[.int .u64 x] w fun e w' => e = .returned (.int .i64 (64 - (Lib.bitLen x.toNat : Int))) ∧ w' = w := Any.bits_LeadingZeros64 Try.lays134 x w h0 h1
def Try.lays129_ren : Go.Shelf.Ren := ⟨fun | 129 => 48 | n => n, fun | 53 => 24 | 3 => 3 | 4 => 4 | 46 => 84 | 5 => 5 | 9 => 9 | n => n, fun | n => n⟩
theorem Try.lays129 : Go.Proofs.Lays.n129 Try.prog Try.lays129_ren := {
  mixed := by kernel_rfl
  f129 := Try.func48.trans (congrArg some (by kernel_rfl))
  t3 := Try.underlying3
  a3 := Try.isAgg3
  z3 := Try.sizeOf3
  v3 := Try.zeroValue3
  t4 := Try.underlying4
  a4 := Try.isAgg4
  z4 := Try.sizeOf4
  v4 := Try.zeroValue4
  t5 := Try.underlying5
  a5 := Try.isAgg5
  z5 := Try.sizeOf5
  v5 := Try.zeroValue5
  t9 := Try.underlying9
  a9 := Try.isAgg9
  z9 := Try.sizeOf9
  v9 := Try.zeroValue9
  t46 := Try.underlying84
  a46 := Try.isAgg84
  z46 := Try.sizeOf84
  v46 := Try.zeroValue84
  t53 := Try.underlying24
  a53 := Try.isAgg24
  z53 := Try.sizeOf24
  v53 := Try.zeroValue24 }
theorem Try.bits_Len64 (x : Int) (w : World) (h0 : 0 ≤ x) (h1 : x ≤ 18446744073709551615) :
    Calls Try.prog 48 #[.int .u64 x] w fun e w' => e = .returned (.int .i64 (Lib.bitLen x.toNat)) ∧ w' = w := Any.bits_Len64 Try.lays129 x w h0 h1
def Try.lays264_ren : Go.Shelf.Ren := ⟨fun | 264 => 55 | n => n, fun | 53 => 24 | 46 => 84 | n => n, fun | n => n⟩
theorem Try.lays264 : Go.Proofs.Lays.n264 Try.prog Try.lays264_ren := {
  mixed := by kernel_rfl
  f264 := Try.func55.trans (congrArg some (by kernel_rfl))
  t46 := Try.underlying84
  a46 := Try.isAgg84
  z46 := Try.sizeOf84
  v46 := Try.zeroValue84
  t53 := Try.underlying24
  a53 := Try.isAgg24
  z53 := Try.sizeOf24
  v53 := Try.zeroValue24 }
open Go.RowKit Go.Lib in
theorem Try.bits_Mul64 (x y : Nat) (hx : x < 18446744073709551616) (hy : y < 18446744073709551616) (w : World) :
    Calls Try.prog 55 #[.int .u64 x, .int .u64 y] w fun e w' => e = .returned (.tuple #[.int .u64 ((x * y / 18446744073709551616 : Nat) : Int), .int .u64 ((x * y % 18446744073709551616 : Nat) : Int)]) ∧ w' = w := Any.bits_Mul64 Try.lays264 x y hx hy w
namespace Ytmghpoagpiljhac
theorem bitLenAux_len : ∀ (f x : Nat), x < 2 ^ f → Lib.bitLenAux f x = if x = 0 then 0 else x.log2 + 1 := by
  intro f
  induction f with
  | zero => intro x h; have : x = 0 := by simpa using h
            subst this; rfl
  | succ f ih =>
    intro x h
    by_cases h0 : x = 0
    · subst h0; rfl
    · rw [Lib.bitLenAux, if_neg h0, if_neg h0, ih (x / 2) (by rw [Nat.pow_succ] at h; omega)]
      by_cases h1 : x / 2 = 0
      · have : x = 1 := by omega
        subst this; rfl
      · rw [if_neg h1, Nat.log2_def x, if_pos (by omega)]; omega
theorem bitLen_len (x : W) : Lib.bitLen x.toNat = PlainScalar.len x := by
  unfold Lib.bitLen PlainScalar.len
  rw [bitLenAux_len 64 _ x.isLt]
  by_cases h : x = 0#64
  · subst h; rfl
  · rw [if_neg h, if_neg (fun e : x.toNat = 0 => h (BitVec.eq_of_toNat_eq (by simpa using e)))]
theorem len64_c (x : W) (w : World) : Calls Try.prog 48 #[.int .u64 (T x)] w fun e w' => e = .returned (.int .i64 (PlainScalar.len x : Int)) ∧ w = w' := by
  have h := Try.bits_Len64 (T x) w (T_lo x) (T_hi x)
  rw [show (T x).toNat = x.toNat from Int.toNat_natCast _, bitLen_len] at h
  exact h.mono fun _ _ h => ⟨h.1, h.2.symm⟩
theorem lz64_c (x : W) (w : World) : Calls Try.prog 62 #[.int .u64 (T x)] w fun e w' => e = .returned (.int .i64 (64 - (PlainScalar.len x : Int))) ∧ w = w' := by
  have h := Try.bits_LeadingZeros64 (T x) w (T_lo x) (T_hi x)
  rw [show (T x).toNat = x.toNat from Int.toNat_natCast _, bitLen_len] at h
  exact h.mono fun _ _ h => ⟨h.1, h.2.symm⟩
theorem mul64_c (x y : W) (w : World) : Calls Try.prog 55 #[.int .u64 (T x), .int .u64 (T y)] w fun e w' => e = .returned (.tuple #[.int .u64 (T (BitVec.ofNat 64 (x.toNat * y.toNat / 18446744073709551616))), .int .u64 (T (x * y))]) ∧ w = w' := by
  have h := Try.bits_Mul64 x.toNat y.toNat x.isLt y.isLt w
  have e1 : ((x.toNat * y.toNat / 18446744073709551616 : Nat) : Int) = T (BitVec.ofNat 64 (x.toNat * y.toNat / 18446744073709551616)) := lit_T _ (by
    have := Nat.mul_lt_mul'' x.isLt y.isLt
    exact (Nat.div_lt_iff_lt_mul (by decide)).2 this)
  have e2 : ((x.toNat * y.toNat % 18446744073709551616 : Nat) : Int) = T (x * y) := by unfold T; rw [BitVec.toNat_mul]
  rw [e1, e2] at h
  exact h.mono fun _ _ h => ⟨h.1, h.2.symm⟩
end Ytmghpoagpiljhac
end Go.Proofs
