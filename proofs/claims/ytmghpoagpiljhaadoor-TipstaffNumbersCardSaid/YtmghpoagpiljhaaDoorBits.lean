/- More laws of the walk's own words: shifts whose count is known to be small. -/
import Derived.Test.YtmghpoagpiljhaaDoorBase
namespace Go.Proofs.YtmghpoagpiljhaaDoor
open Go.RowKit
@[go_sem] theorem u_shl' (x : W) (k : Nat) : IntKind.u64.wrap (T x * 2 ^ k) = T (x <<< k) := by
  by_cases h : k ≤ 64
  · have := u_shl x k
    rwa [Nat.min_eq_left h] at this
  · rw [IntKind.wrap_u64]
    have e : T x * 2 ^ k = (T x * 2 ^ (k - 64)) * 18446744073709551616 := by
      have : (2 : Int) ^ k = 2 ^ (k - 64) * 2 ^ 64 := by rw [← Int.pow_add]; congr 1; omega
      rw [this, ← Int.mul_assoc]; rfl
    rw [e, Int.mul_emod_left]
    unfold T
    rw [BitVec.toNat_shiftLeft, Nat.shiftLeft_eq]
    have e1 : x.toNat * 2 ^ k % 2 ^ 64 = 0 := by
      rw [show k = 64 + (k - 64) by omega, Nat.pow_add, ← Nat.mul_assoc, Nat.mul_right_comm]
      exact Nat.mul_mod_left _ _
    rw [e1]; rfl
@[go_sem] theorem u_shr' (x : W) (k : Nat) : T x / 2 ^ k = T (x >>> k) := by
  unfold T
  rw [BitVec.toNat_ushiftRight, Nat.shiftRight_eq_div_pow]
  have e : ((2 : Int) ^ k) = ((2 ^ k : Nat) : Int) := by rw [Int.natCast_pow]; rfl
  rw [e]
  exact (Int.natCast_ediv _ _).symm
@[go_sem] theorem u_fshr' (x : W) (k : Nat) : (T x).fdiv (2 ^ k) = T (x >>> k) := by
  rw [← u_shr', Int.fdiv_eq_ediv_of_nonneg]
  exact Int.le_of_lt (Int.pow_pos (by decide))
@[go_sem] theorem u_pow (k : Nat) : IntKind.u64.wrap (2 ^ k) = T (1#64 <<< k) := by
  rw [← u_shl', show T 1#64 = 1 from rfl, Int.one_mul]
@[go_sem] theorem u_pow_min (k : Nat) : IntKind.u64.wrap (2 ^ min k 64) = T (1#64 <<< k) := by
  rw [← u_shl, show T 1#64 = 1 from rfl, Int.one_mul]
end Go.Proofs.YtmghpoagpiljhaaDoor
