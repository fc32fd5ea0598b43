/- Contracts of math/bits, laid at the seat's program. -/
import Derived.Shelf.Small.Bits
import Derived.Shelf.Strconv.Itoa0
import Derived.Shelf.Bits.Mul64
import Derived.Test.YtmghpoagpiljhaaBase
import Derived.Test.YtmghpoagpiljhaaScalar
namespace Go.Proofs
open Go.Shelf
def Try.lays129_ren : Go.Shelf.Ren := ⟨fun | 129 => 70 | n => n, fun | 53 => 22 | 3 => 3 | 4 => 4 | 46 => 102 | 5 => 5 | 9 => 9 | n => n, fun | n => n⟩
theorem Try.lays129 : Go.Proofs.Lays.n129 Try.prog Try.lays129_ren := {
  mixed := by kernel_rfl
  f129 := Try.func70.trans (congrArg some (by kernel_rfl))
  t3 := Try.underlying3
  a3 := Try.isAgg3
  z3 := Try.sizeOf3
  v3 := Try.zeroValue3
  t4 := Try.underlying4
  a4 := Try.isAgg4
  z4 := Try.sizeOf4
  v4 := Try.zeroValue4
  t5 := Try.underlying5
  a5 := Try.isAgg5
  z5 := Try.sizeOf5
  v5 := Try.zeroValue5
  t9 := Try.underlying9
  a9 := Try.isAgg9
  z9 := Try.sizeOf9
  v9 := Try.zeroValue9
  t46 := Try.underlying102
  a46 := Try.isAgg102
  z46 := Try.sizeOf102
  v46 := Try.zeroValue102
  t53 := Try.underlying22
  a53 := Try.isAgg22
  z53 := Try.sizeOf22
  v53 := Try.zeroValue22 }
theorem Try.bits_Len64 (x : Int) (w : World) (h0 : 0 ≤ x) (h1 : x ≤ 18446744073709551615) :
    Calls Try.prog 70 #[.int .u64 x] w fun e w' => e = .returned (.int .i64 (Lib.bitLen x.toNat)) ∧ w' = w := Any.bits_Len64 Try.lays129 x w h0 h1
namespace Ytmghpoagpiljhaa
theorem bitLenAux_len : ∀ (f x : Nat), x < 2 ^ f → Lib.bitLenAux f x = if x = 0 then 0 else x.log2 + 1 := by
  intro f
  induction f with
  | zero => intro x h; have : x = 0 := by simpa using h
            subst this; rfl
  | succ f ih =>
    intro x h
    by_cases h0 : x = 0
    · subst h0; rfl
    · rw [Lib.bitLenAux, if_neg h0, if_neg h0, ih (x / 2) (by rw [Nat.pow_succ] at h; omega)]
      by_cases h1 : x / 2 = 0
      · have : x = 1 := by omega
        subst this; rfl
      · rw [if_neg h1, Nat.log2_def x, if_pos (by omega)]; omega
theorem bitLen_len (x : W) : Lib.bitLen x.toNat = PlainScalar.len x := by
  unfold Lib.bitLen PlainScalar.len
  rw [bitLenAux_len 64 _ x.isLt]
  by_cases h : x = 0#64
  · subst h; rfl
  · rw [if_neg h, if_neg (fun e : x.toNat = 0 => h (BitVec.eq_of_toNat_eq (by simpa using e)))]
theorem len64_c (x : W) (w : World) : Calls Try.prog 70 #[.int .u64 (T x)] w fun e w' => e = .returned (.int .i64 (PlainScalar.len x : Int)) ∧ w = w' := by
  have h := Try.bits_Len64 (T x) w (T_lo x) (T_hi x)
  rw [show (T x).toNat = x.toNat from Int.toNat_natCast _, bitLen_len] at h
  exact h.mono fun _ _ h => ⟨h.1, h.2.symm⟩
end Ytmghpoagpiljhaa
end Go.Proofs
