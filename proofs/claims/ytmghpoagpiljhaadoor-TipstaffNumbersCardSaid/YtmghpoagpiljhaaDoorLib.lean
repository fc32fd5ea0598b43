/- Contracts of math/bits, laid at the seat's program. -/
import Derived.Shelf.Small.Bits
import Derived.Shelf.Strconv.Itoa0
import Derived.Shelf.Bits.Mul64
import Derived.Test.YtmghpoagpiljhaaDoorBase
import Derived.Test.YtmghpoagpiljhaaDoorScalar
namespace Go.Proofs
open Go.Shelf
def Tryd.lays134_ren : Go.Shelf.Ren := ⟨fun | 134 => 97 | 129 => 98 | n => n, fun | 53 => 39 | 3 => 3 | 4 => 4 | 46 => 92 | 5 => 5 | 9 => 9 | n => n, fun | n => n⟩
theorem Tryd.lays134 : Go.Proofs.Lays.n134 Tryd.prog Tryd.lays134_ren := {
  mixed := by kernel_rfl
  f129 := Tryd.func98.trans (congrArg some (by kernel_rfl))
  f134 := Tryd.func97.trans (congrArg some (by kernel_rfl))
  t3 := Tryd.underlying3
  a3 := Tryd.isAgg3
  z3 := Tryd.sizeOf3
  v3 := Tryd.zeroValue3
  t4 := Tryd.underlying4
  a4 := Tryd.isAgg4
  z4 := Tryd.sizeOf4
  v4 := Tryd.zeroValue4
  t5 := Tryd.underlying5
  a5 := Tryd.isAgg5
  z5 := Tryd.sizeOf5
  v5 := Tryd.zeroValue5
  t9 := Tryd.underlying9
  a9 := Tryd.isAgg9
  z9 := Tryd.sizeOf9
  v9 := Tryd.zeroValue9
  t46 := Tryd.underlying92
  a46 := Tryd.isAgg92
  z46 := Tryd.sizeOf92
  v46 := Tryd.zeroValue92
  t53 := Tryd.underlying39
  a53 := Tryd.isAgg39
  z53 := Tryd.sizeOf39
  v53 := Tryd.zeroValue39 }
theorem Tryd.bits_LeadingZeros64 (x : Int) (w : World) (h0 : 0 ≤ x) (h1 : x ≤ 18446744073709551615) :
    Calls Tryd.prog 97 #[.int .u64 x] w fun e w' => e = .returned (.int .i64 (64 - (Lib.bitLen x.toNat : Int))) ∧ w' = w := Any.bits_LeadingZeros64 Tryd.lays134 x w h0 h1
def Tryd.lays129_ren : Go.Shelf.Ren := ⟨fun | 129 => 98 | n => n, fun | 53 => 39 | 3 => 3 | 4 => 4 | 46 => 92 | 5 => 5 | 9 => 9 | n => n, fun | n => n⟩
theorem Tryd.lays129 : Go.Proofs.Lays.n129 Tryd.prog Tryd.lays129_ren := {
  mixed := by kernel_rfl
  f129 := Tryd.func98.trans (congrArg some (by kernel_rfl))
  t3 := Tryd.underlying3
  a3 := Tryd.isAgg3
  z3 := Tryd.sizeOf3
  v3 := Tryd.zeroValue3
  t4 := Tryd.underlying4
  a4 := Tryd.isAgg4
  z4 := Tryd.sizeOf4
  v4 := Tryd.zeroValue4
  t5 := Tryd.underlying5
  a5 := Tryd.isAgg5
  z5 := Tryd.sizeOf5
  v5 := Tryd.zeroValue5
  t9 := Tryd.underlying9
  a9 := Tryd.isAgg9
  z9 := Tryd.sizeOf9
  v9 := Tryd.zeroValue9
  t46 := Tryd.underlying92
  a46 := Tryd.isAgg92
  z46 := Tryd.sizeOf92
  v46 := Tryd.zeroValue92
  t53 := Tryd.underlying39
  a53 := Tryd.isAgg39
  z53 := Tryd.sizeOf39
  v53 := Tryd.zeroValue39 }
theorem Tryd.bits_Len64 (x : Int) (w : World) (h0 : 0 ≤ x) (h1 : x ≤ 18446744073709551615) :
    Calls Tryd.prog 98 #[.int .u64 x] w fun e w' => e = .returned (.int .i64 (Lib.bitLen x.toNat)) ∧ w' = w := Any.bits_Len64 Tryd.lays129 x w h0 h1
def Tryd.lays264_ren : Go.Shelf.Ren := ⟨fun | 264 => 80 | n => n, fun | 53 => 39 | 46 => 92 | n => n, fun | n => n⟩
theorem Tryd.lays264 : Go.Proofs.Lays.n264 Tryd.prog Tryd.lays264_ren := {
  mixed := by kernel_rfl
  f264 := Tryd.func80.trans (congrArg some (by kernel_rfl))
  t46 := Tryd.underlying92
  a46 := Tryd.isAgg92
  z46 := Tryd.sizeOf92
  v46 := Tryd.zeroValue92
  t53 := Tryd.underlying39
  a53 := Tryd.isAgg39
  z53 := Tryd.sizeOf39
  v53 := Tryd.zeroValue39 }
open Go.RowKit Go.Lib in
theorem Tryd.bits_Mul64 (x y : Nat) (hx : x < 18446744073709551616) (hy : y < 18446744073709551616) (w : World) :
    Calls Tryd.prog 80 #[.int .u64 x, .int .u64 y] w fun e w' => e = .returned (.tuple #[.int .u64 ((x * y / 18446744073709551616 : Nat) : Int), .int .u64 ((x * y % 18446744073709551616 : Nat) : Int)]) ∧ w' = w := Any.bits_Mul64 Tryd.lays264 x y hx hy w
namespace YtmghpoagpiljhaaDoor
theorem bitLenAux_len : ∀ (f x : Nat), x < 2 ^ f → Lib.bitLenAux f x = if x = 0 then 0 else x.log2 + 1 := by
  intro f
  induction f with
  | zero => intro x h; have : x = 0 := by simpa using h
            subst this; rfl
  | succ f ih =>
    intro x h
    by_cases h0 : x = 0
    · subst h0; rfl
    · rw [Lib.bitLenAux, if_neg h0, if_neg h0, ih (x / 2) (by rw [Nat.pow_succ] at h; omega)]
      by_cases h1 : x / 2 = 0
      · have : x = 1 := by omega
        subst this; rfl
      · rw [if_neg h1, Nat.log2_def x, if_pos (by omega)]; omega
theorem bitLen_len (x : W) : Lib.bitLen x.toNat = PlainScalar.len x := by
  unfold Lib.bitLen PlainScalar.len
  rw [bitLenAux_len 64 _ x.isLt]
  by_cases h : x = 0#64
  · subst h; rfl
  · rw [if_neg h, if_neg (fun e : x.toNat = 0 => h (BitVec.eq_of_toNat_eq (by simpa using e)))]
theorem len64_c (x : W) (w : World) : Calls Tryd.prog 98 #[.int .u64 (T x)] w fun e w' => e = .returned (.int .i64 (PlainScalar.len x : Int)) ∧ w = w' := by
  have h := Tryd.bits_Len64 (T x) w (T_lo x) (T_hi x)
  rw [show (T x).toNat = x.toNat from Int.toNat_natCast _, bitLen_len] at h
  exact h.mono fun _ _ h => ⟨h.1, h.2.symm⟩
theorem lz64_c (x : W) (w : World) : Calls Tryd.prog 97 #[.int .u64 (T x)] w fun e w' => e = .returned (.int .i64 (64 - (PlainScalar.len x : Int))) ∧ w = w' := by
  have h := Tryd.bits_LeadingZeros64 (T x) w (T_lo x) (T_hi x)
  rw [show (T x).toNat = x.toNat from Int.toNat_natCast _, bitLen_len] at h
  exact h.mono fun _ _ h => ⟨h.1, h.2.symm⟩
theorem mul64_c (x y : W) (w : World) : Calls Tryd.prog 80 #[.int .u64 (T x), .int .u64 (T y)] w fun e w' => e = .returned (.tuple #[.int .u64 (T (BitVec.ofNat 64 (x.toNat * y.toNat / 18446744073709551616))), .int .u64 (T (x * y))]) ∧ w = w' := by
  have h := Tryd.bits_Mul64 x.toNat y.toNat x.isLt y.isLt w
  have e1 : ((x.toNat * y.toNat / 18446744073709551616 : Nat) : Int) = T (BitVec.ofNat 64 (x.toNat * y.toNat / 18446744073709551616)) := lit_T _ (by
    have := Nat.mul_lt_mul'' x.isLt y.isLt
    exact (Nat.div_lt_iff_lt_mul (by decide)).2 this)
  have e2 : ((x.toNat * y.toNat % 18446744073709551616 : Nat) : Int) = T (x * y) := by unfold T; rw [BitVec.toNat_mul]
  rw [e1, e2] at h
  exact h.mono fun _ _ h => ⟨h.1, h.2.symm⟩
end YtmghpoagpiljhaaDoor
end Go.Proofs
