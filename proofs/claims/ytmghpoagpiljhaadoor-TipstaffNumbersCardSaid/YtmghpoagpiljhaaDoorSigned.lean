/- More of the walk's own words: numbers with a sign. -/
import Derived.Test.YtmghpoagpiljhaaDoorBits
import Derived.Test.YtmghpoagpiljhaaDoorScalar
namespace Go.Proofs.YtmghpoagpiljhaaDoor
open Go.RowKit
abbrev sv (x : W) : Value := .int .i64 (S x)
@[go_sem] theorem i_of_u (x : W) : IntKind.i64.wrap (T x) = S x := by rw [wrap_i, ofInt_T]
@[go_sem] theorem i_of_u' (x : W) : wrap64 (T x) = S x := by rw [w64, ofInt_T]
@[go_sem] theorem u_of_i (x : W) : IntKind.u64.wrap (S x) = T x := by rw [wrap_u, ofInt_S]
theorem T_eq0 (x : W) : (T x = 0) = (x = 0#64) := by
  rw [← T_eq]; rfl
theorem S_le (x y : W) : (S x ≤ S y) = (x.toInt ≤ y.toInt) := rfl
theorem S_lt (x y : W) : (S x < S y) = (x.toInt < y.toInt) := rfl
theorem S_eq (x y : W) : (S x = S y) = (x = y) := propext ⟨S_inj, fun h => by rw [h]⟩
theorem S_beq (x y : W) : (S x == S y) = (x == y) := by
  rw [Bool.eq_iff_iff, beq_iff_eq, beq_iff_eq, S_eq]
@[go_sem] theorem T_max (x y : W) : max (T x) (T y) = T (PlainScalar.maxU x y) := by
  unfold T; rw [PlainScalar.maxU_nat]; omega
@[go_sem] theorem T_min (x y : W) : min (T x) (T y) = T (PlainScalar.minU x y) := by
  unfold T; rw [PlainScalar.minU_nat]; omega
@[go_sem] theorem S_max (x y : W) : max (S x) (S y) = S (PlainScalar.maxS x y) := by
  unfold S; rw [PlainScalar.maxS_int]
@[go_sem] theorem S_min (x y : W) : min (S x) (S y) = S (PlainScalar.minS x y) := by
  unfold S; rw [PlainScalar.minS_int]
end Go.Proofs.YtmghpoagpiljhaaDoor
