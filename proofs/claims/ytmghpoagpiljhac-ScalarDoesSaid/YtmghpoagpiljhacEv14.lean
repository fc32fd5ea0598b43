/- The reference's Eval, of layer 14. -/
import Derived.Test.YtmghpoagpiljhacSc6
import Derived.Test.YtmghpoagpiljhacEval
set_option linter.unusedSimpArgs false
namespace Go.Proofs.Ytmghpoagpiljhac
open Go.RowKit
@[go_sem] theorem u_rem4G (x : W) : (T x).tmod 4294967296 = T (PlainScalar.low4 x) := by
  rw [Int.tmod_eq_emod_of_nonneg (T_lo x)]; unfold T; rw [PlainScalar.low4_nat]; omega
theorem bit_test (x : W) (i : Nat) : (T (x >>> i &&& 1#64) == 1) = x.getLsbD i := by
  rw [T_beq1, BitVec.and_one_eq_setWidth_ofBool_getLsbD, BitVec.getLsbD_ushiftRight, Nat.add_zero]
  cases x.getLsbD i <;> decide
theorem bit31 (x : W) : (bits .and .u64 (T x / 2147483648) 1 == 1) = x.getLsbD 31 := by
  have e : T x / (2147483648 : Int) = T (x >>> 31) := by rw [← u_shr' x 31]; rfl
  rw [e, u_and1]; exact bit_test x 31
theorem bit63 (x : W) : (bits .and .u64 (T x / 9223372036854775808) 1 == 1) = x.getLsbD 63 := by
  have e : T x / (9223372036854775808 : Int) = T (x >>> 63) := by rw [← u_shr' x 63]; rfl
  rw [e, u_and1]; exact bit_test x 63
theorem reval_op (op : Int) (l : Bool) (x y z : W) (h : PlainEval.rev op (if l then 64 else 32) (if l then x else PlainScalar.low4 x) (if l then y else PlainScalar.low4 y) = z) :
    PlainScalar.eval op l x y = if l then z else PlainScalar.low4 z := by
  rw [← PlainEval.reval_eval]; unfold PlainEval.reval
  cases l
  · simpa using congrArg PlainScalar.low4 h
  · simpa using h
set_option maxRecDepth 100000 in
set_option maxHeartbeats 1600000 in
theorem rev_0 (l : Bool) (x y : W) (w : World) : Calls Try.prog 12 #[.int .i64 0, .bool l, uv x, uv y] w fun e w' => e = .returned (uv (PlainScalar.eval 0 l x y)) ∧ Below w.heap.size w w' := by
  cases l
  · have r64 := u_rem64 (PlainScalar.low4 y)
    have r32 := u_rem32 (PlainScalar.low4 y)
    have hs := reval_op 0 false x y ((PlainScalar.low4 x) + (PlainScalar.low4 y)) (by unfold PlainEval.rev; simp)
    simp only [if_true, Bool.false_eq_true, if_false] at hs
    go_enter Try.func12, Try.ntmps12
    go_wp2
    go_ret
    exact ⟨by rw [hs]; rfl, (by repeat (first | (with_reducible exact Bl_refl _) | with_reducible apply Bl_alloc | with_reducible apply Bl_drew | with_reducible apply Bl_drewN | (with_reducible refine Bl_set ?_ (by first | omega | (simp; done) | (simp; omega)) _) | (with_reducible refine Bl_trans ?_ (by assumption))))⟩
  · have r64 := u_rem64 y
    have r32 := u_rem32 y
    have hs := reval_op 0 true x y (x + y) (by unfold PlainEval.rev; simp)
    simp only [if_true, Bool.false_eq_true, if_false] at hs
    go_enter Try.func12, Try.ntmps12
    go_wp2
    go_ret
    exact ⟨by rw [hs]; rfl, (by repeat (first | (with_reducible exact Bl_refl _) | with_reducible apply Bl_alloc | with_reducible apply Bl_drew | with_reducible apply Bl_drewN | (with_reducible refine Bl_set ?_ (by first | omega | (simp; done) | (simp; omega)) _) | (with_reducible refine Bl_trans ?_ (by assumption))))⟩
set_option maxRecDepth 100000 in
set_option maxHeartbeats 1600000 in
theorem rev_1 (l : Bool) (x y : W) (w : World) : Calls Try.prog 12 #[.int .i64 1, .bool l, uv x, uv y] w fun e w' => e = .returned (uv (PlainScalar.eval 1 l x y)) ∧ Below w.heap.size w w' := by
  cases l
  · have r64 := u_rem64 (PlainScalar.low4 y)
    have r32 := u_rem32 (PlainScalar.low4 y)
    have hs := reval_op 1 false x y ((PlainScalar.low4 x) - (PlainScalar.low4 y)) (by unfold PlainEval.rev; simp)
    simp only [if_true, Bool.false_eq_true, if_false] at hs
    go_enter Try.func12, Try.ntmps12
    go_wp2
    go_ret
    exact ⟨by rw [hs]; rfl, (by repeat (first | (with_reducible exact Bl_refl _) | with_reducible apply Bl_alloc | with_reducible apply Bl_drew | with_reducible apply Bl_drewN | (with_reducible refine Bl_set ?_ (by first | omega | (simp; done) | (simp; omega)) _) | (with_reducible refine Bl_trans ?_ (by assumption))))⟩
  · have r64 := u_rem64 y
    have r32 := u_rem32 y
    have hs := reval_op 1 true x y (x - y) (by unfold PlainEval.rev; simp)
    simp only [if_true, Bool.false_eq_true, if_false] at hs
    go_enter Try.func12, Try.ntmps12
    go_wp2
    go_ret
    exact ⟨by rw [hs]; rfl, (by repeat (first | (with_reducible exact Bl_refl _) | with_reducible apply Bl_alloc | with_reducible apply Bl_drew | with_reducible apply Bl_drewN | (with_reducible refine Bl_set ?_ (by first | omega | (simp; done) | (simp; omega)) _) | (with_reducible refine Bl_trans ?_ (by assumption))))⟩
set_option maxRecDepth 100000 in
set_option maxHeartbeats 1600000 in
theorem rev_2 (l : Bool) (x y : W) (w : World) : Calls Try.prog 12 #[.int .i64 2, .bool l, uv x, uv y] w fun e w' => e = .returned (uv (PlainScalar.eval 2 l x y)) ∧ Below w.heap.size w w' := by
  cases l
  · have r64 := u_rem64 (PlainScalar.low4 y)
    have r32 := u_rem32 (PlainScalar.low4 y)
    have hs := reval_op 2 false x y ((PlainScalar.low4 x) * (PlainScalar.low4 y)) (by unfold PlainEval.rev; simp)
    simp only [if_true, Bool.false_eq_true, if_false] at hs
    go_enter Try.func12, Try.ntmps12
    go_wp2
    go_ret
    exact ⟨by rw [hs]; rfl, (by repeat (first | (with_reducible exact Bl_refl _) | with_reducible apply Bl_alloc | with_reducible apply Bl_drew | with_reducible apply Bl_drewN | (with_reducible refine Bl_set ?_ (by first | omega | (simp; done) | (simp; omega)) _) | (with_reducible refine Bl_trans ?_ (by assumption))))⟩
  · have r64 := u_rem64 y
    have r32 := u_rem32 y
    have hs := reval_op 2 true x y (x * y) (by unfold PlainEval.rev; simp)
    simp only [if_true, Bool.false_eq_true, if_false] at hs
    go_enter Try.func12, Try.ntmps12
    go_wp2
    go_ret
    exact ⟨by rw [hs]; rfl, (by repeat (first | (with_reducible exact Bl_refl _) | with_reducible apply Bl_alloc | with_reducible apply Bl_drew | with_reducible apply Bl_drewN | (with_reducible refine Bl_set ?_ (by first | omega | (simp; done) | (simp; omega)) _) | (with_reducible refine Bl_trans ?_ (by assumption))))⟩
set_option maxRecDepth 100000 in
set_option maxHeartbeats 1600000 in
theorem rev_4 (l : Bool) (x y : W) (w : World) : Calls Try.prog 12 #[.int .i64 4, .bool l, uv x, uv y] w fun e w' => e = .returned (uv (PlainScalar.eval 4 l x y)) ∧ Below w.heap.size w w' := by
  cases l
  · have r64 := u_rem64 (PlainScalar.low4 y)
    have r32 := u_rem32 (PlainScalar.low4 y)
    have hs := reval_op 4 false x y ((PlainScalar.low4 x) ||| (PlainScalar.low4 y)) (by unfold PlainEval.rev; simp)
    simp only [if_true, Bool.false_eq_true, if_false] at hs
    go_enter Try.func12, Try.ntmps12
    go_wp2
    go_ret
    exact ⟨by rw [hs]; rfl, (by repeat (first | (with_reducible exact Bl_refl _) | with_reducible apply Bl_alloc | with_reducible apply Bl_drew | with_reducible apply Bl_drewN | (with_reducible refine Bl_set ?_ (by first | omega | (simp; done) | (simp; omega)) _) | (with_reducible refine Bl_trans ?_ (by assumption))))⟩
  · have r64 := u_rem64 y
    have r32 := u_rem32 y
    have hs := reval_op 4 true x y (x ||| y) (by unfold PlainEval.rev; simp)
    simp only [if_true, Bool.false_eq_true, if_false] at hs
    go_enter Try.func12, Try.ntmps12
    go_wp2
    go_ret
    exact ⟨by rw [hs]; rfl, (by repeat (first | (with_reducible exact Bl_refl _) | with_reducible apply Bl_alloc | with_reducible apply Bl_drew | with_reducible apply Bl_drewN | (with_reducible refine Bl_set ?_ (by first | omega | (simp; done) | (simp; omega)) _) | (with_reducible refine Bl_trans ?_ (by assumption))))⟩
set_option maxRecDepth 100000 in
set_option maxHeartbeats 1600000 in
theorem rev_5 (l : Bool) (x y : W) (w : World) : Calls Try.prog 12 #[.int .i64 5, .bool l, uv x, uv y] w fun e w' => e = .returned (uv (PlainScalar.eval 5 l x y)) ∧ Below w.heap.size w w' := by
  cases l
  · have r64 := u_rem64 (PlainScalar.low4 y)
    have r32 := u_rem32 (PlainScalar.low4 y)
    have hs := reval_op 5 false x y ((PlainScalar.low4 x) &&& (PlainScalar.low4 y)) (by unfold PlainEval.rev; simp)
    simp only [if_true, Bool.false_eq_true, if_false] at hs
    go_enter Try.func12, Try.ntmps12
    go_wp2
    go_ret
    exact ⟨by rw [hs]; rfl, (by repeat (first | (with_reducible exact Bl_refl _) | with_reducible apply Bl_alloc | with_reducible apply Bl_drew | with_reducible apply Bl_drewN | (with_reducible refine Bl_set ?_ (by first | omega | (simp; done) | (simp; omega)) _) | (with_reducible refine Bl_trans ?_ (by assumption))))⟩
  · have r64 := u_rem64 y
    have r32 := u_rem32 y
    have hs := reval_op 5 true x y (x &&& y) (by unfold PlainEval.rev; simp)
    simp only [if_true, Bool.false_eq_true, if_false] at hs
    go_enter Try.func12, Try.ntmps12
    go_wp2
    go_ret
    exact ⟨by rw [hs]; rfl, (by repeat (first | (with_reducible exact Bl_refl _) | with_reducible apply Bl_alloc | with_reducible apply Bl_drew | with_reducible apply Bl_drewN | (with_reducible refine Bl_set ?_ (by first | omega | (simp; done) | (simp; omega)) _) | (with_reducible refine Bl_trans ?_ (by assumption))))⟩
set_option maxRecDepth 100000 in
set_option maxHeartbeats 1600000 in
theorem rev_6 (l : Bool) (x y : W) (w : World) : Calls Try.prog 12 #[.int .i64 6, .bool l, uv x, uv y] w fun e w' => e = .returned (uv (PlainScalar.eval 6 l x y)) ∧ Below w.heap.size w w' := by
  cases l
  · have r64 := u_rem64 (PlainScalar.low4 y)
    have r32 := u_rem32 (PlainScalar.low4 y)
    have hs := reval_op 6 false x y ((PlainScalar.low4 x) <<< (BitVec.toNat (PlainScalar.low4 y) % 32)) (by unfold PlainEval.rev; simp)
    simp only [if_true, Bool.false_eq_true, if_false] at hs
    go_enter Try.func12, Try.ntmps12
    go_wp2
    go_ret
    exact ⟨by rw [hs]; rfl, (by repeat (first | (with_reducible exact Bl_refl _) | with_reducible apply Bl_alloc | with_reducible apply Bl_drew | with_reducible apply Bl_drewN | (with_reducible refine Bl_set ?_ (by first | omega | (simp; done) | (simp; omega)) _) | (with_reducible refine Bl_trans ?_ (by assumption))))⟩
  · have r64 := u_rem64 y
    have r32 := u_rem32 y
    have hs := reval_op 6 true x y (x <<< (BitVec.toNat y % 64)) (by unfold PlainEval.rev; simp)
    simp only [if_true, Bool.false_eq_true, if_false] at hs
    go_enter Try.func12, Try.ntmps12
    go_wp2
    go_ret
    exact ⟨by rw [hs]; rfl, (by repeat (first | (with_reducible exact Bl_refl _) | with_reducible apply Bl_alloc | with_reducible apply Bl_drew | with_reducible apply Bl_drewN | (with_reducible refine Bl_set ?_ (by first | omega | (simp; done) | (simp; omega)) _) | (with_reducible refine Bl_trans ?_ (by assumption))))⟩
set_option maxRecDepth 100000 in
set_option maxHeartbeats 1600000 in
theorem rev_7 (l : Bool) (x y : W) (w : World) : Calls Try.prog 12 #[.int .i64 7, .bool l, uv x, uv y] w fun e w' => e = .returned (uv (PlainScalar.eval 7 l x y)) ∧ Below w.heap.size w w' := by
  cases l
  · have r64 := u_rem64 (PlainScalar.low4 y)
    have r32 := u_rem32 (PlainScalar.low4 y)
    have hs := reval_op 7 false x y ((PlainScalar.low4 x) >>> (BitVec.toNat (PlainScalar.low4 y) % 32)) (by unfold PlainEval.rev; simp)
    simp only [if_true, Bool.false_eq_true, if_false] at hs
    go_enter Try.func12, Try.ntmps12
    go_wp2
    go_ret
    exact ⟨by rw [hs]; rfl, (by repeat (first | (with_reducible exact Bl_refl _) | with_reducible apply Bl_alloc | with_reducible apply Bl_drew | with_reducible apply Bl_drewN | (with_reducible refine Bl_set ?_ (by first | omega | (simp; done) | (simp; omega)) _) | (with_reducible refine Bl_trans ?_ (by assumption))))⟩
  · have r64 := u_rem64 y
    have r32 := u_rem32 y
    have hs := reval_op 7 true x y (x >>> (BitVec.toNat y % 64)) (by unfold PlainEval.rev; simp)
    simp only [if_true, Bool.false_eq_true, if_false] at hs
    go_enter Try.func12, Try.ntmps12
    go_wp2
    go_ret
    exact ⟨by rw [hs]; rfl, (by repeat (first | (with_reducible exact Bl_refl _) | with_reducible apply Bl_alloc | with_reducible apply Bl_drew | with_reducible apply Bl_drewN | (with_reducible refine Bl_set ?_ (by first | omega | (simp; done) | (simp; omega)) _) | (with_reducible refine Bl_trans ?_ (by assumption))))⟩
set_option maxRecDepth 100000 in
set_option maxHeartbeats 1600000 in
theorem rev_8 (l : Bool) (x y : W) (w : World) : Calls Try.prog 12 #[.int .i64 8, .bool l, uv x, uv y] w fun e w' => e = .returned (uv (PlainScalar.eval 8 l x y)) ∧ Below w.heap.size w w' := by
  cases l
  · have r64 := u_rem64 (PlainScalar.low4 y)
    have r32 := u_rem32 (PlainScalar.low4 y)
    have hs := reval_op 8 false x y (-(PlainScalar.low4 x)) (by unfold PlainEval.rev; simp)
    simp only [if_true, Bool.false_eq_true, if_false] at hs
    go_enter Try.func12, Try.ntmps12
    go_wp2
    go_ret
    exact ⟨by rw [hs]; rfl, (by repeat (first | (with_reducible exact Bl_refl _) | with_reducible apply Bl_alloc | with_reducible apply Bl_drew | with_reducible apply Bl_drewN | (with_reducible refine Bl_set ?_ (by first | omega | (simp; done) | (simp; omega)) _) | (with_reducible refine Bl_trans ?_ (by assumption))))⟩
  · have r64 := u_rem64 y
    have r32 := u_rem32 y
    have hs := reval_op 8 true x y (-x) (by unfold PlainEval.rev; simp)
    simp only [if_true, Bool.false_eq_true, if_false] at hs
    go_enter Try.func12, Try.ntmps12
    go_wp2
    go_ret
    exact ⟨by rw [hs]; rfl, (by repeat (first | (with_reducible exact Bl_refl _) | with_reducible apply Bl_alloc | with_reducible apply Bl_drew | with_reducible apply Bl_drewN | (with_reducible refine Bl_set ?_ (by first | omega | (simp; done) | (simp; omega)) _) | (with_reducible refine Bl_trans ?_ (by assumption))))⟩
set_option maxRecDepth 100000 in
set_option maxHeartbeats 1600000 in
theorem rev_10 (l : Bool) (x y : W) (w : World) : Calls Try.prog 12 #[.int .i64 10, .bool l, uv x, uv y] w fun e w' => e = .returned (uv (PlainScalar.eval 10 l x y)) ∧ Below w.heap.size w w' := by
  cases l
  · have r64 := u_rem64 (PlainScalar.low4 y)
    have r32 := u_rem32 (PlainScalar.low4 y)
    have hs := reval_op 10 false x y ((PlainScalar.low4 x) ^^^ (PlainScalar.low4 y)) (by unfold PlainEval.rev; simp)
    simp only [if_true, Bool.false_eq_true, if_false] at hs
    go_enter Try.func12, Try.ntmps12
    go_wp2
    go_ret
    exact ⟨by rw [hs]; rfl, (by repeat (first | (with_reducible exact Bl_refl _) | with_reducible apply Bl_alloc | with_reducible apply Bl_drew | with_reducible apply Bl_drewN | (with_reducible refine Bl_set ?_ (by first | omega | (simp; done) | (simp; omega)) _) | (with_reducible refine Bl_trans ?_ (by assumption))))⟩
  · have r64 := u_rem64 y
    have r32 := u_rem32 y
    have hs := reval_op 10 true x y (x ^^^ y) (by unfold PlainEval.rev; simp)
    simp only [if_true, Bool.false_eq_true, if_false] at hs
    go_enter Try.func12, Try.ntmps12
    go_wp2
    go_ret
    exact ⟨by rw [hs]; rfl, (by repeat (first | (with_reducible exact Bl_refl _) | with_reducible apply Bl_alloc | with_reducible apply Bl_drew | with_reducible apply Bl_drewN | (with_reducible refine Bl_set ?_ (by first | omega | (simp; done) | (simp; omega)) _) | (with_reducible refine Bl_trans ?_ (by assumption))))⟩
set_option maxRecDepth 100000 in
set_option maxHeartbeats 1600000 in
theorem rev_11 (l : Bool) (x y : W) (w : World) : Calls Try.prog 12 #[.int .i64 11, .bool l, uv x, uv y] w fun e w' => e = .returned (uv (PlainScalar.eval 11 l x y)) ∧ Below w.heap.size w w' := by
  cases l
  · have r64 := u_rem64 (PlainScalar.low4 y)
    have r32 := u_rem32 (PlainScalar.low4 y)
    have hs := reval_op 11 false x y ((PlainScalar.low4 y)) (by unfold PlainEval.rev; simp)
    simp only [if_true, Bool.false_eq_true, if_false] at hs
    go_enter Try.func12, Try.ntmps12
    go_wp2
    go_ret
    exact ⟨by rw [hs]; rfl, (by repeat (first | (with_reducible exact Bl_refl _) | with_reducible apply Bl_alloc | with_reducible apply Bl_drew | with_reducible apply Bl_drewN | (with_reducible refine Bl_set ?_ (by first | omega | (simp; done) | (simp; omega)) _) | (with_reducible refine Bl_trans ?_ (by assumption))))⟩
  · have r64 := u_rem64 y
    have r32 := u_rem32 y
    have hs := reval_op 11 true x y (y) (by unfold PlainEval.rev; simp)
    simp only [if_true, Bool.false_eq_true, if_false] at hs
    go_enter Try.func12, Try.ntmps12
    go_wp2
    go_ret
    exact ⟨by rw [hs]; rfl, (by repeat (first | (with_reducible exact Bl_refl _) | with_reducible apply Bl_alloc | with_reducible apply Bl_drew | with_reducible apply Bl_drewN | (with_reducible refine Bl_set ?_ (by first | omega | (simp; done) | (simp; omega)) _) | (with_reducible refine Bl_trans ?_ (by assumption))))⟩
set_option maxRecDepth 100000 in
set_option maxHeartbeats 1600000 in
theorem rev_3 (l : Bool) (x y : W) (w : World) : Calls Try.prog 12 #[.int .i64 3, .bool l, uv x, uv y] w fun e w' => e = .returned (uv (PlainScalar.eval 3 l x y)) ∧ Below w.heap.size w w' := by
  cases l
  · have r64 := u_rem64 (PlainScalar.low4 y)
    have r32 := u_rem32 (PlainScalar.low4 y)
    by_cases hy : (PlainScalar.low4 y) = 0#64
    · have hz : T (PlainScalar.low4 y) = 0 := by rw [hy]; rfl
      have hs := reval_op 3 false x y (0#64) (by unfold PlainEval.rev; simp [hy])
      simp only [if_true, Bool.false_eq_true, if_false] at hs
      go_enter Try.func12, Try.ntmps12
      go_wp2
      go_ret
      exact ⟨by rw [hs]; rfl, (by repeat (first | (with_reducible exact Bl_refl _) | with_reducible apply Bl_alloc | with_reducible apply Bl_drew | with_reducible apply Bl_drewN | (with_reducible refine Bl_set ?_ (by first | omega | (simp; done) | (simp; omega)) _) | (with_reducible refine Bl_trans ?_ (by assumption))))⟩
    · have hz : ¬ T (PlainScalar.low4 y) = 0 := fun h => hy (T_inj h)
      have hs := reval_op 3 false x y ((PlainScalar.low4 x) / (PlainScalar.low4 y)) (by unfold PlainEval.rev; simp [hy])
      simp only [if_true, Bool.false_eq_true, if_false] at hs
      go_enter Try.func12, Try.ntmps12
      go_wp2
      go_ret
      exact ⟨by rw [hs]; rfl, (by repeat (first | (with_reducible exact Bl_refl _) | with_reducible apply Bl_alloc | with_reducible apply Bl_drew | with_reducible apply Bl_drewN | (with_reducible refine Bl_set ?_ (by first | omega | (simp; done) | (simp; omega)) _) | (with_reducible refine Bl_trans ?_ (by assumption))))⟩
  · have r64 := u_rem64 y
    have r32 := u_rem32 y
    by_cases hy : y = 0#64
    · have hz : T y = 0 := by rw [hy]; rfl
      have hs := reval_op 3 true x y (0#64) (by unfold PlainEval.rev; simp [hy])
      simp only [if_true, Bool.false_eq_true, if_false] at hs
      go_enter Try.func12, Try.ntmps12
      go_wp2
      go_ret
      exact ⟨by rw [hs]; rfl, (by repeat (first | (with_reducible exact Bl_refl _) | with_reducible apply Bl_alloc | with_reducible apply Bl_drew | with_reducible apply Bl_drewN | (with_reducible refine Bl_set ?_ (by first | omega | (simp; done) | (simp; omega)) _) | (with_reducible refine Bl_trans ?_ (by assumption))))⟩
    · have hz : ¬ T y = 0 := fun h => hy (T_inj h)
      have hs := reval_op 3 true x y (x / y) (by unfold PlainEval.rev; simp [hy])
      simp only [if_true, Bool.false_eq_true, if_false] at hs
      go_enter Try.func12, Try.ntmps12
      go_wp2
      go_ret
      exact ⟨by rw [hs]; rfl, (by repeat (first | (with_reducible exact Bl_refl _) | with_reducible apply Bl_alloc | with_reducible apply Bl_drew | with_reducible apply Bl_drewN | (with_reducible refine Bl_set ?_ (by first | omega | (simp; done) | (simp; omega)) _) | (with_reducible refine Bl_trans ?_ (by assumption))))⟩
set_option maxRecDepth 100000 in
set_option maxHeartbeats 1600000 in
theorem rev_9 (l : Bool) (x y : W) (w : World) : Calls Try.prog 12 #[.int .i64 9, .bool l, uv x, uv y] w fun e w' => e = .returned (uv (PlainScalar.eval 9 l x y)) ∧ Below w.heap.size w w' := by
  cases l
  · have r64 := u_rem64 (PlainScalar.low4 y)
    have r32 := u_rem32 (PlainScalar.low4 y)
    by_cases hy : (PlainScalar.low4 y) = 0#64
    · have hz : T (PlainScalar.low4 y) = 0 := by rw [hy]; rfl
      have hs := reval_op 9 false x y ((PlainScalar.low4 x)) (by unfold PlainEval.rev; simp [hy])
      simp only [if_true, Bool.false_eq_true, if_false] at hs
      go_enter Try.func12, Try.ntmps12
      go_wp2
      go_ret
      exact ⟨by rw [hs]; rfl, (by repeat (first | (with_reducible exact Bl_refl _) | with_reducible apply Bl_alloc | with_reducible apply Bl_drew | with_reducible apply Bl_drewN | (with_reducible refine Bl_set ?_ (by first | omega | (simp; done) | (simp; omega)) _) | (with_reducible refine Bl_trans ?_ (by assumption))))⟩
    · have hz : ¬ T (PlainScalar.low4 y) = 0 := fun h => hy (T_inj h)
      have hs := reval_op 9 false x y ((PlainScalar.low4 x) % (PlainScalar.low4 y)) (by unfold PlainEval.rev; simp [hy])
      simp only [if_true, Bool.false_eq_true, if_false] at hs
      go_enter Try.func12, Try.ntmps12
      go_wp2
      go_ret
      exact ⟨by rw [hs]; rfl, (by repeat (first | (with_reducible exact Bl_refl _) | with_reducible apply Bl_alloc | with_reducible apply Bl_drew | with_reducible apply Bl_drewN | (with_reducible refine Bl_set ?_ (by first | omega | (simp; done) | (simp; omega)) _) | (with_reducible refine Bl_trans ?_ (by assumption))))⟩
  · have r64 := u_rem64 y
    have r32 := u_rem32 y
    by_cases hy : y = 0#64
    · have hz : T y = 0 := by rw [hy]; rfl
      have hs := reval_op 9 true x y (x) (by unfold PlainEval.rev; simp [hy])
      simp only [if_true, Bool.false_eq_true, if_false] at hs
      go_enter Try.func12, Try.ntmps12
      go_wp2
      go_ret
      exact ⟨by rw [hs]; rfl, (by repeat (first | (with_reducible exact Bl_refl _) | with_reducible apply Bl_alloc | with_reducible apply Bl_drew | with_reducible apply Bl_drewN | (with_reducible refine Bl_set ?_ (by first | omega | (simp; done) | (simp; omega)) _) | (with_reducible refine Bl_trans ?_ (by assumption))))⟩
    · have hz : ¬ T y = 0 := fun h => hy (T_inj h)
      have hs := reval_op 9 true x y (x % y) (by unfold PlainEval.rev; simp [hy])
      simp only [if_true, Bool.false_eq_true, if_false] at hs
      go_enter Try.func12, Try.ntmps12
      go_wp2
      go_ret
      exact ⟨by rw [hs]; rfl, (by repeat (first | (with_reducible exact Bl_refl _) | with_reducible apply Bl_alloc | with_reducible apply Bl_drew | with_reducible apply Bl_drewN | (with_reducible refine Bl_set ?_ (by first | omega | (simp; done) | (simp; omega)) _) | (with_reducible refine Bl_trans ?_ (by assumption))))⟩
set_option maxRecDepth 100000 in
set_option maxHeartbeats 1600000 in
theorem rev_op (op : Int) (h0 : ¬ op = 0) (h1 : ¬ op = 1) (h2 : ¬ op = 2) (h3 : ¬ op = 3) (h4 : ¬ op = 4) (h5 : ¬ op = 5) (h6 : ¬ op = 6) (h7 : ¬ op = 7) (h8 : ¬ op = 8) (h9 : ¬ op = 9) (h10 : ¬ op = 10) (h11 : ¬ op = 11) (h12 : ¬ op = 12) (l : Bool) (x y : W) (w : World) : Calls Try.prog 12 #[.int .i64 op, .bool l, uv x, uv y] w fun e w' => e = .returned (uv (PlainScalar.eval op l x y)) ∧ Below w.heap.size w w' := by
  have e0 : (op == 0) = false := by simpa using h0
  have e1 : (op == 1) = false := by simpa using h1
  have e2 : (op == 2) = false := by simpa using h2
  have e3 : (op == 3) = false := by simpa using h3
  have e4 : (op == 4) = false := by simpa using h4
  have e5 : (op == 5) = false := by simpa using h5
  have e6 : (op == 6) = false := by simpa using h6
  have e7 : (op == 7) = false := by simpa using h7
  have e8 : (op == 8) = false := by simpa using h8
  have e9 : (op == 9) = false := by simpa using h9
  have e10 : (op == 10) = false := by simpa using h10
  have e11 : (op == 11) = false := by simpa using h11
  have e12 : (op == 12) = false := by simpa using h12
  cases l
  · have r64 := u_rem64 (PlainScalar.low4 y)
    have r32 := u_rem32 (PlainScalar.low4 y)
    have hs := reval_op op false x y (0#64) (by unfold PlainEval.rev; simp only [h0, h1, h2, h3, h4, h5, h6, h7, h8, h9, h10, h11, h12, if_false])
    simp only [if_true, Bool.false_eq_true, if_false] at hs
    go_enter Try.func12, Try.ntmps12
    go_wp2
    go_ret
    exact ⟨by rw [hs]; rfl, (by repeat (first | (with_reducible exact Bl_refl _) | with_reducible apply Bl_alloc | with_reducible apply Bl_drew | with_reducible apply Bl_drewN | (with_reducible refine Bl_set ?_ (by first | omega | (simp; done) | (simp; omega)) _) | (with_reducible refine Bl_trans ?_ (by assumption))))⟩
  · have r64 := u_rem64 y
    have r32 := u_rem32 y
    have hs := reval_op op true x y (0#64) (by unfold PlainEval.rev; simp only [h0, h1, h2, h3, h4, h5, h6, h7, h8, h9, h10, h11, h12, if_false])
    simp only [if_true, Bool.false_eq_true, if_false] at hs
    go_enter Try.func12, Try.ntmps12
    go_wp2
    go_ret
    exact ⟨by rw [hs]; rfl, (by repeat (first | (with_reducible exact Bl_refl _) | with_reducible apply Bl_alloc | with_reducible apply Bl_drew | with_reducible apply Bl_drewN | (with_reducible refine Bl_set ?_ (by first | omega | (simp; done) | (simp; omega)) _) | (with_reducible refine Bl_trans ?_ (by assumption))))⟩
set_option maxRecDepth 100000 in
set_option maxHeartbeats 1600000 in
theorem rev_12 (l : Bool) (x y : W) (w : World) : Calls Try.prog 12 #[.int .i64 12, .bool l, uv x, uv y] w fun e w' => e = .returned (uv (PlainScalar.eval 12 l x y)) ∧ Below w.heap.size w w' := by
  cases l
  · have hs0 := reval_op 12 false x y _ rfl
    simp only [if_true, Bool.false_eq_true, if_false] at hs0
    unfold PlainEval.rev at hs0
    rw [if_neg (by decide), if_neg (by decide), if_neg (by decide), if_neg (by decide), if_neg (by decide), if_neg (by decide), if_neg (by decide), if_neg (by decide), if_neg (by decide), if_neg (by decide), if_neg (by decide), if_neg (by decide), if_pos rfl] at hs0
    have hK : BitVec.toNat (PlainScalar.low4 y) % 32 < 32 := Nat.mod_lt _ (by decide)
    have hr := u_rem32 (PlainScalar.low4 y)
    generalize BitVec.toNat (PlainScalar.low4 y) % 32 = K at hs0 hK hr
    have hb := bit31 (PlainScalar.low4 x)
    have hw1 : IntKind.u64.wrap (32 - 1) = 31 := by decide
    cases q : (BitVec.getLsbD (PlainScalar.low4 x) 31)
    · rw [q] at hb
      have hs : PlainScalar.eval 12 false x y = PlainScalar.low4 ((PlainScalar.low4 x) >>> K) := by rw [hs0, show 32 - 1 = 31 from rfl, q]; rfl
      clear hs0
      go_enter Try.func12, Try.ntmps12
      go_wp2
      go_ret
      exact ⟨by rw [hs]; rfl, (by repeat (first | (with_reducible exact Bl_refl _) | with_reducible apply Bl_alloc | with_reducible apply Bl_drew | with_reducible apply Bl_drewN | (with_reducible refine Bl_set ?_ (by first | omega | (simp; done) | (simp; omega)) _) | (with_reducible refine Bl_trans ?_ (by assumption))))⟩
    · rw [q] at hb
      have hs : PlainScalar.eval 12 false x y = PlainScalar.low4 (PlainEval.fill 32 ((PlainScalar.low4 x) >>> K) K) := by rw [hs0, show 32 - 1 = 31 from rfl, q]; rfl
      clear hs0
      go_enter Try.func12, Try.ntmps12
      go_wp2_with fail
      go_loopg [10, 11] 64 (fun m z i wr => ∃ j : Nat, j ≤ K ∧ m + j = 64 ∧ z = uv (PlainEval.fill 32 ((PlainScalar.low4 x) >>> K) j) ∧ i = .int .u64 (j : Int) ∧ Below w.heap.size w wr)
      case atStart => exact ⟨0, by omega, rfl, rfl, rfl, (by repeat (first | (with_reducible exact Bl_refl _) | with_reducible apply Bl_alloc | with_reducible apply Bl_drew | with_reducible apply Bl_drewN | (with_reducible refine Bl_set ?_ (by first | omega | (simp; done) | (simp; omega)) _) | (with_reducible refine Bl_trans ?_ (by assumption))))⟩
      case round =>
        obtain ⟨j, hj, hgk, rfl, rfl, hB⟩ := hrel
        cases qj : decide ((j : Int) < (K : Int))
        · have hjK : j = K := by have := of_decide_eq_false qj; omega
          subst hjK
          go_wp2
          go_ret
          exact ⟨by rw [hs]; rfl, by repeat (first | exact hB | with_reducible apply Bl_drew)⟩
        · have hjK : (j : Int) < (K : Int) := of_decide_eq_true qj
          have hs1 : PlainEval.fill 32 ((PlainScalar.low4 x) >>> K) (j + 1) = PlainEval.fill 32 ((PlainScalar.low4 x) >>> K) j ||| 1#64 <<< (32 - 1 - j) := rfl
          obtain ⟨c, hc⟩ : ∃ c : Nat, c = 32 - 1 - j := ⟨_, rfl⟩
          have hcw : IntKind.u64.wrap (31 - (j : Int)) = (c : Int) := by rw [IntWalk.u64_in _ (by omega)]; omega
          have hi1 : IntKind.u64.wrap ((j : Int) + 1) = (j : Int) + 1 := IntWalk.u64_in _ (by omega)
          rw [← hc] at hs1
          have hcl : c ≤ 64 := by omega
          clear hc
          generalize PlainEval.fill 32 ((PlainScalar.low4 x) >>> K) j = z at *
          go_wp2_with fail
          go_roundg (gk - 1)
          case measure => omega
          case rel => exact ⟨j + 1, by omega, by omega, by rw [hs1], rfl, by repeat (first | exact hB | with_reducible apply Bl_drew)⟩
  · have hs0 := reval_op 12 true x y _ rfl
    simp only [if_true, Bool.false_eq_true, if_false] at hs0
    unfold PlainEval.rev at hs0
    rw [if_neg (by decide), if_neg (by decide), if_neg (by decide), if_neg (by decide), if_neg (by decide), if_neg (by decide), if_neg (by decide), if_neg (by decide), if_neg (by decide), if_neg (by decide), if_neg (by decide), if_neg (by decide), if_pos rfl] at hs0
    have hK : BitVec.toNat y % 64 < 64 := Nat.mod_lt _ (by decide)
    have hr := u_rem64 y
    generalize BitVec.toNat y % 64 = K at hs0 hK hr
    have hb := bit63 x
    have hw1 : IntKind.u64.wrap (64 - 1) = 63 := by decide
    cases q : (BitVec.getLsbD x 63)
    · rw [q] at hb
      have hs : PlainScalar.eval 12 true x y = x >>> K := by rw [hs0, show 64 - 1 = 63 from rfl, q]; rfl
      clear hs0
      go_enter Try.func12, Try.ntmps12
      go_wp2
      go_ret
      exact ⟨by rw [hs]; rfl, (by repeat (first | (with_reducible exact Bl_refl _) | with_reducible apply Bl_alloc | with_reducible apply Bl_drew | with_reducible apply Bl_drewN | (with_reducible refine Bl_set ?_ (by first | omega | (simp; done) | (simp; omega)) _) | (with_reducible refine Bl_trans ?_ (by assumption))))⟩
    · rw [q] at hb
      have hs : PlainScalar.eval 12 true x y = PlainEval.fill 64 (x >>> K) K := by rw [hs0, show 64 - 1 = 63 from rfl, q]; rfl
      clear hs0
      go_enter Try.func12, Try.ntmps12
      go_wp2_with fail
      go_loopg [10, 11] 64 (fun m z i wr => ∃ j : Nat, j ≤ K ∧ m + j = 64 ∧ z = uv (PlainEval.fill 64 (x >>> K) j) ∧ i = .int .u64 (j : Int) ∧ Below w.heap.size w wr)
      case atStart => exact ⟨0, by omega, rfl, rfl, rfl, (by repeat (first | (with_reducible exact Bl_refl _) | with_reducible apply Bl_alloc | with_reducible apply Bl_drew | with_reducible apply Bl_drewN | (with_reducible refine Bl_set ?_ (by first | omega | (simp; done) | (simp; omega)) _) | (with_reducible refine Bl_trans ?_ (by assumption))))⟩
      case round =>
        obtain ⟨j, hj, hgk, rfl, rfl, hB⟩ := hrel
        cases qj : decide ((j : Int) < (K : Int))
        · have hjK : j = K := by have := of_decide_eq_false qj; omega
          subst hjK
          go_wp2
          go_ret
          exact ⟨by rw [hs]; rfl, by repeat (first | exact hB | with_reducible apply Bl_drew)⟩
        · have hjK : (j : Int) < (K : Int) := of_decide_eq_true qj
          have hs1 : PlainEval.fill 64 (x >>> K) (j + 1) = PlainEval.fill 64 (x >>> K) j ||| 1#64 <<< (64 - 1 - j) := rfl
          obtain ⟨c, hc⟩ : ∃ c : Nat, c = 64 - 1 - j := ⟨_, rfl⟩
          have hcw : IntKind.u64.wrap (63 - (j : Int)) = (c : Int) := by rw [IntWalk.u64_in _ (by omega)]; omega
          have hi1 : IntKind.u64.wrap ((j : Int) + 1) = (j : Int) + 1 := IntWalk.u64_in _ (by omega)
          rw [← hc] at hs1
          have hcl : c ≤ 64 := by omega
          clear hc
          generalize PlainEval.fill 64 (x >>> K) j = z at *
          go_wp2_with fail
          go_roundg (gk - 1)
          case measure => omega
          case rel => exact ⟨j + 1, by omega, by omega, by rw [hs1], rfl, by repeat (first | exact hB | with_reducible apply Bl_drew)⟩
theorem reval_c (op : Int) (l : Bool) (x y : W) (w : World) : Calls Try.prog 12 #[.int .i64 op, .bool l, uv x, uv y] w fun e w' => e = .returned (uv (PlainScalar.eval op l x y)) ∧ Below w.heap.size w w' := by
  by_cases h0 : op = 0
  · subst h0; exact rev_0 l x y w
  by_cases h1 : op = 1
  · subst h1; exact rev_1 l x y w
  by_cases h2 : op = 2
  · subst h2; exact rev_2 l x y w
  by_cases h3 : op = 3
  · subst h3; exact rev_3 l x y w
  by_cases h4 : op = 4
  · subst h4; exact rev_4 l x y w
  by_cases h5 : op = 5
  · subst h5; exact rev_5 l x y w
  by_cases h6 : op = 6
  · subst h6; exact rev_6 l x y w
  by_cases h7 : op = 7
  · subst h7; exact rev_7 l x y w
  by_cases h8 : op = 8
  · subst h8; exact rev_8 l x y w
  by_cases h9 : op = 9
  · subst h9; exact rev_9 l x y w
  by_cases h10 : op = 10
  · subst h10; exact rev_10 l x y w
  by_cases h11 : op = 11
  · subst h11; exact rev_11 l x y w
  by_cases h12 : op = 12
  · subst h12; exact rev_12 l x y w
  exact rev_op op h0 h1 h2 h3 h4 h5 h6 h7 h8 h9 h10 h11 h12 l x y w
end Go.Proofs.Ytmghpoagpiljhac
