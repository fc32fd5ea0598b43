/- The walks of package branch, first part: comparisons of numbers; and those of the reference. -/
import Derived.Test.YtmghpoagpiljhabTw
import Derived.Test.YtmghpoagpiljhabMix
import Derived.Test.YtmghpoagpiljhabSigned
import Derived.Test.YtmghpoagpiljhabBranch
set_option linter.unusedSimpArgs false
namespace Go.Proofs.Ytmghpoagpiljhab
open Go.RowKit
open PlainTnum (N)
theorem u64_T (x : W) : IntKind.u64.wrap (T x) = T x := by rw [wrap_u, ofInt_T]
theorem u_of_u32 (x : W) : IntKind.u32.wrap (T x) = T (PlainScalar.low4 x) := by
  unfold T; rw [PlainScalar.low4_nat]; unfold IntKind.wrap; simp [IntKind.signed, IntKind.bits]
theorem u_rem4G (x : W) : (T x).tmod 4294967296 = T (PlainScalar.low4 x) := by
  rw [Int.tmod_eq_emod_of_nonneg (T_lo x)]; unfold T; rw [PlainScalar.low4_nat]; omega
/-- The lower half, with its sign. -/
def x32 (x : W) : W := (x.setWidth 32).signExtend 64
theorem S_x32 (x : W) : S (x32 x) = PlainBranch.s32 x := by unfold S x32 PlainBranch.s32; exact BitVec.toInt_signExtend_of_le (by decide)
theorem i32_of_u (x : W) : wrap32 (T x) = S (x32 x) := by
  rw [S_x32]; unfold PlainBranch.s32 T
  rw [BitVec.toInt_eq_toNat_cond, BitVec.toNat_setWidth]
  unfold wrap32
  have := x.isLt
  split <;> omega
theorem i64_S (x : W) : IntKind.i64.wrap (S x) = S x := by rw [wrap_i, ofInt_S]
theorem w64_S (x : W) : wrap64 (S x) = S x := by rw [w64, ofInt_S]
theorem low4_hi (x : W) (h : 2147483648 ≤ T (PlainScalar.low4 x)) : IntKind.i64.wrap (S (PlainScalar.low4 x) - 4294967296) = S (x32 x) := by
  have h1 := PlainScalar.low4_nat x
  have h2 : S (PlainScalar.low4 x) = T (PlainScalar.low4 x) := by unfold S T; rw [PlainScalar.toInt_cond, if_pos (by omega)]
  rw [S_x32]; unfold PlainBranch.s32
  rw [BitVec.toInt_eq_toNat_cond, BitVec.toNat_setWidth, h2]
  unfold T at *
  rw [IntWalk.i64_in _ (by omega)]
  split <;> omega
theorem low4_lo (x : W) (h : ¬ 2147483648 ≤ T (PlainScalar.low4 x)) : S (PlainScalar.low4 x) = S (x32 x) := by
  have h1 := PlainScalar.low4_nat x
  rw [S_x32]; unfold PlainBranch.s32 S
  rw [PlainScalar.toInt_cond, BitVec.toInt_eq_toNat_cond, BitVec.toNat_setWidth]
  unfold T at *
  split <;> split <;> omega
set_option maxRecDepth 100000 in
set_option maxHeartbeats 1600000 in
theorem uns_1 (x y : W) (w : World) : Calls Try.prog 61 #[.int .i64 1, uv x, uv y] w fun e w' => e = .returned (.bool (PlainBranch.unsigned 1 x y)) ∧ Below w.heap.size w w' := by
  go_enter Try.func61, Try.ntmps61
  go_wp2
  go_ret
  exact ⟨by simp [PlainBranch.unsigned, T_beq, T_le, T_lt, T_eq, T_bne0, T_bne], (by repeat (first | (with_reducible exact Bl_refl _) | with_reducible apply Bl_alloc | with_reducible apply Bl_drew | with_reducible apply Bl_drewN | (with_reducible refine Bl_set ?_ (by first | omega | (simp; done) | (simp; omega)) _) | (with_reducible refine Bl_trans ?_ (by assumption))))⟩
set_option maxRecDepth 100000 in
set_option maxHeartbeats 1600000 in
theorem uns_2 (x y : W) (w : World) : Calls Try.prog 61 #[.int .i64 2, uv x, uv y] w fun e w' => e = .returned (.bool (PlainBranch.unsigned 2 x y)) ∧ Below w.heap.size w w' := by
  go_enter Try.func61, Try.ntmps61
  go_wp2
  go_ret
  exact ⟨by simp [PlainBranch.unsigned, T_beq, T_le, T_lt, T_eq, T_bne0, T_bne], (by repeat (first | (with_reducible exact Bl_refl _) | with_reducible apply Bl_alloc | with_reducible apply Bl_drew | with_reducible apply Bl_drewN | (with_reducible refine Bl_set ?_ (by first | omega | (simp; done) | (simp; omega)) _) | (with_reducible refine Bl_trans ?_ (by assumption))))⟩
set_option maxRecDepth 100000 in
set_option maxHeartbeats 1600000 in
theorem uns_3 (x y : W) (w : World) : Calls Try.prog 61 #[.int .i64 3, uv x, uv y] w fun e w' => e = .returned (.bool (PlainBranch.unsigned 3 x y)) ∧ Below w.heap.size w w' := by
  go_enter Try.func61, Try.ntmps61
  go_wp2
  go_ret
  exact ⟨by simp [PlainBranch.unsigned, T_beq, T_le, T_lt, T_eq, T_bne0, T_bne], (by repeat (first | (with_reducible exact Bl_refl _) | with_reducible apply Bl_alloc | with_reducible apply Bl_drew | with_reducible apply Bl_drewN | (with_reducible refine Bl_set ?_ (by first | omega | (simp; done) | (simp; omega)) _) | (with_reducible refine Bl_trans ?_ (by assumption))))⟩
set_option maxRecDepth 100000 in
set_option maxHeartbeats 1600000 in
theorem uns_4 (x y : W) (w : World) : Calls Try.prog 61 #[.int .i64 4, uv x, uv y] w fun e w' => e = .returned (.bool (PlainBranch.unsigned 4 x y)) ∧ Below w.heap.size w w' := by
  go_enter Try.func61, Try.ntmps61
  go_wp2
  go_ret
  exact ⟨by simp [PlainBranch.unsigned, T_beq, T_le, T_lt, T_eq, T_bne0, T_bne], (by repeat (first | (with_reducible exact Bl_refl _) | with_reducible apply Bl_alloc | with_reducible apply Bl_drew | with_reducible apply Bl_drewN | (with_reducible refine Bl_set ?_ (by first | omega | (simp; done) | (simp; omega)) _) | (with_reducible refine Bl_trans ?_ (by assumption))))⟩
set_option maxRecDepth 100000 in
set_option maxHeartbeats 1600000 in
theorem uns_5 (x y : W) (w : World) : Calls Try.prog 61 #[.int .i64 5, uv x, uv y] w fun e w' => e = .returned (.bool (PlainBranch.unsigned 5 x y)) ∧ Below w.heap.size w w' := by
  go_enter Try.func61, Try.ntmps61
  go_wp2
  go_ret
  exact ⟨by simp [PlainBranch.unsigned, T_beq, T_le, T_lt, T_eq, T_bne0, T_bne], (by repeat (first | (with_reducible exact Bl_refl _) | with_reducible apply Bl_alloc | with_reducible apply Bl_drew | with_reducible apply Bl_drewN | (with_reducible refine Bl_set ?_ (by first | omega | (simp; done) | (simp; omega)) _) | (with_reducible refine Bl_trans ?_ (by assumption))))⟩
set_option maxRecDepth 100000 in
set_option maxHeartbeats 1600000 in
theorem uns_10 (x y : W) (w : World) : Calls Try.prog 61 #[.int .i64 10, uv x, uv y] w fun e w' => e = .returned (.bool (PlainBranch.unsigned 10 x y)) ∧ Below w.heap.size w w' := by
  go_enter Try.func61, Try.ntmps61
  go_wp2
  go_ret
  exact ⟨by simp [PlainBranch.unsigned, T_beq, T_le, T_lt, T_eq, T_bne0, T_bne], (by repeat (first | (with_reducible exact Bl_refl _) | with_reducible apply Bl_alloc | with_reducible apply Bl_drew | with_reducible apply Bl_drewN | (with_reducible refine Bl_set ?_ (by first | omega | (simp; done) | (simp; omega)) _) | (with_reducible refine Bl_trans ?_ (by assumption))))⟩
set_option maxRecDepth 100000 in
set_option maxHeartbeats 1600000 in
theorem uns_11 (x y : W) (w : World) : Calls Try.prog 61 #[.int .i64 11, uv x, uv y] w fun e w' => e = .returned (.bool (PlainBranch.unsigned 11 x y)) ∧ Below w.heap.size w w' := by
  go_enter Try.func61, Try.ntmps61
  go_wp2
  go_ret
  exact ⟨by simp [PlainBranch.unsigned, T_beq, T_le, T_lt, T_eq, T_bne0, T_bne], (by repeat (first | (with_reducible exact Bl_refl _) | with_reducible apply Bl_alloc | with_reducible apply Bl_drew | with_reducible apply Bl_drewN | (with_reducible refine Bl_set ?_ (by first | omega | (simp; done) | (simp; omega)) _) | (with_reducible refine Bl_trans ?_ (by assumption))))⟩
set_option maxRecDepth 100000 in
set_option maxHeartbeats 1600000 in
theorem uns_op (op : Int) (h1 : ¬ op = 1) (h2 : ¬ op = 2) (h3 : ¬ op = 3) (h4 : ¬ op = 4) (h5 : ¬ op = 5) (h10 : ¬ op = 10) (h11 : ¬ op = 11) (x y : W) (w : World) : Calls Try.prog 61 #[.int .i64 op, uv x, uv y] w fun e w' => e = .returned (.bool (PlainBranch.unsigned op x y)) ∧ Below w.heap.size w w' := by
  have e1 : (op == 1) = false := by simpa using h1
  have e2 : (op == 2) = false := by simpa using h2
  have e3 : (op == 3) = false := by simpa using h3
  have e4 : (op == 4) = false := by simpa using h4
  have e5 : (op == 5) = false := by simpa using h5
  have e10 : (op == 10) = false := by simpa using h10
  have e11 : (op == 11) = false := by simpa using h11
  go_enter Try.func61, Try.ntmps61
  go_wp2
  go_ret
  exact ⟨by simp [PlainBranch.unsigned, h1, h2, h3, h4, h5, h10, h11], (by repeat (first | (with_reducible exact Bl_refl _) | with_reducible apply Bl_alloc | with_reducible apply Bl_drew | with_reducible apply Bl_drewN | (with_reducible refine Bl_set ?_ (by first | omega | (simp; done) | (simp; omega)) _) | (with_reducible refine Bl_trans ?_ (by assumption))))⟩
theorem uns_c (op : Int) (x y : W) (w : World) : Calls Try.prog 61 #[.int .i64 op, uv x, uv y] w fun e w' => e = .returned (.bool (PlainBranch.unsigned op x y)) ∧ Below w.heap.size w w' := by
  by_cases h1 : op = 1
  · subst h1; exact uns_1 x y w
  by_cases h2 : op = 2
  · subst h2; exact uns_2 x y w
  by_cases h3 : op = 3
  · subst h3; exact uns_3 x y w
  by_cases h4 : op = 4
  · subst h4; exact uns_4 x y w
  by_cases h5 : op = 5
  · subst h5; exact uns_5 x y w
  by_cases h10 : op = 10
  · subst h10; exact uns_10 x y w
  by_cases h11 : op = 11
  · subst h11; exact uns_11 x y w
  exact uns_op op h1 h2 h3 h4 h5 h10 h11 x y w
set_option maxRecDepth 100000 in
set_option maxHeartbeats 1600000 in
theorem hol_6_false (x y : W) (w : World) : Calls Try.prog 36 #[.int .i64 6, .bool false, uv x, uv y] w fun e w' => e = .returned (.bool (PlainBranch.holds 6 false x y)) ∧ Below w.heap.size w w' := by
  have a1 := u_of_u32 x
  have a2 := u_of_u32 y
  have a3 := u64_T (PlainScalar.low4 x)
  have a4 := u64_T (PlainScalar.low4 y)
  have a5 := i32_of_u x
  have a6 := i32_of_u y
  have a7 := i64_S (x32 x)
  have a8 := i64_S (x32 y)
  have a9 := w64_S (x32 x)
  have a10 := w64_S (x32 y)
  have hs : PlainBranch.holds 6 false x y = PlainBranch.signedC 6 (S (x32 x)) (S (x32 y)) := by simp [PlainBranch.holds, S_x32]
  go_enter Try.func36, Try.ntmps36
  go_wp2
  go_ret
  exact ⟨by simp [hs, PlainBranch.signedC], (by repeat (first | (with_reducible exact Bl_refl _) | with_reducible apply Bl_alloc | with_reducible apply Bl_drew | with_reducible apply Bl_drewN | (with_reducible refine Bl_set ?_ (by first | omega | (simp; done) | (simp; omega)) _) | (with_reducible refine Bl_trans ?_ (by assumption))))⟩
set_option maxRecDepth 100000 in
set_option maxHeartbeats 1600000 in
theorem hol_6_true (x y : W) (w : World) : Calls Try.prog 36 #[.int .i64 6, .bool true, uv x, uv y] w fun e w' => e = .returned (.bool (PlainBranch.holds 6 true x y)) ∧ Below w.heap.size w w' := by
  have hs : PlainBranch.holds 6 true x y = PlainBranch.signedC 6 (S x) (S y) := by simp [PlainBranch.holds, S]
  go_enter Try.func36, Try.ntmps36
  go_wp2
  go_ret
  exact ⟨by simp [hs, PlainBranch.signedC], (by repeat (first | (with_reducible exact Bl_refl _) | with_reducible apply Bl_alloc | with_reducible apply Bl_drew | with_reducible apply Bl_drewN | (with_reducible refine Bl_set ?_ (by first | omega | (simp; done) | (simp; omega)) _) | (with_reducible refine Bl_trans ?_ (by assumption))))⟩
set_option maxRecDepth 100000 in
set_option maxHeartbeats 1600000 in
theorem hol_7_false (x y : W) (w : World) : Calls Try.prog 36 #[.int .i64 7, .bool false, uv x, uv y] w fun e w' => e = .returned (.bool (PlainBranch.holds 7 false x y)) ∧ Below w.heap.size w w' := by
  have a1 := u_of_u32 x
  have a2 := u_of_u32 y
  have a3 := u64_T (PlainScalar.low4 x)
  have a4 := u64_T (PlainScalar.low4 y)
  have a5 := i32_of_u x
  have a6 := i32_of_u y
  have a7 := i64_S (x32 x)
  have a8 := i64_S (x32 y)
  have a9 := w64_S (x32 x)
  have a10 := w64_S (x32 y)
  have hs : PlainBranch.holds 7 false x y = PlainBranch.signedC 7 (S (x32 x)) (S (x32 y)) := by simp [PlainBranch.holds, S_x32]
  go_enter Try.func36, Try.ntmps36
  go_wp2
  go_ret
  exact ⟨by simp [hs, PlainBranch.signedC], (by repeat (first | (with_reducible exact Bl_refl _) | with_reducible apply Bl_alloc | with_reducible apply Bl_drew | with_reducible apply Bl_drewN | (with_reducible refine Bl_set ?_ (by first | omega | (simp; done) | (simp; omega)) _) | (with_reducible refine Bl_trans ?_ (by assumption))))⟩
set_option maxRecDepth 100000 in
set_option maxHeartbeats 1600000 in
theorem hol_7_true (x y : W) (w : World) : Calls Try.prog 36 #[.int .i64 7, .bool true, uv x, uv y] w fun e w' => e = .returned (.bool (PlainBranch.holds 7 true x y)) ∧ Below w.heap.size w w' := by
  have hs : PlainBranch.holds 7 true x y = PlainBranch.signedC 7 (S x) (S y) := by simp [PlainBranch.holds, S]
  go_enter Try.func36, Try.ntmps36
  go_wp2
  go_ret
  exact ⟨by simp [hs, PlainBranch.signedC], (by repeat (first | (with_reducible exact Bl_refl _) | with_reducible apply Bl_alloc | with_reducible apply Bl_drew | with_reducible apply Bl_drewN | (with_reducible refine Bl_set ?_ (by first | omega | (simp; done) | (simp; omega)) _) | (with_reducible refine Bl_trans ?_ (by assumption))))⟩
set_option maxRecDepth 100000 in
set_option maxHeartbeats 1600000 in
theorem hol_12_false (x y : W) (w : World) : Calls Try.prog 36 #[.int .i64 12, .bool false, uv x, uv y] w fun e w' => e = .returned (.bool (PlainBranch.holds 12 false x y)) ∧ Below w.heap.size w w' := by
  have a1 := u_of_u32 x
  have a2 := u_of_u32 y
  have a3 := u64_T (PlainScalar.low4 x)
  have a4 := u64_T (PlainScalar.low4 y)
  have a5 := i32_of_u x
  have a6 := i32_of_u y
  have a7 := i64_S (x32 x)
  have a8 := i64_S (x32 y)
  have a9 := w64_S (x32 x)
  have a10 := w64_S (x32 y)
  have hs : PlainBranch.holds 12 false x y = PlainBranch.signedC 12 (S (x32 x)) (S (x32 y)) := by simp [PlainBranch.holds, S_x32]
  go_enter Try.func36, Try.ntmps36
  go_wp2
  go_ret
  exact ⟨by simp [hs, PlainBranch.signedC], (by repeat (first | (with_reducible exact Bl_refl _) | with_reducible apply Bl_alloc | with_reducible apply Bl_drew | with_reducible apply Bl_drewN | (with_reducible refine Bl_set ?_ (by first | omega | (simp; done) | (simp; omega)) _) | (with_reducible refine Bl_trans ?_ (by assumption))))⟩
set_option maxRecDepth 100000 in
set_option maxHeartbeats 1600000 in
theorem hol_12_true (x y : W) (w : World) : Calls Try.prog 36 #[.int .i64 12, .bool true, uv x, uv y] w fun e w' => e = .returned (.bool (PlainBranch.holds 12 true x y)) ∧ Below w.heap.size w w' := by
  have hs : PlainBranch.holds 12 true x y = PlainBranch.signedC 12 (S x) (S y) := by simp [PlainBranch.holds, S]
  go_enter Try.func36, Try.ntmps36
  go_wp2
  go_ret
  exact ⟨by simp [hs, PlainBranch.signedC], (by repeat (first | (with_reducible exact Bl_refl _) | with_reducible apply Bl_alloc | with_reducible apply Bl_drew | with_reducible apply Bl_drewN | (with_reducible refine Bl_set ?_ (by first | omega | (simp; done) | (simp; omega)) _) | (with_reducible refine Bl_trans ?_ (by assumption))))⟩
set_option maxRecDepth 100000 in
set_option maxHeartbeats 1600000 in
theorem hol_13_false (x y : W) (w : World) : Calls Try.prog 36 #[.int .i64 13, .bool false, uv x, uv y] w fun e w' => e = .returned (.bool (PlainBranch.holds 13 false x y)) ∧ Below w.heap.size w w' := by
  have a1 := u_of_u32 x
  have a2 := u_of_u32 y
  have a3 := u64_T (PlainScalar.low4 x)
  have a4 := u64_T (PlainScalar.low4 y)
  have a5 := i32_of_u x
  have a6 := i32_of_u y
  have a7 := i64_S (x32 x)
  have a8 := i64_S (x32 y)
  have a9 := w64_S (x32 x)
  have a10 := w64_S (x32 y)
  have hs : PlainBranch.holds 13 false x y = PlainBranch.signedC 13 (S (x32 x)) (S (x32 y)) := by simp [PlainBranch.holds, S_x32]
  go_enter Try.func36, Try.ntmps36
  go_wp2
  go_ret
  exact ⟨by simp [hs, PlainBranch.signedC], (by repeat (first | (with_reducible exact Bl_refl _) | with_reducible apply Bl_alloc | with_reducible apply Bl_drew | with_reducible apply Bl_drewN | (with_reducible refine Bl_set ?_ (by first | omega | (simp; done) | (simp; omega)) _) | (with_reducible refine Bl_trans ?_ (by assumption))))⟩
set_option maxRecDepth 100000 in
set_option maxHeartbeats 1600000 in
theorem hol_13_true (x y : W) (w : World) : Calls Try.prog 36 #[.int .i64 13, .bool true, uv x, uv y] w fun e w' => e = .returned (.bool (PlainBranch.holds 13 true x y)) ∧ Below w.heap.size w w' := by
  have hs : PlainBranch.holds 13 true x y = PlainBranch.signedC 13 (S x) (S y) := by simp [PlainBranch.holds, S]
  go_enter Try.func36, Try.ntmps36
  go_wp2
  go_ret
  exact ⟨by simp [hs, PlainBranch.signedC], (by repeat (first | (with_reducible exact Bl_refl _) | with_reducible apply Bl_alloc | with_reducible apply Bl_drew | with_reducible apply Bl_drewN | (with_reducible refine Bl_set ?_ (by first | omega | (simp; done) | (simp; omega)) _) | (with_reducible refine Bl_trans ?_ (by assumption))))⟩
set_option maxRecDepth 100000 in
set_option maxHeartbeats 1600000 in
theorem hol_op_false (op : Int) (h6 : ¬ op = 6) (h7 : ¬ op = 7) (h12 : ¬ op = 12) (h13 : ¬ op = 13) (x y : W) (w : World) : Calls Try.prog 36 #[.int .i64 op, .bool false, uv x, uv y] w fun e w' => e = .returned (.bool (PlainBranch.holds op false x y)) ∧ Below w.heap.size w w' := by
  have e6 : (op == 6) = false := by simpa using h6
  have e7 : (op == 7) = false := by simpa using h7
  have e12 : (op == 12) = false := by simpa using h12
  have e13 : (op == 13) = false := by simpa using h13
  have a1 := u_of_u32 x
  have a2 := u_of_u32 y
  have a3 := u64_T (PlainScalar.low4 x)
  have a4 := u64_T (PlainScalar.low4 y)
  have a5 := i32_of_u x
  have a6 := i32_of_u y
  have a7 := i64_S (x32 x)
  have a8 := i64_S (x32 y)
  have a9 := w64_S (x32 x)
  have a10 := w64_S (x32 y)
  go_enter Try.func36, Try.ntmps36
  go_wp2_with fail
  refine (uns_c op (PlainScalar.low4 x) (PlainScalar.low4 y) _).mono ?_
  rintro e w1 ⟨rfl, hb1⟩
  go_wp2
  go_ret
  exact ⟨by simp [PlainBranch.holds, h6, h7, h12, h13], (by repeat (first | (with_reducible exact Bl_refl _) | with_reducible apply Bl_alloc | with_reducible apply Bl_drew | with_reducible apply Bl_drewN | (with_reducible refine Bl_set ?_ (by first | omega | (simp; done) | (simp; omega)) _) | (with_reducible refine Bl_trans ?_ (by assumption))))⟩
set_option maxRecDepth 100000 in
set_option maxHeartbeats 1600000 in
theorem hol_op_true (op : Int) (h6 : ¬ op = 6) (h7 : ¬ op = 7) (h12 : ¬ op = 12) (h13 : ¬ op = 13) (x y : W) (w : World) : Calls Try.prog 36 #[.int .i64 op, .bool true, uv x, uv y] w fun e w' => e = .returned (.bool (PlainBranch.holds op true x y)) ∧ Below w.heap.size w w' := by
  have e6 : (op == 6) = false := by simpa using h6
  have e7 : (op == 7) = false := by simpa using h7
  have e12 : (op == 12) = false := by simpa using h12
  have e13 : (op == 13) = false := by simpa using h13
  go_enter Try.func36, Try.ntmps36
  go_wp2_with fail
  refine (uns_c op x y _).mono ?_
  rintro e w1 ⟨rfl, hb1⟩
  go_wp2
  go_ret
  exact ⟨by simp [PlainBranch.holds, h6, h7, h12, h13], (by repeat (first | (with_reducible exact Bl_refl _) | with_reducible apply Bl_alloc | with_reducible apply Bl_drew | with_reducible apply Bl_drewN | (with_reducible refine Bl_set ?_ (by first | omega | (simp; done) | (simp; omega)) _) | (with_reducible refine Bl_trans ?_ (by assumption))))⟩
theorem holds_c (op : Int) (l : Bool) (x y : W) (w : World) : Calls Try.prog 36 #[.int .i64 op, .bool l, uv x, uv y] w fun e w' => e = .returned (.bool (PlainBranch.holds op l x y)) ∧ Below w.heap.size w w' := by
  cases l
  · by_cases h6 : op = 6
    · subst h6; exact hol_6_false x y w
    by_cases h7 : op = 7
    · subst h7; exact hol_7_false x y w
    by_cases h12 : op = 12
    · subst h12; exact hol_12_false x y w
    by_cases h13 : op = 13
    · subst h13; exact hol_13_false x y w
    exact hol_op_false op h6 h7 h12 h13 x y w
  · by_cases h6 : op = 6
    · subst h6; exact hol_6_true x y w
    by_cases h7 : op = 7
    · subst h7; exact hol_7_true x y w
    by_cases h12 : op = 12
    · subst h12; exact hol_12_true x y w
    by_cases h13 : op = 13
    · subst h13; exact hol_13_true x y w
    exact hol_op_true op h6 h7 h12 h13 x y w
set_option maxRecDepth 100000 in
set_option maxHeartbeats 1600000 in
theorem opp_1  (w : World) : Calls Try.prog 75 #[.int .i64 1] w fun e w' => e = .returned (.int .i64 (PlainBranch.opposite 1)) ∧ Below w.heap.size w w' := by
  go_enter Try.func75, Try.ntmps75
  go_wp2
  go_ret
  exact ⟨by simp [PlainBranch.opposite], (by repeat (first | (with_reducible exact Bl_refl _) | with_reducible apply Bl_alloc | with_reducible apply Bl_drew | with_reducible apply Bl_drewN | (with_reducible refine Bl_set ?_ (by first | omega | (simp; done) | (simp; omega)) _) | (with_reducible refine Bl_trans ?_ (by assumption))))⟩
set_option maxRecDepth 100000 in
set_option maxHeartbeats 1600000 in
theorem opp_5  (w : World) : Calls Try.prog 75 #[.int .i64 5] w fun e w' => e = .returned (.int .i64 (PlainBranch.opposite 5)) ∧ Below w.heap.size w w' := by
  go_enter Try.func75, Try.ntmps75
  go_wp2
  go_ret
  exact ⟨by simp [PlainBranch.opposite], (by repeat (first | (with_reducible exact Bl_refl _) | with_reducible apply Bl_alloc | with_reducible apply Bl_drew | with_reducible apply Bl_drewN | (with_reducible refine Bl_set ?_ (by first | omega | (simp; done) | (simp; omega)) _) | (with_reducible refine Bl_trans ?_ (by assumption))))⟩
set_option maxRecDepth 100000 in
set_option maxHeartbeats 1600000 in
theorem opp_2  (w : World) : Calls Try.prog 75 #[.int .i64 2] w fun e w' => e = .returned (.int .i64 (PlainBranch.opposite 2)) ∧ Below w.heap.size w w' := by
  go_enter Try.func75, Try.ntmps75
  go_wp2
  go_ret
  exact ⟨by simp [PlainBranch.opposite], (by repeat (first | (with_reducible exact Bl_refl _) | with_reducible apply Bl_alloc | with_reducible apply Bl_drew | with_reducible apply Bl_drewN | (with_reducible refine Bl_set ?_ (by first | omega | (simp; done) | (simp; omega)) _) | (with_reducible refine Bl_trans ?_ (by assumption))))⟩
set_option maxRecDepth 100000 in
set_option maxHeartbeats 1600000 in
theorem opp_11  (w : World) : Calls Try.prog 75 #[.int .i64 11] w fun e w' => e = .returned (.int .i64 (PlainBranch.opposite 11)) ∧ Below w.heap.size w w' := by
  go_enter Try.func75, Try.ntmps75
  go_wp2
  go_ret
  exact ⟨by simp [PlainBranch.opposite], (by repeat (first | (with_reducible exact Bl_refl _) | with_reducible apply Bl_alloc | with_reducible apply Bl_drew | with_reducible apply Bl_drewN | (with_reducible refine Bl_set ?_ (by first | omega | (simp; done) | (simp; omega)) _) | (with_reducible refine Bl_trans ?_ (by assumption))))⟩
set_option maxRecDepth 100000 in
set_option maxHeartbeats 1600000 in
theorem opp_10  (w : World) : Calls Try.prog 75 #[.int .i64 10] w fun e w' => e = .returned (.int .i64 (PlainBranch.opposite 10)) ∧ Below w.heap.size w w' := by
  go_enter Try.func75, Try.ntmps75
  go_wp2
  go_ret
  exact ⟨by simp [PlainBranch.opposite], (by repeat (first | (with_reducible exact Bl_refl _) | with_reducible apply Bl_alloc | with_reducible apply Bl_drew | with_reducible apply Bl_drewN | (with_reducible refine Bl_set ?_ (by first | omega | (simp; done) | (simp; omega)) _) | (with_reducible refine Bl_trans ?_ (by assumption))))⟩
set_option maxRecDepth 100000 in
set_option maxHeartbeats 1600000 in
theorem opp_3  (w : World) : Calls Try.prog 75 #[.int .i64 3] w fun e w' => e = .returned (.int .i64 (PlainBranch.opposite 3)) ∧ Below w.heap.size w w' := by
  go_enter Try.func75, Try.ntmps75
  go_wp2
  go_ret
  exact ⟨by simp [PlainBranch.opposite], (by repeat (first | (with_reducible exact Bl_refl _) | with_reducible apply Bl_alloc | with_reducible apply Bl_drew | with_reducible apply Bl_drewN | (with_reducible refine Bl_set ?_ (by first | omega | (simp; done) | (simp; omega)) _) | (with_reducible refine Bl_trans ?_ (by assumption))))⟩
set_option maxRecDepth 100000 in
set_option maxHeartbeats 1600000 in
theorem opp_6  (w : World) : Calls Try.prog 75 #[.int .i64 6] w fun e w' => e = .returned (.int .i64 (PlainBranch.opposite 6)) ∧ Below w.heap.size w w' := by
  go_enter Try.func75, Try.ntmps75
  go_wp2
  go_ret
  exact ⟨by simp [PlainBranch.opposite], (by repeat (first | (with_reducible exact Bl_refl _) | with_reducible apply Bl_alloc | with_reducible apply Bl_drew | with_reducible apply Bl_drewN | (with_reducible refine Bl_set ?_ (by first | omega | (simp; done) | (simp; omega)) _) | (with_reducible refine Bl_trans ?_ (by assumption))))⟩
set_option maxRecDepth 100000 in
set_option maxHeartbeats 1600000 in
theorem opp_13  (w : World) : Calls Try.prog 75 #[.int .i64 13] w fun e w' => e = .returned (.int .i64 (PlainBranch.opposite 13)) ∧ Below w.heap.size w w' := by
  go_enter Try.func75, Try.ntmps75
  go_wp2
  go_ret
  exact ⟨by simp [PlainBranch.opposite], (by repeat (first | (with_reducible exact Bl_refl _) | with_reducible apply Bl_alloc | with_reducible apply Bl_drew | with_reducible apply Bl_drewN | (with_reducible refine Bl_set ?_ (by first | omega | (simp; done) | (simp; omega)) _) | (with_reducible refine Bl_trans ?_ (by assumption))))⟩
set_option maxRecDepth 100000 in
set_option maxHeartbeats 1600000 in
theorem opp_12  (w : World) : Calls Try.prog 75 #[.int .i64 12] w fun e w' => e = .returned (.int .i64 (PlainBranch.opposite 12)) ∧ Below w.heap.size w w' := by
  go_enter Try.func75, Try.ntmps75
  go_wp2
  go_ret
  exact ⟨by simp [PlainBranch.opposite], (by repeat (first | (with_reducible exact Bl_refl _) | with_reducible apply Bl_alloc | with_reducible apply Bl_drew | with_reducible apply Bl_drewN | (with_reducible refine Bl_set ?_ (by first | omega | (simp; done) | (simp; omega)) _) | (with_reducible refine Bl_trans ?_ (by assumption))))⟩
set_option maxRecDepth 100000 in
set_option maxHeartbeats 1600000 in
theorem opp_7  (w : World) : Calls Try.prog 75 #[.int .i64 7] w fun e w' => e = .returned (.int .i64 (PlainBranch.opposite 7)) ∧ Below w.heap.size w w' := by
  go_enter Try.func75, Try.ntmps75
  go_wp2
  go_ret
  exact ⟨by simp [PlainBranch.opposite], (by repeat (first | (with_reducible exact Bl_refl _) | with_reducible apply Bl_alloc | with_reducible apply Bl_drew | with_reducible apply Bl_drewN | (with_reducible refine Bl_set ?_ (by first | omega | (simp; done) | (simp; omega)) _) | (with_reducible refine Bl_trans ?_ (by assumption))))⟩
set_option maxRecDepth 100000 in
set_option maxHeartbeats 1600000 in
theorem opp_op (op : Int) (h1 : ¬ op = 1) (h5 : ¬ op = 5) (h2 : ¬ op = 2) (h11 : ¬ op = 11) (h10 : ¬ op = 10) (h3 : ¬ op = 3) (h6 : ¬ op = 6) (h13 : ¬ op = 13) (h12 : ¬ op = 12) (h7 : ¬ op = 7) (w : World) : Calls Try.prog 75 #[.int .i64 op] w fun e w' => e = .returned (.int .i64 (PlainBranch.opposite op)) ∧ Below w.heap.size w w' := by
  have e1 : (op == 1) = false := by simpa using h1
  have e5 : (op == 5) = false := by simpa using h5
  have e2 : (op == 2) = false := by simpa using h2
  have e11 : (op == 11) = false := by simpa using h11
  have e10 : (op == 10) = false := by simpa using h10
  have e3 : (op == 3) = false := by simpa using h3
  have e6 : (op == 6) = false := by simpa using h6
  have e13 : (op == 13) = false := by simpa using h13
  have e12 : (op == 12) = false := by simpa using h12
  have e7 : (op == 7) = false := by simpa using h7
  go_enter Try.func75, Try.ntmps75
  go_wp2
  go_ret
  exact ⟨by simp [PlainBranch.opposite, h1, h5, h2, h11, h10, h3, h6, h13, h12, h7], (by repeat (first | (with_reducible exact Bl_refl _) | with_reducible apply Bl_alloc | with_reducible apply Bl_drew | with_reducible apply Bl_drewN | (with_reducible refine Bl_set ?_ (by first | omega | (simp; done) | (simp; omega)) _) | (with_reducible refine Bl_trans ?_ (by assumption))))⟩
theorem opposite_c (op : Int)  (w : World) : Calls Try.prog 75 #[.int .i64 op] w fun e w' => e = .returned (.int .i64 (PlainBranch.opposite op)) ∧ Below w.heap.size w w' := by
  by_cases h1 : op = 1
  · subst h1; exact opp_1  w
  by_cases h5 : op = 5
  · subst h5; exact opp_5  w
  by_cases h2 : op = 2
  · subst h2; exact opp_2  w
  by_cases h11 : op = 11
  · subst h11; exact opp_11  w
  by_cases h10 : op = 10
  · subst h10; exact opp_10  w
  by_cases h3 : op = 3
  · subst h3; exact opp_3  w
  by_cases h6 : op = 6
  · subst h6; exact opp_6  w
  by_cases h13 : op = 13
  · subst h13; exact opp_13  w
  by_cases h12 : op = 12
  · subst h12; exact opp_12  w
  by_cases h7 : op = 7
  · subst h7; exact opp_7  w
  exact opp_op op h1 h5 h2 h11 h10 h3 h6 h13 h12 h7  w
/-- With the sign of so many bits. -/
def sgn (l : Bool) (x : W) : W := if l then x else x32 x
set_option maxRecDepth 100000 in
set_option maxHeartbeats 1600000 in
theorem sgn_true (x : W) (w : World) : Calls Try.prog 62 #[uv x, .bool true] w fun e w' => e = .returned (sv (sgn true x)) ∧ Below w.heap.size w w' := by
  go_enter Try.func62, Try.ntmps62
  go_wp2
  go_ret
  exact ⟨by simp [sgn], (by repeat (first | (with_reducible exact Bl_refl _) | with_reducible apply Bl_alloc | with_reducible apply Bl_drew | with_reducible apply Bl_drewN | (with_reducible refine Bl_set ?_ (by first | omega | (simp; done) | (simp; omega)) _) | (with_reducible refine Bl_trans ?_ (by assumption))))⟩
set_option maxRecDepth 100000 in
set_option maxHeartbeats 1600000 in
theorem sgn_false_true (x : W) (q : decide (2147483648 ≤ T (PlainScalar.low4 x)) = true) (w : World) : Calls Try.prog 62 #[uv x, .bool false] w fun e w' => e = .returned (sv (sgn false x)) ∧ Below w.heap.size w w' := by
  have a1 := u_rem4G x
  have a2 := low4_hi x (of_decide_eq_true q)
  go_enter Try.func62, Try.ntmps62
  go_wp2
  go_ret
  exact ⟨by simp [sgn, a2], (by repeat (first | (with_reducible exact Bl_refl _) | with_reducible apply Bl_alloc | with_reducible apply Bl_drew | with_reducible apply Bl_drewN | (with_reducible refine Bl_set ?_ (by first | omega | (simp; done) | (simp; omega)) _) | (with_reducible refine Bl_trans ?_ (by assumption))))⟩
set_option maxRecDepth 100000 in
set_option maxHeartbeats 1600000 in
theorem sgn_false_false (x : W) (q : decide (2147483648 ≤ T (PlainScalar.low4 x)) = false) (w : World) : Calls Try.prog 62 #[uv x, .bool false] w fun e w' => e = .returned (sv (sgn false x)) ∧ Below w.heap.size w w' := by
  have a1 := u_rem4G x
  have a2 := low4_lo x (of_decide_eq_false q)
  go_enter Try.func62, Try.ntmps62
  go_wp2
  go_ret
  exact ⟨by simp [sgn, a2], (by repeat (first | (with_reducible exact Bl_refl _) | with_reducible apply Bl_alloc | with_reducible apply Bl_drew | with_reducible apply Bl_drewN | (with_reducible refine Bl_set ?_ (by first | omega | (simp; done) | (simp; omega)) _) | (with_reducible refine Bl_trans ?_ (by assumption))))⟩
theorem signed_c (x : W) (l : Bool) (w : World) : Calls Try.prog 62 #[uv x, .bool l] w fun e w' => e = .returned (sv (sgn l x)) ∧ Below w.heap.size w w' := by
  cases l
  · cases q : decide (2147483648 ≤ T (PlainScalar.low4 x))
    · exact sgn_false_false x q w
    · exact sgn_false_true x q w
  · exact sgn_true x w
set_option maxRecDepth 100000 in
set_option maxHeartbeats 1600000 in
theorem rh_1_false (x y : W) (w : World) : Calls Try.prog 37 #[.int .i64 1, .bool false, uv x, uv y] w fun e w' => e = .returned (.bool (PlainBranch.holds 1 false x y)) ∧ Below w.heap.size w w' := by
  have a1 := u_rem4G x
  have a2 := u_rem4G y
  have hs : PlainBranch.holds 1 false x y = PlainBranch.unsigned 1 (PlainScalar.low4 x) (PlainScalar.low4 y) := by simp [PlainBranch.holds, sgn, S_x32]
  go_enter Try.func37, Try.ntmps37
  go_wp2_with fail
  refine (signed_c x false _).mono ?_
  rintro e w1 ⟨rfl, hb1⟩
  go_wp2_with fail
  refine (signed_c y false _).mono ?_
  rintro e w2 ⟨rfl, hb2⟩
  go_wp2
  go_ret
  exact ⟨by simp [hs, PlainBranch.signedC, PlainBranch.unsigned, T_beq, T_le, T_lt, T_eq, T_bne0, T_bne], (by repeat (first | (with_reducible exact Bl_refl _) | with_reducible apply Bl_alloc | with_reducible apply Bl_drew | with_reducible apply Bl_drewN | (with_reducible refine Bl_set ?_ (by first | omega | (simp; done) | (simp; omega)) _) | (with_reducible refine Bl_trans ?_ (by assumption))))⟩
set_option maxRecDepth 100000 in
set_option maxHeartbeats 1600000 in
theorem rh_2_false (x y : W) (w : World) : Calls Try.prog 37 #[.int .i64 2, .bool false, uv x, uv y] w fun e w' => e = .returned (.bool (PlainBranch.holds 2 false x y)) ∧ Below w.heap.size w w' := by
  have a1 := u_rem4G x
  have a2 := u_rem4G y
  have hs : PlainBranch.holds 2 false x y = PlainBranch.unsigned 2 (PlainScalar.low4 x) (PlainScalar.low4 y) := by simp [PlainBranch.holds, sgn, S_x32]
  go_enter Try.func37, Try.ntmps37
  go_wp2_with fail
  refine (signed_c x false _).mono ?_
  rintro e w1 ⟨rfl, hb1⟩
  go_wp2_with fail
  refine (signed_c y false _).mono ?_
  rintro e w2 ⟨rfl, hb2⟩
  go_wp2
  go_ret
  exact ⟨by simp [hs, PlainBranch.signedC, PlainBranch.unsigned, T_beq, T_le, T_lt, T_eq, T_bne0, T_bne], (by repeat (first | (with_reducible exact Bl_refl _) | with_reducible apply Bl_alloc | with_reducible apply Bl_drew | with_reducible apply Bl_drewN | (with_reducible refine Bl_set ?_ (by first | omega | (simp; done) | (simp; omega)) _) | (with_reducible refine Bl_trans ?_ (by assumption))))⟩
set_option maxRecDepth 100000 in
set_option maxHeartbeats 1600000 in
theorem rh_3_false (x y : W) (w : World) : Calls Try.prog 37 #[.int .i64 3, .bool false, uv x, uv y] w fun e w' => e = .returned (.bool (PlainBranch.holds 3 false x y)) ∧ Below w.heap.size w w' := by
  have a1 := u_rem4G x
  have a2 := u_rem4G y
  have hs : PlainBranch.holds 3 false x y = PlainBranch.unsigned 3 (PlainScalar.low4 x) (PlainScalar.low4 y) := by simp [PlainBranch.holds, sgn, S_x32]
  go_enter Try.func37, Try.ntmps37
  go_wp2_with fail
  refine (signed_c x false _).mono ?_
  rintro e w1 ⟨rfl, hb1⟩
  go_wp2_with fail
  refine (signed_c y false _).mono ?_
  rintro e w2 ⟨rfl, hb2⟩
  go_wp2
  go_ret
  exact ⟨by simp [hs, PlainBranch.signedC, PlainBranch.unsigned, T_beq, T_le, T_lt, T_eq, T_bne0, T_bne], (by repeat (first | (with_reducible exact Bl_refl _) | with_reducible apply Bl_alloc | with_reducible apply Bl_drew | with_reducible apply Bl_drewN | (with_reducible refine Bl_set ?_ (by first | omega | (simp; done) | (simp; omega)) _) | (with_reducible refine Bl_trans ?_ (by assumption))))⟩
set_option maxRecDepth 100000 in
set_option maxHeartbeats 1600000 in
theorem rh_4_false (x y : W) (w : World) : Calls Try.prog 37 #[.int .i64 4, .bool false, uv x, uv y] w fun e w' => e = .returned (.bool (PlainBranch.holds 4 false x y)) ∧ Below w.heap.size w w' := by
  have a1 := u_rem4G x
  have a2 := u_rem4G y
  have hs : PlainBranch.holds 4 false x y = PlainBranch.unsigned 4 (PlainScalar.low4 x) (PlainScalar.low4 y) := by simp [PlainBranch.holds, sgn, S_x32]
  go_enter Try.func37, Try.ntmps37
  go_wp2_with fail
  refine (signed_c x false _).mono ?_
  rintro e w1 ⟨rfl, hb1⟩
  go_wp2_with fail
  refine (signed_c y false _).mono ?_
  rintro e w2 ⟨rfl, hb2⟩
  go_wp2
  go_ret
  exact ⟨by simp [hs, PlainBranch.signedC, PlainBranch.unsigned, T_beq, T_le, T_lt, T_eq, T_bne0, T_bne], (by repeat (first | (with_reducible exact Bl_refl _) | with_reducible apply Bl_alloc | with_reducible apply Bl_drew | with_reducible apply Bl_drewN | (with_reducible refine Bl_set ?_ (by first | omega | (simp; done) | (simp; omega)) _) | (with_reducible refine Bl_trans ?_ (by assumption))))⟩
set_option maxRecDepth 100000 in
set_option maxHeartbeats 1600000 in
theorem rh_5_false (x y : W) (w : World) : Calls Try.prog 37 #[.int .i64 5, .bool false, uv x, uv y] w fun e w' => e = .returned (.bool (PlainBranch.holds 5 false x y)) ∧ Below w.heap.size w w' := by
  have a1 := u_rem4G x
  have a2 := u_rem4G y
  have hs : PlainBranch.holds 5 false x y = PlainBranch.unsigned 5 (PlainScalar.low4 x) (PlainScalar.low4 y) := by simp [PlainBranch.holds, sgn, S_x32]
  go_enter Try.func37, Try.ntmps37
  go_wp2_with fail
  refine (signed_c x false _).mono ?_
  rintro e w1 ⟨rfl, hb1⟩
  go_wp2_with fail
  refine (signed_c y false _).mono ?_
  rintro e w2 ⟨rfl, hb2⟩
  go_wp2
  go_ret
  exact ⟨by simp [hs, PlainBranch.signedC, PlainBranch.unsigned, T_beq, T_le, T_lt, T_eq, T_bne0, T_bne], (by repeat (first | (with_reducible exact Bl_refl _) | with_reducible apply Bl_alloc | with_reducible apply Bl_drew | with_reducible apply Bl_drewN | (with_reducible refine Bl_set ?_ (by first | omega | (simp; done) | (simp; omega)) _) | (with_reducible refine Bl_trans ?_ (by assumption))))⟩
set_option maxRecDepth 100000 in
set_option maxHeartbeats 1600000 in
theorem rh_10_false (x y : W) (w : World) : Calls Try.prog 37 #[.int .i64 10, .bool false, uv x, uv y] w fun e w' => e = .returned (.bool (PlainBranch.holds 10 false x y)) ∧ Below w.heap.size w w' := by
  have a1 := u_rem4G x
  have a2 := u_rem4G y
  have hs : PlainBranch.holds 10 false x y = PlainBranch.unsigned 10 (PlainScalar.low4 x) (PlainScalar.low4 y) := by simp [PlainBranch.holds, sgn, S_x32]
  go_enter Try.func37, Try.ntmps37
  go_wp2_with fail
  refine (signed_c x false _).mono ?_
  rintro e w1 ⟨rfl, hb1⟩
  go_wp2_with fail
  refine (signed_c y false _).mono ?_
  rintro e w2 ⟨rfl, hb2⟩
  go_wp2
  go_ret
  exact ⟨by simp [hs, PlainBranch.signedC, PlainBranch.unsigned, T_beq, T_le, T_lt, T_eq, T_bne0, T_bne], (by repeat (first | (with_reducible exact Bl_refl _) | with_reducible apply Bl_alloc | with_reducible apply Bl_drew | with_reducible apply Bl_drewN | (with_reducible refine Bl_set ?_ (by first | omega | (simp; done) | (simp; omega)) _) | (with_reducible refine Bl_trans ?_ (by assumption))))⟩
set_option maxRecDepth 100000 in
set_option maxHeartbeats 1600000 in
theorem rh_11_false (x y : W) (w : World) : Calls Try.prog 37 #[.int .i64 11, .bool false, uv x, uv y] w fun e w' => e = .returned (.bool (PlainBranch.holds 11 false x y)) ∧ Below w.heap.size w w' := by
  have a1 := u_rem4G x
  have a2 := u_rem4G y
  have hs : PlainBranch.holds 11 false x y = PlainBranch.unsigned 11 (PlainScalar.low4 x) (PlainScalar.low4 y) := by simp [PlainBranch.holds, sgn, S_x32]
  go_enter Try.func37, Try.ntmps37
  go_wp2_with fail
  refine (signed_c x false _).mono ?_
  rintro e w1 ⟨rfl, hb1⟩
  go_wp2_with fail
  refine (signed_c y false _).mono ?_
  rintro e w2 ⟨rfl, hb2⟩
  go_wp2
  go_ret
  exact ⟨by simp [hs, PlainBranch.signedC, PlainBranch.unsigned, T_beq, T_le, T_lt, T_eq, T_bne0, T_bne], (by repeat (first | (with_reducible exact Bl_refl _) | with_reducible apply Bl_alloc | with_reducible apply Bl_drew | with_reducible apply Bl_drewN | (with_reducible refine Bl_set ?_ (by first | omega | (simp; done) | (simp; omega)) _) | (with_reducible refine Bl_trans ?_ (by assumption))))⟩
set_option maxRecDepth 100000 in
set_option maxHeartbeats 1600000 in
theorem rh_6_false (x y : W) (w : World) : Calls Try.prog 37 #[.int .i64 6, .bool false, uv x, uv y] w fun e w' => e = .returned (.bool (PlainBranch.holds 6 false x y)) ∧ Below w.heap.size w w' := by
  have a1 := u_rem4G x
  have a2 := u_rem4G y
  have hs : PlainBranch.holds 6 false x y = PlainBranch.signedC 6 (S (sgn false x)) (S (sgn false y)) := by simp [PlainBranch.holds, sgn, S_x32]
  go_enter Try.func37, Try.ntmps37
  go_wp2_with fail
  refine (signed_c x false _).mono ?_
  rintro e w1 ⟨rfl, hb1⟩
  go_wp2_with fail
  refine (signed_c y false _).mono ?_
  rintro e w2 ⟨rfl, hb2⟩
  go_wp2
  go_ret
  exact ⟨by simp [hs, PlainBranch.signedC, PlainBranch.unsigned, T_beq, T_le, T_lt, T_eq, T_bne0, T_bne], (by repeat (first | (with_reducible exact Bl_refl _) | with_reducible apply Bl_alloc | with_reducible apply Bl_drew | with_reducible apply Bl_drewN | (with_reducible refine Bl_set ?_ (by first | omega | (simp; done) | (simp; omega)) _) | (with_reducible refine Bl_trans ?_ (by assumption))))⟩
set_option maxRecDepth 100000 in
set_option maxHeartbeats 1600000 in
theorem rh_7_false (x y : W) (w : World) : Calls Try.prog 37 #[.int .i64 7, .bool false, uv x, uv y] w fun e w' => e = .returned (.bool (PlainBranch.holds 7 false x y)) ∧ Below w.heap.size w w' := by
  have a1 := u_rem4G x
  have a2 := u_rem4G y
  have hs : PlainBranch.holds 7 false x y = PlainBranch.signedC 7 (S (sgn false x)) (S (sgn false y)) := by simp [PlainBranch.holds, sgn, S_x32]
  go_enter Try.func37, Try.ntmps37
  go_wp2_with fail
  refine (signed_c x false _).mono ?_
  rintro e w1 ⟨rfl, hb1⟩
  go_wp2_with fail
  refine (signed_c y false _).mono ?_
  rintro e w2 ⟨rfl, hb2⟩
  go_wp2
  go_ret
  exact ⟨by simp [hs, PlainBranch.signedC, PlainBranch.unsigned, T_beq, T_le, T_lt, T_eq, T_bne0, T_bne], (by repeat (first | (with_reducible exact Bl_refl _) | with_reducible apply Bl_alloc | with_reducible apply Bl_drew | with_reducible apply Bl_drewN | (with_reducible refine Bl_set ?_ (by first | omega | (simp; done) | (simp; omega)) _) | (with_reducible refine Bl_trans ?_ (by assumption))))⟩
set_option maxRecDepth 100000 in
set_option maxHeartbeats 1600000 in
theorem rh_12_false (x y : W) (w : World) : Calls Try.prog 37 #[.int .i64 12, .bool false, uv x, uv y] w fun e w' => e = .returned (.bool (PlainBranch.holds 12 false x y)) ∧ Below w.heap.size w w' := by
  have a1 := u_rem4G x
  have a2 := u_rem4G y
  have hs : PlainBranch.holds 12 false x y = PlainBranch.signedC 12 (S (sgn false x)) (S (sgn false y)) := by simp [PlainBranch.holds, sgn, S_x32]
  go_enter Try.func37, Try.ntmps37
  go_wp2_with fail
  refine (signed_c x false _).mono ?_
  rintro e w1 ⟨rfl, hb1⟩
  go_wp2_with fail
  refine (signed_c y false _).mono ?_
  rintro e w2 ⟨rfl, hb2⟩
  go_wp2
  go_ret
  exact ⟨by simp [hs, PlainBranch.signedC, PlainBranch.unsigned, T_beq, T_le, T_lt, T_eq, T_bne0, T_bne], (by repeat (first | (with_reducible exact Bl_refl _) | with_reducible apply Bl_alloc | with_reducible apply Bl_drew | with_reducible apply Bl_drewN | (with_reducible refine Bl_set ?_ (by first | omega | (simp; done) | (simp; omega)) _) | (with_reducible refine Bl_trans ?_ (by assumption))))⟩
set_option maxRecDepth 100000 in
set_option maxHeartbeats 1600000 in
theorem rh_13_false (x y : W) (w : World) : Calls Try.prog 37 #[.int .i64 13, .bool false, uv x, uv y] w fun e w' => e = .returned (.bool (PlainBranch.holds 13 false x y)) ∧ Below w.heap.size w w' := by
  have a1 := u_rem4G x
  have a2 := u_rem4G y
  have hs : PlainBranch.holds 13 false x y = PlainBranch.signedC 13 (S (sgn false x)) (S (sgn false y)) := by simp [PlainBranch.holds, sgn, S_x32]
  go_enter Try.func37, Try.ntmps37
  go_wp2_with fail
  refine (signed_c x false _).mono ?_
  rintro e w1 ⟨rfl, hb1⟩
  go_wp2_with fail
  refine (signed_c y false _).mono ?_
  rintro e w2 ⟨rfl, hb2⟩
  go_wp2
  go_ret
  exact ⟨by simp [hs, PlainBranch.signedC, PlainBranch.unsigned, T_beq, T_le, T_lt, T_eq, T_bne0, T_bne], (by repeat (first | (with_reducible exact Bl_refl _) | with_reducible apply Bl_alloc | with_reducible apply Bl_drew | with_reducible apply Bl_drewN | (with_reducible refine Bl_set ?_ (by first | omega | (simp; done) | (simp; omega)) _) | (with_reducible refine Bl_trans ?_ (by assumption))))⟩
set_option maxRecDepth 100000 in
set_option maxHeartbeats 1600000 in
theorem rh_op_false (op : Int) (h1 : ¬ op = 1) (h2 : ¬ op = 2) (h3 : ¬ op = 3) (h4 : ¬ op = 4) (h5 : ¬ op = 5) (h10 : ¬ op = 10) (h11 : ¬ op = 11) (h6 : ¬ op = 6) (h7 : ¬ op = 7) (h12 : ¬ op = 12) (h13 : ¬ op = 13) (x y : W) (w : World) : Calls Try.prog 37 #[.int .i64 op, .bool false, uv x, uv y] w fun e w' => e = .returned (.bool (PlainBranch.holds op false x y)) ∧ Below w.heap.size w w' := by
  have a1 := u_rem4G x
  have a2 := u_rem4G y
  have e1 : (op == 1) = false := by simpa using h1
  have e2 : (op == 2) = false := by simpa using h2
  have e3 : (op == 3) = false := by simpa using h3
  have e4 : (op == 4) = false := by simpa using h4
  have e5 : (op == 5) = false := by simpa using h5
  have e10 : (op == 10) = false := by simpa using h10
  have e11 : (op == 11) = false := by simpa using h11
  have e6 : (op == 6) = false := by simpa using h6
  have e7 : (op == 7) = false := by simpa using h7
  have e12 : (op == 12) = false := by simpa using h12
  have e13 : (op == 13) = false := by simpa using h13
  go_enter Try.func37, Try.ntmps37
  go_wp2_with fail
  refine (signed_c x false _).mono ?_
  rintro e w1 ⟨rfl, hb1⟩
  go_wp2_with fail
  refine (signed_c y false _).mono ?_
  rintro e w2 ⟨rfl, hb2⟩
  go_wp2
  go_ret
  exact ⟨by simp [PlainBranch.holds, PlainBranch.unsigned, h1, h2, h3, h4, h5, h10, h11, h6, h7, h12, h13], (by repeat (first | (with_reducible exact Bl_refl _) | with_reducible apply Bl_alloc | with_reducible apply Bl_drew | with_reducible apply Bl_drewN | (with_reducible refine Bl_set ?_ (by first | omega | (simp; done) | (simp; omega)) _) | (with_reducible refine Bl_trans ?_ (by assumption))))⟩
set_option maxRecDepth 100000 in
set_option maxHeartbeats 1600000 in
theorem rh_1_true (x y : W) (w : World) : Calls Try.prog 37 #[.int .i64 1, .bool true, uv x, uv y] w fun e w' => e = .returned (.bool (PlainBranch.holds 1 true x y)) ∧ Below w.heap.size w w' := by
  have hs : PlainBranch.holds 1 true x y = PlainBranch.unsigned 1 x y := by simp [PlainBranch.holds, sgn, S]
  go_enter Try.func37, Try.ntmps37
  go_wp2_with fail
  refine (signed_c x true _).mono ?_
  rintro e w1 ⟨rfl, hb1⟩
  go_wp2_with fail
  refine (signed_c y true _).mono ?_
  rintro e w2 ⟨rfl, hb2⟩
  go_wp2
  go_ret
  exact ⟨by simp [hs, PlainBranch.signedC, PlainBranch.unsigned, T_beq, T_le, T_lt, T_eq, T_bne0, T_bne], (by repeat (first | (with_reducible exact Bl_refl _) | with_reducible apply Bl_alloc | with_reducible apply Bl_drew | with_reducible apply Bl_drewN | (with_reducible refine Bl_set ?_ (by first | omega | (simp; done) | (simp; omega)) _) | (with_reducible refine Bl_trans ?_ (by assumption))))⟩
set_option maxRecDepth 100000 in
set_option maxHeartbeats 1600000 in
theorem rh_2_true (x y : W) (w : World) : Calls Try.prog 37 #[.int .i64 2, .bool true, uv x, uv y] w fun e w' => e = .returned (.bool (PlainBranch.holds 2 true x y)) ∧ Below w.heap.size w w' := by
  have hs : PlainBranch.holds 2 true x y = PlainBranch.unsigned 2 x y := by simp [PlainBranch.holds, sgn, S]
  go_enter Try.func37, Try.ntmps37
  go_wp2_with fail
  refine (signed_c x true _).mono ?_
  rintro e w1 ⟨rfl, hb1⟩
  go_wp2_with fail
  refine (signed_c y true _).mono ?_
  rintro e w2 ⟨rfl, hb2⟩
  go_wp2
  go_ret
  exact ⟨by simp [hs, PlainBranch.signedC, PlainBranch.unsigned, T_beq, T_le, T_lt, T_eq, T_bne0, T_bne], (by repeat (first | (with_reducible exact Bl_refl _) | with_reducible apply Bl_alloc | with_reducible apply Bl_drew | with_reducible apply Bl_drewN | (with_reducible refine Bl_set ?_ (by first | omega | (simp; done) | (simp; omega)) _) | (with_reducible refine Bl_trans ?_ (by assumption))))⟩
set_option maxRecDepth 100000 in
set_option maxHeartbeats 1600000 in
theorem rh_3_true (x y : W) (w : World) : Calls Try.prog 37 #[.int .i64 3, .bool true, uv x, uv y] w fun e w' => e = .returned (.bool (PlainBranch.holds 3 true x y)) ∧ Below w.heap.size w w' := by
  have hs : PlainBranch.holds 3 true x y = PlainBranch.unsigned 3 x y := by simp [PlainBranch.holds, sgn, S]
  go_enter Try.func37, Try.ntmps37
  go_wp2_with fail
  refine (signed_c x true _).mono ?_
  rintro e w1 ⟨rfl, hb1⟩
  go_wp2_with fail
  refine (signed_c y true _).mono ?_
  rintro e w2 ⟨rfl, hb2⟩
  go_wp2
  go_ret
  exact ⟨by simp [hs, PlainBranch.signedC, PlainBranch.unsigned, T_beq, T_le, T_lt, T_eq, T_bne0, T_bne], (by repeat (first | (with_reducible exact Bl_refl _) | with_reducible apply Bl_alloc | with_reducible apply Bl_drew | with_reducible apply Bl_drewN | (with_reducible refine Bl_set ?_ (by first | omega | (simp; done) | (simp; omega)) _) | (with_reducible refine Bl_trans ?_ (by assumption))))⟩
set_option maxRecDepth 100000 in
set_option maxHeartbeats 1600000 in
theorem rh_4_true (x y : W) (w : World) : Calls Try.prog 37 #[.int .i64 4, .bool true, uv x, uv y] w fun e w' => e = .returned (.bool (PlainBranch.holds 4 true x y)) ∧ Below w.heap.size w w' := by
  have hs : PlainBranch.holds 4 true x y = PlainBranch.unsigned 4 x y := by simp [PlainBranch.holds, sgn, S]
  go_enter Try.func37, Try.ntmps37
  go_wp2_with fail
  refine (signed_c x true _).mono ?_
  rintro e w1 ⟨rfl, hb1⟩
  go_wp2_with fail
  refine (signed_c y true _).mono ?_
  rintro e w2 ⟨rfl, hb2⟩
  go_wp2
  go_ret
  exact ⟨by simp [hs, PlainBranch.signedC, PlainBranch.unsigned, T_beq, T_le, T_lt, T_eq, T_bne0, T_bne], (by repeat (first | (with_reducible exact Bl_refl _) | with_reducible apply Bl_alloc | with_reducible apply Bl_drew | with_reducible apply Bl_drewN | (with_reducible refine Bl_set ?_ (by first | omega | (simp; done) | (simp; omega)) _) | (with_reducible refine Bl_trans ?_ (by assumption))))⟩
set_option maxRecDepth 100000 in
set_option maxHeartbeats 1600000 in
theorem rh_5_true (x y : W) (w : World) : Calls Try.prog 37 #[.int .i64 5, .bool true, uv x, uv y] w fun e w' => e = .returned (.bool (PlainBranch.holds 5 true x y)) ∧ Below w.heap.size w w' := by
  have hs : PlainBranch.holds 5 true x y = PlainBranch.unsigned 5 x y := by simp [PlainBranch.holds, sgn, S]
  go_enter Try.func37, Try.ntmps37
  go_wp2_with fail
  refine (signed_c x true _).mono ?_
  rintro e w1 ⟨rfl, hb1⟩
  go_wp2_with fail
  refine (signed_c y true _).mono ?_
  rintro e w2 ⟨rfl, hb2⟩
  go_wp2
  go_ret
  exact ⟨by simp [hs, PlainBranch.signedC, PlainBranch.unsigned, T_beq, T_le, T_lt, T_eq, T_bne0, T_bne], (by repeat (first | (with_reducible exact Bl_refl _) | with_reducible apply Bl_alloc | with_reducible apply Bl_drew | with_reducible apply Bl_drewN | (with_reducible refine Bl_set ?_ (by first | omega | (simp; done) | (simp; omega)) _) | (with_reducible refine Bl_trans ?_ (by assumption))))⟩
set_option maxRecDepth 100000 in
set_option maxHeartbeats 1600000 in
theorem rh_10_true (x y : W) (w : World) : Calls Try.prog 37 #[.int .i64 10, .bool true, uv x, uv y] w fun e w' => e = .returned (.bool (PlainBranch.holds 10 true x y)) ∧ Below w.heap.size w w' := by
  have hs : PlainBranch.holds 10 true x y = PlainBranch.unsigned 10 x y := by simp [PlainBranch.holds, sgn, S]
  go_enter Try.func37, Try.ntmps37
  go_wp2_with fail
  refine (signed_c x true _).mono ?_
  rintro e w1 ⟨rfl, hb1⟩
  go_wp2_with fail
  refine (signed_c y true _).mono ?_
  rintro e w2 ⟨rfl, hb2⟩
  go_wp2
  go_ret
  exact ⟨by simp [hs, PlainBranch.signedC, PlainBranch.unsigned, T_beq, T_le, T_lt, T_eq, T_bne0, T_bne], (by repeat (first | (with_reducible exact Bl_refl _) | with_reducible apply Bl_alloc | with_reducible apply Bl_drew | with_reducible apply Bl_drewN | (with_reducible refine Bl_set ?_ (by first | omega | (simp; done) | (simp; omega)) _) | (with_reducible refine Bl_trans ?_ (by assumption))))⟩
set_option maxRecDepth 100000 in
set_option maxHeartbeats 1600000 in
theorem rh_11_true (x y : W) (w : World) : Calls Try.prog 37 #[.int .i64 11, .bool true, uv x, uv y] w fun e w' => e = .returned (.bool (PlainBranch.holds 11 true x y)) ∧ Below w.heap.size w w' := by
  have hs : PlainBranch.holds 11 true x y = PlainBranch.unsigned 11 x y := by simp [PlainBranch.holds, sgn, S]
  go_enter Try.func37, Try.ntmps37
  go_wp2_with fail
  refine (signed_c x true _).mono ?_
  rintro e w1 ⟨rfl, hb1⟩
  go_wp2_with fail
  refine (signed_c y true _).mono ?_
  rintro e w2 ⟨rfl, hb2⟩
  go_wp2
  go_ret
  exact ⟨by simp [hs, PlainBranch.signedC, PlainBranch.unsigned, T_beq, T_le, T_lt, T_eq, T_bne0, T_bne], (by repeat (first | (with_reducible exact Bl_refl _) | with_reducible apply Bl_alloc | with_reducible apply Bl_drew | with_reducible apply Bl_drewN | (with_reducible refine Bl_set ?_ (by first | omega | (simp; done) | (simp; omega)) _) | (with_reducible refine Bl_trans ?_ (by assumption))))⟩
set_option maxRecDepth 100000 in
set_option maxHeartbeats 1600000 in
theorem rh_6_true (x y : W) (w : World) : Calls Try.prog 37 #[.int .i64 6, .bool true, uv x, uv y] w fun e w' => e = .returned (.bool (PlainBranch.holds 6 true x y)) ∧ Below w.heap.size w w' := by
  have hs : PlainBranch.holds 6 true x y = PlainBranch.signedC 6 (S (sgn true x)) (S (sgn true y)) := by simp [PlainBranch.holds, sgn, S]
  go_enter Try.func37, Try.ntmps37
  go_wp2_with fail
  refine (signed_c x true _).mono ?_
  rintro e w1 ⟨rfl, hb1⟩
  go_wp2_with fail
  refine (signed_c y true _).mono ?_
  rintro e w2 ⟨rfl, hb2⟩
  go_wp2
  go_ret
  exact ⟨by simp [hs, PlainBranch.signedC, PlainBranch.unsigned, T_beq, T_le, T_lt, T_eq, T_bne0, T_bne], (by repeat (first | (with_reducible exact Bl_refl _) | with_reducible apply Bl_alloc | with_reducible apply Bl_drew | with_reducible apply Bl_drewN | (with_reducible refine Bl_set ?_ (by first | omega | (simp; done) | (simp; omega)) _) | (with_reducible refine Bl_trans ?_ (by assumption))))⟩
set_option maxRecDepth 100000 in
set_option maxHeartbeats 1600000 in
theorem rh_7_true (x y : W) (w : World) : Calls Try.prog 37 #[.int .i64 7, .bool true, uv x, uv y] w fun e w' => e = .returned (.bool (PlainBranch.holds 7 true x y)) ∧ Below w.heap.size w w' := by
  have hs : PlainBranch.holds 7 true x y = PlainBranch.signedC 7 (S (sgn true x)) (S (sgn true y)) := by simp [PlainBranch.holds, sgn, S]
  go_enter Try.func37, Try.ntmps37
  go_wp2_with fail
  refine (signed_c x true _).mono ?_
  rintro e w1 ⟨rfl, hb1⟩
  go_wp2_with fail
  refine (signed_c y true _).mono ?_
  rintro e w2 ⟨rfl, hb2⟩
  go_wp2
  go_ret
  exact ⟨by simp [hs, PlainBranch.signedC, PlainBranch.unsigned, T_beq, T_le, T_lt, T_eq, T_bne0, T_bne], (by repeat (first | (with_reducible exact Bl_refl _) | with_reducible apply Bl_alloc | with_reducible apply Bl_drew | with_reducible apply Bl_drewN | (with_reducible refine Bl_set ?_ (by first | omega | (simp; done) | (simp; omega)) _) | (with_reducible refine Bl_trans ?_ (by assumption))))⟩
set_option maxRecDepth 100000 in
set_option maxHeartbeats 1600000 in
theorem rh_12_true (x y : W) (w : World) : Calls Try.prog 37 #[.int .i64 12, .bool true, uv x, uv y] w fun e w' => e = .returned (.bool (PlainBranch.holds 12 true x y)) ∧ Below w.heap.size w w' := by
  have hs : PlainBranch.holds 12 true x y = PlainBranch.signedC 12 (S (sgn true x)) (S (sgn true y)) := by simp [PlainBranch.holds, sgn, S]
  go_enter Try.func37, Try.ntmps37
  go_wp2_with fail
  refine (signed_c x true _).mono ?_
  rintro e w1 ⟨rfl, hb1⟩
  go_wp2_with fail
  refine (signed_c y true _).mono ?_
  rintro e w2 ⟨rfl, hb2⟩
  go_wp2
  go_ret
  exact ⟨by simp [hs, PlainBranch.signedC, PlainBranch.unsigned, T_beq, T_le, T_lt, T_eq, T_bne0, T_bne], (by repeat (first | (with_reducible exact Bl_refl _) | with_reducible apply Bl_alloc | with_reducible apply Bl_drew | with_reducible apply Bl_drewN | (with_reducible refine Bl_set ?_ (by first | omega | (simp; done) | (simp; omega)) _) | (with_reducible refine Bl_trans ?_ (by assumption))))⟩
set_option maxRecDepth 100000 in
set_option maxHeartbeats 1600000 in
theorem rh_13_true (x y : W) (w : World) : Calls Try.prog 37 #[.int .i64 13, .bool true, uv x, uv y] w fun e w' => e = .returned (.bool (PlainBranch.holds 13 true x y)) ∧ Below w.heap.size w w' := by
  have hs : PlainBranch.holds 13 true x y = PlainBranch.signedC 13 (S (sgn true x)) (S (sgn true y)) := by simp [PlainBranch.holds, sgn, S]
  go_enter Try.func37, Try.ntmps37
  go_wp2_with fail
  refine (signed_c x true _).mono ?_
  rintro e w1 ⟨rfl, hb1⟩
  go_wp2_with fail
  refine (signed_c y true _).mono ?_
  rintro e w2 ⟨rfl, hb2⟩
  go_wp2
  go_ret
  exact ⟨by simp [hs, PlainBranch.signedC, PlainBranch.unsigned, T_beq, T_le, T_lt, T_eq, T_bne0, T_bne], (by repeat (first | (with_reducible exact Bl_refl _) | with_reducible apply Bl_alloc | with_reducible apply Bl_drew | with_reducible apply Bl_drewN | (with_reducible refine Bl_set ?_ (by first | omega | (simp; done) | (simp; omega)) _) | (with_reducible refine Bl_trans ?_ (by assumption))))⟩
set_option maxRecDepth 100000 in
set_option maxHeartbeats 1600000 in
theorem rh_op_true (op : Int) (h1 : ¬ op = 1) (h2 : ¬ op = 2) (h3 : ¬ op = 3) (h4 : ¬ op = 4) (h5 : ¬ op = 5) (h10 : ¬ op = 10) (h11 : ¬ op = 11) (h6 : ¬ op = 6) (h7 : ¬ op = 7) (h12 : ¬ op = 12) (h13 : ¬ op = 13) (x y : W) (w : World) : Calls Try.prog 37 #[.int .i64 op, .bool true, uv x, uv y] w fun e w' => e = .returned (.bool (PlainBranch.holds op true x y)) ∧ Below w.heap.size w w' := by
  have e1 : (op == 1) = false := by simpa using h1
  have e2 : (op == 2) = false := by simpa using h2
  have e3 : (op == 3) = false := by simpa using h3
  have e4 : (op == 4) = false := by simpa using h4
  have e5 : (op == 5) = false := by simpa using h5
  have e10 : (op == 10) = false := by simpa using h10
  have e11 : (op == 11) = false := by simpa using h11
  have e6 : (op == 6) = false := by simpa using h6
  have e7 : (op == 7) = false := by simpa using h7
  have e12 : (op == 12) = false := by simpa using h12
  have e13 : (op == 13) = false := by simpa using h13
  go_enter Try.func37, Try.ntmps37
  go_wp2_with fail
  refine (signed_c x true _).mono ?_
  rintro e w1 ⟨rfl, hb1⟩
  go_wp2_with fail
  refine (signed_c y true _).mono ?_
  rintro e w2 ⟨rfl, hb2⟩
  go_wp2
  go_ret
  exact ⟨by simp [PlainBranch.holds, PlainBranch.unsigned, h1, h2, h3, h4, h5, h10, h11, h6, h7, h12, h13], (by repeat (first | (with_reducible exact Bl_refl _) | with_reducible apply Bl_alloc | with_reducible apply Bl_drew | with_reducible apply Bl_drewN | (with_reducible refine Bl_set ?_ (by first | omega | (simp; done) | (simp; omega)) _) | (with_reducible refine Bl_trans ?_ (by assumption))))⟩
theorem rholds_c (op : Int) (l : Bool) (x y : W) (w : World) : Calls Try.prog 37 #[.int .i64 op, .bool l, uv x, uv y] w fun e w' => e = .returned (.bool (PlainBranch.holds op l x y)) ∧ Below w.heap.size w w' := by
  cases l
  · by_cases h1 : op = 1
    · subst h1; exact rh_1_false x y w
    by_cases h2 : op = 2
    · subst h2; exact rh_2_false x y w
    by_cases h3 : op = 3
    · subst h3; exact rh_3_false x y w
    by_cases h4 : op = 4
    · subst h4; exact rh_4_false x y w
    by_cases h5 : op = 5
    · subst h5; exact rh_5_false x y w
    by_cases h10 : op = 10
    · subst h10; exact rh_10_false x y w
    by_cases h11 : op = 11
    · subst h11; exact rh_11_false x y w
    by_cases h6 : op = 6
    · subst h6; exact rh_6_false x y w
    by_cases h7 : op = 7
    · subst h7; exact rh_7_false x y w
    by_cases h12 : op = 12
    · subst h12; exact rh_12_false x y w
    by_cases h13 : op = 13
    · subst h13; exact rh_13_false x y w
    exact rh_op_false op h1 h2 h3 h4 h5 h10 h11 h6 h7 h12 h13 x y w
  · by_cases h1 : op = 1
    · subst h1; exact rh_1_true x y w
    by_cases h2 : op = 2
    · subst h2; exact rh_2_true x y w
    by_cases h3 : op = 3
    · subst h3; exact rh_3_true x y w
    by_cases h4 : op = 4
    · subst h4; exact rh_4_true x y w
    by_cases h5 : op = 5
    · subst h5; exact rh_5_true x y w
    by_cases h10 : op = 10
    · subst h10; exact rh_10_true x y w
    by_cases h11 : op = 11
    · subst h11; exact rh_11_true x y w
    by_cases h6 : op = 6
    · subst h6; exact rh_6_true x y w
    by_cases h7 : op = 7
    · subst h7; exact rh_7_true x y w
    by_cases h12 : op = 12
    · subst h12; exact rh_12_true x y w
    by_cases h13 : op = 13
    · subst h13; exact rh_13_true x y w
    exact rh_op_true op h1 h2 h3 h4 h5 h10 h11 h6 h7 h12 h13 x y w
end Go.Proofs.Ytmghpoagpiljhab
