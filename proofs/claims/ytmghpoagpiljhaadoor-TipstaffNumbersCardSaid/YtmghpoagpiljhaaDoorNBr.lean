/- The walks of package branch that TipstaffNumbers needs: Refine of 'below'. -/
import Derived.Test.YtmghpoagpiljhaaDoorSc4
import Derived.Test.YtmghpoagpiljhaaDoorBranch
import Derived.Test.YtmghpoagpiljhaaDoorMixS
set_option linter.unusedSimpArgs false
set_option linter.unusedVariables false
namespace Go.Proofs.YtmghpoagpiljhaaDoor
open Go.RowKit
open PlainTnum (N)
open PlainScalar (Rng)
theorem u64_TB (x : W) : IntKind.u64.wrap (T x) = T x := by rw [wrap_u, ofInt_T]
theorem u_of_u32B (x : W) : IntKind.u32.wrap (T x) = T (PlainScalar.low4 x) := by
  unfold T; rw [PlainScalar.low4_nat]; unfold IntKind.wrap; simp [IntKind.signed, IntKind.bits]
/-- The lower half, with its sign. -/
def x32 (x : W) : W := (x.setWidth 32).signExtend 64
theorem S_x32 (x : W) : S (x32 x) = PlainBranch.s32 x := by unfold S x32 PlainBranch.s32; exact BitVec.toInt_signExtend_of_le (by decide)
theorem i32_of_uB (x : W) : wrap32 (T x) = S (x32 x) := by
  rw [S_x32]; unfold PlainBranch.s32 T
  rw [BitVec.toInt_eq_toNat_cond, BitVec.toNat_setWidth]
  unfold wrap32
  have := x.isLt
  split <;> omega
theorem i64_S (x : W) : IntKind.i64.wrap (S x) = S x := by rw [wrap_i, ofInt_S]
theorem w64_S (x : W) : wrap64 (S x) = S x := by rw [w64, ofInt_S]
set_option maxRecDepth 100000 in
set_option maxHeartbeats 1600000 in
theorem uns_1 (x y : W) (w : World) : Calls Tryd.prog 89 #[.int .i64 1, uv x, uv y] w fun e w' => e = .returned (.bool (PlainBranch.unsigned 1 x y)) ∧ Below w.heap.size w w' := by
  go_enter Tryd.func89, Tryd.ntmps89
  go_wp2
  go_ret
  exact ⟨by simp [PlainBranch.unsigned, T_beq, T_le, T_lt, T_eq, T_bne0, T_bne], (by repeat (first | (with_reducible exact Bl_refl _) | with_reducible apply Bl_alloc | with_reducible apply Bl_drew | with_reducible apply Bl_drewN | (with_reducible refine Bl_set ?_ (by first | omega | (simp; done) | (simp; omega)) _) | (with_reducible refine Bl_trans ?_ (by assumption))))⟩
set_option maxRecDepth 100000 in
set_option maxHeartbeats 1600000 in
theorem uns_2 (x y : W) (w : World) : Calls Tryd.prog 89 #[.int .i64 2, uv x, uv y] w fun e w' => e = .returned (.bool (PlainBranch.unsigned 2 x y)) ∧ Below w.heap.size w w' := by
  go_enter Tryd.func89, Tryd.ntmps89
  go_wp2
  go_ret
  exact ⟨by simp [PlainBranch.unsigned, T_beq, T_le, T_lt, T_eq, T_bne0, T_bne], (by repeat (first | (with_reducible exact Bl_refl _) | with_reducible apply Bl_alloc | with_reducible apply Bl_drew | with_reducible apply Bl_drewN | (with_reducible refine Bl_set ?_ (by first | omega | (simp; done) | (simp; omega)) _) | (with_reducible refine Bl_trans ?_ (by assumption))))⟩
set_option maxRecDepth 100000 in
set_option maxHeartbeats 1600000 in
theorem uns_3 (x y : W) (w : World) : Calls Tryd.prog 89 #[.int .i64 3, uv x, uv y] w fun e w' => e = .returned (.bool (PlainBranch.unsigned 3 x y)) ∧ Below w.heap.size w w' := by
  go_enter Tryd.func89, Tryd.ntmps89
  go_wp2
  go_ret
  exact ⟨by simp [PlainBranch.unsigned, T_beq, T_le, T_lt, T_eq, T_bne0, T_bne], (by repeat (first | (with_reducible exact Bl_refl _) | with_reducible apply Bl_alloc | with_reducible apply Bl_drew | with_reducible apply Bl_drewN | (with_reducible refine Bl_set ?_ (by first | omega | (simp; done) | (simp; omega)) _) | (with_reducible refine Bl_trans ?_ (by assumption))))⟩
set_option maxRecDepth 100000 in
set_option maxHeartbeats 1600000 in
theorem uns_4 (x y : W) (w : World) : Calls Tryd.prog 89 #[.int .i64 4, uv x, uv y] w fun e w' => e = .returned (.bool (PlainBranch.unsigned 4 x y)) ∧ Below w.heap.size w w' := by
  go_enter Tryd.func89, Tryd.ntmps89
  go_wp2
  go_ret
  exact ⟨by simp [PlainBranch.unsigned, T_beq, T_le, T_lt, T_eq, T_bne0, T_bne], (by repeat (first | (with_reducible exact Bl_refl _) | with_reducible apply Bl_alloc | with_reducible apply Bl_drew | with_reducible apply Bl_drewN | (with_reducible refine Bl_set ?_ (by first | omega | (simp; done) | (simp; omega)) _) | (with_reducible refine Bl_trans ?_ (by assumption))))⟩
set_option maxRecDepth 100000 in
set_option maxHeartbeats 1600000 in
theorem uns_5 (x y : W) (w : World) : Calls Tryd.prog 89 #[.int .i64 5, uv x, uv y] w fun e w' => e = .returned (.bool (PlainBranch.unsigned 5 x y)) ∧ Below w.heap.size w w' := by
  go_enter Tryd.func89, Tryd.ntmps89
  go_wp2
  go_ret
  exact ⟨by simp [PlainBranch.unsigned, T_beq, T_le, T_lt, T_eq, T_bne0, T_bne], (by repeat (first | (with_reducible exact Bl_refl _) | with_reducible apply Bl_alloc | with_reducible apply Bl_drew | with_reducible apply Bl_drewN | (with_reducible refine Bl_set ?_ (by first | omega | (simp; done) | (simp; omega)) _) | (with_reducible refine Bl_trans ?_ (by assumption))))⟩
set_option maxRecDepth 100000 in
set_option maxHeartbeats 1600000 in
theorem uns_10 (x y : W) (w : World) : Calls Tryd.prog 89 #[.int .i64 10, uv x, uv y] w fun e w' => e = .returned (.bool (PlainBranch.unsigned 10 x y)) ∧ Below w.heap.size w w' := by
  go_enter Tryd.func89, Tryd.ntmps89
  go_wp2
  go_ret
  exact ⟨by simp [PlainBranch.unsigned, T_beq, T_le, T_lt, T_eq, T_bne0, T_bne], (by repeat (first | (with_reducible exact Bl_refl _) | with_reducible apply Bl_alloc | with_reducible apply Bl_drew | with_reducible apply Bl_drewN | (with_reducible refine Bl_set ?_ (by first | omega | (simp; done) | (simp; omega)) _) | (with_reducible refine Bl_trans ?_ (by assumption))))⟩
set_option maxRecDepth 100000 in
set_option maxHeartbeats 1600000 in
theorem uns_11 (x y : W) (w : World) : Calls Tryd.prog 89 #[.int .i64 11, uv x, uv y] w fun e w' => e = .returned (.bool (PlainBranch.unsigned 11 x y)) ∧ Below w.heap.size w w' := by
  go_enter Tryd.func89, Tryd.ntmps89
  go_wp2
  go_ret
  exact ⟨by simp [PlainBranch.unsigned, T_beq, T_le, T_lt, T_eq, T_bne0, T_bne], (by repeat (first | (with_reducible exact Bl_refl _) | with_reducible apply Bl_alloc | with_reducible apply Bl_drew | with_reducible apply Bl_drewN | (with_reducible refine Bl_set ?_ (by first | omega | (simp; done) | (simp; omega)) _) | (with_reducible refine Bl_trans ?_ (by assumption))))⟩
set_option maxRecDepth 100000 in
set_option maxHeartbeats 1600000 in
theorem uns_op (op : Int) (h1 : ¬ op = 1) (h2 : ¬ op = 2) (h3 : ¬ op = 3) (h4 : ¬ op = 4) (h5 : ¬ op = 5) (h10 : ¬ op = 10) (h11 : ¬ op = 11) (x y : W) (w : World) : Calls Tryd.prog 89 #[.int .i64 op, uv x, uv y] w fun e w' => e = .returned (.bool (PlainBranch.unsigned op x y)) ∧ Below w.heap.size w w' := by
  have e1 : (op == 1) = false := by simpa using h1
  have e2 : (op == 2) = false := by simpa using h2
  have e3 : (op == 3) = false := by simpa using h3
  have e4 : (op == 4) = false := by simpa using h4
  have e5 : (op == 5) = false := by simpa using h5
  have e10 : (op == 10) = false := by simpa using h10
  have e11 : (op == 11) = false := by simpa using h11
  go_enter Tryd.func89, Tryd.ntmps89
  go_wp2
  go_ret
  exact ⟨by simp [PlainBranch.unsigned, h1, h2, h3, h4, h5, h10, h11], (by repeat (first | (with_reducible exact Bl_refl _) | with_reducible apply Bl_alloc | with_reducible apply Bl_drew | with_reducible apply Bl_drewN | (with_reducible refine Bl_set ?_ (by first | omega | (simp; done) | (simp; omega)) _) | (with_reducible refine Bl_trans ?_ (by assumption))))⟩
theorem uns_c (op : Int) (x y : W) (w : World) : Calls Tryd.prog 89 #[.int .i64 op, uv x, uv y] w fun e w' => e = .returned (.bool (PlainBranch.unsigned op x y)) ∧ Below w.heap.size w w' := by
  by_cases h1 : op = 1
  · subst h1; exact uns_1 x y w
  by_cases h2 : op = 2
  · subst h2; exact uns_2 x y w
  by_cases h3 : op = 3
  · subst h3; exact uns_3 x y w
  by_cases h4 : op = 4
  · subst h4; exact uns_4 x y w
  by_cases h5 : op = 5
  · subst h5; exact uns_5 x y w
  by_cases h10 : op = 10
  · subst h10; exact uns_10 x y w
  by_cases h11 : op = 11
  · subst h11; exact uns_11 x y w
  exact uns_op op h1 h2 h3 h4 h5 h10 h11 x y w
set_option maxRecDepth 100000 in
set_option maxHeartbeats 1600000 in
theorem hol_6_false (x y : W) (w : World) : Calls Tryd.prog 68 #[.int .i64 6, .bool false, uv x, uv y] w fun e w' => e = .returned (.bool (PlainBranch.holds 6 false x y)) ∧ Below w.heap.size w w' := by
  have a1 := u_of_u32B x
  have a2 := u_of_u32B y
  have a3 := u64_TB (PlainScalar.low4 x)
  have a4 := u64_TB (PlainScalar.low4 y)
  have a5 := i32_of_uB x
  have a6 := i32_of_uB y
  have a7 := i64_S (x32 x)
  have a8 := i64_S (x32 y)
  have a9 := w64_S (x32 x)
  have a10 := w64_S (x32 y)
  have hs : PlainBranch.holds 6 false x y = PlainBranch.signedC 6 (S (x32 x)) (S (x32 y)) := by simp [PlainBranch.holds, S_x32]
  go_enter Tryd.func68, Tryd.ntmps68
  go_wp2
  go_ret
  exact ⟨by simp [hs, PlainBranch.signedC], (by repeat (first | (with_reducible exact Bl_refl _) | with_reducible apply Bl_alloc | with_reducible apply Bl_drew | with_reducible apply Bl_drewN | (with_reducible refine Bl_set ?_ (by first | omega | (simp; done) | (simp; omega)) _) | (with_reducible refine Bl_trans ?_ (by assumption))))⟩
set_option maxRecDepth 100000 in
set_option maxHeartbeats 1600000 in
theorem hol_6_true (x y : W) (w : World) : Calls Tryd.prog 68 #[.int .i64 6, .bool true, uv x, uv y] w fun e w' => e = .returned (.bool (PlainBranch.holds 6 true x y)) ∧ Below w.heap.size w w' := by
  have hs : PlainBranch.holds 6 true x y = PlainBranch.signedC 6 (S x) (S y) := by simp [PlainBranch.holds, S]
  go_enter Tryd.func68, Tryd.ntmps68
  go_wp2
  go_ret
  exact ⟨by simp [hs, PlainBranch.signedC], (by repeat (first | (with_reducible exact Bl_refl _) | with_reducible apply Bl_alloc | with_reducible apply Bl_drew | with_reducible apply Bl_drewN | (with_reducible refine Bl_set ?_ (by first | omega | (simp; done) | (simp; omega)) _) | (with_reducible refine Bl_trans ?_ (by assumption))))⟩
set_option maxRecDepth 100000 in
set_option maxHeartbeats 1600000 in
theorem hol_7_false (x y : W) (w : World) : Calls Tryd.prog 68 #[.int .i64 7, .bool false, uv x, uv y] w fun e w' => e = .returned (.bool (PlainBranch.holds 7 false x y)) ∧ Below w.heap.size w w' := by
  have a1 := u_of_u32B x
  have a2 := u_of_u32B y
  have a3 := u64_TB (PlainScalar.low4 x)
  have a4 := u64_TB (PlainScalar.low4 y)
  have a5 := i32_of_uB x
  have a6 := i32_of_uB y
  have a7 := i64_S (x32 x)
  have a8 := i64_S (x32 y)
  have a9 := w64_S (x32 x)
  have a10 := w64_S (x32 y)
  have hs : PlainBranch.holds 7 false x y = PlainBranch.signedC 7 (S (x32 x)) (S (x32 y)) := by simp [PlainBranch.holds, S_x32]
  go_enter Tryd.func68, Tryd.ntmps68
  go_wp2
  go_ret
  exact ⟨by simp [hs, PlainBranch.signedC], (by repeat (first | (with_reducible exact Bl_refl _) | with_reducible apply Bl_alloc | with_reducible apply Bl_drew | with_reducible apply Bl_drewN | (with_reducible refine Bl_set ?_ (by first | omega | (simp; done) | (simp; omega)) _) | (with_reducible refine Bl_trans ?_ (by assumption))))⟩
set_option maxRecDepth 100000 in
set_option maxHeartbeats 1600000 in
theorem hol_7_true (x y : W) (w : World) : Calls Tryd.prog 68 #[.int .i64 7, .bool true, uv x, uv y] w fun e w' => e = .returned (.bool (PlainBranch.holds 7 true x y)) ∧ Below w.heap.size w w' := by
  have hs : PlainBranch.holds 7 true x y = PlainBranch.signedC 7 (S x) (S y) := by simp [PlainBranch.holds, S]
  go_enter Tryd.func68, Tryd.ntmps68
  go_wp2
  go_ret
  exact ⟨by simp [hs, PlainBranch.signedC], (by repeat (first | (with_reducible exact Bl_refl _) | with_reducible apply Bl_alloc | with_reducible apply Bl_drew | with_reducible apply Bl_drewN | (with_reducible refine Bl_set ?_ (by first | omega | (simp; done) | (simp; omega)) _) | (with_reducible refine Bl_trans ?_ (by assumption))))⟩
set_option maxRecDepth 100000 in
set_option maxHeartbeats 1600000 in
theorem hol_12_false (x y : W) (w : World) : Calls Tryd.prog 68 #[.int .i64 12, .bool false, uv x, uv y] w fun e w' => e = .returned (.bool (PlainBranch.holds 12 false x y)) ∧ Below w.heap.size w w' := by
  have a1 := u_of_u32B x
  have a2 := u_of_u32B y
  have a3 := u64_TB (PlainScalar.low4 x)
  have a4 := u64_TB (PlainScalar.low4 y)
  have a5 := i32_of_uB x
  have a6 := i32_of_uB y
  have a7 := i64_S (x32 x)
  have a8 := i64_S (x32 y)
  have a9 := w64_S (x32 x)
  have a10 := w64_S (x32 y)
  have hs : PlainBranch.holds 12 false x y = PlainBranch.signedC 12 (S (x32 x)) (S (x32 y)) := by simp [PlainBranch.holds, S_x32]
  go_enter Tryd.func68, Tryd.ntmps68
  go_wp2
  go_ret
  exact ⟨by simp [hs, PlainBranch.signedC], (by repeat (first | (with_reducible exact Bl_refl _) | with_reducible apply Bl_alloc | with_reducible apply Bl_drew | with_reducible apply Bl_drewN | (with_reducible refine Bl_set ?_ (by first | omega | (simp; done) | (simp; omega)) _) | (with_reducible refine Bl_trans ?_ (by assumption))))⟩
set_option maxRecDepth 100000 in
set_option maxHeartbeats 1600000 in
theorem hol_12_true (x y : W) (w : World) : Calls Tryd.prog 68 #[.int .i64 12, .bool true, uv x, uv y] w fun e w' => e = .returned (.bool (PlainBranch.holds 12 true x y)) ∧ Below w.heap.size w w' := by
  have hs : PlainBranch.holds 12 true x y = PlainBranch.signedC 12 (S x) (S y) := by simp [PlainBranch.holds, S]
  go_enter Tryd.func68, Tryd.ntmps68
  go_wp2
  go_ret
  exact ⟨by simp [hs, PlainBranch.signedC], (by repeat (first | (with_reducible exact Bl_refl _) | with_reducible apply Bl_alloc | with_reducible apply Bl_drew | with_reducible apply Bl_drewN | (with_reducible refine Bl_set ?_ (by first | omega | (simp; done) | (simp; omega)) _) | (with_reducible refine Bl_trans ?_ (by assumption))))⟩
set_option maxRecDepth 100000 in
set_option maxHeartbeats 1600000 in
theorem hol_13_false (x y : W) (w : World) : Calls Tryd.prog 68 #[.int .i64 13, .bool false, uv x, uv y] w fun e w' => e = .returned (.bool (PlainBranch.holds 13 false x y)) ∧ Below w.heap.size w w' := by
  have a1 := u_of_u32B x
  have a2 := u_of_u32B y
  have a3 := u64_TB (PlainScalar.low4 x)
  have a4 := u64_TB (PlainScalar.low4 y)
  have a5 := i32_of_uB x
  have a6 := i32_of_uB y
  have a7 := i64_S (x32 x)
  have a8 := i64_S (x32 y)
  have a9 := w64_S (x32 x)
  have a10 := w64_S (x32 y)
  have hs : PlainBranch.holds 13 false x y = PlainBranch.signedC 13 (S (x32 x)) (S (x32 y)) := by simp [PlainBranch.holds, S_x32]
  go_enter Tryd.func68, Tryd.ntmps68
  go_wp2
  go_ret
  exact ⟨by simp [hs, PlainBranch.signedC], (by repeat (first | (with_reducible exact Bl_refl _) | with_reducible apply Bl_alloc | with_reducible apply Bl_drew | with_reducible apply Bl_drewN | (with_reducible refine Bl_set ?_ (by first | omega | (simp; done) | (simp; omega)) _) | (with_reducible refine Bl_trans ?_ (by assumption))))⟩
set_option maxRecDepth 100000 in
set_option maxHeartbeats 1600000 in
theorem hol_13_true (x y : W) (w : World) : Calls Tryd.prog 68 #[.int .i64 13, .bool true, uv x, uv y] w fun e w' => e = .returned (.bool (PlainBranch.holds 13 true x y)) ∧ Below w.heap.size w w' := by
  have hs : PlainBranch.holds 13 true x y = PlainBranch.signedC 13 (S x) (S y) := by simp [PlainBranch.holds, S]
  go_enter Tryd.func68, Tryd.ntmps68
  go_wp2
  go_ret
  exact ⟨by simp [hs, PlainBranch.signedC], (by repeat (first | (with_reducible exact Bl_refl _) | with_reducible apply Bl_alloc | with_reducible apply Bl_drew | with_reducible apply Bl_drewN | (with_reducible refine Bl_set ?_ (by first | omega | (simp; done) | (simp; omega)) _) | (with_reducible refine Bl_trans ?_ (by assumption))))⟩
set_option maxRecDepth 100000 in
set_option maxHeartbeats 1600000 in
theorem hol_op_false (op : Int) (h6 : ¬ op = 6) (h7 : ¬ op = 7) (h12 : ¬ op = 12) (h13 : ¬ op = 13) (x y : W) (w : World) : Calls Tryd.prog 68 #[.int .i64 op, .bool false, uv x, uv y] w fun e w' => e = .returned (.bool (PlainBranch.holds op false x y)) ∧ Below w.heap.size w w' := by
  have e6 : (op == 6) = false := by simpa using h6
  have e7 : (op == 7) = false := by simpa using h7
  have e12 : (op == 12) = false := by simpa using h12
  have e13 : (op == 13) = false := by simpa using h13
  have a1 := u_of_u32B x
  have a2 := u_of_u32B y
  have a3 := u64_TB (PlainScalar.low4 x)
  have a4 := u64_TB (PlainScalar.low4 y)
  have a5 := i32_of_uB x
  have a6 := i32_of_uB y
  have a7 := i64_S (x32 x)
  have a8 := i64_S (x32 y)
  have a9 := w64_S (x32 x)
  have a10 := w64_S (x32 y)
  go_enter Tryd.func68, Tryd.ntmps68
  go_wp2_with fail
  refine (uns_c op (PlainScalar.low4 x) (PlainScalar.low4 y) _).mono ?_
  rintro e w1 ⟨rfl, hb1⟩
  go_wp2
  go_ret
  exact ⟨by simp [PlainBranch.holds, h6, h7, h12, h13], (by repeat (first | (with_reducible exact Bl_refl _) | with_reducible apply Bl_alloc | with_reducible apply Bl_drew | with_reducible apply Bl_drewN | (with_reducible refine Bl_set ?_ (by first | omega | (simp; done) | (simp; omega)) _) | (with_reducible refine Bl_trans ?_ (by assumption))))⟩
set_option maxRecDepth 100000 in
set_option maxHeartbeats 1600000 in
theorem hol_op_true (op : Int) (h6 : ¬ op = 6) (h7 : ¬ op = 7) (h12 : ¬ op = 12) (h13 : ¬ op = 13) (x y : W) (w : World) : Calls Tryd.prog 68 #[.int .i64 op, .bool true, uv x, uv y] w fun e w' => e = .returned (.bool (PlainBranch.holds op true x y)) ∧ Below w.heap.size w w' := by
  have e6 : (op == 6) = false := by simpa using h6
  have e7 : (op == 7) = false := by simpa using h7
  have e12 : (op == 12) = false := by simpa using h12
  have e13 : (op == 13) = false := by simpa using h13
  go_enter Tryd.func68, Tryd.ntmps68
  go_wp2_with fail
  refine (uns_c op x y _).mono ?_
  rintro e w1 ⟨rfl, hb1⟩
  go_wp2
  go_ret
  exact ⟨by simp [PlainBranch.holds, h6, h7, h12, h13], (by repeat (first | (with_reducible exact Bl_refl _) | with_reducible apply Bl_alloc | with_reducible apply Bl_drew | with_reducible apply Bl_drewN | (with_reducible refine Bl_set ?_ (by first | omega | (simp; done) | (simp; omega)) _) | (with_reducible refine Bl_trans ?_ (by assumption))))⟩
theorem holds_c (op : Int) (l : Bool) (x y : W) (w : World) : Calls Tryd.prog 68 #[.int .i64 op, .bool l, uv x, uv y] w fun e w' => e = .returned (.bool (PlainBranch.holds op l x y)) ∧ Below w.heap.size w w' := by
  cases l
  · by_cases h6 : op = 6
    · subst h6; exact hol_6_false x y w
    by_cases h7 : op = 7
    · subst h7; exact hol_7_false x y w
    by_cases h12 : op = 12
    · subst h12; exact hol_12_false x y w
    by_cases h13 : op = 13
    · subst h13; exact hol_13_false x y w
    exact hol_op_false op h6 h7 h12 h13 x y w
  · by_cases h6 : op = 6
    · subst h6; exact hol_6_true x y w
    by_cases h7 : op = 7
    · subst h7; exact hol_7_true x y w
    by_cases h12 : op = 12
    · subst h12; exact hol_12_true x y w
    by_cases h13 : op = 13
    · subst h13; exact hol_13_true x y w
    exact hol_op_true op h6 h7 h12 h13 x y w
set_option maxRecDepth 100000 in
set_option maxHeartbeats 1600000 in
theorem opp_1  (w : World) : Calls Tryd.prog 71 #[.int .i64 1] w fun e w' => e = .returned (.int .i64 (PlainBranch.opposite 1)) ∧ Below w.heap.size w w' := by
  go_enter Tryd.func71, Tryd.ntmps71
  go_wp2
  go_ret
  exact ⟨by simp [PlainBranch.opposite], (by repeat (first | (with_reducible exact Bl_refl _) | with_reducible apply Bl_alloc | with_reducible apply Bl_drew | with_reducible apply Bl_drewN | (with_reducible refine Bl_set ?_ (by first | omega | (simp; done) | (simp; omega)) _) | (with_reducible refine Bl_trans ?_ (by assumption))))⟩
set_option maxRecDepth 100000 in
set_option maxHeartbeats 1600000 in
theorem opp_5  (w : World) : Calls Tryd.prog 71 #[.int .i64 5] w fun e w' => e = .returned (.int .i64 (PlainBranch.opposite 5)) ∧ Below w.heap.size w w' := by
  go_enter Tryd.func71, Tryd.ntmps71
  go_wp2
  go_ret
  exact ⟨by simp [PlainBranch.opposite], (by repeat (first | (with_reducible exact Bl_refl _) | with_reducible apply Bl_alloc | with_reducible apply Bl_drew | with_reducible apply Bl_drewN | (with_reducible refine Bl_set ?_ (by first | omega | (simp; done) | (simp; omega)) _) | (with_reducible refine Bl_trans ?_ (by assumption))))⟩
set_option maxRecDepth 100000 in
set_option maxHeartbeats 1600000 in
theorem opp_2  (w : World) : Calls Tryd.prog 71 #[.int .i64 2] w fun e w' => e = .returned (.int .i64 (PlainBranch.opposite 2)) ∧ Below w.heap.size w w' := by
  go_enter Tryd.func71, Tryd.ntmps71
  go_wp2
  go_ret
  exact ⟨by simp [PlainBranch.opposite], (by repeat (first | (with_reducible exact Bl_refl _) | with_reducible apply Bl_alloc | with_reducible apply Bl_drew | with_reducible apply Bl_drewN | (with_reducible refine Bl_set ?_ (by first | omega | (simp; done) | (simp; omega)) _) | (with_reducible refine Bl_trans ?_ (by assumption))))⟩
set_option maxRecDepth 100000 in
set_option maxHeartbeats 1600000 in
theorem opp_11  (w : World) : Calls Tryd.prog 71 #[.int .i64 11] w fun e w' => e = .returned (.int .i64 (PlainBranch.opposite 11)) ∧ Below w.heap.size w w' := by
  go_enter Tryd.func71, Tryd.ntmps71
  go_wp2
  go_ret
  exact ⟨by simp [PlainBranch.opposite], (by repeat (first | (with_reducible exact Bl_refl _) | with_reducible apply Bl_alloc | with_reducible apply Bl_drew | with_reducible apply Bl_drewN | (with_reducible refine Bl_set ?_ (by first | omega | (simp; done) | (simp; omega)) _) | (with_reducible refine Bl_trans ?_ (by assumption))))⟩
set_option maxRecDepth 100000 in
set_option maxHeartbeats 1600000 in
theorem opp_10  (w : World) : Calls Tryd.prog 71 #[.int .i64 10] w fun e w' => e = .returned (.int .i64 (PlainBranch.opposite 10)) ∧ Below w.heap.size w w' := by
  go_enter Tryd.func71, Tryd.ntmps71
  go_wp2
  go_ret
  exact ⟨by simp [PlainBranch.opposite], (by repeat (first | (with_reducible exact Bl_refl _) | with_reducible apply Bl_alloc | with_reducible apply Bl_drew | with_reducible apply Bl_drewN | (with_reducible refine Bl_set ?_ (by first | omega | (simp; done) | (simp; omega)) _) | (with_reducible refine Bl_trans ?_ (by assumption))))⟩
set_option maxRecDepth 100000 in
set_option maxHeartbeats 1600000 in
theorem opp_3  (w : World) : Calls Tryd.prog 71 #[.int .i64 3] w fun e w' => e = .returned (.int .i64 (PlainBranch.opposite 3)) ∧ Below w.heap.size w w' := by
  go_enter Tryd.func71, Tryd.ntmps71
  go_wp2
  go_ret
  exact ⟨by simp [PlainBranch.opposite], (by repeat (first | (with_reducible exact Bl_refl _) | with_reducible apply Bl_alloc | with_reducible apply Bl_drew | with_reducible apply Bl_drewN | (with_reducible refine Bl_set ?_ (by first | omega | (simp; done) | (simp; omega)) _) | (with_reducible refine Bl_trans ?_ (by assumption))))⟩
set_option maxRecDepth 100000 in
set_option maxHeartbeats 1600000 in
theorem opp_6  (w : World) : Calls Tryd.prog 71 #[.int .i64 6] w fun e w' => e = .returned (.int .i64 (PlainBranch.opposite 6)) ∧ Below w.heap.size w w' := by
  go_enter Tryd.func71, Tryd.ntmps71
  go_wp2
  go_ret
  exact ⟨by simp [PlainBranch.opposite], (by repeat (first | (with_reducible exact Bl_refl _) | with_reducible apply Bl_alloc | with_reducible apply Bl_drew | with_reducible apply Bl_drewN | (with_reducible refine Bl_set ?_ (by first | omega | (simp; done) | (simp; omega)) _) | (with_reducible refine Bl_trans ?_ (by assumption))))⟩
set_option maxRecDepth 100000 in
set_option maxHeartbeats 1600000 in
theorem opp_13  (w : World) : Calls Tryd.prog 71 #[.int .i64 13] w fun e w' => e = .returned (.int .i64 (PlainBranch.opposite 13)) ∧ Below w.heap.size w w' := by
  go_enter Tryd.func71, Tryd.ntmps71
  go_wp2
  go_ret
  exact ⟨by simp [PlainBranch.opposite], (by repeat (first | (with_reducible exact Bl_refl _) | with_reducible apply Bl_alloc | with_reducible apply Bl_drew | with_reducible apply Bl_drewN | (with_reducible refine Bl_set ?_ (by first | omega | (simp; done) | (simp; omega)) _) | (with_reducible refine Bl_trans ?_ (by assumption))))⟩
set_option maxRecDepth 100000 in
set_option maxHeartbeats 1600000 in
theorem opp_12  (w : World) : Calls Tryd.prog 71 #[.int .i64 12] w fun e w' => e = .returned (.int .i64 (PlainBranch.opposite 12)) ∧ Below w.heap.size w w' := by
  go_enter Tryd.func71, Tryd.ntmps71
  go_wp2
  go_ret
  exact ⟨by simp [PlainBranch.opposite], (by repeat (first | (with_reducible exact Bl_refl _) | with_reducible apply Bl_alloc | with_reducible apply Bl_drew | with_reducible apply Bl_drewN | (with_reducible refine Bl_set ?_ (by first | omega | (simp; done) | (simp; omega)) _) | (with_reducible refine Bl_trans ?_ (by assumption))))⟩
set_option maxRecDepth 100000 in
set_option maxHeartbeats 1600000 in
theorem opp_7  (w : World) : Calls Tryd.prog 71 #[.int .i64 7] w fun e w' => e = .returned (.int .i64 (PlainBranch.opposite 7)) ∧ Below w.heap.size w w' := by
  go_enter Tryd.func71, Tryd.ntmps71
  go_wp2
  go_ret
  exact ⟨by simp [PlainBranch.opposite], (by repeat (first | (with_reducible exact Bl_refl _) | with_reducible apply Bl_alloc | with_reducible apply Bl_drew | with_reducible apply Bl_drewN | (with_reducible refine Bl_set ?_ (by first | omega | (simp; done) | (simp; omega)) _) | (with_reducible refine Bl_trans ?_ (by assumption))))⟩
set_option maxRecDepth 100000 in
set_option maxHeartbeats 1600000 in
theorem opp_op (op : Int) (h1 : ¬ op = 1) (h5 : ¬ op = 5) (h2 : ¬ op = 2) (h11 : ¬ op = 11) (h10 : ¬ op = 10) (h3 : ¬ op = 3) (h6 : ¬ op = 6) (h13 : ¬ op = 13) (h12 : ¬ op = 12) (h7 : ¬ op = 7) (w : World) : Calls Tryd.prog 71 #[.int .i64 op] w fun e w' => e = .returned (.int .i64 (PlainBranch.opposite op)) ∧ Below w.heap.size w w' := by
  have e1 : (op == 1) = false := by simpa using h1
  have e5 : (op == 5) = false := by simpa using h5
  have e2 : (op == 2) = false := by simpa using h2
  have e11 : (op == 11) = false := by simpa using h11
  have e10 : (op == 10) = false := by simpa using h10
  have e3 : (op == 3) = false := by simpa using h3
  have e6 : (op == 6) = false := by simpa using h6
  have e13 : (op == 13) = false := by simpa using h13
  have e12 : (op == 12) = false := by simpa using h12
  have e7 : (op == 7) = false := by simpa using h7
  go_enter Tryd.func71, Tryd.ntmps71
  go_wp2
  go_ret
  exact ⟨by simp [PlainBranch.opposite, h1, h5, h2, h11, h10, h3, h6, h13, h12, h7], (by repeat (first | (with_reducible exact Bl_refl _) | with_reducible apply Bl_alloc | with_reducible apply Bl_drew | with_reducible apply Bl_drewN | (with_reducible refine Bl_set ?_ (by first | omega | (simp; done) | (simp; omega)) _) | (with_reducible refine Bl_trans ?_ (by assumption))))⟩
theorem opposite_c (op : Int)  (w : World) : Calls Tryd.prog 71 #[.int .i64 op] w fun e w' => e = .returned (.int .i64 (PlainBranch.opposite op)) ∧ Below w.heap.size w w' := by
  by_cases h1 : op = 1
  · subst h1; exact opp_1  w
  by_cases h5 : op = 5
  · subst h5; exact opp_5  w
  by_cases h2 : op = 2
  · subst h2; exact opp_2  w
  by_cases h11 : op = 11
  · subst h11; exact opp_11  w
  by_cases h10 : op = 10
  · subst h10; exact opp_10  w
  by_cases h3 : op = 3
  · subst h3; exact opp_3  w
  by_cases h6 : op = 6
  · subst h6; exact opp_6  w
  by_cases h13 : op = 13
  · subst h13; exact opp_13  w
  by_cases h12 : op = 12
  · subst h12; exact opp_12  w
  by_cases h7 : op = 7
  · subst h7; exact opp_7  w
  exact opp_op op h1 h5 h2 h11 h10 h3 h6 h13 h12 h7  w
/-- Two ranges as a value. -/
abbrev pv2 (a b : Rng) : Value := .agg #[uv a.b.v, uv a.b.m, uv a.lo, uv a.hi, sv a.sl, sv a.sh, uv b.b.v, uv b.b.m, uv b.lo, uv b.hi, sv b.sl, sv b.sh]
/-- Two ranges, and whether they are right. -/
abbrev tv (R : PlainBranch.Pair × Bool) : Value := .tuple #[pv2 R.1.1 R.1.2, .bool R.2]
theorem T_beqAll (x : W) : (T x == 18446744073709551615) = (x == BitVec.allOnes 64) := by rw [← T_beq]; rfl
set_option maxRecDepth 100000 in
set_option maxHeartbeats 3200000 in
theorem swapped_c (a b : Rng) (w : World) : Calls Tryd.prog 101 #[pv2 a b] w fun e w' => e = .returned (pv2 b a) ∧ Below w.heap.size w w' := by
  go_enter Tryd.func101, Tryd.ntmps101
  go_upto_region 1 with fail
  obtain ⟨gp, hgp⟩ : ∃ g, g = w.heap.size := ⟨_, rfl⟩
  obtain ⟨gr, hgr⟩ : ∃ g, g = w.heap.size + 1 := ⟨_, rfl⟩
  have Bp : Blk ((w.alloc (.cells #[uv a.b.v, uv a.b.m, uv a.lo, uv a.hi, sv a.sl, sv a.sh, uv b.b.v, uv b.b.m, uv b.lo, uv b.hi, sv b.sl, sv b.sh] 83)).alloc (.cells #[.int .u64 0, .int .u64 0, .int .u64 0, .int .u64 0, .int .i64 0, .int .i64 0, .int .u64 0, .int .u64 0, .int .u64 0, .int .u64 0, .int .i64 0, .int .i64 0] 83)) (w.heap.size) 83 #[uv a.b.v, uv a.b.m, uv a.lo, uv a.hi, sv a.sl, sv a.sh, uv b.b.v, uv b.b.m, uv b.lo, uv b.hi, sv b.sl, sv b.sh] := ((Blk.new w 83 #[uv a.b.v, uv a.b.m, uv a.lo, uv a.hi, sv a.sl, sv a.sh, uv b.b.v, uv b.b.m, uv b.lo, uv b.hi, sv b.sl, sv b.sh])).alloc _
  have Br : Blk ((w.alloc (.cells #[uv a.b.v, uv a.b.m, uv a.lo, uv a.hi, sv a.sl, sv a.sh, uv b.b.v, uv b.b.m, uv b.lo, uv b.hi, sv b.sl, sv b.sh] 83)).alloc (.cells #[.int .u64 0, .int .u64 0, .int .u64 0, .int .u64 0, .int .i64 0, .int .i64 0, .int .u64 0, .int .u64 0, .int .u64 0, .int .u64 0, .int .i64 0, .int .i64 0] 83)) (w.heap.size + 1) 83 #[.int .u64 0, .int .u64 0, .int .u64 0, .int .u64 0, .int .i64 0, .int .i64 0, .int .u64 0, .int .u64 0, .int .u64 0, .int .u64 0, .int .i64 0, .int .i64 0] := (by simpa using Blk.new (w.alloc (.cells #[uv a.b.v, uv a.b.m, uv a.lo, uv a.hi, sv a.sl, sv a.sh, uv b.b.v, uv b.b.m, uv b.lo, uv b.hi, sv b.sl, sv b.sh] 83)) 83 #[.int .u64 0, .int .u64 0, .int .u64 0, .int .u64 0, .int .i64 0, .int .i64 0, .int .u64 0, .int .u64 0, .int .u64 0, .int .u64 0, .int .i64 0, .int .i64 0] : Blk _ (w.heap.size + 1) 83 #[.int .u64 0, .int .u64 0, .int .u64 0, .int .u64 0, .int .i64 0, .int .i64 0, .int .u64 0, .int .u64 0, .int .u64 0, .int .u64 0, .int .i64 0, .int .i64 0])
  have hB : Below w.heap.size w ((w.alloc (.cells #[uv a.b.v, uv a.b.m, uv a.lo, uv a.hi, sv a.sl, sv a.sh, uv b.b.v, uv b.b.m, uv b.lo, uv b.hi, sv b.sl, sv b.sh] 83)).alloc (.cells #[.int .u64 0, .int .u64 0, .int .u64 0, .int .u64 0, .int .i64 0, .int .i64 0, .int .u64 0, .int .u64 0, .int .u64 0, .int .u64 0, .int .i64 0, .int .i64 0] 83)) := (Bl_alloc (Bl_alloc (Bl_refl w) _) _)
  clear hgp
  clear gp
  clear hgr
  clear gr
  generalize ((w.alloc (.cells #[uv a.b.v, uv a.b.m, uv a.lo, uv a.hi, sv a.sl, sv a.sh, uv b.b.v, uv b.b.m, uv b.lo, uv b.hi, sv b.sl, sv b.sh] 83)).alloc (.cells #[.int .u64 0, .int .u64 0, .int .u64 0, .int .u64 0, .int .i64 0, .int .i64 0, .int .u64 0, .int .u64 0, .int .u64 0, .int .u64 0, .int .i64 0, .int .i64 0] 83)) = w1 at *
  obtain ⟨cp0, cp1, cp2, cp3, cp4, cp5, cp6, cp7, cp8, cp9, cp10, cp11⟩ := cells12 Bp
  have fp := Bp.frozen; have lp := Bp.lt
  obtain ⟨cr0, cr1, cr2, cr3, cr4, cr5, cr6, cr7, cr8, cr9, cr10, cr11⟩ := cells12 Br
  have fr := Br.frozen; have lr := Br.lt
  go_wp2
  exact bodyPost_ret (v := pv2 b a) (by simp [results, Tryd.results101, go_sem, cp0, cp1, cp2, cp3, cp4, cp5, cp6, cp7, cp8, cp9, cp10, cp11, cr0, cr1, cr2, cr3, cr4, cr5, cr6, cr7, cr8, cr9, cr10, cr11, lp, lr]) rfl ⟨rfl, by repeat (first | (with_reducible exact hB) | (with_reducible refine Bl_set ?_ (by first | omega | (simp; done) | (simp; omega)) _) | with_reducible apply Bl_alloc)⟩
set_option maxRecDepth 100000 in
set_option maxHeartbeats 3200000 in
theorem psettle_c (a b : Rng) (w : World) : Calls Tryd.prog 66 #[pv2 a b] w fun e w' => e = .returned (tv (PlainBranch.settleP (a, b))) ∧ Below w.heap.size w w' := by
  obtain ⟨sa, e_sa⟩ : ∃ z' : Rng, z' = (PlainScalar.settle a).1 := ⟨_, rfl⟩
  obtain ⟨oa, e_oa⟩ : ∃ z' : Bool, z' = (PlainScalar.settle a).2 := ⟨_, rfl⟩
  have k_a : ∀ w : World, Calls Tryd.prog 64 #[rv a] w fun e w' => e = .returned (.tuple #[rv sa, .bool oa]) ∧ Below w.heap.size w w' := fun w => by rw [e_sa, e_oa]; exact settle_c a w
  obtain ⟨sb, e_sb⟩ : ∃ z' : Rng, z' = (PlainScalar.settle b).1 := ⟨_, rfl⟩
  obtain ⟨ob, e_ob⟩ : ∃ z' : Bool, z' = (PlainScalar.settle b).2 := ⟨_, rfl⟩
  have k_b : ∀ w : World, Calls Tryd.prog 64 #[rv b] w fun e w' => e = .returned (.tuple #[rv sb, .bool ob]) ∧ Below w.heap.size w w' := fun w => by rw [e_sb, e_ob]; exact settle_c b w
  have hs : PlainBranch.settleP (a, b) = ((sa, sb), oa && ob) := by rw [e_sa, e_sb, e_oa, e_ob]; rfl
  clear e_sa e_sb e_oa e_ob
  cases oa
  · go_enter Tryd.func66, Tryd.ntmps66
    go_wp2_with fail
    obtain ⟨gp, hgp⟩ : ∃ g, g = w.heap.size := ⟨_, rfl⟩
    obtain ⟨gr, hgr⟩ : ∃ g, g = w.heap.size + 1 := ⟨_, rfl⟩
    have Bp : Blk ((w.alloc (.cells #[uv a.b.v, uv a.b.m, uv a.lo, uv a.hi, sv a.sl, sv a.sh, uv b.b.v, uv b.b.m, uv b.lo, uv b.hi, sv b.sl, sv b.sh] 83)).alloc (.cells #[.int .u64 0, .int .u64 0, .int .u64 0, .int .u64 0, .int .i64 0, .int .i64 0, .int .u64 0, .int .u64 0, .int .u64 0, .int .u64 0, .int .i64 0, .int .i64 0] 83)) (w.heap.size) 83 #[uv a.b.v, uv a.b.m, uv a.lo, uv a.hi, sv a.sl, sv a.sh, uv b.b.v, uv b.b.m, uv b.lo, uv b.hi, sv b.sl, sv b.sh] := ((Blk.new w 83 #[uv a.b.v, uv a.b.m, uv a.lo, uv a.hi, sv a.sl, sv a.sh, uv b.b.v, uv b.b.m, uv b.lo, uv b.hi, sv b.sl, sv b.sh])).alloc _
    have Br : Blk ((w.alloc (.cells #[uv a.b.v, uv a.b.m, uv a.lo, uv a.hi, sv a.sl, sv a.sh, uv b.b.v, uv b.b.m, uv b.lo, uv b.hi, sv b.sl, sv b.sh] 83)).alloc (.cells #[.int .u64 0, .int .u64 0, .int .u64 0, .int .u64 0, .int .i64 0, .int .i64 0, .int .u64 0, .int .u64 0, .int .u64 0, .int .u64 0, .int .i64 0, .int .i64 0] 83)) (w.heap.size + 1) 83 #[.int .u64 0, .int .u64 0, .int .u64 0, .int .u64 0, .int .i64 0, .int .i64 0, .int .u64 0, .int .u64 0, .int .u64 0, .int .u64 0, .int .i64 0, .int .i64 0] := (by simpa using Blk.new (w.alloc (.cells #[uv a.b.v, uv a.b.m, uv a.lo, uv a.hi, sv a.sl, sv a.sh, uv b.b.v, uv b.b.m, uv b.lo, uv b.hi, sv b.sl, sv b.sh] 83)) 83 #[.int .u64 0, .int .u64 0, .int .u64 0, .int .u64 0, .int .i64 0, .int .i64 0, .int .u64 0, .int .u64 0, .int .u64 0, .int .u64 0, .int .i64 0, .int .i64 0] : Blk _ (w.heap.size + 1) 83 #[.int .u64 0, .int .u64 0, .int .u64 0, .int .u64 0, .int .i64 0, .int .i64 0, .int .u64 0, .int .u64 0, .int .u64 0, .int .u64 0, .int .i64 0, .int .i64 0])
    have hB : Below w.heap.size w ((w.alloc (.cells #[uv a.b.v, uv a.b.m, uv a.lo, uv a.hi, sv a.sl, sv a.sh, uv b.b.v, uv b.b.m, uv b.lo, uv b.hi, sv b.sl, sv b.sh] 83)).alloc (.cells #[.int .u64 0, .int .u64 0, .int .u64 0, .int .u64 0, .int .i64 0, .int .i64 0, .int .u64 0, .int .u64 0, .int .u64 0, .int .u64 0, .int .i64 0, .int .i64 0] 83)) := (Bl_alloc (Bl_alloc (Bl_refl w) _) _)
    clear hgp
    clear gp
    clear hgr
    clear gr
    generalize ((w.alloc (.cells #[uv a.b.v, uv a.b.m, uv a.lo, uv a.hi, sv a.sl, sv a.sh, uv b.b.v, uv b.b.m, uv b.lo, uv b.hi, sv b.sl, sv b.sh] 83)).alloc (.cells #[.int .u64 0, .int .u64 0, .int .u64 0, .int .u64 0, .int .i64 0, .int .i64 0, .int .u64 0, .int .u64 0, .int .u64 0, .int .u64 0, .int .i64 0, .int .i64 0] 83)) = w1 at *
    obtain ⟨cp0, cp1, cp2, cp3, cp4, cp5, cp6, cp7, cp8, cp9, cp10, cp11⟩ := cells12 Bp
    have fp := Bp.frozen; have lp := Bp.lt
    obtain ⟨cr0, cr1, cr2, cr3, cr4, cr5, cr6, cr7, cr8, cr9, cr10, cr11⟩ := cells12 Br
    have fr := Br.frozen; have lr := Br.lt
    go_wp2_with fail
    refine (k_a _).mono ?_
    rintro e w2 ⟨rfl, hb⟩
    clear cp0 cp1 cp2 cp3 cp4 cp5 cp6 cp7 cp8 cp9 cp10 cp11 fp lp
    clear cr0 cr1 cr2 cr3 cr4 cr5 cr6 cr7 cr8 cr9 cr10 cr11 fr lr
    replace Bp := (Bp).next hb
    replace Br := (Br).next hb
    replace hB : Below w.heap.size w w2 := by repeat (first | exact hB | (refine Bl_set ?_ (by first | omega | (simp; omega)) _) | apply Bl_alloc | (refine Bl_trans ?_ hb))
    clear hb
    obtain ⟨cp0, cp1, cp2, cp3, cp4, cp5, cp6, cp7, cp8, cp9, cp10, cp11⟩ := cells12 Bp
    have fp := Bp.frozen; have lp := Bp.lt
    obtain ⟨cr0, cr1, cr2, cr3, cr4, cr5, cr6, cr7, cr8, cr9, cr10, cr11⟩ := cells12 Br
    have fr := Br.frozen; have lr := Br.lt
    go_upto_region 2 with fail
    clear cp0 cp1 cp2 cp3 cp4 cp5 cp6 cp7 cp8 cp9 cp10 cp11 fp lp
    clear cr0 cr1 cr2 cr3 cr4 cr5 cr6 cr7 cr8 cr9 cr10 cr11 fr lr
    have Bx := Blk.new w2 43 #[uv sa.b.v, uv sa.b.m, uv sa.lo, uv sa.hi, sv sa.sl, sv sa.sh]
    have hgx := hB.size
    have hnpx := Nat.ne_of_lt Bp.lt; have hltpx := Bp.lt
    have hnrx := Nat.ne_of_lt Br.lt; have hltrx := Br.lt
    replace Bp : Blk (w2.alloc (.cells #[uv sa.b.v, uv sa.b.m, uv sa.lo, uv sa.hi, sv sa.sl, sv sa.sh] 43)) (w.heap.size) 83 #[uv a.b.v, uv a.b.m, uv a.lo, uv a.hi, sv a.sl, sv a.sh, uv b.b.v, uv b.b.m, uv b.lo, uv b.hi, sv b.sl, sv b.sh] := Bp.alloc _
    replace Br : Blk (w2.alloc (.cells #[uv sa.b.v, uv sa.b.m, uv sa.lo, uv sa.hi, sv sa.sl, sv sa.sh] 43)) (w.heap.size + 1) 83 #[.int .u64 0, .int .u64 0, .int .u64 0, .int .u64 0, .int .i64 0, .int .i64 0, .int .u64 0, .int .u64 0, .int .u64 0, .int .u64 0, .int .i64 0, .int .i64 0] := Br.alloc _
    replace hB : Below w.heap.size w (w2.alloc (.cells #[uv sa.b.v, uv sa.b.m, uv sa.lo, uv sa.hi, sv sa.sl, sv sa.sh] 43)) := Bl_alloc hB _
    generalize (w2.alloc (.cells #[uv sa.b.v, uv sa.b.m, uv sa.lo, uv sa.hi, sv sa.sl, sv sa.sh] 43)) = w3 at *
    generalize w2.heap.size = gx at *
    obtain ⟨cp0, cp1, cp2, cp3, cp4, cp5, cp6, cp7, cp8, cp9, cp10, cp11⟩ := cells12 Bp
    have fp := Bp.frozen; have lp := Bp.lt
    obtain ⟨cr0, cr1, cr2, cr3, cr4, cr5, cr6, cr7, cr8, cr9, cr10, cr11⟩ := cells12 Br
    have fr := Br.frozen; have lr := Br.lt
    obtain ⟨cx0, cx1, cx2, cx3, cx4, cx5⟩ := cells6 Bx
    have fx := Bx.frozen; have lx := Bx.lt
    go_wp2_with fail
    refine (k_b _).mono ?_
    rintro e w4 ⟨rfl, hb⟩
    clear cp0 cp1 cp2 cp3 cp4 cp5 cp6 cp7 cp8 cp9 cp10 cp11 fp lp
    clear cr0 cr1 cr2 cr3 cr4 cr5 cr6 cr7 cr8 cr9 cr10 cr11 fr lr
    clear cx0 cx1 cx2 cx3 cx4 cx5 fx lx
    replace Bp := (Bp).next hb
    replace Br := (Br).next hb
    replace Bx := (Bx).next hb
    replace hB : Below w.heap.size w w4 := by repeat (first | exact hB | (refine Bl_set ?_ (by first | omega | (simp; omega)) _) | apply Bl_alloc | (refine Bl_trans ?_ hb))
    clear hb
    obtain ⟨cp0, cp1, cp2, cp3, cp4, cp5, cp6, cp7, cp8, cp9, cp10, cp11⟩ := cells12 Bp
    have fp := Bp.frozen; have lp := Bp.lt
    obtain ⟨cr0, cr1, cr2, cr3, cr4, cr5, cr6, cr7, cr8, cr9, cr10, cr11⟩ := cells12 Br
    have fr := Br.frozen; have lr := Br.lt
    obtain ⟨cx0, cx1, cx2, cx3, cx4, cx5⟩ := cells6 Bx
    have fx := Bx.frozen; have lx := Bx.lt
    go_upto_region 3 with fail
    clear cp0 cp1 cp2 cp3 cp4 cp5 cp6 cp7 cp8 cp9 cp10 cp11 fp lp
    clear cr0 cr1 cr2 cr3 cr4 cr5 cr6 cr7 cr8 cr9 cr10 cr11 fr lr
    clear cx0 cx1 cx2 cx3 cx4 cx5 fx lx
    have By := Blk.new w4 43 #[uv sb.b.v, uv sb.b.m, uv sb.lo, uv sb.hi, sv sb.sl, sv sb.sh]
    have hgy := hB.size
    have hnpy := Nat.ne_of_lt Bp.lt; have hltpy := Bp.lt
    have hnry := Nat.ne_of_lt Br.lt; have hltry := Br.lt
    have hnxy := Nat.ne_of_lt Bx.lt; have hltxy := Bx.lt
    replace Bp : Blk (w4.alloc (.cells #[uv sb.b.v, uv sb.b.m, uv sb.lo, uv sb.hi, sv sb.sl, sv sb.sh] 43)) (w.heap.size) 83 #[uv a.b.v, uv a.b.m, uv a.lo, uv a.hi, sv a.sl, sv a.sh, uv b.b.v, uv b.b.m, uv b.lo, uv b.hi, sv b.sl, sv b.sh] := Bp.alloc _
    replace Br : Blk (w4.alloc (.cells #[uv sb.b.v, uv sb.b.m, uv sb.lo, uv sb.hi, sv sb.sl, sv sb.sh] 43)) (w.heap.size + 1) 83 #[.int .u64 0, .int .u64 0, .int .u64 0, .int .u64 0, .int .i64 0, .int .i64 0, .int .u64 0, .int .u64 0, .int .u64 0, .int .u64 0, .int .i64 0, .int .i64 0] := Br.alloc _
    replace Bx : Blk (w4.alloc (.cells #[uv sb.b.v, uv sb.b.m, uv sb.lo, uv sb.hi, sv sb.sl, sv sb.sh] 43)) (gx) 43 #[uv sa.b.v, uv sa.b.m, uv sa.lo, uv sa.hi, sv sa.sl, sv sa.sh] := Bx.alloc _
    replace hB : Below w.heap.size w (w4.alloc (.cells #[uv sb.b.v, uv sb.b.m, uv sb.lo, uv sb.hi, sv sb.sl, sv sb.sh] 43)) := Bl_alloc hB _
    generalize (w4.alloc (.cells #[uv sb.b.v, uv sb.b.m, uv sb.lo, uv sb.hi, sv sb.sl, sv sb.sh] 43)) = w5 at *
    generalize w4.heap.size = gy at *
    obtain ⟨cp0, cp1, cp2, cp3, cp4, cp5, cp6, cp7, cp8, cp9, cp10, cp11⟩ := cells12 Bp
    have fp := Bp.frozen; have lp := Bp.lt
    obtain ⟨cr0, cr1, cr2, cr3, cr4, cr5, cr6, cr7, cr8, cr9, cr10, cr11⟩ := cells12 Br
    have fr := Br.frozen; have lr := Br.lt
    obtain ⟨cx0, cx1, cx2, cx3, cx4, cx5⟩ := cells6 Bx
    have fx := Bx.frozen; have lx := Bx.lt
    obtain ⟨cy0, cy1, cy2, cy3, cy4, cy5⟩ := cells6 By
    have fy := By.frozen; have ly := By.lt
    go_wp2
    exact bodyPost_ret (v := .tuple #[pv2 sa sb, .bool false]) (by simp [results, Tryd.results66, go_sem, cx0, cx1, cx2, cx3, cx4, cx5, cy0, cy1, cy2, cy3, cy4, cy5, cr0, cr1, cr2, cr3, cr4, cr5, cr6, cr7, cr8, cr9, cr10, cr11, lx, ly, lr]) rfl ⟨by rw [hs]; first | done | rfl, by repeat (first | (with_reducible exact hB) | (with_reducible refine Bl_set ?_ (by first | omega | (simp; done) | (simp; omega)) _) | with_reducible apply Bl_alloc)⟩
  · go_enter Tryd.func66, Tryd.ntmps66
    go_wp2_with fail
    obtain ⟨gp, hgp⟩ : ∃ g, g = w.heap.size := ⟨_, rfl⟩
    obtain ⟨gr, hgr⟩ : ∃ g, g = w.heap.size + 1 := ⟨_, rfl⟩
    have Bp : Blk ((w.alloc (.cells #[uv a.b.v, uv a.b.m, uv a.lo, uv a.hi, sv a.sl, sv a.sh, uv b.b.v, uv b.b.m, uv b.lo, uv b.hi, sv b.sl, sv b.sh] 83)).alloc (.cells #[.int .u64 0, .int .u64 0, .int .u64 0, .int .u64 0, .int .i64 0, .int .i64 0, .int .u64 0, .int .u64 0, .int .u64 0, .int .u64 0, .int .i64 0, .int .i64 0] 83)) (w.heap.size) 83 #[uv a.b.v, uv a.b.m, uv a.lo, uv a.hi, sv a.sl, sv a.sh, uv b.b.v, uv b.b.m, uv b.lo, uv b.hi, sv b.sl, sv b.sh] := ((Blk.new w 83 #[uv a.b.v, uv a.b.m, uv a.lo, uv a.hi, sv a.sl, sv a.sh, uv b.b.v, uv b.b.m, uv b.lo, uv b.hi, sv b.sl, sv b.sh])).alloc _
    have Br : Blk ((w.alloc (.cells #[uv a.b.v, uv a.b.m, uv a.lo, uv a.hi, sv a.sl, sv a.sh, uv b.b.v, uv b.b.m, uv b.lo, uv b.hi, sv b.sl, sv b.sh] 83)).alloc (.cells #[.int .u64 0, .int .u64 0, .int .u64 0, .int .u64 0, .int .i64 0, .int .i64 0, .int .u64 0, .int .u64 0, .int .u64 0, .int .u64 0, .int .i64 0, .int .i64 0] 83)) (w.heap.size + 1) 83 #[.int .u64 0, .int .u64 0, .int .u64 0, .int .u64 0, .int .i64 0, .int .i64 0, .int .u64 0, .int .u64 0, .int .u64 0, .int .u64 0, .int .i64 0, .int .i64 0] := (by simpa using Blk.new (w.alloc (.cells #[uv a.b.v, uv a.b.m, uv a.lo, uv a.hi, sv a.sl, sv a.sh, uv b.b.v, uv b.b.m, uv b.lo, uv b.hi, sv b.sl, sv b.sh] 83)) 83 #[.int .u64 0, .int .u64 0, .int .u64 0, .int .u64 0, .int .i64 0, .int .i64 0, .int .u64 0, .int .u64 0, .int .u64 0, .int .u64 0, .int .i64 0, .int .i64 0] : Blk _ (w.heap.size + 1) 83 #[.int .u64 0, .int .u64 0, .int .u64 0, .int .u64 0, .int .i64 0, .int .i64 0, .int .u64 0, .int .u64 0, .int .u64 0, .int .u64 0, .int .i64 0, .int .i64 0])
    have hB : Below w.heap.size w ((w.alloc (.cells #[uv a.b.v, uv a.b.m, uv a.lo, uv a.hi, sv a.sl, sv a.sh, uv b.b.v, uv b.b.m, uv b.lo, uv b.hi, sv b.sl, sv b.sh] 83)).alloc (.cells #[.int .u64 0, .int .u64 0, .int .u64 0, .int .u64 0, .int .i64 0, .int .i64 0, .int .u64 0, .int .u64 0, .int .u64 0, .int .u64 0, .int .i64 0, .int .i64 0] 83)) := (Bl_alloc (Bl_alloc (Bl_refl w) _) _)
    clear hgp
    clear gp
    clear hgr
    clear gr
    generalize ((w.alloc (.cells #[uv a.b.v, uv a.b.m, uv a.lo, uv a.hi, sv a.sl, sv a.sh, uv b.b.v, uv b.b.m, uv b.lo, uv b.hi, sv b.sl, sv b.sh] 83)).alloc (.cells #[.int .u64 0, .int .u64 0, .int .u64 0, .int .u64 0, .int .i64 0, .int .i64 0, .int .u64 0, .int .u64 0, .int .u64 0, .int .u64 0, .int .i64 0, .int .i64 0] 83)) = w1 at *
    obtain ⟨cp0, cp1, cp2, cp3, cp4, cp5, cp6, cp7, cp8, cp9, cp10, cp11⟩ := cells12 Bp
    have fp := Bp.frozen; have lp := Bp.lt
    obtain ⟨cr0, cr1, cr2, cr3, cr4, cr5, cr6, cr7, cr8, cr9, cr10, cr11⟩ := cells12 Br
    have fr := Br.frozen; have lr := Br.lt
    go_wp2_with fail
    refine (k_a _).mono ?_
    rintro e w2 ⟨rfl, hb⟩
    clear cp0 cp1 cp2 cp3 cp4 cp5 cp6 cp7 cp8 cp9 cp10 cp11 fp lp
    clear cr0 cr1 cr2 cr3 cr4 cr5 cr6 cr7 cr8 cr9 cr10 cr11 fr lr
    replace Bp := (Bp).next hb
    replace Br := (Br).next hb
    replace hB : Below w.heap.size w w2 := by repeat (first | exact hB | (refine Bl_set ?_ (by first | omega | (simp; omega)) _) | apply Bl_alloc | (refine Bl_trans ?_ hb))
    clear hb
    obtain ⟨cp0, cp1, cp2, cp3, cp4, cp5, cp6, cp7, cp8, cp9, cp10, cp11⟩ := cells12 Bp
    have fp := Bp.frozen; have lp := Bp.lt
    obtain ⟨cr0, cr1, cr2, cr3, cr4, cr5, cr6, cr7, cr8, cr9, cr10, cr11⟩ := cells12 Br
    have fr := Br.frozen; have lr := Br.lt
    go_upto_region 2 with fail
    clear cp0 cp1 cp2 cp3 cp4 cp5 cp6 cp7 cp8 cp9 cp10 cp11 fp lp
    clear cr0 cr1 cr2 cr3 cr4 cr5 cr6 cr7 cr8 cr9 cr10 cr11 fr lr
    have Bx := Blk.new w2 43 #[uv sa.b.v, uv sa.b.m, uv sa.lo, uv sa.hi, sv sa.sl, sv sa.sh]
    have hgx := hB.size
    have hnpx := Nat.ne_of_lt Bp.lt; have hltpx := Bp.lt
    have hnrx := Nat.ne_of_lt Br.lt; have hltrx := Br.lt
    replace Bp : Blk (w2.alloc (.cells #[uv sa.b.v, uv sa.b.m, uv sa.lo, uv sa.hi, sv sa.sl, sv sa.sh] 43)) (w.heap.size) 83 #[uv a.b.v, uv a.b.m, uv a.lo, uv a.hi, sv a.sl, sv a.sh, uv b.b.v, uv b.b.m, uv b.lo, uv b.hi, sv b.sl, sv b.sh] := Bp.alloc _
    replace Br : Blk (w2.alloc (.cells #[uv sa.b.v, uv sa.b.m, uv sa.lo, uv sa.hi, sv sa.sl, sv sa.sh] 43)) (w.heap.size + 1) 83 #[.int .u64 0, .int .u64 0, .int .u64 0, .int .u64 0, .int .i64 0, .int .i64 0, .int .u64 0, .int .u64 0, .int .u64 0, .int .u64 0, .int .i64 0, .int .i64 0] := Br.alloc _
    replace hB : Below w.heap.size w (w2.alloc (.cells #[uv sa.b.v, uv sa.b.m, uv sa.lo, uv sa.hi, sv sa.sl, sv sa.sh] 43)) := Bl_alloc hB _
    generalize (w2.alloc (.cells #[uv sa.b.v, uv sa.b.m, uv sa.lo, uv sa.hi, sv sa.sl, sv sa.sh] 43)) = w3 at *
    generalize w2.heap.size = gx at *
    obtain ⟨cp0, cp1, cp2, cp3, cp4, cp5, cp6, cp7, cp8, cp9, cp10, cp11⟩ := cells12 Bp
    have fp := Bp.frozen; have lp := Bp.lt
    obtain ⟨cr0, cr1, cr2, cr3, cr4, cr5, cr6, cr7, cr8, cr9, cr10, cr11⟩ := cells12 Br
    have fr := Br.frozen; have lr := Br.lt
    obtain ⟨cx0, cx1, cx2, cx3, cx4, cx5⟩ := cells6 Bx
    have fx := Bx.frozen; have lx := Bx.lt
    go_wp2_with fail
    refine (k_b _).mono ?_
    rintro e w4 ⟨rfl, hb⟩
    clear cp0 cp1 cp2 cp3 cp4 cp5 cp6 cp7 cp8 cp9 cp10 cp11 fp lp
    clear cr0 cr1 cr2 cr3 cr4 cr5 cr6 cr7 cr8 cr9 cr10 cr11 fr lr
    clear cx0 cx1 cx2 cx3 cx4 cx5 fx lx
    replace Bp := (Bp).next hb
    replace Br := (Br).next hb
    replace Bx := (Bx).next hb
    replace hB : Below w.heap.size w w4 := by repeat (first | exact hB | (refine Bl_set ?_ (by first | omega | (simp; omega)) _) | apply Bl_alloc | (refine Bl_trans ?_ hb))
    clear hb
    obtain ⟨cp0, cp1, cp2, cp3, cp4, cp5, cp6, cp7, cp8, cp9, cp10, cp11⟩ := cells12 Bp
    have fp := Bp.frozen; have lp := Bp.lt
    obtain ⟨cr0, cr1, cr2, cr3, cr4, cr5, cr6, cr7, cr8, cr9, cr10, cr11⟩ := cells12 Br
    have fr := Br.frozen; have lr := Br.lt
    obtain ⟨cx0, cx1, cx2, cx3, cx4, cx5⟩ := cells6 Bx
    have fx := Bx.frozen; have lx := Bx.lt
    go_upto_region 3 with fail
    clear cp0 cp1 cp2 cp3 cp4 cp5 cp6 cp7 cp8 cp9 cp10 cp11 fp lp
    clear cr0 cr1 cr2 cr3 cr4 cr5 cr6 cr7 cr8 cr9 cr10 cr11 fr lr
    clear cx0 cx1 cx2 cx3 cx4 cx5 fx lx
    have By := Blk.new w4 43 #[uv sb.b.v, uv sb.b.m, uv sb.lo, uv sb.hi, sv sb.sl, sv sb.sh]
    have hgy := hB.size
    have hnpy := Nat.ne_of_lt Bp.lt; have hltpy := Bp.lt
    have hnry := Nat.ne_of_lt Br.lt; have hltry := Br.lt
    have hnxy := Nat.ne_of_lt Bx.lt; have hltxy := Bx.lt
    replace Bp : Blk (w4.alloc (.cells #[uv sb.b.v, uv sb.b.m, uv sb.lo, uv sb.hi, sv sb.sl, sv sb.sh] 43)) (w.heap.size) 83 #[uv a.b.v, uv a.b.m, uv a.lo, uv a.hi, sv a.sl, sv a.sh, uv b.b.v, uv b.b.m, uv b.lo, uv b.hi, sv b.sl, sv b.sh] := Bp.alloc _
    replace Br : Blk (w4.alloc (.cells #[uv sb.b.v, uv sb.b.m, uv sb.lo, uv sb.hi, sv sb.sl, sv sb.sh] 43)) (w.heap.size + 1) 83 #[.int .u64 0, .int .u64 0, .int .u64 0, .int .u64 0, .int .i64 0, .int .i64 0, .int .u64 0, .int .u64 0, .int .u64 0, .int .u64 0, .int .i64 0, .int .i64 0] := Br.alloc _
    replace Bx : Blk (w4.alloc (.cells #[uv sb.b.v, uv sb.b.m, uv sb.lo, uv sb.hi, sv sb.sl, sv sb.sh] 43)) (gx) 43 #[uv sa.b.v, uv sa.b.m, uv sa.lo, uv sa.hi, sv sa.sl, sv sa.sh] := Bx.alloc _
    replace hB : Below w.heap.size w (w4.alloc (.cells #[uv sb.b.v, uv sb.b.m, uv sb.lo, uv sb.hi, sv sb.sl, sv sb.sh] 43)) := Bl_alloc hB _
    generalize (w4.alloc (.cells #[uv sb.b.v, uv sb.b.m, uv sb.lo, uv sb.hi, sv sb.sl, sv sb.sh] 43)) = w5 at *
    generalize w4.heap.size = gy at *
    obtain ⟨cp0, cp1, cp2, cp3, cp4, cp5, cp6, cp7, cp8, cp9, cp10, cp11⟩ := cells12 Bp
    have fp := Bp.frozen; have lp := Bp.lt
    obtain ⟨cr0, cr1, cr2, cr3, cr4, cr5, cr6, cr7, cr8, cr9, cr10, cr11⟩ := cells12 Br
    have fr := Br.frozen; have lr := Br.lt
    obtain ⟨cx0, cx1, cx2, cx3, cx4, cx5⟩ := cells6 Bx
    have fx := Bx.frozen; have lx := Bx.lt
    obtain ⟨cy0, cy1, cy2, cy3, cy4, cy5⟩ := cells6 By
    have fy := By.frozen; have ly := By.lt
    go_wp2
    exact bodyPost_ret (v := .tuple #[pv2 sa sb, .bool ob]) (by simp [results, Tryd.results66, go_sem, cx0, cx1, cx2, cx3, cx4, cx5, cy0, cy1, cy2, cy3, cy4, cy5, cr0, cr1, cr2, cr3, cr4, cr5, cr6, cr7, cr8, cr9, cr10, cr11, lx, ly, lr]) rfl ⟨by rw [hs]; first | done | rfl, by repeat (first | (with_reducible exact hB) | (with_reducible refine Bl_set ?_ (by first | omega | (simp; done) | (simp; omega)) _) | with_reducible apply Bl_alloc)⟩
set_option maxRecDepth 100000 in
set_option maxHeartbeats 3200000 in
theorem greater_c (a b : Rng) (s : Bool) (w : World) : Calls Tryd.prog 92 #[pv2 a b, .bool s] w fun e w' => e = .returned (tv (PlainBranch.greater (a, b) s)) ∧ Below w.heap.size w w' := by
  cases s
  · obtain ⟨R, e_R⟩ : ∃ z' : PlainBranch.Pair × Bool, z' = PlainBranch.settleP ((⟨a.b, (PlainScalar.maxU a.lo b.lo), a.hi, a.sl, a.sh⟩ : Rng), (⟨b.b, b.lo, (PlainScalar.minU b.hi a.hi), b.sl, b.sh⟩ : Rng)) := ⟨_, rfl⟩
    have k_R : ∀ w : World, Calls Tryd.prog 66 #[pv2 ⟨a.b, (PlainScalar.maxU a.lo b.lo), a.hi, a.sl, a.sh⟩ ⟨b.b, b.lo, (PlainScalar.minU b.hi a.hi), b.sl, b.sh⟩] w fun e w' => e = .returned (tv R) ∧ Below w.heap.size w w' := fun w => by rw [e_R]; exact psettle_c ⟨a.b, (PlainScalar.maxU a.lo b.lo), a.hi, a.sl, a.sh⟩ ⟨b.b, b.lo, (PlainScalar.minU b.hi a.hi), b.sl, b.sh⟩ w
    have hs : PlainBranch.greater (a, b) false = R := by rw [e_R]; unfold PlainBranch.greater; rw [if_neg (fun h => absurd h.1 (by decide))]; simp [PlainBranch.more]
    clear e_R
    have := u64_TB b.lo
    have := u64_TB a.hi
    try clear p1
    try clear p2
    go_enter Tryd.func92, Tryd.ntmps92
    go_upto_region 1 with fail
    obtain ⟨gp, hgp⟩ : ∃ g, g = w.heap.size := ⟨_, rfl⟩
    obtain ⟨gr, hgr⟩ : ∃ g, g = w.heap.size + 1 := ⟨_, rfl⟩
    have Bp : Blk ((w.alloc (.cells #[uv a.b.v, uv a.b.m, uv a.lo, uv a.hi, sv a.sl, sv a.sh, uv b.b.v, uv b.b.m, uv b.lo, uv b.hi, sv b.sl, sv b.sh] 83)).alloc (.cells #[.int .u64 0, .int .u64 0, .int .u64 0, .int .u64 0, .int .i64 0, .int .i64 0, .int .u64 0, .int .u64 0, .int .u64 0, .int .u64 0, .int .i64 0, .int .i64 0] 83)) (w.heap.size) 83 #[uv a.b.v, uv a.b.m, uv a.lo, uv a.hi, sv a.sl, sv a.sh, uv b.b.v, uv b.b.m, uv b.lo, uv b.hi, sv b.sl, sv b.sh] := ((Blk.new w 83 #[uv a.b.v, uv a.b.m, uv a.lo, uv a.hi, sv a.sl, sv a.sh, uv b.b.v, uv b.b.m, uv b.lo, uv b.hi, sv b.sl, sv b.sh])).alloc _
    have Br : Blk ((w.alloc (.cells #[uv a.b.v, uv a.b.m, uv a.lo, uv a.hi, sv a.sl, sv a.sh, uv b.b.v, uv b.b.m, uv b.lo, uv b.hi, sv b.sl, sv b.sh] 83)).alloc (.cells #[.int .u64 0, .int .u64 0, .int .u64 0, .int .u64 0, .int .i64 0, .int .i64 0, .int .u64 0, .int .u64 0, .int .u64 0, .int .u64 0, .int .i64 0, .int .i64 0] 83)) (w.heap.size + 1) 83 #[.int .u64 0, .int .u64 0, .int .u64 0, .int .u64 0, .int .i64 0, .int .i64 0, .int .u64 0, .int .u64 0, .int .u64 0, .int .u64 0, .int .i64 0, .int .i64 0] := (by simpa using Blk.new (w.alloc (.cells #[uv a.b.v, uv a.b.m, uv a.lo, uv a.hi, sv a.sl, sv a.sh, uv b.b.v, uv b.b.m, uv b.lo, uv b.hi, sv b.sl, sv b.sh] 83)) 83 #[.int .u64 0, .int .u64 0, .int .u64 0, .int .u64 0, .int .i64 0, .int .i64 0, .int .u64 0, .int .u64 0, .int .u64 0, .int .u64 0, .int .i64 0, .int .i64 0] : Blk _ (w.heap.size + 1) 83 #[.int .u64 0, .int .u64 0, .int .u64 0, .int .u64 0, .int .i64 0, .int .i64 0, .int .u64 0, .int .u64 0, .int .u64 0, .int .u64 0, .int .i64 0, .int .i64 0])
    have hB : Below w.heap.size w ((w.alloc (.cells #[uv a.b.v, uv a.b.m, uv a.lo, uv a.hi, sv a.sl, sv a.sh, uv b.b.v, uv b.b.m, uv b.lo, uv b.hi, sv b.sl, sv b.sh] 83)).alloc (.cells #[.int .u64 0, .int .u64 0, .int .u64 0, .int .u64 0, .int .i64 0, .int .i64 0, .int .u64 0, .int .u64 0, .int .u64 0, .int .u64 0, .int .i64 0, .int .i64 0] 83)) := (Bl_alloc (Bl_alloc (Bl_refl w) _) _)
    clear hgp
    clear gp
    clear hgr
    clear gr
    generalize ((w.alloc (.cells #[uv a.b.v, uv a.b.m, uv a.lo, uv a.hi, sv a.sl, sv a.sh, uv b.b.v, uv b.b.m, uv b.lo, uv b.hi, sv b.sl, sv b.sh] 83)).alloc (.cells #[.int .u64 0, .int .u64 0, .int .u64 0, .int .u64 0, .int .i64 0, .int .i64 0, .int .u64 0, .int .u64 0, .int .u64 0, .int .u64 0, .int .i64 0, .int .i64 0] 83)) = w1 at *
    obtain ⟨cp0, cp1, cp2, cp3, cp4, cp5, cp6, cp7, cp8, cp9, cp10, cp11⟩ := cells12 Bp
    have fp := Bp.frozen; have lp := Bp.lt
    obtain ⟨cr0, cr1, cr2, cr3, cr4, cr5, cr6, cr7, cr8, cr9, cr10, cr11⟩ := cells12 Br
    have fr := Br.frozen; have lr := Br.lt
    go_upto_region 7 with fail
    clear cp0 cp1 cp2 cp3 cp4 cp5 cp6 cp7 cp8 cp9 cp10 cp11 fp lp
    clear cr0 cr1 cr2 cr3 cr4 cr5 cr6 cr7 cr8 cr9 cr10 cr11 fr lr
    replace Bp : Blk (w1.setCell ⟨w.heap.size, 2, none⟩ (uv (PlainScalar.maxU a.lo b.lo))) (w.heap.size) 83 #[uv a.b.v, uv a.b.m, uv (PlainScalar.maxU a.lo b.lo), uv a.hi, sv a.sl, sv a.sh, uv b.b.v, uv b.b.m, uv b.lo, uv b.hi, sv b.sl, sv b.sh] := Bp.set_ 2 _
    replace Br : Blk (w1.setCell ⟨w.heap.size, 2, none⟩ (uv (PlainScalar.maxU a.lo b.lo))) (w.heap.size + 1) 83 #[.int .u64 0, .int .u64 0, .int .u64 0, .int .u64 0, .int .i64 0, .int .i64 0, .int .u64 0, .int .u64 0, .int .u64 0, .int .u64 0, .int .i64 0, .int .i64 0] := (Br.far (by first | (simp; done) | (simp; omega) | (simp [*]; done) | (simp only [ne_eq]; constructor <;> omega)) _)
    replace hB : Below w.heap.size w (w1.setCell ⟨w.heap.size, 2, none⟩ (uv (PlainScalar.maxU a.lo b.lo))) := (Bl_set hB (by first | omega | (simp; done) | (simp; omega)) _)
    generalize (w1.setCell ⟨w.heap.size, 2, none⟩ (uv (PlainScalar.maxU a.lo b.lo))) = w2 at *
    obtain ⟨cp0, cp1, cp2, cp3, cp4, cp5, cp6, cp7, cp8, cp9, cp10, cp11⟩ := cells12 Bp
    have fp := Bp.frozen; have lp := Bp.lt
    obtain ⟨cr0, cr1, cr2, cr3, cr4, cr5, cr6, cr7, cr8, cr9, cr10, cr11⟩ := cells12 Br
    have fr := Br.frozen; have lr := Br.lt
    go_upto_region 8 with fail
    clear cp0 cp1 cp2 cp3 cp4 cp5 cp6 cp7 cp8 cp9 cp10 cp11 fp lp
    clear cr0 cr1 cr2 cr3 cr4 cr5 cr6 cr7 cr8 cr9 cr10 cr11 fr lr
    replace Bp : Blk (w2.setCell ⟨w.heap.size, 9, none⟩ (uv (PlainScalar.minU b.hi a.hi))) (w.heap.size) 83 #[uv a.b.v, uv a.b.m, uv (PlainScalar.maxU a.lo b.lo), uv a.hi, sv a.sl, sv a.sh, uv b.b.v, uv b.b.m, uv b.lo, uv (PlainScalar.minU b.hi a.hi), sv b.sl, sv b.sh] := Bp.set_ 9 _
    replace Br : Blk (w2.setCell ⟨w.heap.size, 9, none⟩ (uv (PlainScalar.minU b.hi a.hi))) (w.heap.size + 1) 83 #[.int .u64 0, .int .u64 0, .int .u64 0, .int .u64 0, .int .i64 0, .int .i64 0, .int .u64 0, .int .u64 0, .int .u64 0, .int .u64 0, .int .i64 0, .int .i64 0] := (Br.far (by first | (simp; done) | (simp; omega) | (simp [*]; done) | (simp only [ne_eq]; constructor <;> omega)) _)
    replace hB : Below w.heap.size w (w2.setCell ⟨w.heap.size, 9, none⟩ (uv (PlainScalar.minU b.hi a.hi))) := (Bl_set hB (by first | omega | (simp; done) | (simp; omega)) _)
    generalize (w2.setCell ⟨w.heap.size, 9, none⟩ (uv (PlainScalar.minU b.hi a.hi))) = w3 at *
    obtain ⟨cp0, cp1, cp2, cp3, cp4, cp5, cp6, cp7, cp8, cp9, cp10, cp11⟩ := cells12 Bp
    have fp := Bp.frozen; have lp := Bp.lt
    obtain ⟨cr0, cr1, cr2, cr3, cr4, cr5, cr6, cr7, cr8, cr9, cr10, cr11⟩ := cells12 Br
    have fr := Br.frozen; have lr := Br.lt
    go_wp2_with fail
    refine (k_R _).mono ?_
    rintro e w4 ⟨rfl, hb⟩
    clear cp0 cp1 cp2 cp3 cp4 cp5 cp6 cp7 cp8 cp9 cp10 cp11 fp lp
    clear cr0 cr1 cr2 cr3 cr4 cr5 cr6 cr7 cr8 cr9 cr10 cr11 fr lr
    replace Bp := (Bp).next hb
    replace Br := (Br).next hb
    replace hB : Below w.heap.size w w4 := by repeat (first | exact hB | (refine Bl_set ?_ (by first | omega | (simp; omega)) _) | apply Bl_alloc | (refine Bl_trans ?_ hb))
    clear hb
    obtain ⟨cp0, cp1, cp2, cp3, cp4, cp5, cp6, cp7, cp8, cp9, cp10, cp11⟩ := cells12 Bp
    have fp := Bp.frozen; have lp := Bp.lt
    obtain ⟨cr0, cr1, cr2, cr3, cr4, cr5, cr6, cr7, cr8, cr9, cr10, cr11⟩ := cells12 Br
    have fr := Br.frozen; have lr := Br.lt
    go_wp2
    exact bodyPost_ret (v := tv R) (by simp [results, Tryd.results92, go_sem, cr0, cr1, cr2, cr3, cr4, cr5, cr6, cr7, cr8, cr9, cr10, cr11, lr]) rfl ⟨by rw [hs]; first | done | rfl, by repeat (first | (with_reducible exact hB) | (with_reducible refine Bl_set ?_ (by first | omega | (simp; done) | (simp; omega)) _) | with_reducible apply Bl_alloc)⟩
  · cases q1 : (T b.lo == 18446744073709551615)
    · have p1 : ¬ b.lo = BitVec.allOnes 64 := by rw [T_beqAll] at q1; simpa using q1
      cases q2 : (T a.hi == 0)
      · have p2 : ¬ a.hi = 0#64 := by rw [T_beq0] at q2; simpa using q2
        obtain ⟨R, e_R⟩ : ∃ z' : PlainBranch.Pair × Bool, z' = PlainBranch.settleP ((⟨a.b, (PlainScalar.maxU a.lo (b.lo + 1#64)), a.hi, a.sl, a.sh⟩ : Rng), (⟨b.b, b.lo, (PlainScalar.minU b.hi (a.hi - 1#64)), b.sl, b.sh⟩ : Rng)) := ⟨_, rfl⟩
        have k_R : ∀ w : World, Calls Tryd.prog 66 #[pv2 ⟨a.b, (PlainScalar.maxU a.lo (b.lo + 1#64)), a.hi, a.sl, a.sh⟩ ⟨b.b, b.lo, (PlainScalar.minU b.hi (a.hi - 1#64)), b.sl, b.sh⟩] w fun e w' => e = .returned (tv R) ∧ Below w.heap.size w w' := fun w => by rw [e_R]; exact psettle_c ⟨a.b, (PlainScalar.maxU a.lo (b.lo + 1#64)), a.hi, a.sl, a.sh⟩ ⟨b.b, b.lo, (PlainScalar.minU b.hi (a.hi - 1#64)), b.sl, b.sh⟩ w
        have hs : PlainBranch.greater (a, b) true = R := by rw [e_R]; unfold PlainBranch.greater; rw [if_neg (fun h => h.2.elim p1 p2)]; simp [PlainBranch.more]
        clear e_R
        have := u64_TB b.lo
        have := u64_TB a.hi
        try clear p1
        try clear p2
        go_enter Tryd.func92, Tryd.ntmps92
        go_upto_region 1 with fail
        obtain ⟨gp, hgp⟩ : ∃ g, g = w.heap.size := ⟨_, rfl⟩
        obtain ⟨gr, hgr⟩ : ∃ g, g = w.heap.size + 1 := ⟨_, rfl⟩
        have Bp : Blk ((w.alloc (.cells #[uv a.b.v, uv a.b.m, uv a.lo, uv a.hi, sv a.sl, sv a.sh, uv b.b.v, uv b.b.m, uv b.lo, uv b.hi, sv b.sl, sv b.sh] 83)).alloc (.cells #[.int .u64 0, .int .u64 0, .int .u64 0, .int .u64 0, .int .i64 0, .int .i64 0, .int .u64 0, .int .u64 0, .int .u64 0, .int .u64 0, .int .i64 0, .int .i64 0] 83)) (w.heap.size) 83 #[uv a.b.v, uv a.b.m, uv a.lo, uv a.hi, sv a.sl, sv a.sh, uv b.b.v, uv b.b.m, uv b.lo, uv b.hi, sv b.sl, sv b.sh] := ((Blk.new w 83 #[uv a.b.v, uv a.b.m, uv a.lo, uv a.hi, sv a.sl, sv a.sh, uv b.b.v, uv b.b.m, uv b.lo, uv b.hi, sv b.sl, sv b.sh])).alloc _
        have Br : Blk ((w.alloc (.cells #[uv a.b.v, uv a.b.m, uv a.lo, uv a.hi, sv a.sl, sv a.sh, uv b.b.v, uv b.b.m, uv b.lo, uv b.hi, sv b.sl, sv b.sh] 83)).alloc (.cells #[.int .u64 0, .int .u64 0, .int .u64 0, .int .u64 0, .int .i64 0, .int .i64 0, .int .u64 0, .int .u64 0, .int .u64 0, .int .u64 0, .int .i64 0, .int .i64 0] 83)) (w.heap.size + 1) 83 #[.int .u64 0, .int .u64 0, .int .u64 0, .int .u64 0, .int .i64 0, .int .i64 0, .int .u64 0, .int .u64 0, .int .u64 0, .int .u64 0, .int .i64 0, .int .i64 0] := (by simpa using Blk.new (w.alloc (.cells #[uv a.b.v, uv a.b.m, uv a.lo, uv a.hi, sv a.sl, sv a.sh, uv b.b.v, uv b.b.m, uv b.lo, uv b.hi, sv b.sl, sv b.sh] 83)) 83 #[.int .u64 0, .int .u64 0, .int .u64 0, .int .u64 0, .int .i64 0, .int .i64 0, .int .u64 0, .int .u64 0, .int .u64 0, .int .u64 0, .int .i64 0, .int .i64 0] : Blk _ (w.heap.size + 1) 83 #[.int .u64 0, .int .u64 0, .int .u64 0, .int .u64 0, .int .i64 0, .int .i64 0, .int .u64 0, .int .u64 0, .int .u64 0, .int .u64 0, .int .i64 0, .int .i64 0])
        have hB : Below w.heap.size w ((w.alloc (.cells #[uv a.b.v, uv a.b.m, uv a.lo, uv a.hi, sv a.sl, sv a.sh, uv b.b.v, uv b.b.m, uv b.lo, uv b.hi, sv b.sl, sv b.sh] 83)).alloc (.cells #[.int .u64 0, .int .u64 0, .int .u64 0, .int .u64 0, .int .i64 0, .int .i64 0, .int .u64 0, .int .u64 0, .int .u64 0, .int .u64 0, .int .i64 0, .int .i64 0] 83)) := (Bl_alloc (Bl_alloc (Bl_refl w) _) _)
        clear hgp
        clear gp
        clear hgr
        clear gr
        generalize ((w.alloc (.cells #[uv a.b.v, uv a.b.m, uv a.lo, uv a.hi, sv a.sl, sv a.sh, uv b.b.v, uv b.b.m, uv b.lo, uv b.hi, sv b.sl, sv b.sh] 83)).alloc (.cells #[.int .u64 0, .int .u64 0, .int .u64 0, .int .u64 0, .int .i64 0, .int .i64 0, .int .u64 0, .int .u64 0, .int .u64 0, .int .u64 0, .int .i64 0, .int .i64 0] 83)) = w1 at *
        obtain ⟨cp0, cp1, cp2, cp3, cp4, cp5, cp6, cp7, cp8, cp9, cp10, cp11⟩ := cells12 Bp
        have fp := Bp.frozen; have lp := Bp.lt
        obtain ⟨cr0, cr1, cr2, cr3, cr4, cr5, cr6, cr7, cr8, cr9, cr10, cr11⟩ := cells12 Br
        have fr := Br.frozen; have lr := Br.lt
        go_upto_region 7 with fail
        clear cp0 cp1 cp2 cp3 cp4 cp5 cp6 cp7 cp8 cp9 cp10 cp11 fp lp
        clear cr0 cr1 cr2 cr3 cr4 cr5 cr6 cr7 cr8 cr9 cr10 cr11 fr lr
        replace Bp : Blk (w1.setCell ⟨w.heap.size, 2, none⟩ (uv (PlainScalar.maxU a.lo (b.lo + 1#64)))) (w.heap.size) 83 #[uv a.b.v, uv a.b.m, uv (PlainScalar.maxU a.lo (b.lo + 1#64)), uv a.hi, sv a.sl, sv a.sh, uv b.b.v, uv b.b.m, uv b.lo, uv b.hi, sv b.sl, sv b.sh] := Bp.set_ 2 _
        replace Br : Blk (w1.setCell ⟨w.heap.size, 2, none⟩ (uv (PlainScalar.maxU a.lo (b.lo + 1#64)))) (w.heap.size + 1) 83 #[.int .u64 0, .int .u64 0, .int .u64 0, .int .u64 0, .int .i64 0, .int .i64 0, .int .u64 0, .int .u64 0, .int .u64 0, .int .u64 0, .int .i64 0, .int .i64 0] := (Br.far (by first | (simp; done) | (simp; omega) | (simp [*]; done) | (simp only [ne_eq]; constructor <;> omega)) _)
        replace hB : Below w.heap.size w (w1.setCell ⟨w.heap.size, 2, none⟩ (uv (PlainScalar.maxU a.lo (b.lo + 1#64)))) := (Bl_set hB (by first | omega | (simp; done) | (simp; omega)) _)
        generalize (w1.setCell ⟨w.heap.size, 2, none⟩ (uv (PlainScalar.maxU a.lo (b.lo + 1#64)))) = w2 at *
        obtain ⟨cp0, cp1, cp2, cp3, cp4, cp5, cp6, cp7, cp8, cp9, cp10, cp11⟩ := cells12 Bp
        have fp := Bp.frozen; have lp := Bp.lt
        obtain ⟨cr0, cr1, cr2, cr3, cr4, cr5, cr6, cr7, cr8, cr9, cr10, cr11⟩ := cells12 Br
        have fr := Br.frozen; have lr := Br.lt
        go_upto_region 8 with fail
        clear cp0 cp1 cp2 cp3 cp4 cp5 cp6 cp7 cp8 cp9 cp10 cp11 fp lp
        clear cr0 cr1 cr2 cr3 cr4 cr5 cr6 cr7 cr8 cr9 cr10 cr11 fr lr
        replace Bp : Blk (w2.setCell ⟨w.heap.size, 9, none⟩ (uv (PlainScalar.minU b.hi (a.hi - 1#64)))) (w.heap.size) 83 #[uv a.b.v, uv a.b.m, uv (PlainScalar.maxU a.lo (b.lo + 1#64)), uv a.hi, sv a.sl, sv a.sh, uv b.b.v, uv b.b.m, uv b.lo, uv (PlainScalar.minU b.hi (a.hi - 1#64)), sv b.sl, sv b.sh] := Bp.set_ 9 _
        replace Br : Blk (w2.setCell ⟨w.heap.size, 9, none⟩ (uv (PlainScalar.minU b.hi (a.hi - 1#64)))) (w.heap.size + 1) 83 #[.int .u64 0, .int .u64 0, .int .u64 0, .int .u64 0, .int .i64 0, .int .i64 0, .int .u64 0, .int .u64 0, .int .u64 0, .int .u64 0, .int .i64 0, .int .i64 0] := (Br.far (by first | (simp; done) | (simp; omega) | (simp [*]; done) | (simp only [ne_eq]; constructor <;> omega)) _)
        replace hB : Below w.heap.size w (w2.setCell ⟨w.heap.size, 9, none⟩ (uv (PlainScalar.minU b.hi (a.hi - 1#64)))) := (Bl_set hB (by first | omega | (simp; done) | (simp; omega)) _)
        generalize (w2.setCell ⟨w.heap.size, 9, none⟩ (uv (PlainScalar.minU b.hi (a.hi - 1#64)))) = w3 at *
        obtain ⟨cp0, cp1, cp2, cp3, cp4, cp5, cp6, cp7, cp8, cp9, cp10, cp11⟩ := cells12 Bp
        have fp := Bp.frozen; have lp := Bp.lt
        obtain ⟨cr0, cr1, cr2, cr3, cr4, cr5, cr6, cr7, cr8, cr9, cr10, cr11⟩ := cells12 Br
        have fr := Br.frozen; have lr := Br.lt
        go_wp2_with fail
        refine (k_R _).mono ?_
        rintro e w4 ⟨rfl, hb⟩
        clear cp0 cp1 cp2 cp3 cp4 cp5 cp6 cp7 cp8 cp9 cp10 cp11 fp lp
        clear cr0 cr1 cr2 cr3 cr4 cr5 cr6 cr7 cr8 cr9 cr10 cr11 fr lr
        replace Bp := (Bp).next hb
        replace Br := (Br).next hb
        replace hB : Below w.heap.size w w4 := by repeat (first | exact hB | (refine Bl_set ?_ (by first | omega | (simp; omega)) _) | apply Bl_alloc | (refine Bl_trans ?_ hb))
        clear hb
        obtain ⟨cp0, cp1, cp2, cp3, cp4, cp5, cp6, cp7, cp8, cp9, cp10, cp11⟩ := cells12 Bp
        have fp := Bp.frozen; have lp := Bp.lt
        obtain ⟨cr0, cr1, cr2, cr3, cr4, cr5, cr6, cr7, cr8, cr9, cr10, cr11⟩ := cells12 Br
        have fr := Br.frozen; have lr := Br.lt
        go_wp2
        exact bodyPost_ret (v := tv R) (by simp [results, Tryd.results92, go_sem, cr0, cr1, cr2, cr3, cr4, cr5, cr6, cr7, cr8, cr9, cr10, cr11, lr]) rfl ⟨by rw [hs]; first | done | rfl, by repeat (first | (with_reducible exact hB) | (with_reducible refine Bl_set ?_ (by first | omega | (simp; done) | (simp; omega)) _) | with_reducible apply Bl_alloc)⟩
      · have p2 : a.hi = 0#64 := by rw [T_beq0] at q2; simpa using q2
        have hs : PlainBranch.greater (a, b) true = (PlainBranch.zero, false) := by unfold PlainBranch.greater; rw [if_pos ⟨rfl, .inr p2⟩]
        try clear p1
        try clear p2
        go_enter Tryd.func92, Tryd.ntmps92
        go_upto_region 1 with fail
        obtain ⟨gp, hgp⟩ : ∃ g, g = w.heap.size := ⟨_, rfl⟩
        obtain ⟨gr, hgr⟩ : ∃ g, g = w.heap.size + 1 := ⟨_, rfl⟩
        have Bp : Blk ((w.alloc (.cells #[uv a.b.v, uv a.b.m, uv a.lo, uv a.hi, sv a.sl, sv a.sh, uv b.b.v, uv b.b.m, uv b.lo, uv b.hi, sv b.sl, sv b.sh] 83)).alloc (.cells #[.int .u64 0, .int .u64 0, .int .u64 0, .int .u64 0, .int .i64 0, .int .i64 0, .int .u64 0, .int .u64 0, .int .u64 0, .int .u64 0, .int .i64 0, .int .i64 0] 83)) (w.heap.size) 83 #[uv a.b.v, uv a.b.m, uv a.lo, uv a.hi, sv a.sl, sv a.sh, uv b.b.v, uv b.b.m, uv b.lo, uv b.hi, sv b.sl, sv b.sh] := ((Blk.new w 83 #[uv a.b.v, uv a.b.m, uv a.lo, uv a.hi, sv a.sl, sv a.sh, uv b.b.v, uv b.b.m, uv b.lo, uv b.hi, sv b.sl, sv b.sh])).alloc _
        have Br : Blk ((w.alloc (.cells #[uv a.b.v, uv a.b.m, uv a.lo, uv a.hi, sv a.sl, sv a.sh, uv b.b.v, uv b.b.m, uv b.lo, uv b.hi, sv b.sl, sv b.sh] 83)).alloc (.cells #[.int .u64 0, .int .u64 0, .int .u64 0, .int .u64 0, .int .i64 0, .int .i64 0, .int .u64 0, .int .u64 0, .int .u64 0, .int .u64 0, .int .i64 0, .int .i64 0] 83)) (w.heap.size + 1) 83 #[.int .u64 0, .int .u64 0, .int .u64 0, .int .u64 0, .int .i64 0, .int .i64 0, .int .u64 0, .int .u64 0, .int .u64 0, .int .u64 0, .int .i64 0, .int .i64 0] := (by simpa using Blk.new (w.alloc (.cells #[uv a.b.v, uv a.b.m, uv a.lo, uv a.hi, sv a.sl, sv a.sh, uv b.b.v, uv b.b.m, uv b.lo, uv b.hi, sv b.sl, sv b.sh] 83)) 83 #[.int .u64 0, .int .u64 0, .int .u64 0, .int .u64 0, .int .i64 0, .int .i64 0, .int .u64 0, .int .u64 0, .int .u64 0, .int .u64 0, .int .i64 0, .int .i64 0] : Blk _ (w.heap.size + 1) 83 #[.int .u64 0, .int .u64 0, .int .u64 0, .int .u64 0, .int .i64 0, .int .i64 0, .int .u64 0, .int .u64 0, .int .u64 0, .int .u64 0, .int .i64 0, .int .i64 0])
        have hB : Below w.heap.size w ((w.alloc (.cells #[uv a.b.v, uv a.b.m, uv a.lo, uv a.hi, sv a.sl, sv a.sh, uv b.b.v, uv b.b.m, uv b.lo, uv b.hi, sv b.sl, sv b.sh] 83)).alloc (.cells #[.int .u64 0, .int .u64 0, .int .u64 0, .int .u64 0, .int .i64 0, .int .i64 0, .int .u64 0, .int .u64 0, .int .u64 0, .int .u64 0, .int .i64 0, .int .i64 0] 83)) := (Bl_alloc (Bl_alloc (Bl_refl w) _) _)
        clear hgp
        clear gp
        clear hgr
        clear gr
        generalize ((w.alloc (.cells #[uv a.b.v, uv a.b.m, uv a.lo, uv a.hi, sv a.sl, sv a.sh, uv b.b.v, uv b.b.m, uv b.lo, uv b.hi, sv b.sl, sv b.sh] 83)).alloc (.cells #[.int .u64 0, .int .u64 0, .int .u64 0, .int .u64 0, .int .i64 0, .int .i64 0, .int .u64 0, .int .u64 0, .int .u64 0, .int .u64 0, .int .i64 0, .int .i64 0] 83)) = w1 at *
        obtain ⟨cp0, cp1, cp2, cp3, cp4, cp5, cp6, cp7, cp8, cp9, cp10, cp11⟩ := cells12 Bp
        have fp := Bp.frozen; have lp := Bp.lt
        obtain ⟨cr0, cr1, cr2, cr3, cr4, cr5, cr6, cr7, cr8, cr9, cr10, cr11⟩ := cells12 Br
        have fr := Br.frozen; have lr := Br.lt
        go_wp2
        exact bodyPost_ret (v := .tuple #[pv2 PlainScalar.none_ PlainScalar.none_, .bool false]) (by simp [results, Tryd.results92, go_sem, cr0, cr1, cr2, cr3, cr4, cr5, cr6, cr7, cr8, cr9, cr10, cr11, lr, PlainScalar.none_, T, S]) rfl ⟨by rw [hs]; first | done | rfl, by repeat (first | (with_reducible exact hB) | (with_reducible refine Bl_set ?_ (by first | omega | (simp; done) | (simp; omega)) _) | with_reducible apply Bl_alloc)⟩
    · have p1 : b.lo = BitVec.allOnes 64 := by rw [T_beqAll] at q1; simpa using q1
      have hs : PlainBranch.greater (a, b) true = (PlainBranch.zero, false) := by unfold PlainBranch.greater; rw [if_pos ⟨rfl, .inl p1⟩]
      try clear p1
      try clear p2
      go_enter Tryd.func92, Tryd.ntmps92
      go_upto_region 1 with fail
      obtain ⟨gp, hgp⟩ : ∃ g, g = w.heap.size := ⟨_, rfl⟩
      obtain ⟨gr, hgr⟩ : ∃ g, g = w.heap.size + 1 := ⟨_, rfl⟩
      have Bp : Blk ((w.alloc (.cells #[uv a.b.v, uv a.b.m, uv a.lo, uv a.hi, sv a.sl, sv a.sh, uv b.b.v, uv b.b.m, uv b.lo, uv b.hi, sv b.sl, sv b.sh] 83)).alloc (.cells #[.int .u64 0, .int .u64 0, .int .u64 0, .int .u64 0, .int .i64 0, .int .i64 0, .int .u64 0, .int .u64 0, .int .u64 0, .int .u64 0, .int .i64 0, .int .i64 0] 83)) (w.heap.size) 83 #[uv a.b.v, uv a.b.m, uv a.lo, uv a.hi, sv a.sl, sv a.sh, uv b.b.v, uv b.b.m, uv b.lo, uv b.hi, sv b.sl, sv b.sh] := ((Blk.new w 83 #[uv a.b.v, uv a.b.m, uv a.lo, uv a.hi, sv a.sl, sv a.sh, uv b.b.v, uv b.b.m, uv b.lo, uv b.hi, sv b.sl, sv b.sh])).alloc _
      have Br : Blk ((w.alloc (.cells #[uv a.b.v, uv a.b.m, uv a.lo, uv a.hi, sv a.sl, sv a.sh, uv b.b.v, uv b.b.m, uv b.lo, uv b.hi, sv b.sl, sv b.sh] 83)).alloc (.cells #[.int .u64 0, .int .u64 0, .int .u64 0, .int .u64 0, .int .i64 0, .int .i64 0, .int .u64 0, .int .u64 0, .int .u64 0, .int .u64 0, .int .i64 0, .int .i64 0] 83)) (w.heap.size + 1) 83 #[.int .u64 0, .int .u64 0, .int .u64 0, .int .u64 0, .int .i64 0, .int .i64 0, .int .u64 0, .int .u64 0, .int .u64 0, .int .u64 0, .int .i64 0, .int .i64 0] := (by simpa using Blk.new (w.alloc (.cells #[uv a.b.v, uv a.b.m, uv a.lo, uv a.hi, sv a.sl, sv a.sh, uv b.b.v, uv b.b.m, uv b.lo, uv b.hi, sv b.sl, sv b.sh] 83)) 83 #[.int .u64 0, .int .u64 0, .int .u64 0, .int .u64 0, .int .i64 0, .int .i64 0, .int .u64 0, .int .u64 0, .int .u64 0, .int .u64 0, .int .i64 0, .int .i64 0] : Blk _ (w.heap.size + 1) 83 #[.int .u64 0, .int .u64 0, .int .u64 0, .int .u64 0, .int .i64 0, .int .i64 0, .int .u64 0, .int .u64 0, .int .u64 0, .int .u64 0, .int .i64 0, .int .i64 0])
      have hB : Below w.heap.size w ((w.alloc (.cells #[uv a.b.v, uv a.b.m, uv a.lo, uv a.hi, sv a.sl, sv a.sh, uv b.b.v, uv b.b.m, uv b.lo, uv b.hi, sv b.sl, sv b.sh] 83)).alloc (.cells #[.int .u64 0, .int .u64 0, .int .u64 0, .int .u64 0, .int .i64 0, .int .i64 0, .int .u64 0, .int .u64 0, .int .u64 0, .int .u64 0, .int .i64 0, .int .i64 0] 83)) := (Bl_alloc (Bl_alloc (Bl_refl w) _) _)
      clear hgp
      clear gp
      clear hgr
      clear gr
      generalize ((w.alloc (.cells #[uv a.b.v, uv a.b.m, uv a.lo, uv a.hi, sv a.sl, sv a.sh, uv b.b.v, uv b.b.m, uv b.lo, uv b.hi, sv b.sl, sv b.sh] 83)).alloc (.cells #[.int .u64 0, .int .u64 0, .int .u64 0, .int .u64 0, .int .i64 0, .int .i64 0, .int .u64 0, .int .u64 0, .int .u64 0, .int .u64 0, .int .i64 0, .int .i64 0] 83)) = w1 at *
      obtain ⟨cp0, cp1, cp2, cp3, cp4, cp5, cp6, cp7, cp8, cp9, cp10, cp11⟩ := cells12 Bp
      have fp := Bp.frozen; have lp := Bp.lt
      obtain ⟨cr0, cr1, cr2, cr3, cr4, cr5, cr6, cr7, cr8, cr9, cr10, cr11⟩ := cells12 Br
      have fr := Br.frozen; have lr := Br.lt
      go_wp2
      exact bodyPost_ret (v := .tuple #[pv2 PlainScalar.none_ PlainScalar.none_, .bool false]) (by simp [results, Tryd.results92, go_sem, cr0, cr1, cr2, cr3, cr4, cr5, cr6, cr7, cr8, cr9, cr10, cr11, lr, PlainScalar.none_, T, S]) rfl ⟨by rw [hs]; first | done | rfl, by repeat (first | (with_reducible exact hB) | (with_reducible refine Bl_set ?_ (by first | omega | (simp; done) | (simp; omega)) _) | with_reducible apply Bl_alloc)⟩
set_option maxRecDepth 100000 in
set_option maxHeartbeats 3200000 in
theorem turnedG_c (a b : Rng) (s : Bool) (w : World) : Calls Tryd.prog 93 #[pv2 a b, .func (.func 92) #[] #[], .bool s] w fun e w' => e = .returned (tv (PlainBranch.turned (a, b) PlainBranch.greater s)) ∧ Below w.heap.size w w' := by
  obtain ⟨R, e_R⟩ : ∃ z' : PlainBranch.Pair × Bool, z' = PlainBranch.greater (b, a) s := ⟨_, rfl⟩
  have k_R : ∀ w : World, Calls Tryd.prog 92 #[pv2 b a, .bool s] w fun e w' => e = .returned (tv R) ∧ Below w.heap.size w w' := fun w => by rw [e_R]; exact greater_c b a s w
  have hs : PlainBranch.turned (a, b) PlainBranch.greater s = ((R.1.2, R.1.1), R.2) := by rw [e_R]; rfl
  clear e_R
  obtain ⟨⟨u, v⟩, ok⟩ := R
  replace k_R : ∀ w : World, Calls Tryd.prog 92 #[pv2 b a, .bool s] w fun e w' => e = .returned (.tuple #[pv2 u v, .bool ok]) ∧ Below w.heap.size w w' := k_R
  replace hs : PlainBranch.turned (a, b) PlainBranch.greater s = ((v, u), ok) := hs
  go_enter Tryd.func93, Tryd.ntmps93
  go_wp2_with fail
  obtain ⟨gp, hgp⟩ : ∃ g, g = w.heap.size := ⟨_, rfl⟩
  obtain ⟨gr, hgr⟩ : ∃ g, g = w.heap.size + 1 := ⟨_, rfl⟩
  have Bp : Blk ((w.alloc (.cells #[uv a.b.v, uv a.b.m, uv a.lo, uv a.hi, sv a.sl, sv a.sh, uv b.b.v, uv b.b.m, uv b.lo, uv b.hi, sv b.sl, sv b.sh] 83)).alloc (.cells #[.int .u64 0, .int .u64 0, .int .u64 0, .int .u64 0, .int .i64 0, .int .i64 0, .int .u64 0, .int .u64 0, .int .u64 0, .int .u64 0, .int .i64 0, .int .i64 0] 83)) (w.heap.size) 83 #[uv a.b.v, uv a.b.m, uv a.lo, uv a.hi, sv a.sl, sv a.sh, uv b.b.v, uv b.b.m, uv b.lo, uv b.hi, sv b.sl, sv b.sh] := ((Blk.new w 83 #[uv a.b.v, uv a.b.m, uv a.lo, uv a.hi, sv a.sl, sv a.sh, uv b.b.v, uv b.b.m, uv b.lo, uv b.hi, sv b.sl, sv b.sh])).alloc _
  have Br : Blk ((w.alloc (.cells #[uv a.b.v, uv a.b.m, uv a.lo, uv a.hi, sv a.sl, sv a.sh, uv b.b.v, uv b.b.m, uv b.lo, uv b.hi, sv b.sl, sv b.sh] 83)).alloc (.cells #[.int .u64 0, .int .u64 0, .int .u64 0, .int .u64 0, .int .i64 0, .int .i64 0, .int .u64 0, .int .u64 0, .int .u64 0, .int .u64 0, .int .i64 0, .int .i64 0] 83)) (w.heap.size + 1) 83 #[.int .u64 0, .int .u64 0, .int .u64 0, .int .u64 0, .int .i64 0, .int .i64 0, .int .u64 0, .int .u64 0, .int .u64 0, .int .u64 0, .int .i64 0, .int .i64 0] := (by simpa using Blk.new (w.alloc (.cells #[uv a.b.v, uv a.b.m, uv a.lo, uv a.hi, sv a.sl, sv a.sh, uv b.b.v, uv b.b.m, uv b.lo, uv b.hi, sv b.sl, sv b.sh] 83)) 83 #[.int .u64 0, .int .u64 0, .int .u64 0, .int .u64 0, .int .i64 0, .int .i64 0, .int .u64 0, .int .u64 0, .int .u64 0, .int .u64 0, .int .i64 0, .int .i64 0] : Blk _ (w.heap.size + 1) 83 #[.int .u64 0, .int .u64 0, .int .u64 0, .int .u64 0, .int .i64 0, .int .i64 0, .int .u64 0, .int .u64 0, .int .u64 0, .int .u64 0, .int .i64 0, .int .i64 0])
  have hB : Below w.heap.size w ((w.alloc (.cells #[uv a.b.v, uv a.b.m, uv a.lo, uv a.hi, sv a.sl, sv a.sh, uv b.b.v, uv b.b.m, uv b.lo, uv b.hi, sv b.sl, sv b.sh] 83)).alloc (.cells #[.int .u64 0, .int .u64 0, .int .u64 0, .int .u64 0, .int .i64 0, .int .i64 0, .int .u64 0, .int .u64 0, .int .u64 0, .int .u64 0, .int .i64 0, .int .i64 0] 83)) := (Bl_alloc (Bl_alloc (Bl_refl w) _) _)
  clear hgp
  clear gp
  clear hgr
  clear gr
  generalize ((w.alloc (.cells #[uv a.b.v, uv a.b.m, uv a.lo, uv a.hi, sv a.sl, sv a.sh, uv b.b.v, uv b.b.m, uv b.lo, uv b.hi, sv b.sl, sv b.sh] 83)).alloc (.cells #[.int .u64 0, .int .u64 0, .int .u64 0, .int .u64 0, .int .i64 0, .int .i64 0, .int .u64 0, .int .u64 0, .int .u64 0, .int .u64 0, .int .i64 0, .int .i64 0] 83)) = w1 at *
  obtain ⟨cp0, cp1, cp2, cp3, cp4, cp5, cp6, cp7, cp8, cp9, cp10, cp11⟩ := cells12 Bp
  have fp := Bp.frozen; have lp := Bp.lt
  obtain ⟨cr0, cr1, cr2, cr3, cr4, cr5, cr6, cr7, cr8, cr9, cr10, cr11⟩ := cells12 Br
  have fr := Br.frozen; have lr := Br.lt
  go_wp2_with fail
  refine (swapped_c a b _).mono ?_
  rintro e w2 ⟨rfl, hb⟩
  clear cp0 cp1 cp2 cp3 cp4 cp5 cp6 cp7 cp8 cp9 cp10 cp11 fp lp
  clear cr0 cr1 cr2 cr3 cr4 cr5 cr6 cr7 cr8 cr9 cr10 cr11 fr lr
  replace Bp := (Bp).next hb
  replace Br := (Br).next hb
  replace hB : Below w.heap.size w w2 := by repeat (first | exact hB | (refine Bl_set ?_ (by first | omega | (simp; omega)) _) | apply Bl_alloc | (refine Bl_trans ?_ hb))
  clear hb
  obtain ⟨cp0, cp1, cp2, cp3, cp4, cp5, cp6, cp7, cp8, cp9, cp10, cp11⟩ := cells12 Bp
  have fp := Bp.frozen; have lp := Bp.lt
  obtain ⟨cr0, cr1, cr2, cr3, cr4, cr5, cr6, cr7, cr8, cr9, cr10, cr11⟩ := cells12 Br
  have fr := Br.frozen; have lr := Br.lt
  go_wp2_with fail
  refine (k_R _).mono ?_
  rintro e w3 ⟨rfl, hb⟩
  clear cp0 cp1 cp2 cp3 cp4 cp5 cp6 cp7 cp8 cp9 cp10 cp11 fp lp
  clear cr0 cr1 cr2 cr3 cr4 cr5 cr6 cr7 cr8 cr9 cr10 cr11 fr lr
  replace Bp := (Bp).next hb
  replace Br := (Br).next hb
  replace hB : Below w.heap.size w w3 := by repeat (first | exact hB | (refine Bl_set ?_ (by first | omega | (simp; omega)) _) | apply Bl_alloc | (refine Bl_trans ?_ hb))
  clear hb
  obtain ⟨cp0, cp1, cp2, cp3, cp4, cp5, cp6, cp7, cp8, cp9, cp10, cp11⟩ := cells12 Bp
  have fp := Bp.frozen; have lp := Bp.lt
  obtain ⟨cr0, cr1, cr2, cr3, cr4, cr5, cr6, cr7, cr8, cr9, cr10, cr11⟩ := cells12 Br
  have fr := Br.frozen; have lr := Br.lt
  go_upto_region 2 with fail
  clear cp0 cp1 cp2 cp3 cp4 cp5 cp6 cp7 cp8 cp9 cp10 cp11 fp lp
  clear cr0 cr1 cr2 cr3 cr4 cr5 cr6 cr7 cr8 cr9 cr10 cr11 fr lr
  have Bq := Blk.new w3 83 #[uv u.b.v, uv u.b.m, uv u.lo, uv u.hi, sv u.sl, sv u.sh, uv v.b.v, uv v.b.m, uv v.lo, uv v.hi, sv v.sl, sv v.sh]
  have hgq := hB.size
  have hnpq := Nat.ne_of_lt Bp.lt; have hltpq := Bp.lt
  have hnrq := Nat.ne_of_lt Br.lt; have hltrq := Br.lt
  replace Bp : Blk (w3.alloc (.cells #[uv u.b.v, uv u.b.m, uv u.lo, uv u.hi, sv u.sl, sv u.sh, uv v.b.v, uv v.b.m, uv v.lo, uv v.hi, sv v.sl, sv v.sh] 83)) (w.heap.size) 83 #[uv a.b.v, uv a.b.m, uv a.lo, uv a.hi, sv a.sl, sv a.sh, uv b.b.v, uv b.b.m, uv b.lo, uv b.hi, sv b.sl, sv b.sh] := Bp.alloc _
  replace Br : Blk (w3.alloc (.cells #[uv u.b.v, uv u.b.m, uv u.lo, uv u.hi, sv u.sl, sv u.sh, uv v.b.v, uv v.b.m, uv v.lo, uv v.hi, sv v.sl, sv v.sh] 83)) (w.heap.size + 1) 83 #[.int .u64 0, .int .u64 0, .int .u64 0, .int .u64 0, .int .i64 0, .int .i64 0, .int .u64 0, .int .u64 0, .int .u64 0, .int .u64 0, .int .i64 0, .int .i64 0] := Br.alloc _
  replace hB : Below w.heap.size w (w3.alloc (.cells #[uv u.b.v, uv u.b.m, uv u.lo, uv u.hi, sv u.sl, sv u.sh, uv v.b.v, uv v.b.m, uv v.lo, uv v.hi, sv v.sl, sv v.sh] 83)) := Bl_alloc hB _
  generalize (w3.alloc (.cells #[uv u.b.v, uv u.b.m, uv u.lo, uv u.hi, sv u.sl, sv u.sh, uv v.b.v, uv v.b.m, uv v.lo, uv v.hi, sv v.sl, sv v.sh] 83)) = w4 at *
  generalize w3.heap.size = gq at *
  obtain ⟨cp0, cp1, cp2, cp3, cp4, cp5, cp6, cp7, cp8, cp9, cp10, cp11⟩ := cells12 Bp
  have fp := Bp.frozen; have lp := Bp.lt
  obtain ⟨cr0, cr1, cr2, cr3, cr4, cr5, cr6, cr7, cr8, cr9, cr10, cr11⟩ := cells12 Br
  have fr := Br.frozen; have lr := Br.lt
  obtain ⟨cq0, cq1, cq2, cq3, cq4, cq5, cq6, cq7, cq8, cq9, cq10, cq11⟩ := cells12 Bq
  have fq := Bq.frozen; have lq := Bq.lt
  go_wp2_with fail
  refine (swapped_c u v _).mono ?_
  rintro e w5 ⟨rfl, hb⟩
  clear cp0 cp1 cp2 cp3 cp4 cp5 cp6 cp7 cp8 cp9 cp10 cp11 fp lp
  clear cr0 cr1 cr2 cr3 cr4 cr5 cr6 cr7 cr8 cr9 cr10 cr11 fr lr
  clear cq0 cq1 cq2 cq3 cq4 cq5 cq6 cq7 cq8 cq9 cq10 cq11 fq lq
  replace Bp := (Bp).next hb
  replace Br := (Br).next hb
  replace Bq := (Bq).next hb
  replace hB : Below w.heap.size w w5 := by repeat (first | exact hB | (refine Bl_set ?_ (by first | omega | (simp; omega)) _) | apply Bl_alloc | (refine Bl_trans ?_ hb))
  clear hb
  obtain ⟨cp0, cp1, cp2, cp3, cp4, cp5, cp6, cp7, cp8, cp9, cp10, cp11⟩ := cells12 Bp
  have fp := Bp.frozen; have lp := Bp.lt
  obtain ⟨cr0, cr1, cr2, cr3, cr4, cr5, cr6, cr7, cr8, cr9, cr10, cr11⟩ := cells12 Br
  have fr := Br.frozen; have lr := Br.lt
  obtain ⟨cq0, cq1, cq2, cq3, cq4, cq5, cq6, cq7, cq8, cq9, cq10, cq11⟩ := cells12 Bq
  have fq := Bq.frozen; have lq := Bq.lt
  go_wp2
  exact bodyPost_ret (v := .tuple #[pv2 v u, .bool ok]) (by simp [results, Tryd.results93, go_sem, cr0, cr1, cr2, cr3, cr4, cr5, cr6, cr7, cr8, cr9, cr10, cr11, lr]) rfl ⟨by rw [hs]; first | done | rfl, by repeat (first | (with_reducible exact hB) | (with_reducible refine Bl_set ?_ (by first | omega | (simp; done) | (simp; omega)) _) | with_reducible apply Bl_alloc)⟩
theorem rv_ne {a X : Rng} (h : ¬ a = X) (x y : Result Next) : (if T a.b.v = T X.b.v then if T a.b.m = T X.b.m then if T a.lo = T X.lo then if T a.hi = T X.hi then if S a.sl = S X.sl then if S a.sh = S X.sh then x else y else y else y else y else y else y) = y := by
  split
  · rename_i e0
    split
    · rename_i e1
      split
      · rename_i e2
        split
        · rename_i e3
          split
          · rename_i e4
            split
            · rename_i e5
              have hb : a.b = X.b := by
                have h0 := T_inj e0; have h1 := T_inj e1
                cases hA : a.b; cases hX : X.b; rw [hA, hX] at h0 h1; simp at h0 h1; rw [h0, h1]
              exact absurd (PlainScalar.Rng.ext' hb (T_inj e2) (T_inj e3) (S_inj e4) (S_inj e5)) h
            · rfl
          · rfl
        · rfl
      · rfl
    · rfl
  · rfl
set_option maxRecDepth 100000 in
set_option maxHeartbeats 3200000 in
theorem aloneP_c (a b : Rng) (w : World) : Calls Tryd.prog 67 #[pv2 a b] w fun e w' => e = .returned (.tuple #[uv a.lo, uv b.lo, .bool (PlainBranch.aloneP (a, b))]) ∧ Below w.heap.size w w' := by
  have hs : PlainBranch.aloneP (a, b) = ((a == PlainScalar.const a.lo) && (b == PlainScalar.const b.lo)) := rfl
  obtain ⟨X, e_X⟩ : ∃ z' : Rng, z' = PlainScalar.const a.lo := ⟨_, rfl⟩
  have k_X : ∀ w : World, Calls Tryd.prog 19 #[uv a.lo] w fun e w' => e = .returned (rv X) ∧ Below w.heap.size w w' := fun w => by rw [e_X]; exact sconst_c a.lo w
  obtain ⟨Y, e_Y⟩ : ∃ z' : Rng, z' = PlainScalar.const b.lo := ⟨_, rfl⟩
  have k_Y : ∀ w : World, Calls Tryd.prog 19 #[uv b.lo] w fun e w' => e = .returned (rv Y) ∧ Below w.heap.size w w' := fun w => by rw [e_Y]; exact sconst_c b.lo w
  rw [← e_X, ← e_Y] at hs
  clear e_X e_Y
  by_cases h1 : a = X
  · rw [← h1] at k_X hs
    clear h1
    by_cases h2 : b = Y
    · rw [← h2] at k_Y hs
      clear h2
      simp at hs
      go_enter Tryd.func67, Tryd.ntmps67
      go_wp2_with fail
      obtain ⟨gp, hgp⟩ : ∃ g, g = w.heap.size := ⟨_, rfl⟩
      have Bp : Blk (w.alloc (.cells #[uv a.b.v, uv a.b.m, uv a.lo, uv a.hi, sv a.sl, sv a.sh, uv b.b.v, uv b.b.m, uv b.lo, uv b.hi, sv b.sl, sv b.sh] 83)) (w.heap.size) 83 #[uv a.b.v, uv a.b.m, uv a.lo, uv a.hi, sv a.sl, sv a.sh, uv b.b.v, uv b.b.m, uv b.lo, uv b.hi, sv b.sl, sv b.sh] := (Blk.new w 83 #[uv a.b.v, uv a.b.m, uv a.lo, uv a.hi, sv a.sl, sv a.sh, uv b.b.v, uv b.b.m, uv b.lo, uv b.hi, sv b.sl, sv b.sh])
      have hB : Below w.heap.size w (w.alloc (.cells #[uv a.b.v, uv a.b.m, uv a.lo, uv a.hi, sv a.sl, sv a.sh, uv b.b.v, uv b.b.m, uv b.lo, uv b.hi, sv b.sl, sv b.sh] 83)) := (Bl_alloc (Bl_refl w) _)
      clear hgp
      clear gp
      generalize (w.alloc (.cells #[uv a.b.v, uv a.b.m, uv a.lo, uv a.hi, sv a.sl, sv a.sh, uv b.b.v, uv b.b.m, uv b.lo, uv b.hi, sv b.sl, sv b.sh] 83)) = w1 at *
      obtain ⟨cp0, cp1, cp2, cp3, cp4, cp5, cp6, cp7, cp8, cp9, cp10, cp11⟩ := cells12 Bp
      have fp := Bp.frozen; have lp := Bp.lt
      go_wp2_with fail
      clear cp0 cp1 cp2 cp3 cp4 cp5 cp6 cp7 cp8 cp9 cp10 cp11; obtain ⟨cp0, cp1, cp2, cp3, cp4, cp5, cp6, cp7, cp8, cp9, cp10, cp11⟩ := lcells12 Bp
      refine wp_region_mix 8 (fun _ => #[]) (by kernel_rfl) (by kernel_rfl) (no_alloc (by kernel_rfl)) ?_
      simp only [List.take_succ_cons, List.take_zero, List.drop_succ_cons, List.drop_zero]
      repeat (refine wpMix_step (fun K hK => ?_); go_simp; first | (refine hK _ ?_; clear hK K))
      refine wpMix_nil ?_
      intro G w2 hgr hblk hdist
      have hb : Below w1.heap.size w1 w2 := hgr
      replace Bp := Bp.next hb
      clear cp0 cp1 cp2 cp3 cp4 cp5 cp6 cp7 cp8 cp9 cp10 cp11 fp lp
      replace hB : Below w.heap.size w w2 := Bl_trans hB hb
      simp only [putAll, isAlloc]
      clear hb hgr hblk hdist
      obtain ⟨cp0, cp1, cp2, cp3, cp4, cp5, cp6, cp7, cp8, cp9, cp10, cp11⟩ := cells12 Bp
      have fp := Bp.frozen; have lp := Bp.lt
      go_wp2_with fail
      clear cp0 cp1 cp2 cp3 cp4 cp5 cp6 cp7 cp8 cp9 cp10 cp11; obtain ⟨cp0, cp1, cp2, cp3, cp4, cp5, cp6, cp7, cp8, cp9, cp10, cp11⟩ := lcells12 Bp
      refine wp_region_mix 17 (fun _ => #[]) (by kernel_rfl) (by kernel_rfl) (no_alloc (by kernel_rfl)) ?_
      simp only [List.take_succ_cons, List.take_zero, List.drop_succ_cons, List.drop_zero]
      repeat (refine wpMix_step (fun K hK => ?_); go_simp; first | (refine hK _ ?_; clear hK K) | (apply Exists.intro; refine ⟨fun g => ?_, hK _ ?_⟩; ((with_reducible refine Calls.mono (k_X g.w) ?_); exact fun _ _ h => h); clear hK K) | (apply Exists.intro; refine ⟨fun g => ?_, hK _ ?_⟩; ((with_reducible refine Calls.mono (k_Y g.w) ?_); exact fun _ _ h => h); clear hK K))
      refine wpMix_nil ?_
      intro G w3 hgr hblk hdist
      have hb : Below w2.heap.size w2 w3 := hgr
      replace Bp := Bp.next hb
      clear cp0 cp1 cp2 cp3 cp4 cp5 cp6 cp7 cp8 cp9 cp10 cp11 fp lp
      replace hB : Below w.heap.size w w3 := Bl_trans hB hb
      simp only [putAll, isAlloc]
      clear hb hgr hblk hdist
      obtain ⟨cp0, cp1, cp2, cp3, cp4, cp5, cp6, cp7, cp8, cp9, cp10, cp11⟩ := cells12 Bp
      have fp := Bp.frozen; have lp := Bp.lt
      go_wp2
      exact bodyPost_ret (v := .tuple #[uv a.lo, uv b.lo, .bool (PlainBranch.aloneP (a, b))]) (by simp [results, Tryd.results67, go_sem, hs]) rfl ⟨rfl, by repeat (first | (with_reducible exact hB) | with_reducible apply Bl_alloc)⟩
    · have hne := rv_ne h2
      have hb0 : (b == Y) = false := by simpa using h2
      clear h2
      simp only [hb0, Bool.and_false] at hs
      go_enter Tryd.func67, Tryd.ntmps67
      go_wp2_with fail
      obtain ⟨gp, hgp⟩ : ∃ g, g = w.heap.size := ⟨_, rfl⟩
      have Bp : Blk (w.alloc (.cells #[uv a.b.v, uv a.b.m, uv a.lo, uv a.hi, sv a.sl, sv a.sh, uv b.b.v, uv b.b.m, uv b.lo, uv b.hi, sv b.sl, sv b.sh] 83)) (w.heap.size) 83 #[uv a.b.v, uv a.b.m, uv a.lo, uv a.hi, sv a.sl, sv a.sh, uv b.b.v, uv b.b.m, uv b.lo, uv b.hi, sv b.sl, sv b.sh] := (Blk.new w 83 #[uv a.b.v, uv a.b.m, uv a.lo, uv a.hi, sv a.sl, sv a.sh, uv b.b.v, uv b.b.m, uv b.lo, uv b.hi, sv b.sl, sv b.sh])
      have hB : Below w.heap.size w (w.alloc (.cells #[uv a.b.v, uv a.b.m, uv a.lo, uv a.hi, sv a.sl, sv a.sh, uv b.b.v, uv b.b.m, uv b.lo, uv b.hi, sv b.sl, sv b.sh] 83)) := (Bl_alloc (Bl_refl w) _)
      clear hgp
      clear gp
      generalize (w.alloc (.cells #[uv a.b.v, uv a.b.m, uv a.lo, uv a.hi, sv a.sl, sv a.sh, uv b.b.v, uv b.b.m, uv b.lo, uv b.hi, sv b.sl, sv b.sh] 83)) = w1 at *
      obtain ⟨cp0, cp1, cp2, cp3, cp4, cp5, cp6, cp7, cp8, cp9, cp10, cp11⟩ := cells12 Bp
      have fp := Bp.frozen; have lp := Bp.lt
      go_wp2_with fail
      clear cp0 cp1 cp2 cp3 cp4 cp5 cp6 cp7 cp8 cp9 cp10 cp11; obtain ⟨cp0, cp1, cp2, cp3, cp4, cp5, cp6, cp7, cp8, cp9, cp10, cp11⟩ := lcells12 Bp
      refine wp_region_mix 8 (fun _ => #[]) (by kernel_rfl) (by kernel_rfl) (no_alloc (by kernel_rfl)) ?_
      simp only [List.take_succ_cons, List.take_zero, List.drop_succ_cons, List.drop_zero]
      repeat (refine wpMix_step (fun K hK => ?_); go_simp; first | (refine hK _ ?_; clear hK K))
      refine wpMix_nil ?_
      intro G w2 hgr hblk hdist
      have hb : Below w1.heap.size w1 w2 := hgr
      replace Bp := Bp.next hb
      clear cp0 cp1 cp2 cp3 cp4 cp5 cp6 cp7 cp8 cp9 cp10 cp11 fp lp
      replace hB : Below w.heap.size w w2 := Bl_trans hB hb
      simp only [putAll, isAlloc]
      clear hb hgr hblk hdist
      obtain ⟨cp0, cp1, cp2, cp3, cp4, cp5, cp6, cp7, cp8, cp9, cp10, cp11⟩ := cells12 Bp
      have fp := Bp.frozen; have lp := Bp.lt
      go_wp2_with fail
      clear cp0 cp1 cp2 cp3 cp4 cp5 cp6 cp7 cp8 cp9 cp10 cp11; obtain ⟨cp0, cp1, cp2, cp3, cp4, cp5, cp6, cp7, cp8, cp9, cp10, cp11⟩ := lcells12 Bp
      refine wp_region_mix 17 (fun _ => #[]) (by kernel_rfl) (by kernel_rfl) (no_alloc (by kernel_rfl)) ?_
      simp only [List.take_succ_cons, List.take_zero, List.drop_succ_cons, List.drop_zero]
      repeat (refine wpMix_step (fun K hK => ?_); go_simp; first | (refine hK _ ?_; clear hK K) | (apply Exists.intro; refine ⟨fun g => ?_, hK _ ?_⟩; ((with_reducible refine Calls.mono (k_X g.w) ?_); exact fun _ _ h => h); clear hK K) | (apply Exists.intro; refine ⟨fun g => ?_, hK _ ?_⟩; ((with_reducible refine Calls.mono (k_Y g.w) ?_); exact fun _ _ h => h); clear hK K))
      refine wpMix_nil ?_
      intro G w3 hgr hblk hdist
      have hb : Below w2.heap.size w2 w3 := hgr
      replace Bp := Bp.next hb
      clear cp0 cp1 cp2 cp3 cp4 cp5 cp6 cp7 cp8 cp9 cp10 cp11 fp lp
      replace hB : Below w.heap.size w w3 := Bl_trans hB hb
      simp only [putAll, isAlloc]
      clear hb hgr hblk hdist
      obtain ⟨cp0, cp1, cp2, cp3, cp4, cp5, cp6, cp7, cp8, cp9, cp10, cp11⟩ := cells12 Bp
      have fp := Bp.frozen; have lp := Bp.lt
      go_wp2
      exact bodyPost_ret (v := .tuple #[uv a.lo, uv b.lo, .bool (PlainBranch.aloneP (a, b))]) (by simp [results, Tryd.results67, go_sem, hs]) rfl ⟨rfl, by repeat (first | (with_reducible exact hB) | with_reducible apply Bl_alloc)⟩
  · have hne := rv_ne h1
    have ha0 : (a == X) = false := by simpa using h1
    clear h1
    simp only [ha0, Bool.false_and] at hs
    go_enter Tryd.func67, Tryd.ntmps67
    go_wp2_with fail
    obtain ⟨gp, hgp⟩ : ∃ g, g = w.heap.size := ⟨_, rfl⟩
    have Bp : Blk (w.alloc (.cells #[uv a.b.v, uv a.b.m, uv a.lo, uv a.hi, sv a.sl, sv a.sh, uv b.b.v, uv b.b.m, uv b.lo, uv b.hi, sv b.sl, sv b.sh] 83)) (w.heap.size) 83 #[uv a.b.v, uv a.b.m, uv a.lo, uv a.hi, sv a.sl, sv a.sh, uv b.b.v, uv b.b.m, uv b.lo, uv b.hi, sv b.sl, sv b.sh] := (Blk.new w 83 #[uv a.b.v, uv a.b.m, uv a.lo, uv a.hi, sv a.sl, sv a.sh, uv b.b.v, uv b.b.m, uv b.lo, uv b.hi, sv b.sl, sv b.sh])
    have hB : Below w.heap.size w (w.alloc (.cells #[uv a.b.v, uv a.b.m, uv a.lo, uv a.hi, sv a.sl, sv a.sh, uv b.b.v, uv b.b.m, uv b.lo, uv b.hi, sv b.sl, sv b.sh] 83)) := (Bl_alloc (Bl_refl w) _)
    clear hgp
    clear gp
    generalize (w.alloc (.cells #[uv a.b.v, uv a.b.m, uv a.lo, uv a.hi, sv a.sl, sv a.sh, uv b.b.v, uv b.b.m, uv b.lo, uv b.hi, sv b.sl, sv b.sh] 83)) = w1 at *
    obtain ⟨cp0, cp1, cp2, cp3, cp4, cp5, cp6, cp7, cp8, cp9, cp10, cp11⟩ := cells12 Bp
    have fp := Bp.frozen; have lp := Bp.lt
    go_wp2_with fail
    clear cp0 cp1 cp2 cp3 cp4 cp5 cp6 cp7 cp8 cp9 cp10 cp11; obtain ⟨cp0, cp1, cp2, cp3, cp4, cp5, cp6, cp7, cp8, cp9, cp10, cp11⟩ := lcells12 Bp
    refine wp_region_mix 8 (fun _ => #[]) (by kernel_rfl) (by kernel_rfl) (no_alloc (by kernel_rfl)) ?_
    simp only [List.take_succ_cons, List.take_zero, List.drop_succ_cons, List.drop_zero]
    repeat (refine wpMix_step (fun K hK => ?_); go_simp; first | (refine hK _ ?_; clear hK K))
    refine wpMix_nil ?_
    intro G w2 hgr hblk hdist
    have hb : Below w1.heap.size w1 w2 := hgr
    replace Bp := Bp.next hb
    clear cp0 cp1 cp2 cp3 cp4 cp5 cp6 cp7 cp8 cp9 cp10 cp11 fp lp
    replace hB : Below w.heap.size w w2 := Bl_trans hB hb
    simp only [putAll, isAlloc]
    clear hb hgr hblk hdist
    obtain ⟨cp0, cp1, cp2, cp3, cp4, cp5, cp6, cp7, cp8, cp9, cp10, cp11⟩ := cells12 Bp
    have fp := Bp.frozen; have lp := Bp.lt
    go_wp2_with fail
    clear cp0 cp1 cp2 cp3 cp4 cp5 cp6 cp7 cp8 cp9 cp10 cp11; obtain ⟨cp0, cp1, cp2, cp3, cp4, cp5, cp6, cp7, cp8, cp9, cp10, cp11⟩ := lcells12 Bp
    refine wp_region_mix 17 (fun _ => #[]) (by kernel_rfl) (by kernel_rfl) (no_alloc (by kernel_rfl)) ?_
    simp only [List.take_succ_cons, List.take_zero, List.drop_succ_cons, List.drop_zero]
    repeat (refine wpMix_step (fun K hK => ?_); go_simp; first | (refine hK _ ?_; clear hK K) | (apply Exists.intro; refine ⟨fun g => ?_, hK _ ?_⟩; ((with_reducible refine Calls.mono (k_X g.w) ?_); exact fun _ _ h => h); clear hK K) | (apply Exists.intro; refine ⟨fun g => ?_, hK _ ?_⟩; ((with_reducible refine Calls.mono (k_Y g.w) ?_); exact fun _ _ h => h); clear hK K))
    refine wpMix_nil ?_
    intro G w3 hgr hblk hdist
    have hb : Below w2.heap.size w2 w3 := hgr
    replace Bp := Bp.next hb
    clear cp0 cp1 cp2 cp3 cp4 cp5 cp6 cp7 cp8 cp9 cp10 cp11 fp lp
    replace hB : Below w.heap.size w w3 := Bl_trans hB hb
    simp only [putAll, isAlloc]
    clear hb hgr hblk hdist
    obtain ⟨cp0, cp1, cp2, cp3, cp4, cp5, cp6, cp7, cp8, cp9, cp10, cp11⟩ := cells12 Bp
    have fp := Bp.frozen; have lp := Bp.lt
    go_wp2
    exact bodyPost_ret (v := .tuple #[uv a.lo, uv b.lo, .bool (PlainBranch.aloneP (a, b))]) (by simp [results, Tryd.results67, go_sem, hs]) rfl ⟨rfl, by repeat (first | (with_reducible exact hB) | with_reducible apply Bl_alloc)⟩
set_option maxRecDepth 100000 in
set_option maxHeartbeats 3200000 in
theorem whe_3 (a b : Rng) (w : World) : Calls Tryd.prog 72 #[.int .i64 3, pv2 a b] w fun e w' => e = .returned (tv (PlainBranch.whereF 3 (a, b))) ∧ Below w.heap.size w w' := by
  obtain ⟨R, e_R⟩ : ∃ z' : PlainBranch.Pair × Bool, z' = PlainBranch.greater (a, b) false := ⟨_, rfl⟩
  have k_R : ∀ w : World, Calls Tryd.prog 92 #[pv2 a b, .bool false] w fun e w' => e = .returned (tv R) ∧ Below w.heap.size w w' := fun w => by rw [e_R]; exact greater_c a b false w
  have hs : PlainBranch.whereF 3 (a, b) = R := by rw [e_R]; unfold PlainBranch.whereF; simp
  clear e_R
  go_enter Tryd.func72, Tryd.ntmps72
  go_wp2_with fail
  obtain ⟨gp, hgp⟩ : ∃ g, g = w.heap.size := ⟨_, rfl⟩
  obtain ⟨gr, hgr⟩ : ∃ g, g = w.heap.size + 1 := ⟨_, rfl⟩
  have Bp : Blk ((w.alloc (.cells #[uv a.b.v, uv a.b.m, uv a.lo, uv a.hi, sv a.sl, sv a.sh, uv b.b.v, uv b.b.m, uv b.lo, uv b.hi, sv b.sl, sv b.sh] 83)).alloc (.cells #[.int .u64 0, .int .u64 0, .int .u64 0, .int .u64 0, .int .i64 0, .int .i64 0, .int .u64 0, .int .u64 0, .int .u64 0, .int .u64 0, .int .i64 0, .int .i64 0] 83)) (w.heap.size) 83 #[uv a.b.v, uv a.b.m, uv a.lo, uv a.hi, sv a.sl, sv a.sh, uv b.b.v, uv b.b.m, uv b.lo, uv b.hi, sv b.sl, sv b.sh] := ((Blk.new w 83 #[uv a.b.v, uv a.b.m, uv a.lo, uv a.hi, sv a.sl, sv a.sh, uv b.b.v, uv b.b.m, uv b.lo, uv b.hi, sv b.sl, sv b.sh])).alloc _
  have Br : Blk ((w.alloc (.cells #[uv a.b.v, uv a.b.m, uv a.lo, uv a.hi, sv a.sl, sv a.sh, uv b.b.v, uv b.b.m, uv b.lo, uv b.hi, sv b.sl, sv b.sh] 83)).alloc (.cells #[.int .u64 0, .int .u64 0, .int .u64 0, .int .u64 0, .int .i64 0, .int .i64 0, .int .u64 0, .int .u64 0, .int .u64 0, .int .u64 0, .int .i64 0, .int .i64 0] 83)) (w.heap.size + 1) 83 #[.int .u64 0, .int .u64 0, .int .u64 0, .int .u64 0, .int .i64 0, .int .i64 0, .int .u64 0, .int .u64 0, .int .u64 0, .int .u64 0, .int .i64 0, .int .i64 0] := (by simpa using Blk.new (w.alloc (.cells #[uv a.b.v, uv a.b.m, uv a.lo, uv a.hi, sv a.sl, sv a.sh, uv b.b.v, uv b.b.m, uv b.lo, uv b.hi, sv b.sl, sv b.sh] 83)) 83 #[.int .u64 0, .int .u64 0, .int .u64 0, .int .u64 0, .int .i64 0, .int .i64 0, .int .u64 0, .int .u64 0, .int .u64 0, .int .u64 0, .int .i64 0, .int .i64 0] : Blk _ (w.heap.size + 1) 83 #[.int .u64 0, .int .u64 0, .int .u64 0, .int .u64 0, .int .i64 0, .int .i64 0, .int .u64 0, .int .u64 0, .int .u64 0, .int .u64 0, .int .i64 0, .int .i64 0])
  have hB : Below w.heap.size w ((w.alloc (.cells #[uv a.b.v, uv a.b.m, uv a.lo, uv a.hi, sv a.sl, sv a.sh, uv b.b.v, uv b.b.m, uv b.lo, uv b.hi, sv b.sl, sv b.sh] 83)).alloc (.cells #[.int .u64 0, .int .u64 0, .int .u64 0, .int .u64 0, .int .i64 0, .int .i64 0, .int .u64 0, .int .u64 0, .int .u64 0, .int .u64 0, .int .i64 0, .int .i64 0] 83)) := (Bl_alloc (Bl_alloc (Bl_refl w) _) _)
  clear hgp
  clear gp
  clear hgr
  clear gr
  generalize ((w.alloc (.cells #[uv a.b.v, uv a.b.m, uv a.lo, uv a.hi, sv a.sl, sv a.sh, uv b.b.v, uv b.b.m, uv b.lo, uv b.hi, sv b.sl, sv b.sh] 83)).alloc (.cells #[.int .u64 0, .int .u64 0, .int .u64 0, .int .u64 0, .int .i64 0, .int .i64 0, .int .u64 0, .int .u64 0, .int .u64 0, .int .u64 0, .int .i64 0, .int .i64 0] 83)) = w1 at *
  obtain ⟨cp0, cp1, cp2, cp3, cp4, cp5, cp6, cp7, cp8, cp9, cp10, cp11⟩ := cells12 Bp
  have fp := Bp.frozen; have lp := Bp.lt
  obtain ⟨cr0, cr1, cr2, cr3, cr4, cr5, cr6, cr7, cr8, cr9, cr10, cr11⟩ := cells12 Br
  have fr := Br.frozen; have lr := Br.lt
  go_wp2_with fail
  refine (k_R _).mono ?_
  rintro e w2 ⟨rfl, hb⟩
  clear cp0 cp1 cp2 cp3 cp4 cp5 cp6 cp7 cp8 cp9 cp10 cp11 fp lp
  clear cr0 cr1 cr2 cr3 cr4 cr5 cr6 cr7 cr8 cr9 cr10 cr11 fr lr
  replace Bp := (Bp).next hb
  replace Br := (Br).next hb
  replace hB : Below w.heap.size w w2 := by repeat (first | exact hB | (refine Bl_set ?_ (by first | omega | (simp; omega)) _) | apply Bl_alloc | (refine Bl_trans ?_ hb))
  clear hb
  obtain ⟨cp0, cp1, cp2, cp3, cp4, cp5, cp6, cp7, cp8, cp9, cp10, cp11⟩ := cells12 Bp
  have fp := Bp.frozen; have lp := Bp.lt
  obtain ⟨cr0, cr1, cr2, cr3, cr4, cr5, cr6, cr7, cr8, cr9, cr10, cr11⟩ := cells12 Br
  have fr := Br.frozen; have lr := Br.lt
  go_wp2
  exact bodyPost_ret (v := tv R) (by simp [results, Tryd.results72, go_sem, cr0, cr1, cr2, cr3, cr4, cr5, cr6, cr7, cr8, cr9, cr10, cr11, lr]) rfl ⟨by rw [hs]; first | done | rfl, by repeat (first | (with_reducible exact hB) | (with_reducible refine Bl_set ?_ (by first | omega | (simp; done) | (simp; omega)) _) | with_reducible apply Bl_alloc)⟩
set_option maxRecDepth 100000 in
set_option maxHeartbeats 3200000 in
theorem whe_10 (a b : Rng) (w : World) : Calls Tryd.prog 72 #[.int .i64 10, pv2 a b] w fun e w' => e = .returned (tv (PlainBranch.whereF 10 (a, b))) ∧ Below w.heap.size w w' := by
  obtain ⟨R, e_R⟩ : ∃ z' : PlainBranch.Pair × Bool, z' = PlainBranch.turned (a, b) PlainBranch.greater true := ⟨_, rfl⟩
  have k_R : ∀ w : World, Calls Tryd.prog 93 #[pv2 a b, .func (.func 92) #[] #[], .bool true] w fun e w' => e = .returned (tv R) ∧ Below w.heap.size w w' := fun w => by rw [e_R]; exact turnedG_c a b true w
  have hs : PlainBranch.whereF 10 (a, b) = R := by rw [e_R]; unfold PlainBranch.whereF; simp
  clear e_R
  go_enter Tryd.func72, Tryd.ntmps72
  go_wp2_with fail
  obtain ⟨gp, hgp⟩ : ∃ g, g = w.heap.size := ⟨_, rfl⟩
  obtain ⟨gr, hgr⟩ : ∃ g, g = w.heap.size + 1 := ⟨_, rfl⟩
  have Bp : Blk ((w.alloc (.cells #[uv a.b.v, uv a.b.m, uv a.lo, uv a.hi, sv a.sl, sv a.sh, uv b.b.v, uv b.b.m, uv b.lo, uv b.hi, sv b.sl, sv b.sh] 83)).alloc (.cells #[.int .u64 0, .int .u64 0, .int .u64 0, .int .u64 0, .int .i64 0, .int .i64 0, .int .u64 0, .int .u64 0, .int .u64 0, .int .u64 0, .int .i64 0, .int .i64 0] 83)) (w.heap.size) 83 #[uv a.b.v, uv a.b.m, uv a.lo, uv a.hi, sv a.sl, sv a.sh, uv b.b.v, uv b.b.m, uv b.lo, uv b.hi, sv b.sl, sv b.sh] := ((Blk.new w 83 #[uv a.b.v, uv a.b.m, uv a.lo, uv a.hi, sv a.sl, sv a.sh, uv b.b.v, uv b.b.m, uv b.lo, uv b.hi, sv b.sl, sv b.sh])).alloc _
  have Br : Blk ((w.alloc (.cells #[uv a.b.v, uv a.b.m, uv a.lo, uv a.hi, sv a.sl, sv a.sh, uv b.b.v, uv b.b.m, uv b.lo, uv b.hi, sv b.sl, sv b.sh] 83)).alloc (.cells #[.int .u64 0, .int .u64 0, .int .u64 0, .int .u64 0, .int .i64 0, .int .i64 0, .int .u64 0, .int .u64 0, .int .u64 0, .int .u64 0, .int .i64 0, .int .i64 0] 83)) (w.heap.size + 1) 83 #[.int .u64 0, .int .u64 0, .int .u64 0, .int .u64 0, .int .i64 0, .int .i64 0, .int .u64 0, .int .u64 0, .int .u64 0, .int .u64 0, .int .i64 0, .int .i64 0] := (by simpa using Blk.new (w.alloc (.cells #[uv a.b.v, uv a.b.m, uv a.lo, uv a.hi, sv a.sl, sv a.sh, uv b.b.v, uv b.b.m, uv b.lo, uv b.hi, sv b.sl, sv b.sh] 83)) 83 #[.int .u64 0, .int .u64 0, .int .u64 0, .int .u64 0, .int .i64 0, .int .i64 0, .int .u64 0, .int .u64 0, .int .u64 0, .int .u64 0, .int .i64 0, .int .i64 0] : Blk _ (w.heap.size + 1) 83 #[.int .u64 0, .int .u64 0, .int .u64 0, .int .u64 0, .int .i64 0, .int .i64 0, .int .u64 0, .int .u64 0, .int .u64 0, .int .u64 0, .int .i64 0, .int .i64 0])
  have hB : Below w.heap.size w ((w.alloc (.cells #[uv a.b.v, uv a.b.m, uv a.lo, uv a.hi, sv a.sl, sv a.sh, uv b.b.v, uv b.b.m, uv b.lo, uv b.hi, sv b.sl, sv b.sh] 83)).alloc (.cells #[.int .u64 0, .int .u64 0, .int .u64 0, .int .u64 0, .int .i64 0, .int .i64 0, .int .u64 0, .int .u64 0, .int .u64 0, .int .u64 0, .int .i64 0, .int .i64 0] 83)) := (Bl_alloc (Bl_alloc (Bl_refl w) _) _)
  clear hgp
  clear gp
  clear hgr
  clear gr
  generalize ((w.alloc (.cells #[uv a.b.v, uv a.b.m, uv a.lo, uv a.hi, sv a.sl, sv a.sh, uv b.b.v, uv b.b.m, uv b.lo, uv b.hi, sv b.sl, sv b.sh] 83)).alloc (.cells #[.int .u64 0, .int .u64 0, .int .u64 0, .int .u64 0, .int .i64 0, .int .i64 0, .int .u64 0, .int .u64 0, .int .u64 0, .int .u64 0, .int .i64 0, .int .i64 0] 83)) = w1 at *
  obtain ⟨cp0, cp1, cp2, cp3, cp4, cp5, cp6, cp7, cp8, cp9, cp10, cp11⟩ := cells12 Bp
  have fp := Bp.frozen; have lp := Bp.lt
  obtain ⟨cr0, cr1, cr2, cr3, cr4, cr5, cr6, cr7, cr8, cr9, cr10, cr11⟩ := cells12 Br
  have fr := Br.frozen; have lr := Br.lt
  go_wp2_with fail
  refine (k_R _).mono ?_
  rintro e w2 ⟨rfl, hb⟩
  clear cp0 cp1 cp2 cp3 cp4 cp5 cp6 cp7 cp8 cp9 cp10 cp11 fp lp
  clear cr0 cr1 cr2 cr3 cr4 cr5 cr6 cr7 cr8 cr9 cr10 cr11 fr lr
  replace Bp := (Bp).next hb
  replace Br := (Br).next hb
  replace hB : Below w.heap.size w w2 := by repeat (first | exact hB | (refine Bl_set ?_ (by first | omega | (simp; omega)) _) | apply Bl_alloc | (refine Bl_trans ?_ hb))
  clear hb
  obtain ⟨cp0, cp1, cp2, cp3, cp4, cp5, cp6, cp7, cp8, cp9, cp10, cp11⟩ := cells12 Bp
  have fp := Bp.frozen; have lp := Bp.lt
  obtain ⟨cr0, cr1, cr2, cr3, cr4, cr5, cr6, cr7, cr8, cr9, cr10, cr11⟩ := cells12 Br
  have fr := Br.frozen; have lr := Br.lt
  go_wp2
  exact bodyPost_ret (v := tv R) (by simp [results, Tryd.results72, go_sem, cr0, cr1, cr2, cr3, cr4, cr5, cr6, cr7, cr8, cr9, cr10, cr11, lr]) rfl ⟨by rw [hs]; first | done | rfl, by repeat (first | (with_reducible exact hB) | (with_reducible refine Bl_set ?_ (by first | omega | (simp; done) | (simp; omega)) _) | with_reducible apply Bl_alloc)⟩
set_option maxRecDepth 100000 in
set_option maxHeartbeats 3200000 in
theorem refP_no (a b u v : Rng) (op : Int) (l : Bool) (h : Bool) (k_Q : ∀ w : World, Calls Tryd.prog 66 #[pv2 a b] w fun e w' => e = .returned (.tuple #[pv2 u v, .bool false]) ∧ Below w.heap.size w w') (hs : PlainBranch.refineP op l (a, b) h = (PlainBranch.zero, false)) (w : World) : Calls Tryd.prog 45 #[.int .i64 op, .bool l, pv2 a b, .bool h] w fun e w' => e = .returned (tv (PlainBranch.refineP op l (a, b) h)) ∧ Below w.heap.size w w' := by
  go_enter Tryd.func45, Tryd.ntmps45
  go_wp2_with fail
  obtain ⟨gp, hgp⟩ : ∃ g, g = w.heap.size := ⟨_, rfl⟩
  obtain ⟨gr, hgr⟩ : ∃ g, g = w.heap.size + 1 := ⟨_, rfl⟩
  have Bp : Blk ((w.alloc (.cells #[uv a.b.v, uv a.b.m, uv a.lo, uv a.hi, sv a.sl, sv a.sh, uv b.b.v, uv b.b.m, uv b.lo, uv b.hi, sv b.sl, sv b.sh] 83)).alloc (.cells #[.int .u64 0, .int .u64 0, .int .u64 0, .int .u64 0, .int .i64 0, .int .i64 0, .int .u64 0, .int .u64 0, .int .u64 0, .int .u64 0, .int .i64 0, .int .i64 0] 83)) (w.heap.size) 83 #[uv a.b.v, uv a.b.m, uv a.lo, uv a.hi, sv a.sl, sv a.sh, uv b.b.v, uv b.b.m, uv b.lo, uv b.hi, sv b.sl, sv b.sh] := ((Blk.new w 83 #[uv a.b.v, uv a.b.m, uv a.lo, uv a.hi, sv a.sl, sv a.sh, uv b.b.v, uv b.b.m, uv b.lo, uv b.hi, sv b.sl, sv b.sh])).alloc _
  have Br : Blk ((w.alloc (.cells #[uv a.b.v, uv a.b.m, uv a.lo, uv a.hi, sv a.sl, sv a.sh, uv b.b.v, uv b.b.m, uv b.lo, uv b.hi, sv b.sl, sv b.sh] 83)).alloc (.cells #[.int .u64 0, .int .u64 0, .int .u64 0, .int .u64 0, .int .i64 0, .int .i64 0, .int .u64 0, .int .u64 0, .int .u64 0, .int .u64 0, .int .i64 0, .int .i64 0] 83)) (w.heap.size + 1) 83 #[.int .u64 0, .int .u64 0, .int .u64 0, .int .u64 0, .int .i64 0, .int .i64 0, .int .u64 0, .int .u64 0, .int .u64 0, .int .u64 0, .int .i64 0, .int .i64 0] := (by simpa using Blk.new (w.alloc (.cells #[uv a.b.v, uv a.b.m, uv a.lo, uv a.hi, sv a.sl, sv a.sh, uv b.b.v, uv b.b.m, uv b.lo, uv b.hi, sv b.sl, sv b.sh] 83)) 83 #[.int .u64 0, .int .u64 0, .int .u64 0, .int .u64 0, .int .i64 0, .int .i64 0, .int .u64 0, .int .u64 0, .int .u64 0, .int .u64 0, .int .i64 0, .int .i64 0] : Blk _ (w.heap.size + 1) 83 #[.int .u64 0, .int .u64 0, .int .u64 0, .int .u64 0, .int .i64 0, .int .i64 0, .int .u64 0, .int .u64 0, .int .u64 0, .int .u64 0, .int .i64 0, .int .i64 0])
  have hB : Below w.heap.size w ((w.alloc (.cells #[uv a.b.v, uv a.b.m, uv a.lo, uv a.hi, sv a.sl, sv a.sh, uv b.b.v, uv b.b.m, uv b.lo, uv b.hi, sv b.sl, sv b.sh] 83)).alloc (.cells #[.int .u64 0, .int .u64 0, .int .u64 0, .int .u64 0, .int .i64 0, .int .i64 0, .int .u64 0, .int .u64 0, .int .u64 0, .int .u64 0, .int .i64 0, .int .i64 0] 83)) := (Bl_alloc (Bl_alloc (Bl_refl w) _) _)
  clear hgp
  clear gp
  clear hgr
  clear gr
  generalize ((w.alloc (.cells #[uv a.b.v, uv a.b.m, uv a.lo, uv a.hi, sv a.sl, sv a.sh, uv b.b.v, uv b.b.m, uv b.lo, uv b.hi, sv b.sl, sv b.sh] 83)).alloc (.cells #[.int .u64 0, .int .u64 0, .int .u64 0, .int .u64 0, .int .i64 0, .int .i64 0, .int .u64 0, .int .u64 0, .int .u64 0, .int .u64 0, .int .i64 0, .int .i64 0] 83)) = w1 at *
  obtain ⟨cp0, cp1, cp2, cp3, cp4, cp5, cp6, cp7, cp8, cp9, cp10, cp11⟩ := cells12 Bp
  have fp := Bp.frozen; have lp := Bp.lt
  obtain ⟨cr0, cr1, cr2, cr3, cr4, cr5, cr6, cr7, cr8, cr9, cr10, cr11⟩ := cells12 Br
  have fr := Br.frozen; have lr := Br.lt
  go_wp2_with fail
  refine (k_Q _).mono ?_
  rintro e w2 ⟨rfl, hb⟩
  clear cp0 cp1 cp2 cp3 cp4 cp5 cp6 cp7 cp8 cp9 cp10 cp11 fp lp
  clear cr0 cr1 cr2 cr3 cr4 cr5 cr6 cr7 cr8 cr9 cr10 cr11 fr lr
  replace Bp := (Bp).next hb
  replace Br := (Br).next hb
  replace hB : Below w.heap.size w w2 := by repeat (first | exact hB | (refine Bl_set ?_ (by first | omega | (simp; omega)) _) | apply Bl_alloc | (refine Bl_trans ?_ hb))
  clear hb
  obtain ⟨cp0, cp1, cp2, cp3, cp4, cp5, cp6, cp7, cp8, cp9, cp10, cp11⟩ := cells12 Bp
  have fp := Bp.frozen; have lp := Bp.lt
  obtain ⟨cr0, cr1, cr2, cr3, cr4, cr5, cr6, cr7, cr8, cr9, cr10, cr11⟩ := cells12 Br
  have fr := Br.frozen; have lr := Br.lt
  go_upto_region 2 with fail
  clear cp0 cp1 cp2 cp3 cp4 cp5 cp6 cp7 cp8 cp9 cp10 cp11 fp lp
  clear cr0 cr1 cr2 cr3 cr4 cr5 cr6 cr7 cr8 cr9 cr10 cr11 fr lr
  have Bq := Blk.new w2 83 #[uv u.b.v, uv u.b.m, uv u.lo, uv u.hi, sv u.sl, sv u.sh, uv v.b.v, uv v.b.m, uv v.lo, uv v.hi, sv v.sl, sv v.sh]
  have hgq := hB.size
  have hnpq := Nat.ne_of_lt Bp.lt; have hltpq := Bp.lt
  have hnrq := Nat.ne_of_lt Br.lt; have hltrq := Br.lt
  replace Bp : Blk (w2.alloc (.cells #[uv u.b.v, uv u.b.m, uv u.lo, uv u.hi, sv u.sl, sv u.sh, uv v.b.v, uv v.b.m, uv v.lo, uv v.hi, sv v.sl, sv v.sh] 83)) (w.heap.size) 83 #[uv a.b.v, uv a.b.m, uv a.lo, uv a.hi, sv a.sl, sv a.sh, uv b.b.v, uv b.b.m, uv b.lo, uv b.hi, sv b.sl, sv b.sh] := Bp.alloc _
  replace Br : Blk (w2.alloc (.cells #[uv u.b.v, uv u.b.m, uv u.lo, uv u.hi, sv u.sl, sv u.sh, uv v.b.v, uv v.b.m, uv v.lo, uv v.hi, sv v.sl, sv v.sh] 83)) (w.heap.size + 1) 83 #[.int .u64 0, .int .u64 0, .int .u64 0, .int .u64 0, .int .i64 0, .int .i64 0, .int .u64 0, .int .u64 0, .int .u64 0, .int .u64 0, .int .i64 0, .int .i64 0] := Br.alloc _
  replace hB : Below w.heap.size w (w2.alloc (.cells #[uv u.b.v, uv u.b.m, uv u.lo, uv u.hi, sv u.sl, sv u.sh, uv v.b.v, uv v.b.m, uv v.lo, uv v.hi, sv v.sl, sv v.sh] 83)) := Bl_alloc hB _
  generalize (w2.alloc (.cells #[uv u.b.v, uv u.b.m, uv u.lo, uv u.hi, sv u.sl, sv u.sh, uv v.b.v, uv v.b.m, uv v.lo, uv v.hi, sv v.sl, sv v.sh] 83)) = w3 at *
  generalize w2.heap.size = gq at *
  obtain ⟨cp0, cp1, cp2, cp3, cp4, cp5, cp6, cp7, cp8, cp9, cp10, cp11⟩ := cells12 Bp
  have fp := Bp.frozen; have lp := Bp.lt
  obtain ⟨cr0, cr1, cr2, cr3, cr4, cr5, cr6, cr7, cr8, cr9, cr10, cr11⟩ := cells12 Br
  have fr := Br.frozen; have lr := Br.lt
  obtain ⟨cq0, cq1, cq2, cq3, cq4, cq5, cq6, cq7, cq8, cq9, cq10, cq11⟩ := cells12 Bq
  have fq := Bq.frozen; have lq := Bq.lt
  go_wp2
  exact bodyPost_ret (v := .tuple #[pv2 PlainScalar.none_ PlainScalar.none_, .bool false]) (by simp [results, Tryd.results45, go_sem, cr0, cr1, cr2, cr3, cr4, cr5, cr6, cr7, cr8, cr9, cr10, cr11, lr, PlainScalar.none_, T, S]) rfl ⟨by rw [hs]; first | done | rfl, by repeat (first | (with_reducible exact hB) | (with_reducible refine Bl_set ?_ (by first | omega | (simp; done) | (simp; omega)) _) | with_reducible apply Bl_alloc)⟩
set_option maxRecDepth 100000 in
set_option maxHeartbeats 3200000 in
theorem refP_whe_true_true (a b u v : Rng) (op : Int) (e4 : (op == 4) = false) (k_Q : ∀ w : World, Calls Tryd.prog 66 #[pv2 a b] w fun e w' => e = .returned (.tuple #[pv2 u v, .bool true]) ∧ Below w.heap.size w w') (k_al : ∀ w : World, Calls Tryd.prog 67 #[pv2 u v] w fun e w' => e = .returned (.tuple #[uv u.lo, uv v.lo, .bool false]) ∧ Below w.heap.size w w') (R : PlainBranch.Pair × Bool) (k_R : ∀ w : World, Calls Tryd.prog 72 #[.int .i64 op, pv2 u v] w fun e w' => e = .returned (tv R) ∧ Below w.heap.size w w') (hs : PlainBranch.refineP op true (a, b) true = R) (w : World) : Calls Tryd.prog 45 #[.int .i64 op, .bool true, pv2 a b, .bool true] w fun e w' => e = .returned (tv (PlainBranch.refineP op true (a, b) true)) ∧ Below w.heap.size w w' := by
  go_enter Tryd.func45, Tryd.ntmps45
  go_wp2_with fail
  obtain ⟨gp, hgp⟩ : ∃ g, g = w.heap.size := ⟨_, rfl⟩
  obtain ⟨gr, hgr⟩ : ∃ g, g = w.heap.size + 1 := ⟨_, rfl⟩
  have Bp : Blk ((w.alloc (.cells #[uv a.b.v, uv a.b.m, uv a.lo, uv a.hi, sv a.sl, sv a.sh, uv b.b.v, uv b.b.m, uv b.lo, uv b.hi, sv b.sl, sv b.sh] 83)).alloc (.cells #[.int .u64 0, .int .u64 0, .int .u64 0, .int .u64 0, .int .i64 0, .int .i64 0, .int .u64 0, .int .u64 0, .int .u64 0, .int .u64 0, .int .i64 0, .int .i64 0] 83)) (w.heap.size) 83 #[uv a.b.v, uv a.b.m, uv a.lo, uv a.hi, sv a.sl, sv a.sh, uv b.b.v, uv b.b.m, uv b.lo, uv b.hi, sv b.sl, sv b.sh] := ((Blk.new w 83 #[uv a.b.v, uv a.b.m, uv a.lo, uv a.hi, sv a.sl, sv a.sh, uv b.b.v, uv b.b.m, uv b.lo, uv b.hi, sv b.sl, sv b.sh])).alloc _
  have Br : Blk ((w.alloc (.cells #[uv a.b.v, uv a.b.m, uv a.lo, uv a.hi, sv a.sl, sv a.sh, uv b.b.v, uv b.b.m, uv b.lo, uv b.hi, sv b.sl, sv b.sh] 83)).alloc (.cells #[.int .u64 0, .int .u64 0, .int .u64 0, .int .u64 0, .int .i64 0, .int .i64 0, .int .u64 0, .int .u64 0, .int .u64 0, .int .u64 0, .int .i64 0, .int .i64 0] 83)) (w.heap.size + 1) 83 #[.int .u64 0, .int .u64 0, .int .u64 0, .int .u64 0, .int .i64 0, .int .i64 0, .int .u64 0, .int .u64 0, .int .u64 0, .int .u64 0, .int .i64 0, .int .i64 0] := (by simpa using Blk.new (w.alloc (.cells #[uv a.b.v, uv a.b.m, uv a.lo, uv a.hi, sv a.sl, sv a.sh, uv b.b.v, uv b.b.m, uv b.lo, uv b.hi, sv b.sl, sv b.sh] 83)) 83 #[.int .u64 0, .int .u64 0, .int .u64 0, .int .u64 0, .int .i64 0, .int .i64 0, .int .u64 0, .int .u64 0, .int .u64 0, .int .u64 0, .int .i64 0, .int .i64 0] : Blk _ (w.heap.size + 1) 83 #[.int .u64 0, .int .u64 0, .int .u64 0, .int .u64 0, .int .i64 0, .int .i64 0, .int .u64 0, .int .u64 0, .int .u64 0, .int .u64 0, .int .i64 0, .int .i64 0])
  have hB : Below w.heap.size w ((w.alloc (.cells #[uv a.b.v, uv a.b.m, uv a.lo, uv a.hi, sv a.sl, sv a.sh, uv b.b.v, uv b.b.m, uv b.lo, uv b.hi, sv b.sl, sv b.sh] 83)).alloc (.cells #[.int .u64 0, .int .u64 0, .int .u64 0, .int .u64 0, .int .i64 0, .int .i64 0, .int .u64 0, .int .u64 0, .int .u64 0, .int .u64 0, .int .i64 0, .int .i64 0] 83)) := (Bl_alloc (Bl_alloc (Bl_refl w) _) _)
  clear hgp
  clear gp
  clear hgr
  clear gr
  generalize ((w.alloc (.cells #[uv a.b.v, uv a.b.m, uv a.lo, uv a.hi, sv a.sl, sv a.sh, uv b.b.v, uv b.b.m, uv b.lo, uv b.hi, sv b.sl, sv b.sh] 83)).alloc (.cells #[.int .u64 0, .int .u64 0, .int .u64 0, .int .u64 0, .int .i64 0, .int .i64 0, .int .u64 0, .int .u64 0, .int .u64 0, .int .u64 0, .int .i64 0, .int .i64 0] 83)) = w1 at *
  obtain ⟨cp0, cp1, cp2, cp3, cp4, cp5, cp6, cp7, cp8, cp9, cp10, cp11⟩ := cells12 Bp
  have fp := Bp.frozen; have lp := Bp.lt
  obtain ⟨cr0, cr1, cr2, cr3, cr4, cr5, cr6, cr7, cr8, cr9, cr10, cr11⟩ := cells12 Br
  have fr := Br.frozen; have lr := Br.lt
  go_wp2_with fail
  refine (k_Q _).mono ?_
  rintro e w2 ⟨rfl, hb⟩
  clear cp0 cp1 cp2 cp3 cp4 cp5 cp6 cp7 cp8 cp9 cp10 cp11 fp lp
  clear cr0 cr1 cr2 cr3 cr4 cr5 cr6 cr7 cr8 cr9 cr10 cr11 fr lr
  replace Bp := (Bp).next hb
  replace Br := (Br).next hb
  replace hB : Below w.heap.size w w2 := by repeat (first | exact hB | (refine Bl_set ?_ (by first | omega | (simp; omega)) _) | apply Bl_alloc | (refine Bl_trans ?_ hb))
  clear hb
  obtain ⟨cp0, cp1, cp2, cp3, cp4, cp5, cp6, cp7, cp8, cp9, cp10, cp11⟩ := cells12 Bp
  have fp := Bp.frozen; have lp := Bp.lt
  obtain ⟨cr0, cr1, cr2, cr3, cr4, cr5, cr6, cr7, cr8, cr9, cr10, cr11⟩ := cells12 Br
  have fr := Br.frozen; have lr := Br.lt
  go_upto_region 2 with fail
  clear cp0 cp1 cp2 cp3 cp4 cp5 cp6 cp7 cp8 cp9 cp10 cp11 fp lp
  clear cr0 cr1 cr2 cr3 cr4 cr5 cr6 cr7 cr8 cr9 cr10 cr11 fr lr
  have Bq := Blk.new w2 83 #[uv u.b.v, uv u.b.m, uv u.lo, uv u.hi, sv u.sl, sv u.sh, uv v.b.v, uv v.b.m, uv v.lo, uv v.hi, sv v.sl, sv v.sh]
  have hgq := hB.size
  have hnpq := Nat.ne_of_lt Bp.lt; have hltpq := Bp.lt
  have hnrq := Nat.ne_of_lt Br.lt; have hltrq := Br.lt
  replace Bp : Blk (w2.alloc (.cells #[uv u.b.v, uv u.b.m, uv u.lo, uv u.hi, sv u.sl, sv u.sh, uv v.b.v, uv v.b.m, uv v.lo, uv v.hi, sv v.sl, sv v.sh] 83)) (w.heap.size) 83 #[uv a.b.v, uv a.b.m, uv a.lo, uv a.hi, sv a.sl, sv a.sh, uv b.b.v, uv b.b.m, uv b.lo, uv b.hi, sv b.sl, sv b.sh] := Bp.alloc _
  replace Br : Blk (w2.alloc (.cells #[uv u.b.v, uv u.b.m, uv u.lo, uv u.hi, sv u.sl, sv u.sh, uv v.b.v, uv v.b.m, uv v.lo, uv v.hi, sv v.sl, sv v.sh] 83)) (w.heap.size + 1) 83 #[.int .u64 0, .int .u64 0, .int .u64 0, .int .u64 0, .int .i64 0, .int .i64 0, .int .u64 0, .int .u64 0, .int .u64 0, .int .u64 0, .int .i64 0, .int .i64 0] := Br.alloc _
  replace hB : Below w.heap.size w (w2.alloc (.cells #[uv u.b.v, uv u.b.m, uv u.lo, uv u.hi, sv u.sl, sv u.sh, uv v.b.v, uv v.b.m, uv v.lo, uv v.hi, sv v.sl, sv v.sh] 83)) := Bl_alloc hB _
  generalize (w2.alloc (.cells #[uv u.b.v, uv u.b.m, uv u.lo, uv u.hi, sv u.sl, sv u.sh, uv v.b.v, uv v.b.m, uv v.lo, uv v.hi, sv v.sl, sv v.sh] 83)) = w3 at *
  generalize w2.heap.size = gq at *
  obtain ⟨cp0, cp1, cp2, cp3, cp4, cp5, cp6, cp7, cp8, cp9, cp10, cp11⟩ := cells12 Bp
  have fp := Bp.frozen; have lp := Bp.lt
  obtain ⟨cr0, cr1, cr2, cr3, cr4, cr5, cr6, cr7, cr8, cr9, cr10, cr11⟩ := cells12 Br
  have fr := Br.frozen; have lr := Br.lt
  obtain ⟨cq0, cq1, cq2, cq3, cq4, cq5, cq6, cq7, cq8, cq9, cq10, cq11⟩ := cells12 Bq
  have fq := Bq.frozen; have lq := Bq.lt
  go_wp2_with fail
  refine (k_al _).mono ?_
  rintro e w4 ⟨rfl, hb⟩
  clear cp0 cp1 cp2 cp3 cp4 cp5 cp6 cp7 cp8 cp9 cp10 cp11 fp lp
  clear cr0 cr1 cr2 cr3 cr4 cr5 cr6 cr7 cr8 cr9 cr10 cr11 fr lr
  clear cq0 cq1 cq2 cq3 cq4 cq5 cq6 cq7 cq8 cq9 cq10 cq11 fq lq
  replace Bp := (Bp).next hb
  replace Br := (Br).next hb
  replace Bq := (Bq).next hb
  replace hB : Below w.heap.size w w4 := by repeat (first | exact hB | (refine Bl_set ?_ (by first | omega | (simp; omega)) _) | apply Bl_alloc | (refine Bl_trans ?_ hb))
  clear hb
  obtain ⟨cp0, cp1, cp2, cp3, cp4, cp5, cp6, cp7, cp8, cp9, cp10, cp11⟩ := cells12 Bp
  have fp := Bp.frozen; have lp := Bp.lt
  obtain ⟨cr0, cr1, cr2, cr3, cr4, cr5, cr6, cr7, cr8, cr9, cr10, cr11⟩ := cells12 Br
  have fr := Br.frozen; have lr := Br.lt
  obtain ⟨cq0, cq1, cq2, cq3, cq4, cq5, cq6, cq7, cq8, cq9, cq10, cq11⟩ := cells12 Bq
  have fq := Bq.frozen; have lq := Bq.lt
  go_wp2_with fail
  refine (k_R _).mono ?_
  rintro e w5 ⟨rfl, hb⟩
  clear cp0 cp1 cp2 cp3 cp4 cp5 cp6 cp7 cp8 cp9 cp10 cp11 fp lp
  clear cr0 cr1 cr2 cr3 cr4 cr5 cr6 cr7 cr8 cr9 cr10 cr11 fr lr
  clear cq0 cq1 cq2 cq3 cq4 cq5 cq6 cq7 cq8 cq9 cq10 cq11 fq lq
  replace Bp := (Bp).next hb
  replace Br := (Br).next hb
  replace Bq := (Bq).next hb
  replace hB : Below w.heap.size w w5 := by repeat (first | exact hB | (refine Bl_set ?_ (by first | omega | (simp; omega)) _) | apply Bl_alloc | (refine Bl_trans ?_ hb))
  clear hb
  obtain ⟨cp0, cp1, cp2, cp3, cp4, cp5, cp6, cp7, cp8, cp9, cp10, cp11⟩ := cells12 Bp
  have fp := Bp.frozen; have lp := Bp.lt
  obtain ⟨cr0, cr1, cr2, cr3, cr4, cr5, cr6, cr7, cr8, cr9, cr10, cr11⟩ := cells12 Br
  have fr := Br.frozen; have lr := Br.lt
  obtain ⟨cq0, cq1, cq2, cq3, cq4, cq5, cq6, cq7, cq8, cq9, cq10, cq11⟩ := cells12 Bq
  have fq := Bq.frozen; have lq := Bq.lt
  go_wp2
  exact bodyPost_ret (v := tv R) (by simp [results, Tryd.results45, go_sem, cr0, cr1, cr2, cr3, cr4, cr5, cr6, cr7, cr8, cr9, cr10, cr11, lr]) rfl ⟨by rw [hs]; first | done | rfl, by repeat (first | (with_reducible exact hB) | (with_reducible refine Bl_set ?_ (by first | omega | (simp; done) | (simp; omega)) _) | with_reducible apply Bl_alloc)⟩
set_option maxRecDepth 100000 in
set_option maxHeartbeats 3200000 in
theorem refP_whe_true_false (a b u v : Rng) (op : Int) (e4 : (op == 4) = false) (k_Q : ∀ w : World, Calls Tryd.prog 66 #[pv2 a b] w fun e w' => e = .returned (.tuple #[pv2 u v, .bool true]) ∧ Below w.heap.size w w') (k_al : ∀ w : World, Calls Tryd.prog 67 #[pv2 u v] w fun e w' => e = .returned (.tuple #[uv u.lo, uv v.lo, .bool false]) ∧ Below w.heap.size w w') (op' : Int) (k_op : ∀ w : World, Calls Tryd.prog 71 #[.int .i64 op] w fun e w' => e = .returned (.int .i64 op') ∧ Below w.heap.size w w') (R : PlainBranch.Pair × Bool) (k_R : ∀ w : World, Calls Tryd.prog 72 #[.int .i64 op', pv2 u v] w fun e w' => e = .returned (tv R) ∧ Below w.heap.size w w') (hs : PlainBranch.refineP op true (a, b) false = R) (w : World) : Calls Tryd.prog 45 #[.int .i64 op, .bool true, pv2 a b, .bool false] w fun e w' => e = .returned (tv (PlainBranch.refineP op true (a, b) false)) ∧ Below w.heap.size w w' := by
  go_enter Tryd.func45, Tryd.ntmps45
  go_wp2_with fail
  obtain ⟨gp, hgp⟩ : ∃ g, g = w.heap.size := ⟨_, rfl⟩
  obtain ⟨gr, hgr⟩ : ∃ g, g = w.heap.size + 1 := ⟨_, rfl⟩
  have Bp : Blk ((w.alloc (.cells #[uv a.b.v, uv a.b.m, uv a.lo, uv a.hi, sv a.sl, sv a.sh, uv b.b.v, uv b.b.m, uv b.lo, uv b.hi, sv b.sl, sv b.sh] 83)).alloc (.cells #[.int .u64 0, .int .u64 0, .int .u64 0, .int .u64 0, .int .i64 0, .int .i64 0, .int .u64 0, .int .u64 0, .int .u64 0, .int .u64 0, .int .i64 0, .int .i64 0] 83)) (w.heap.size) 83 #[uv a.b.v, uv a.b.m, uv a.lo, uv a.hi, sv a.sl, sv a.sh, uv b.b.v, uv b.b.m, uv b.lo, uv b.hi, sv b.sl, sv b.sh] := ((Blk.new w 83 #[uv a.b.v, uv a.b.m, uv a.lo, uv a.hi, sv a.sl, sv a.sh, uv b.b.v, uv b.b.m, uv b.lo, uv b.hi, sv b.sl, sv b.sh])).alloc _
  have Br : Blk ((w.alloc (.cells #[uv a.b.v, uv a.b.m, uv a.lo, uv a.hi, sv a.sl, sv a.sh, uv b.b.v, uv b.b.m, uv b.lo, uv b.hi, sv b.sl, sv b.sh] 83)).alloc (.cells #[.int .u64 0, .int .u64 0, .int .u64 0, .int .u64 0, .int .i64 0, .int .i64 0, .int .u64 0, .int .u64 0, .int .u64 0, .int .u64 0, .int .i64 0, .int .i64 0] 83)) (w.heap.size + 1) 83 #[.int .u64 0, .int .u64 0, .int .u64 0, .int .u64 0, .int .i64 0, .int .i64 0, .int .u64 0, .int .u64 0, .int .u64 0, .int .u64 0, .int .i64 0, .int .i64 0] := (by simpa using Blk.new (w.alloc (.cells #[uv a.b.v, uv a.b.m, uv a.lo, uv a.hi, sv a.sl, sv a.sh, uv b.b.v, uv b.b.m, uv b.lo, uv b.hi, sv b.sl, sv b.sh] 83)) 83 #[.int .u64 0, .int .u64 0, .int .u64 0, .int .u64 0, .int .i64 0, .int .i64 0, .int .u64 0, .int .u64 0, .int .u64 0, .int .u64 0, .int .i64 0, .int .i64 0] : Blk _ (w.heap.size + 1) 83 #[.int .u64 0, .int .u64 0, .int .u64 0, .int .u64 0, .int .i64 0, .int .i64 0, .int .u64 0, .int .u64 0, .int .u64 0, .int .u64 0, .int .i64 0, .int .i64 0])
  have hB : Below w.heap.size w ((w.alloc (.cells #[uv a.b.v, uv a.b.m, uv a.lo, uv a.hi, sv a.sl, sv a.sh, uv b.b.v, uv b.b.m, uv b.lo, uv b.hi, sv b.sl, sv b.sh] 83)).alloc (.cells #[.int .u64 0, .int .u64 0, .int .u64 0, .int .u64 0, .int .i64 0, .int .i64 0, .int .u64 0, .int .u64 0, .int .u64 0, .int .u64 0, .int .i64 0, .int .i64 0] 83)) := (Bl_alloc (Bl_alloc (Bl_refl w) _) _)
  clear hgp
  clear gp
  clear hgr
  clear gr
  generalize ((w.alloc (.cells #[uv a.b.v, uv a.b.m, uv a.lo, uv a.hi, sv a.sl, sv a.sh, uv b.b.v, uv b.b.m, uv b.lo, uv b.hi, sv b.sl, sv b.sh] 83)).alloc (.cells #[.int .u64 0, .int .u64 0, .int .u64 0, .int .u64 0, .int .i64 0, .int .i64 0, .int .u64 0, .int .u64 0, .int .u64 0, .int .u64 0, .int .i64 0, .int .i64 0] 83)) = w1 at *
  obtain ⟨cp0, cp1, cp2, cp3, cp4, cp5, cp6, cp7, cp8, cp9, cp10, cp11⟩ := cells12 Bp
  have fp := Bp.frozen; have lp := Bp.lt
  obtain ⟨cr0, cr1, cr2, cr3, cr4, cr5, cr6, cr7, cr8, cr9, cr10, cr11⟩ := cells12 Br
  have fr := Br.frozen; have lr := Br.lt
  go_wp2_with fail
  refine (k_Q _).mono ?_
  rintro e w2 ⟨rfl, hb⟩
  clear cp0 cp1 cp2 cp3 cp4 cp5 cp6 cp7 cp8 cp9 cp10 cp11 fp lp
  clear cr0 cr1 cr2 cr3 cr4 cr5 cr6 cr7 cr8 cr9 cr10 cr11 fr lr
  replace Bp := (Bp).next hb
  replace Br := (Br).next hb
  replace hB : Below w.heap.size w w2 := by repeat (first | exact hB | (refine Bl_set ?_ (by first | omega | (simp; omega)) _) | apply Bl_alloc | (refine Bl_trans ?_ hb))
  clear hb
  obtain ⟨cp0, cp1, cp2, cp3, cp4, cp5, cp6, cp7, cp8, cp9, cp10, cp11⟩ := cells12 Bp
  have fp := Bp.frozen; have lp := Bp.lt
  obtain ⟨cr0, cr1, cr2, cr3, cr4, cr5, cr6, cr7, cr8, cr9, cr10, cr11⟩ := cells12 Br
  have fr := Br.frozen; have lr := Br.lt
  go_upto_region 2 with fail
  clear cp0 cp1 cp2 cp3 cp4 cp5 cp6 cp7 cp8 cp9 cp10 cp11 fp lp
  clear cr0 cr1 cr2 cr3 cr4 cr5 cr6 cr7 cr8 cr9 cr10 cr11 fr lr
  have Bq := Blk.new w2 83 #[uv u.b.v, uv u.b.m, uv u.lo, uv u.hi, sv u.sl, sv u.sh, uv v.b.v, uv v.b.m, uv v.lo, uv v.hi, sv v.sl, sv v.sh]
  have hgq := hB.size
  have hnpq := Nat.ne_of_lt Bp.lt; have hltpq := Bp.lt
  have hnrq := Nat.ne_of_lt Br.lt; have hltrq := Br.lt
  replace Bp : Blk (w2.alloc (.cells #[uv u.b.v, uv u.b.m, uv u.lo, uv u.hi, sv u.sl, sv u.sh, uv v.b.v, uv v.b.m, uv v.lo, uv v.hi, sv v.sl, sv v.sh] 83)) (w.heap.size) 83 #[uv a.b.v, uv a.b.m, uv a.lo, uv a.hi, sv a.sl, sv a.sh, uv b.b.v, uv b.b.m, uv b.lo, uv b.hi, sv b.sl, sv b.sh] := Bp.alloc _
  replace Br : Blk (w2.alloc (.cells #[uv u.b.v, uv u.b.m, uv u.lo, uv u.hi, sv u.sl, sv u.sh, uv v.b.v, uv v.b.m, uv v.lo, uv v.hi, sv v.sl, sv v.sh] 83)) (w.heap.size + 1) 83 #[.int .u64 0, .int .u64 0, .int .u64 0, .int .u64 0, .int .i64 0, .int .i64 0, .int .u64 0, .int .u64 0, .int .u64 0, .int .u64 0, .int .i64 0, .int .i64 0] := Br.alloc _
  replace hB : Below w.heap.size w (w2.alloc (.cells #[uv u.b.v, uv u.b.m, uv u.lo, uv u.hi, sv u.sl, sv u.sh, uv v.b.v, uv v.b.m, uv v.lo, uv v.hi, sv v.sl, sv v.sh] 83)) := Bl_alloc hB _
  generalize (w2.alloc (.cells #[uv u.b.v, uv u.b.m, uv u.lo, uv u.hi, sv u.sl, sv u.sh, uv v.b.v, uv v.b.m, uv v.lo, uv v.hi, sv v.sl, sv v.sh] 83)) = w3 at *
  generalize w2.heap.size = gq at *
  obtain ⟨cp0, cp1, cp2, cp3, cp4, cp5, cp6, cp7, cp8, cp9, cp10, cp11⟩ := cells12 Bp
  have fp := Bp.frozen; have lp := Bp.lt
  obtain ⟨cr0, cr1, cr2, cr3, cr4, cr5, cr6, cr7, cr8, cr9, cr10, cr11⟩ := cells12 Br
  have fr := Br.frozen; have lr := Br.lt
  obtain ⟨cq0, cq1, cq2, cq3, cq4, cq5, cq6, cq7, cq8, cq9, cq10, cq11⟩ := cells12 Bq
  have fq := Bq.frozen; have lq := Bq.lt
  go_wp2_with fail
  refine (k_al _).mono ?_
  rintro e w4 ⟨rfl, hb⟩
  clear cp0 cp1 cp2 cp3 cp4 cp5 cp6 cp7 cp8 cp9 cp10 cp11 fp lp
  clear cr0 cr1 cr2 cr3 cr4 cr5 cr6 cr7 cr8 cr9 cr10 cr11 fr lr
  clear cq0 cq1 cq2 cq3 cq4 cq5 cq6 cq7 cq8 cq9 cq10 cq11 fq lq
  replace Bp := (Bp).next hb
  replace Br := (Br).next hb
  replace Bq := (Bq).next hb
  replace hB : Below w.heap.size w w4 := by repeat (first | exact hB | (refine Bl_set ?_ (by first | omega | (simp; omega)) _) | apply Bl_alloc | (refine Bl_trans ?_ hb))
  clear hb
  obtain ⟨cp0, cp1, cp2, cp3, cp4, cp5, cp6, cp7, cp8, cp9, cp10, cp11⟩ := cells12 Bp
  have fp := Bp.frozen; have lp := Bp.lt
  obtain ⟨cr0, cr1, cr2, cr3, cr4, cr5, cr6, cr7, cr8, cr9, cr10, cr11⟩ := cells12 Br
  have fr := Br.frozen; have lr := Br.lt
  obtain ⟨cq0, cq1, cq2, cq3, cq4, cq5, cq6, cq7, cq8, cq9, cq10, cq11⟩ := cells12 Bq
  have fq := Bq.frozen; have lq := Bq.lt
  go_wp2_with fail
  refine (k_op _).mono ?_
  rintro e w5 ⟨rfl, hb⟩
  clear cp0 cp1 cp2 cp3 cp4 cp5 cp6 cp7 cp8 cp9 cp10 cp11 fp lp
  clear cr0 cr1 cr2 cr3 cr4 cr5 cr6 cr7 cr8 cr9 cr10 cr11 fr lr
  clear cq0 cq1 cq2 cq3 cq4 cq5 cq6 cq7 cq8 cq9 cq10 cq11 fq lq
  replace Bp := (Bp).next hb
  replace Br := (Br).next hb
  replace Bq := (Bq).next hb
  replace hB : Below w.heap.size w w5 := by repeat (first | exact hB | (refine Bl_set ?_ (by first | omega | (simp; omega)) _) | apply Bl_alloc | (refine Bl_trans ?_ hb))
  clear hb
  obtain ⟨cp0, cp1, cp2, cp3, cp4, cp5, cp6, cp7, cp8, cp9, cp10, cp11⟩ := cells12 Bp
  have fp := Bp.frozen; have lp := Bp.lt
  obtain ⟨cr0, cr1, cr2, cr3, cr4, cr5, cr6, cr7, cr8, cr9, cr10, cr11⟩ := cells12 Br
  have fr := Br.frozen; have lr := Br.lt
  obtain ⟨cq0, cq1, cq2, cq3, cq4, cq5, cq6, cq7, cq8, cq9, cq10, cq11⟩ := cells12 Bq
  have fq := Bq.frozen; have lq := Bq.lt
  go_wp2_with fail
  refine (k_R _).mono ?_
  rintro e w6 ⟨rfl, hb⟩
  clear cp0 cp1 cp2 cp3 cp4 cp5 cp6 cp7 cp8 cp9 cp10 cp11 fp lp
  clear cr0 cr1 cr2 cr3 cr4 cr5 cr6 cr7 cr8 cr9 cr10 cr11 fr lr
  clear cq0 cq1 cq2 cq3 cq4 cq5 cq6 cq7 cq8 cq9 cq10 cq11 fq lq
  replace Bp := (Bp).next hb
  replace Br := (Br).next hb
  replace Bq := (Bq).next hb
  replace hB : Below w.heap.size w w6 := by repeat (first | exact hB | (refine Bl_set ?_ (by first | omega | (simp; omega)) _) | apply Bl_alloc | (refine Bl_trans ?_ hb))
  clear hb
  obtain ⟨cp0, cp1, cp2, cp3, cp4, cp5, cp6, cp7, cp8, cp9, cp10, cp11⟩ := cells12 Bp
  have fp := Bp.frozen; have lp := Bp.lt
  obtain ⟨cr0, cr1, cr2, cr3, cr4, cr5, cr6, cr7, cr8, cr9, cr10, cr11⟩ := cells12 Br
  have fr := Br.frozen; have lr := Br.lt
  obtain ⟨cq0, cq1, cq2, cq3, cq4, cq5, cq6, cq7, cq8, cq9, cq10, cq11⟩ := cells12 Bq
  have fq := Bq.frozen; have lq := Bq.lt
  go_wp2
  exact bodyPost_ret (v := tv R) (by simp [results, Tryd.results45, go_sem, cr0, cr1, cr2, cr3, cr4, cr5, cr6, cr7, cr8, cr9, cr10, cr11, lr]) rfl ⟨by rw [hs]; first | done | rfl, by repeat (first | (with_reducible exact hB) | (with_reducible refine Bl_set ?_ (by first | omega | (simp; done) | (simp; omega)) _) | with_reducible apply Bl_alloc)⟩
set_option maxRecDepth 100000 in
set_option maxHeartbeats 3200000 in
theorem refP_al_false_false (a b u v : Rng) (op : Int) (l : Bool) (k_Q : ∀ w : World, Calls Tryd.prog 66 #[pv2 a b] w fun e w' => e = .returned (.tuple #[pv2 u v, .bool true]) ∧ Below w.heap.size w w') (k_al : ∀ w : World, Calls Tryd.prog 67 #[pv2 u v] w fun e w' => e = .returned (.tuple #[uv u.lo, uv v.lo, .bool true]) ∧ Below w.heap.size w w') (k_H : ∀ w : World, Calls Tryd.prog 68 #[.int .i64 op, .bool l, uv u.lo, uv v.lo] w fun e w' => e = .returned (.bool false) ∧ Below w.heap.size w w') (hs : PlainBranch.refineP op l (a, b) false = ((u, v), true)) (w : World) : Calls Tryd.prog 45 #[.int .i64 op, .bool l, pv2 a b, .bool false] w fun e w' => e = .returned (tv (PlainBranch.refineP op l (a, b) false)) ∧ Below w.heap.size w w' := by
  go_enter Tryd.func45, Tryd.ntmps45
  go_wp2_with fail
  obtain ⟨gp, hgp⟩ : ∃ g, g = w.heap.size := ⟨_, rfl⟩
  obtain ⟨gr, hgr⟩ : ∃ g, g = w.heap.size + 1 := ⟨_, rfl⟩
  have Bp : Blk ((w.alloc (.cells #[uv a.b.v, uv a.b.m, uv a.lo, uv a.hi, sv a.sl, sv a.sh, uv b.b.v, uv b.b.m, uv b.lo, uv b.hi, sv b.sl, sv b.sh] 83)).alloc (.cells #[.int .u64 0, .int .u64 0, .int .u64 0, .int .u64 0, .int .i64 0, .int .i64 0, .int .u64 0, .int .u64 0, .int .u64 0, .int .u64 0, .int .i64 0, .int .i64 0] 83)) (w.heap.size) 83 #[uv a.b.v, uv a.b.m, uv a.lo, uv a.hi, sv a.sl, sv a.sh, uv b.b.v, uv b.b.m, uv b.lo, uv b.hi, sv b.sl, sv b.sh] := ((Blk.new w 83 #[uv a.b.v, uv a.b.m, uv a.lo, uv a.hi, sv a.sl, sv a.sh, uv b.b.v, uv b.b.m, uv b.lo, uv b.hi, sv b.sl, sv b.sh])).alloc _
  have Br : Blk ((w.alloc (.cells #[uv a.b.v, uv a.b.m, uv a.lo, uv a.hi, sv a.sl, sv a.sh, uv b.b.v, uv b.b.m, uv b.lo, uv b.hi, sv b.sl, sv b.sh] 83)).alloc (.cells #[.int .u64 0, .int .u64 0, .int .u64 0, .int .u64 0, .int .i64 0, .int .i64 0, .int .u64 0, .int .u64 0, .int .u64 0, .int .u64 0, .int .i64 0, .int .i64 0] 83)) (w.heap.size + 1) 83 #[.int .u64 0, .int .u64 0, .int .u64 0, .int .u64 0, .int .i64 0, .int .i64 0, .int .u64 0, .int .u64 0, .int .u64 0, .int .u64 0, .int .i64 0, .int .i64 0] := (by simpa using Blk.new (w.alloc (.cells #[uv a.b.v, uv a.b.m, uv a.lo, uv a.hi, sv a.sl, sv a.sh, uv b.b.v, uv b.b.m, uv b.lo, uv b.hi, sv b.sl, sv b.sh] 83)) 83 #[.int .u64 0, .int .u64 0, .int .u64 0, .int .u64 0, .int .i64 0, .int .i64 0, .int .u64 0, .int .u64 0, .int .u64 0, .int .u64 0, .int .i64 0, .int .i64 0] : Blk _ (w.heap.size + 1) 83 #[.int .u64 0, .int .u64 0, .int .u64 0, .int .u64 0, .int .i64 0, .int .i64 0, .int .u64 0, .int .u64 0, .int .u64 0, .int .u64 0, .int .i64 0, .int .i64 0])
  have hB : Below w.heap.size w ((w.alloc (.cells #[uv a.b.v, uv a.b.m, uv a.lo, uv a.hi, sv a.sl, sv a.sh, uv b.b.v, uv b.b.m, uv b.lo, uv b.hi, sv b.sl, sv b.sh] 83)).alloc (.cells #[.int .u64 0, .int .u64 0, .int .u64 0, .int .u64 0, .int .i64 0, .int .i64 0, .int .u64 0, .int .u64 0, .int .u64 0, .int .u64 0, .int .i64 0, .int .i64 0] 83)) := (Bl_alloc (Bl_alloc (Bl_refl w) _) _)
  clear hgp
  clear gp
  clear hgr
  clear gr
  generalize ((w.alloc (.cells #[uv a.b.v, uv a.b.m, uv a.lo, uv a.hi, sv a.sl, sv a.sh, uv b.b.v, uv b.b.m, uv b.lo, uv b.hi, sv b.sl, sv b.sh] 83)).alloc (.cells #[.int .u64 0, .int .u64 0, .int .u64 0, .int .u64 0, .int .i64 0, .int .i64 0, .int .u64 0, .int .u64 0, .int .u64 0, .int .u64 0, .int .i64 0, .int .i64 0] 83)) = w1 at *
  obtain ⟨cp0, cp1, cp2, cp3, cp4, cp5, cp6, cp7, cp8, cp9, cp10, cp11⟩ := cells12 Bp
  have fp := Bp.frozen; have lp := Bp.lt
  obtain ⟨cr0, cr1, cr2, cr3, cr4, cr5, cr6, cr7, cr8, cr9, cr10, cr11⟩ := cells12 Br
  have fr := Br.frozen; have lr := Br.lt
  go_wp2_with fail
  refine (k_Q _).mono ?_
  rintro e w2 ⟨rfl, hb⟩
  clear cp0 cp1 cp2 cp3 cp4 cp5 cp6 cp7 cp8 cp9 cp10 cp11 fp lp
  clear cr0 cr1 cr2 cr3 cr4 cr5 cr6 cr7 cr8 cr9 cr10 cr11 fr lr
  replace Bp := (Bp).next hb
  replace Br := (Br).next hb
  replace hB : Below w.heap.size w w2 := by repeat (first | exact hB | (refine Bl_set ?_ (by first | omega | (simp; omega)) _) | apply Bl_alloc | (refine Bl_trans ?_ hb))
  clear hb
  obtain ⟨cp0, cp1, cp2, cp3, cp4, cp5, cp6, cp7, cp8, cp9, cp10, cp11⟩ := cells12 Bp
  have fp := Bp.frozen; have lp := Bp.lt
  obtain ⟨cr0, cr1, cr2, cr3, cr4, cr5, cr6, cr7, cr8, cr9, cr10, cr11⟩ := cells12 Br
  have fr := Br.frozen; have lr := Br.lt
  go_upto_region 2 with fail
  clear cp0 cp1 cp2 cp3 cp4 cp5 cp6 cp7 cp8 cp9 cp10 cp11 fp lp
  clear cr0 cr1 cr2 cr3 cr4 cr5 cr6 cr7 cr8 cr9 cr10 cr11 fr lr
  have Bq := Blk.new w2 83 #[uv u.b.v, uv u.b.m, uv u.lo, uv u.hi, sv u.sl, sv u.sh, uv v.b.v, uv v.b.m, uv v.lo, uv v.hi, sv v.sl, sv v.sh]
  have hgq := hB.size
  have hnpq := Nat.ne_of_lt Bp.lt; have hltpq := Bp.lt
  have hnrq := Nat.ne_of_lt Br.lt; have hltrq := Br.lt
  replace Bp : Blk (w2.alloc (.cells #[uv u.b.v, uv u.b.m, uv u.lo, uv u.hi, sv u.sl, sv u.sh, uv v.b.v, uv v.b.m, uv v.lo, uv v.hi, sv v.sl, sv v.sh] 83)) (w.heap.size) 83 #[uv a.b.v, uv a.b.m, uv a.lo, uv a.hi, sv a.sl, sv a.sh, uv b.b.v, uv b.b.m, uv b.lo, uv b.hi, sv b.sl, sv b.sh] := Bp.alloc _
  replace Br : Blk (w2.alloc (.cells #[uv u.b.v, uv u.b.m, uv u.lo, uv u.hi, sv u.sl, sv u.sh, uv v.b.v, uv v.b.m, uv v.lo, uv v.hi, sv v.sl, sv v.sh] 83)) (w.heap.size + 1) 83 #[.int .u64 0, .int .u64 0, .int .u64 0, .int .u64 0, .int .i64 0, .int .i64 0, .int .u64 0, .int .u64 0, .int .u64 0, .int .u64 0, .int .i64 0, .int .i64 0] := Br.alloc _
  replace hB : Below w.heap.size w (w2.alloc (.cells #[uv u.b.v, uv u.b.m, uv u.lo, uv u.hi, sv u.sl, sv u.sh, uv v.b.v, uv v.b.m, uv v.lo, uv v.hi, sv v.sl, sv v.sh] 83)) := Bl_alloc hB _
  generalize (w2.alloc (.cells #[uv u.b.v, uv u.b.m, uv u.lo, uv u.hi, sv u.sl, sv u.sh, uv v.b.v, uv v.b.m, uv v.lo, uv v.hi, sv v.sl, sv v.sh] 83)) = w3 at *
  generalize w2.heap.size = gq at *
  obtain ⟨cp0, cp1, cp2, cp3, cp4, cp5, cp6, cp7, cp8, cp9, cp10, cp11⟩ := cells12 Bp
  have fp := Bp.frozen; have lp := Bp.lt
  obtain ⟨cr0, cr1, cr2, cr3, cr4, cr5, cr6, cr7, cr8, cr9, cr10, cr11⟩ := cells12 Br
  have fr := Br.frozen; have lr := Br.lt
  obtain ⟨cq0, cq1, cq2, cq3, cq4, cq5, cq6, cq7, cq8, cq9, cq10, cq11⟩ := cells12 Bq
  have fq := Bq.frozen; have lq := Bq.lt
  go_wp2_with fail
  refine (k_al _).mono ?_
  rintro e w4 ⟨rfl, hb⟩
  clear cp0 cp1 cp2 cp3 cp4 cp5 cp6 cp7 cp8 cp9 cp10 cp11 fp lp
  clear cr0 cr1 cr2 cr3 cr4 cr5 cr6 cr7 cr8 cr9 cr10 cr11 fr lr
  clear cq0 cq1 cq2 cq3 cq4 cq5 cq6 cq7 cq8 cq9 cq10 cq11 fq lq
  replace Bp := (Bp).next hb
  replace Br := (Br).next hb
  replace Bq := (Bq).next hb
  replace hB : Below w.heap.size w w4 := by repeat (first | exact hB | (refine Bl_set ?_ (by first | omega | (simp; omega)) _) | apply Bl_alloc | (refine Bl_trans ?_ hb))
  clear hb
  obtain ⟨cp0, cp1, cp2, cp3, cp4, cp5, cp6, cp7, cp8, cp9, cp10, cp11⟩ := cells12 Bp
  have fp := Bp.frozen; have lp := Bp.lt
  obtain ⟨cr0, cr1, cr2, cr3, cr4, cr5, cr6, cr7, cr8, cr9, cr10, cr11⟩ := cells12 Br
  have fr := Br.frozen; have lr := Br.lt
  obtain ⟨cq0, cq1, cq2, cq3, cq4, cq5, cq6, cq7, cq8, cq9, cq10, cq11⟩ := cells12 Bq
  have fq := Bq.frozen; have lq := Bq.lt
  go_wp2_with fail
  clear cp0 cp1 cp2 cp3 cp4 cp5 cp6 cp7 cp8 cp9 cp10 cp11; obtain ⟨cp0, cp1, cp2, cp3, cp4, cp5, cp6, cp7, cp8, cp9, cp10, cp11⟩ := lcells12 Bp
  clear cr0 cr1 cr2 cr3 cr4 cr5 cr6 cr7 cr8 cr9 cr10 cr11; obtain ⟨cr0, cr1, cr2, cr3, cr4, cr5, cr6, cr7, cr8, cr9, cr10, cr11⟩ := lcells12 Br
  clear cq0 cq1 cq2 cq3 cq4 cq5 cq6 cq7 cq8 cq9 cq10 cq11; obtain ⟨cq0, cq1, cq2, cq3, cq4, cq5, cq6, cq7, cq8, cq9, cq10, cq11⟩ := lcells12 Bq
  refine wp_region_mixL 8 (fun k => k == 6 || k == 7) (fun _ => #[]) (by kernel_rfl) (by kernel_rfl) (fun d _ _ _ _ h => by cases d <;> exact h) (no_alloc (by kernel_rfl)) ?_
  simp only [List.take_succ_cons, List.take_zero, List.drop_succ_cons, List.drop_zero]
  repeat (refine wpMixL_step (fun K hK => ?_); go_simp; first | (refine hK _ ?_; clear hK K) | (apply Exists.intro; refine ⟨fun g => ?_, hK _ ?_⟩; ((with_reducible refine Calls.mono (k_H g.w) ?_); exact fun _ _ h => h); clear hK K))
  refine wpMixL_nil ?_
  intro G w5 hgr hblk hdist
  have hb : Below w4.heap.size w4 w5 := hgr
  replace Bp := Bp.next hb
  replace Br := Br.next hb
  replace Bq := Bq.next hb
  clear cp0 cp1 cp2 cp3 cp4 cp5 cp6 cp7 cp8 cp9 cp10 cp11 fp lp
  clear cr0 cr1 cr2 cr3 cr4 cr5 cr6 cr7 cr8 cr9 cr10 cr11 fr lr
  clear cq0 cq1 cq2 cq3 cq4 cq5 cq6 cq7 cq8 cq9 cq10 cq11 fq lq
  replace hB : Below w.heap.size w w5 := Bl_trans hB hb
  simp only [putAll, isAlloc]
  clear hb hgr hblk hdist
  obtain ⟨cp0, cp1, cp2, cp3, cp4, cp5, cp6, cp7, cp8, cp9, cp10, cp11⟩ := cells12 Bp
  have fp := Bp.frozen; have lp := Bp.lt
  obtain ⟨cr0, cr1, cr2, cr3, cr4, cr5, cr6, cr7, cr8, cr9, cr10, cr11⟩ := cells12 Br
  have fr := Br.frozen; have lr := Br.lt
  obtain ⟨cq0, cq1, cq2, cq3, cq4, cq5, cq6, cq7, cq8, cq9, cq10, cq11⟩ := cells12 Bq
  have fq := Bq.frozen; have lq := Bq.lt
  go_wp2
  exact bodyPost_ret (v := .tuple #[pv2 u v, .bool true]) (by simp [results, Tryd.results45, go_sem, cr0, cr1, cr2, cr3, cr4, cr5, cr6, cr7, cr8, cr9, cr10, cr11, lr]) rfl ⟨by rw [hs]; first | done | rfl, by repeat (first | (with_reducible exact hB) | (with_reducible refine Bl_set ?_ (by first | omega | (simp; done) | (simp; omega)) _) | with_reducible apply Bl_alloc)⟩
set_option maxRecDepth 100000 in
set_option maxHeartbeats 3200000 in
theorem refP_al_false_true (a b u v : Rng) (op : Int) (l : Bool) (k_Q : ∀ w : World, Calls Tryd.prog 66 #[pv2 a b] w fun e w' => e = .returned (.tuple #[pv2 u v, .bool true]) ∧ Below w.heap.size w w') (k_al : ∀ w : World, Calls Tryd.prog 67 #[pv2 u v] w fun e w' => e = .returned (.tuple #[uv u.lo, uv v.lo, .bool true]) ∧ Below w.heap.size w w') (k_H : ∀ w : World, Calls Tryd.prog 68 #[.int .i64 op, .bool l, uv u.lo, uv v.lo] w fun e w' => e = .returned (.bool false) ∧ Below w.heap.size w w') (hs : PlainBranch.refineP op l (a, b) true = ((u, v), false)) (w : World) : Calls Tryd.prog 45 #[.int .i64 op, .bool l, pv2 a b, .bool true] w fun e w' => e = .returned (tv (PlainBranch.refineP op l (a, b) true)) ∧ Below w.heap.size w w' := by
  go_enter Tryd.func45, Tryd.ntmps45
  go_wp2_with fail
  obtain ⟨gp, hgp⟩ : ∃ g, g = w.heap.size := ⟨_, rfl⟩
  obtain ⟨gr, hgr⟩ : ∃ g, g = w.heap.size + 1 := ⟨_, rfl⟩
  have Bp : Blk ((w.alloc (.cells #[uv a.b.v, uv a.b.m, uv a.lo, uv a.hi, sv a.sl, sv a.sh, uv b.b.v, uv b.b.m, uv b.lo, uv b.hi, sv b.sl, sv b.sh] 83)).alloc (.cells #[.int .u64 0, .int .u64 0, .int .u64 0, .int .u64 0, .int .i64 0, .int .i64 0, .int .u64 0, .int .u64 0, .int .u64 0, .int .u64 0, .int .i64 0, .int .i64 0] 83)) (w.heap.size) 83 #[uv a.b.v, uv a.b.m, uv a.lo, uv a.hi, sv a.sl, sv a.sh, uv b.b.v, uv b.b.m, uv b.lo, uv b.hi, sv b.sl, sv b.sh] := ((Blk.new w 83 #[uv a.b.v, uv a.b.m, uv a.lo, uv a.hi, sv a.sl, sv a.sh, uv b.b.v, uv b.b.m, uv b.lo, uv b.hi, sv b.sl, sv b.sh])).alloc _
  have Br : Blk ((w.alloc (.cells #[uv a.b.v, uv a.b.m, uv a.lo, uv a.hi, sv a.sl, sv a.sh, uv b.b.v, uv b.b.m, uv b.lo, uv b.hi, sv b.sl, sv b.sh] 83)).alloc (.cells #[.int .u64 0, .int .u64 0, .int .u64 0, .int .u64 0, .int .i64 0, .int .i64 0, .int .u64 0, .int .u64 0, .int .u64 0, .int .u64 0, .int .i64 0, .int .i64 0] 83)) (w.heap.size + 1) 83 #[.int .u64 0, .int .u64 0, .int .u64 0, .int .u64 0, .int .i64 0, .int .i64 0, .int .u64 0, .int .u64 0, .int .u64 0, .int .u64 0, .int .i64 0, .int .i64 0] := (by simpa using Blk.new (w.alloc (.cells #[uv a.b.v, uv a.b.m, uv a.lo, uv a.hi, sv a.sl, sv a.sh, uv b.b.v, uv b.b.m, uv b.lo, uv b.hi, sv b.sl, sv b.sh] 83)) 83 #[.int .u64 0, .int .u64 0, .int .u64 0, .int .u64 0, .int .i64 0, .int .i64 0, .int .u64 0, .int .u64 0, .int .u64 0, .int .u64 0, .int .i64 0, .int .i64 0] : Blk _ (w.heap.size + 1) 83 #[.int .u64 0, .int .u64 0, .int .u64 0, .int .u64 0, .int .i64 0, .int .i64 0, .int .u64 0, .int .u64 0, .int .u64 0, .int .u64 0, .int .i64 0, .int .i64 0])
  have hB : Below w.heap.size w ((w.alloc (.cells #[uv a.b.v, uv a.b.m, uv a.lo, uv a.hi, sv a.sl, sv a.sh, uv b.b.v, uv b.b.m, uv b.lo, uv b.hi, sv b.sl, sv b.sh] 83)).alloc (.cells #[.int .u64 0, .int .u64 0, .int .u64 0, .int .u64 0, .int .i64 0, .int .i64 0, .int .u64 0, .int .u64 0, .int .u64 0, .int .u64 0, .int .i64 0, .int .i64 0] 83)) := (Bl_alloc (Bl_alloc (Bl_refl w) _) _)
  clear hgp
  clear gp
  clear hgr
  clear gr
  generalize ((w.alloc (.cells #[uv a.b.v, uv a.b.m, uv a.lo, uv a.hi, sv a.sl, sv a.sh, uv b.b.v, uv b.b.m, uv b.lo, uv b.hi, sv b.sl, sv b.sh] 83)).alloc (.cells #[.int .u64 0, .int .u64 0, .int .u64 0, .int .u64 0, .int .i64 0, .int .i64 0, .int .u64 0, .int .u64 0, .int .u64 0, .int .u64 0, .int .i64 0, .int .i64 0] 83)) = w1 at *
  obtain ⟨cp0, cp1, cp2, cp3, cp4, cp5, cp6, cp7, cp8, cp9, cp10, cp11⟩ := cells12 Bp
  have fp := Bp.frozen; have lp := Bp.lt
  obtain ⟨cr0, cr1, cr2, cr3, cr4, cr5, cr6, cr7, cr8, cr9, cr10, cr11⟩ := cells12 Br
  have fr := Br.frozen; have lr := Br.lt
  go_wp2_with fail
  refine (k_Q _).mono ?_
  rintro e w2 ⟨rfl, hb⟩
  clear cp0 cp1 cp2 cp3 cp4 cp5 cp6 cp7 cp8 cp9 cp10 cp11 fp lp
  clear cr0 cr1 cr2 cr3 cr4 cr5 cr6 cr7 cr8 cr9 cr10 cr11 fr lr
  replace Bp := (Bp).next hb
  replace Br := (Br).next hb
  replace hB : Below w.heap.size w w2 := by repeat (first | exact hB | (refine Bl_set ?_ (by first | omega | (simp; omega)) _) | apply Bl_alloc | (refine Bl_trans ?_ hb))
  clear hb
  obtain ⟨cp0, cp1, cp2, cp3, cp4, cp5, cp6, cp7, cp8, cp9, cp10, cp11⟩ := cells12 Bp
  have fp := Bp.frozen; have lp := Bp.lt
  obtain ⟨cr0, cr1, cr2, cr3, cr4, cr5, cr6, cr7, cr8, cr9, cr10, cr11⟩ := cells12 Br
  have fr := Br.frozen; have lr := Br.lt
  go_upto_region 2 with fail
  clear cp0 cp1 cp2 cp3 cp4 cp5 cp6 cp7 cp8 cp9 cp10 cp11 fp lp
  clear cr0 cr1 cr2 cr3 cr4 cr5 cr6 cr7 cr8 cr9 cr10 cr11 fr lr
  have Bq := Blk.new w2 83 #[uv u.b.v, uv u.b.m, uv u.lo, uv u.hi, sv u.sl, sv u.sh, uv v.b.v, uv v.b.m, uv v.lo, uv v.hi, sv v.sl, sv v.sh]
  have hgq := hB.size
  have hnpq := Nat.ne_of_lt Bp.lt; have hltpq := Bp.lt
  have hnrq := Nat.ne_of_lt Br.lt; have hltrq := Br.lt
  replace Bp : Blk (w2.alloc (.cells #[uv u.b.v, uv u.b.m, uv u.lo, uv u.hi, sv u.sl, sv u.sh, uv v.b.v, uv v.b.m, uv v.lo, uv v.hi, sv v.sl, sv v.sh] 83)) (w.heap.size) 83 #[uv a.b.v, uv a.b.m, uv a.lo, uv a.hi, sv a.sl, sv a.sh, uv b.b.v, uv b.b.m, uv b.lo, uv b.hi, sv b.sl, sv b.sh] := Bp.alloc _
  replace Br : Blk (w2.alloc (.cells #[uv u.b.v, uv u.b.m, uv u.lo, uv u.hi, sv u.sl, sv u.sh, uv v.b.v, uv v.b.m, uv v.lo, uv v.hi, sv v.sl, sv v.sh] 83)) (w.heap.size + 1) 83 #[.int .u64 0, .int .u64 0, .int .u64 0, .int .u64 0, .int .i64 0, .int .i64 0, .int .u64 0, .int .u64 0, .int .u64 0, .int .u64 0, .int .i64 0, .int .i64 0] := Br.alloc _
  replace hB : Below w.heap.size w (w2.alloc (.cells #[uv u.b.v, uv u.b.m, uv u.lo, uv u.hi, sv u.sl, sv u.sh, uv v.b.v, uv v.b.m, uv v.lo, uv v.hi, sv v.sl, sv v.sh] 83)) := Bl_alloc hB _
  generalize (w2.alloc (.cells #[uv u.b.v, uv u.b.m, uv u.lo, uv u.hi, sv u.sl, sv u.sh, uv v.b.v, uv v.b.m, uv v.lo, uv v.hi, sv v.sl, sv v.sh] 83)) = w3 at *
  generalize w2.heap.size = gq at *
  obtain ⟨cp0, cp1, cp2, cp3, cp4, cp5, cp6, cp7, cp8, cp9, cp10, cp11⟩ := cells12 Bp
  have fp := Bp.frozen; have lp := Bp.lt
  obtain ⟨cr0, cr1, cr2, cr3, cr4, cr5, cr6, cr7, cr8, cr9, cr10, cr11⟩ := cells12 Br
  have fr := Br.frozen; have lr := Br.lt
  obtain ⟨cq0, cq1, cq2, cq3, cq4, cq5, cq6, cq7, cq8, cq9, cq10, cq11⟩ := cells12 Bq
  have fq := Bq.frozen; have lq := Bq.lt
  go_wp2_with fail
  refine (k_al _).mono ?_
  rintro e w4 ⟨rfl, hb⟩
  clear cp0 cp1 cp2 cp3 cp4 cp5 cp6 cp7 cp8 cp9 cp10 cp11 fp lp
  clear cr0 cr1 cr2 cr3 cr4 cr5 cr6 cr7 cr8 cr9 cr10 cr11 fr lr
  clear cq0 cq1 cq2 cq3 cq4 cq5 cq6 cq7 cq8 cq9 cq10 cq11 fq lq
  replace Bp := (Bp).next hb
  replace Br := (Br).next hb
  replace Bq := (Bq).next hb
  replace hB : Below w.heap.size w w4 := by repeat (first | exact hB | (refine Bl_set ?_ (by first | omega | (simp; omega)) _) | apply Bl_alloc | (refine Bl_trans ?_ hb))
  clear hb
  obtain ⟨cp0, cp1, cp2, cp3, cp4, cp5, cp6, cp7, cp8, cp9, cp10, cp11⟩ := cells12 Bp
  have fp := Bp.frozen; have lp := Bp.lt
  obtain ⟨cr0, cr1, cr2, cr3, cr4, cr5, cr6, cr7, cr8, cr9, cr10, cr11⟩ := cells12 Br
  have fr := Br.frozen; have lr := Br.lt
  obtain ⟨cq0, cq1, cq2, cq3, cq4, cq5, cq6, cq7, cq8, cq9, cq10, cq11⟩ := cells12 Bq
  have fq := Bq.frozen; have lq := Bq.lt
  go_wp2_with fail
  clear cp0 cp1 cp2 cp3 cp4 cp5 cp6 cp7 cp8 cp9 cp10 cp11; obtain ⟨cp0, cp1, cp2, cp3, cp4, cp5, cp6, cp7, cp8, cp9, cp10, cp11⟩ := lcells12 Bp
  clear cr0 cr1 cr2 cr3 cr4 cr5 cr6 cr7 cr8 cr9 cr10 cr11; obtain ⟨cr0, cr1, cr2, cr3, cr4, cr5, cr6, cr7, cr8, cr9, cr10, cr11⟩ := lcells12 Br
  clear cq0 cq1 cq2 cq3 cq4 cq5 cq6 cq7 cq8 cq9 cq10 cq11; obtain ⟨cq0, cq1, cq2, cq3, cq4, cq5, cq6, cq7, cq8, cq9, cq10, cq11⟩ := lcells12 Bq
  refine wp_region_mixL 8 (fun k => k == 6 || k == 7) (fun _ => #[]) (by kernel_rfl) (by kernel_rfl) (fun d _ _ _ _ h => by cases d <;> exact h) (no_alloc (by kernel_rfl)) ?_
  simp only [List.take_succ_cons, List.take_zero, List.drop_succ_cons, List.drop_zero]
  repeat (refine wpMixL_step (fun K hK => ?_); go_simp; first | (refine hK _ ?_; clear hK K) | (apply Exists.intro; refine ⟨fun g => ?_, hK _ ?_⟩; ((with_reducible refine Calls.mono (k_H g.w) ?_); exact fun _ _ h => h); clear hK K))
  refine wpMixL_nil ?_
  intro G w5 hgr hblk hdist
  have hb : Below w4.heap.size w4 w5 := hgr
  replace Bp := Bp.next hb
  replace Br := Br.next hb
  replace Bq := Bq.next hb
  clear cp0 cp1 cp2 cp3 cp4 cp5 cp6 cp7 cp8 cp9 cp10 cp11 fp lp
  clear cr0 cr1 cr2 cr3 cr4 cr5 cr6 cr7 cr8 cr9 cr10 cr11 fr lr
  clear cq0 cq1 cq2 cq3 cq4 cq5 cq6 cq7 cq8 cq9 cq10 cq11 fq lq
  replace hB : Below w.heap.size w w5 := Bl_trans hB hb
  simp only [putAll, isAlloc]
  clear hb hgr hblk hdist
  obtain ⟨cp0, cp1, cp2, cp3, cp4, cp5, cp6, cp7, cp8, cp9, cp10, cp11⟩ := cells12 Bp
  have fp := Bp.frozen; have lp := Bp.lt
  obtain ⟨cr0, cr1, cr2, cr3, cr4, cr5, cr6, cr7, cr8, cr9, cr10, cr11⟩ := cells12 Br
  have fr := Br.frozen; have lr := Br.lt
  obtain ⟨cq0, cq1, cq2, cq3, cq4, cq5, cq6, cq7, cq8, cq9, cq10, cq11⟩ := cells12 Bq
  have fq := Bq.frozen; have lq := Bq.lt
  go_wp2
  exact bodyPost_ret (v := .tuple #[pv2 u v, .bool false]) (by simp [results, Tryd.results45, go_sem, cr0, cr1, cr2, cr3, cr4, cr5, cr6, cr7, cr8, cr9, cr10, cr11, lr]) rfl ⟨by rw [hs]; first | done | rfl, by repeat (first | (with_reducible exact hB) | (with_reducible refine Bl_set ?_ (by first | omega | (simp; done) | (simp; omega)) _) | with_reducible apply Bl_alloc)⟩
set_option maxRecDepth 100000 in
set_option maxHeartbeats 3200000 in
theorem refP_al_true_false (a b u v : Rng) (op : Int) (l : Bool) (k_Q : ∀ w : World, Calls Tryd.prog 66 #[pv2 a b] w fun e w' => e = .returned (.tuple #[pv2 u v, .bool true]) ∧ Below w.heap.size w w') (k_al : ∀ w : World, Calls Tryd.prog 67 #[pv2 u v] w fun e w' => e = .returned (.tuple #[uv u.lo, uv v.lo, .bool true]) ∧ Below w.heap.size w w') (k_H : ∀ w : World, Calls Tryd.prog 68 #[.int .i64 op, .bool l, uv u.lo, uv v.lo] w fun e w' => e = .returned (.bool true) ∧ Below w.heap.size w w') (hs : PlainBranch.refineP op l (a, b) false = ((u, v), false)) (w : World) : Calls Tryd.prog 45 #[.int .i64 op, .bool l, pv2 a b, .bool false] w fun e w' => e = .returned (tv (PlainBranch.refineP op l (a, b) false)) ∧ Below w.heap.size w w' := by
  go_enter Tryd.func45, Tryd.ntmps45
  go_wp2_with fail
  obtain ⟨gp, hgp⟩ : ∃ g, g = w.heap.size := ⟨_, rfl⟩
  obtain ⟨gr, hgr⟩ : ∃ g, g = w.heap.size + 1 := ⟨_, rfl⟩
  have Bp : Blk ((w.alloc (.cells #[uv a.b.v, uv a.b.m, uv a.lo, uv a.hi, sv a.sl, sv a.sh, uv b.b.v, uv b.b.m, uv b.lo, uv b.hi, sv b.sl, sv b.sh] 83)).alloc (.cells #[.int .u64 0, .int .u64 0, .int .u64 0, .int .u64 0, .int .i64 0, .int .i64 0, .int .u64 0, .int .u64 0, .int .u64 0, .int .u64 0, .int .i64 0, .int .i64 0] 83)) (w.heap.size) 83 #[uv a.b.v, uv a.b.m, uv a.lo, uv a.hi, sv a.sl, sv a.sh, uv b.b.v, uv b.b.m, uv b.lo, uv b.hi, sv b.sl, sv b.sh] := ((Blk.new w 83 #[uv a.b.v, uv a.b.m, uv a.lo, uv a.hi, sv a.sl, sv a.sh, uv b.b.v, uv b.b.m, uv b.lo, uv b.hi, sv b.sl, sv b.sh])).alloc _
  have Br : Blk ((w.alloc (.cells #[uv a.b.v, uv a.b.m, uv a.lo, uv a.hi, sv a.sl, sv a.sh, uv b.b.v, uv b.b.m, uv b.lo, uv b.hi, sv b.sl, sv b.sh] 83)).alloc (.cells #[.int .u64 0, .int .u64 0, .int .u64 0, .int .u64 0, .int .i64 0, .int .i64 0, .int .u64 0, .int .u64 0, .int .u64 0, .int .u64 0, .int .i64 0, .int .i64 0] 83)) (w.heap.size + 1) 83 #[.int .u64 0, .int .u64 0, .int .u64 0, .int .u64 0, .int .i64 0, .int .i64 0, .int .u64 0, .int .u64 0, .int .u64 0, .int .u64 0, .int .i64 0, .int .i64 0] := (by simpa using Blk.new (w.alloc (.cells #[uv a.b.v, uv a.b.m, uv a.lo, uv a.hi, sv a.sl, sv a.sh, uv b.b.v, uv b.b.m, uv b.lo, uv b.hi, sv b.sl, sv b.sh] 83)) 83 #[.int .u64 0, .int .u64 0, .int .u64 0, .int .u64 0, .int .i64 0, .int .i64 0, .int .u64 0, .int .u64 0, .int .u64 0, .int .u64 0, .int .i64 0, .int .i64 0] : Blk _ (w.heap.size + 1) 83 #[.int .u64 0, .int .u64 0, .int .u64 0, .int .u64 0, .int .i64 0, .int .i64 0, .int .u64 0, .int .u64 0, .int .u64 0, .int .u64 0, .int .i64 0, .int .i64 0])
  have hB : Below w.heap.size w ((w.alloc (.cells #[uv a.b.v, uv a.b.m, uv a.lo, uv a.hi, sv a.sl, sv a.sh, uv b.b.v, uv b.b.m, uv b.lo, uv b.hi, sv b.sl, sv b.sh] 83)).alloc (.cells #[.int .u64 0, .int .u64 0, .int .u64 0, .int .u64 0, .int .i64 0, .int .i64 0, .int .u64 0, .int .u64 0, .int .u64 0, .int .u64 0, .int .i64 0, .int .i64 0] 83)) := (Bl_alloc (Bl_alloc (Bl_refl w) _) _)
  clear hgp
  clear gp
  clear hgr
  clear gr
  generalize ((w.alloc (.cells #[uv a.b.v, uv a.b.m, uv a.lo, uv a.hi, sv a.sl, sv a.sh, uv b.b.v, uv b.b.m, uv b.lo, uv b.hi, sv b.sl, sv b.sh] 83)).alloc (.cells #[.int .u64 0, .int .u64 0, .int .u64 0, .int .u64 0, .int .i64 0, .int .i64 0, .int .u64 0, .int .u64 0, .int .u64 0, .int .u64 0, .int .i64 0, .int .i64 0] 83)) = w1 at *
  obtain ⟨cp0, cp1, cp2, cp3, cp4, cp5, cp6, cp7, cp8, cp9, cp10, cp11⟩ := cells12 Bp
  have fp := Bp.frozen; have lp := Bp.lt
  obtain ⟨cr0, cr1, cr2, cr3, cr4, cr5, cr6, cr7, cr8, cr9, cr10, cr11⟩ := cells12 Br
  have fr := Br.frozen; have lr := Br.lt
  go_wp2_with fail
  refine (k_Q _).mono ?_
  rintro e w2 ⟨rfl, hb⟩
  clear cp0 cp1 cp2 cp3 cp4 cp5 cp6 cp7 cp8 cp9 cp10 cp11 fp lp
  clear cr0 cr1 cr2 cr3 cr4 cr5 cr6 cr7 cr8 cr9 cr10 cr11 fr lr
  replace Bp := (Bp).next hb
  replace Br := (Br).next hb
  replace hB : Below w.heap.size w w2 := by repeat (first | exact hB | (refine Bl_set ?_ (by first | omega | (simp; omega)) _) | apply Bl_alloc | (refine Bl_trans ?_ hb))
  clear hb
  obtain ⟨cp0, cp1, cp2, cp3, cp4, cp5, cp6, cp7, cp8, cp9, cp10, cp11⟩ := cells12 Bp
  have fp := Bp.frozen; have lp := Bp.lt
  obtain ⟨cr0, cr1, cr2, cr3, cr4, cr5, cr6, cr7, cr8, cr9, cr10, cr11⟩ := cells12 Br
  have fr := Br.frozen; have lr := Br.lt
  go_upto_region 2 with fail
  clear cp0 cp1 cp2 cp3 cp4 cp5 cp6 cp7 cp8 cp9 cp10 cp11 fp lp
  clear cr0 cr1 cr2 cr3 cr4 cr5 cr6 cr7 cr8 cr9 cr10 cr11 fr lr
  have Bq := Blk.new w2 83 #[uv u.b.v, uv u.b.m, uv u.lo, uv u.hi, sv u.sl, sv u.sh, uv v.b.v, uv v.b.m, uv v.lo, uv v.hi, sv v.sl, sv v.sh]
  have hgq := hB.size
  have hnpq := Nat.ne_of_lt Bp.lt; have hltpq := Bp.lt
  have hnrq := Nat.ne_of_lt Br.lt; have hltrq := Br.lt
  replace Bp : Blk (w2.alloc (.cells #[uv u.b.v, uv u.b.m, uv u.lo, uv u.hi, sv u.sl, sv u.sh, uv v.b.v, uv v.b.m, uv v.lo, uv v.hi, sv v.sl, sv v.sh] 83)) (w.heap.size) 83 #[uv a.b.v, uv a.b.m, uv a.lo, uv a.hi, sv a.sl, sv a.sh, uv b.b.v, uv b.b.m, uv b.lo, uv b.hi, sv b.sl, sv b.sh] := Bp.alloc _
  replace Br : Blk (w2.alloc (.cells #[uv u.b.v, uv u.b.m, uv u.lo, uv u.hi, sv u.sl, sv u.sh, uv v.b.v, uv v.b.m, uv v.lo, uv v.hi, sv v.sl, sv v.sh] 83)) (w.heap.size + 1) 83 #[.int .u64 0, .int .u64 0, .int .u64 0, .int .u64 0, .int .i64 0, .int .i64 0, .int .u64 0, .int .u64 0, .int .u64 0, .int .u64 0, .int .i64 0, .int .i64 0] := Br.alloc _
  replace hB : Below w.heap.size w (w2.alloc (.cells #[uv u.b.v, uv u.b.m, uv u.lo, uv u.hi, sv u.sl, sv u.sh, uv v.b.v, uv v.b.m, uv v.lo, uv v.hi, sv v.sl, sv v.sh] 83)) := Bl_alloc hB _
  generalize (w2.alloc (.cells #[uv u.b.v, uv u.b.m, uv u.lo, uv u.hi, sv u.sl, sv u.sh, uv v.b.v, uv v.b.m, uv v.lo, uv v.hi, sv v.sl, sv v.sh] 83)) = w3 at *
  generalize w2.heap.size = gq at *
  obtain ⟨cp0, cp1, cp2, cp3, cp4, cp5, cp6, cp7, cp8, cp9, cp10, cp11⟩ := cells12 Bp
  have fp := Bp.frozen; have lp := Bp.lt
  obtain ⟨cr0, cr1, cr2, cr3, cr4, cr5, cr6, cr7, cr8, cr9, cr10, cr11⟩ := cells12 Br
  have fr := Br.frozen; have lr := Br.lt
  obtain ⟨cq0, cq1, cq2, cq3, cq4, cq5, cq6, cq7, cq8, cq9, cq10, cq11⟩ := cells12 Bq
  have fq := Bq.frozen; have lq := Bq.lt
  go_wp2_with fail
  refine (k_al _).mono ?_
  rintro e w4 ⟨rfl, hb⟩
  clear cp0 cp1 cp2 cp3 cp4 cp5 cp6 cp7 cp8 cp9 cp10 cp11 fp lp
  clear cr0 cr1 cr2 cr3 cr4 cr5 cr6 cr7 cr8 cr9 cr10 cr11 fr lr
  clear cq0 cq1 cq2 cq3 cq4 cq5 cq6 cq7 cq8 cq9 cq10 cq11 fq lq
  replace Bp := (Bp).next hb
  replace Br := (Br).next hb
  replace Bq := (Bq).next hb
  replace hB : Below w.heap.size w w4 := by repeat (first | exact hB | (refine Bl_set ?_ (by first | omega | (simp; omega)) _) | apply Bl_alloc | (refine Bl_trans ?_ hb))
  clear hb
  obtain ⟨cp0, cp1, cp2, cp3, cp4, cp5, cp6, cp7, cp8, cp9, cp10, cp11⟩ := cells12 Bp
  have fp := Bp.frozen; have lp := Bp.lt
  obtain ⟨cr0, cr1, cr2, cr3, cr4, cr5, cr6, cr7, cr8, cr9, cr10, cr11⟩ := cells12 Br
  have fr := Br.frozen; have lr := Br.lt
  obtain ⟨cq0, cq1, cq2, cq3, cq4, cq5, cq6, cq7, cq8, cq9, cq10, cq11⟩ := cells12 Bq
  have fq := Bq.frozen; have lq := Bq.lt
  go_wp2_with fail
  clear cp0 cp1 cp2 cp3 cp4 cp5 cp6 cp7 cp8 cp9 cp10 cp11; obtain ⟨cp0, cp1, cp2, cp3, cp4, cp5, cp6, cp7, cp8, cp9, cp10, cp11⟩ := lcells12 Bp
  clear cr0 cr1 cr2 cr3 cr4 cr5 cr6 cr7 cr8 cr9 cr10 cr11; obtain ⟨cr0, cr1, cr2, cr3, cr4, cr5, cr6, cr7, cr8, cr9, cr10, cr11⟩ := lcells12 Br
  clear cq0 cq1 cq2 cq3 cq4 cq5 cq6 cq7 cq8 cq9 cq10 cq11; obtain ⟨cq0, cq1, cq2, cq3, cq4, cq5, cq6, cq7, cq8, cq9, cq10, cq11⟩ := lcells12 Bq
  refine wp_region_mixL 8 (fun k => k == 6 || k == 7) (fun _ => #[]) (by kernel_rfl) (by kernel_rfl) (fun d _ _ _ _ h => by cases d <;> exact h) (no_alloc (by kernel_rfl)) ?_
  simp only [List.take_succ_cons, List.take_zero, List.drop_succ_cons, List.drop_zero]
  repeat (refine wpMixL_step (fun K hK => ?_); go_simp; first | (refine hK _ ?_; clear hK K) | (apply Exists.intro; refine ⟨fun g => ?_, hK _ ?_⟩; ((with_reducible refine Calls.mono (k_H g.w) ?_); exact fun _ _ h => h); clear hK K))
  refine wpMixL_nil ?_
  intro G w5 hgr hblk hdist
  have hb : Below w4.heap.size w4 w5 := hgr
  replace Bp := Bp.next hb
  replace Br := Br.next hb
  replace Bq := Bq.next hb
  clear cp0 cp1 cp2 cp3 cp4 cp5 cp6 cp7 cp8 cp9 cp10 cp11 fp lp
  clear cr0 cr1 cr2 cr3 cr4 cr5 cr6 cr7 cr8 cr9 cr10 cr11 fr lr
  clear cq0 cq1 cq2 cq3 cq4 cq5 cq6 cq7 cq8 cq9 cq10 cq11 fq lq
  replace hB : Below w.heap.size w w5 := Bl_trans hB hb
  simp only [putAll, isAlloc]
  clear hb hgr hblk hdist
  obtain ⟨cp0, cp1, cp2, cp3, cp4, cp5, cp6, cp7, cp8, cp9, cp10, cp11⟩ := cells12 Bp
  have fp := Bp.frozen; have lp := Bp.lt
  obtain ⟨cr0, cr1, cr2, cr3, cr4, cr5, cr6, cr7, cr8, cr9, cr10, cr11⟩ := cells12 Br
  have fr := Br.frozen; have lr := Br.lt
  obtain ⟨cq0, cq1, cq2, cq3, cq4, cq5, cq6, cq7, cq8, cq9, cq10, cq11⟩ := cells12 Bq
  have fq := Bq.frozen; have lq := Bq.lt
  go_wp2
  exact bodyPost_ret (v := .tuple #[pv2 u v, .bool false]) (by simp [results, Tryd.results45, go_sem, cr0, cr1, cr2, cr3, cr4, cr5, cr6, cr7, cr8, cr9, cr10, cr11, lr]) rfl ⟨by rw [hs]; first | done | rfl, by repeat (first | (with_reducible exact hB) | (with_reducible refine Bl_set ?_ (by first | omega | (simp; done) | (simp; omega)) _) | with_reducible apply Bl_alloc)⟩
set_option maxRecDepth 100000 in
set_option maxHeartbeats 3200000 in
theorem refP_al_true_true (a b u v : Rng) (op : Int) (l : Bool) (k_Q : ∀ w : World, Calls Tryd.prog 66 #[pv2 a b] w fun e w' => e = .returned (.tuple #[pv2 u v, .bool true]) ∧ Below w.heap.size w w') (k_al : ∀ w : World, Calls Tryd.prog 67 #[pv2 u v] w fun e w' => e = .returned (.tuple #[uv u.lo, uv v.lo, .bool true]) ∧ Below w.heap.size w w') (k_H : ∀ w : World, Calls Tryd.prog 68 #[.int .i64 op, .bool l, uv u.lo, uv v.lo] w fun e w' => e = .returned (.bool true) ∧ Below w.heap.size w w') (hs : PlainBranch.refineP op l (a, b) true = ((u, v), true)) (w : World) : Calls Tryd.prog 45 #[.int .i64 op, .bool l, pv2 a b, .bool true] w fun e w' => e = .returned (tv (PlainBranch.refineP op l (a, b) true)) ∧ Below w.heap.size w w' := by
  go_enter Tryd.func45, Tryd.ntmps45
  go_wp2_with fail
  obtain ⟨gp, hgp⟩ : ∃ g, g = w.heap.size := ⟨_, rfl⟩
  obtain ⟨gr, hgr⟩ : ∃ g, g = w.heap.size + 1 := ⟨_, rfl⟩
  have Bp : Blk ((w.alloc (.cells #[uv a.b.v, uv a.b.m, uv a.lo, uv a.hi, sv a.sl, sv a.sh, uv b.b.v, uv b.b.m, uv b.lo, uv b.hi, sv b.sl, sv b.sh] 83)).alloc (.cells #[.int .u64 0, .int .u64 0, .int .u64 0, .int .u64 0, .int .i64 0, .int .i64 0, .int .u64 0, .int .u64 0, .int .u64 0, .int .u64 0, .int .i64 0, .int .i64 0] 83)) (w.heap.size) 83 #[uv a.b.v, uv a.b.m, uv a.lo, uv a.hi, sv a.sl, sv a.sh, uv b.b.v, uv b.b.m, uv b.lo, uv b.hi, sv b.sl, sv b.sh] := ((Blk.new w 83 #[uv a.b.v, uv a.b.m, uv a.lo, uv a.hi, sv a.sl, sv a.sh, uv b.b.v, uv b.b.m, uv b.lo, uv b.hi, sv b.sl, sv b.sh])).alloc _
  have Br : Blk ((w.alloc (.cells #[uv a.b.v, uv a.b.m, uv a.lo, uv a.hi, sv a.sl, sv a.sh, uv b.b.v, uv b.b.m, uv b.lo, uv b.hi, sv b.sl, sv b.sh] 83)).alloc (.cells #[.int .u64 0, .int .u64 0, .int .u64 0, .int .u64 0, .int .i64 0, .int .i64 0, .int .u64 0, .int .u64 0, .int .u64 0, .int .u64 0, .int .i64 0, .int .i64 0] 83)) (w.heap.size + 1) 83 #[.int .u64 0, .int .u64 0, .int .u64 0, .int .u64 0, .int .i64 0, .int .i64 0, .int .u64 0, .int .u64 0, .int .u64 0, .int .u64 0, .int .i64 0, .int .i64 0] := (by simpa using Blk.new (w.alloc (.cells #[uv a.b.v, uv a.b.m, uv a.lo, uv a.hi, sv a.sl, sv a.sh, uv b.b.v, uv b.b.m, uv b.lo, uv b.hi, sv b.sl, sv b.sh] 83)) 83 #[.int .u64 0, .int .u64 0, .int .u64 0, .int .u64 0, .int .i64 0, .int .i64 0, .int .u64 0, .int .u64 0, .int .u64 0, .int .u64 0, .int .i64 0, .int .i64 0] : Blk _ (w.heap.size + 1) 83 #[.int .u64 0, .int .u64 0, .int .u64 0, .int .u64 0, .int .i64 0, .int .i64 0, .int .u64 0, .int .u64 0, .int .u64 0, .int .u64 0, .int .i64 0, .int .i64 0])
  have hB : Below w.heap.size w ((w.alloc (.cells #[uv a.b.v, uv a.b.m, uv a.lo, uv a.hi, sv a.sl, sv a.sh, uv b.b.v, uv b.b.m, uv b.lo, uv b.hi, sv b.sl, sv b.sh] 83)).alloc (.cells #[.int .u64 0, .int .u64 0, .int .u64 0, .int .u64 0, .int .i64 0, .int .i64 0, .int .u64 0, .int .u64 0, .int .u64 0, .int .u64 0, .int .i64 0, .int .i64 0] 83)) := (Bl_alloc (Bl_alloc (Bl_refl w) _) _)
  clear hgp
  clear gp
  clear hgr
  clear gr
  generalize ((w.alloc (.cells #[uv a.b.v, uv a.b.m, uv a.lo, uv a.hi, sv a.sl, sv a.sh, uv b.b.v, uv b.b.m, uv b.lo, uv b.hi, sv b.sl, sv b.sh] 83)).alloc (.cells #[.int .u64 0, .int .u64 0, .int .u64 0, .int .u64 0, .int .i64 0, .int .i64 0, .int .u64 0, .int .u64 0, .int .u64 0, .int .u64 0, .int .i64 0, .int .i64 0] 83)) = w1 at *
  obtain ⟨cp0, cp1, cp2, cp3, cp4, cp5, cp6, cp7, cp8, cp9, cp10, cp11⟩ := cells12 Bp
  have fp := Bp.frozen; have lp := Bp.lt
  obtain ⟨cr0, cr1, cr2, cr3, cr4, cr5, cr6, cr7, cr8, cr9, cr10, cr11⟩ := cells12 Br
  have fr := Br.frozen; have lr := Br.lt
  go_wp2_with fail
  refine (k_Q _).mono ?_
  rintro e w2 ⟨rfl, hb⟩
  clear cp0 cp1 cp2 cp3 cp4 cp5 cp6 cp7 cp8 cp9 cp10 cp11 fp lp
  clear cr0 cr1 cr2 cr3 cr4 cr5 cr6 cr7 cr8 cr9 cr10 cr11 fr lr
  replace Bp := (Bp).next hb
  replace Br := (Br).next hb
  replace hB : Below w.heap.size w w2 := by repeat (first | exact hB | (refine Bl_set ?_ (by first | omega | (simp; omega)) _) | apply Bl_alloc | (refine Bl_trans ?_ hb))
  clear hb
  obtain ⟨cp0, cp1, cp2, cp3, cp4, cp5, cp6, cp7, cp8, cp9, cp10, cp11⟩ := cells12 Bp
  have fp := Bp.frozen; have lp := Bp.lt
  obtain ⟨cr0, cr1, cr2, cr3, cr4, cr5, cr6, cr7, cr8, cr9, cr10, cr11⟩ := cells12 Br
  have fr := Br.frozen; have lr := Br.lt
  go_upto_region 2 with fail
  clear cp0 cp1 cp2 cp3 cp4 cp5 cp6 cp7 cp8 cp9 cp10 cp11 fp lp
  clear cr0 cr1 cr2 cr3 cr4 cr5 cr6 cr7 cr8 cr9 cr10 cr11 fr lr
  have Bq := Blk.new w2 83 #[uv u.b.v, uv u.b.m, uv u.lo, uv u.hi, sv u.sl, sv u.sh, uv v.b.v, uv v.b.m, uv v.lo, uv v.hi, sv v.sl, sv v.sh]
  have hgq := hB.size
  have hnpq := Nat.ne_of_lt Bp.lt; have hltpq := Bp.lt
  have hnrq := Nat.ne_of_lt Br.lt; have hltrq := Br.lt
  replace Bp : Blk (w2.alloc (.cells #[uv u.b.v, uv u.b.m, uv u.lo, uv u.hi, sv u.sl, sv u.sh, uv v.b.v, uv v.b.m, uv v.lo, uv v.hi, sv v.sl, sv v.sh] 83)) (w.heap.size) 83 #[uv a.b.v, uv a.b.m, uv a.lo, uv a.hi, sv a.sl, sv a.sh, uv b.b.v, uv b.b.m, uv b.lo, uv b.hi, sv b.sl, sv b.sh] := Bp.alloc _
  replace Br : Blk (w2.alloc (.cells #[uv u.b.v, uv u.b.m, uv u.lo, uv u.hi, sv u.sl, sv u.sh, uv v.b.v, uv v.b.m, uv v.lo, uv v.hi, sv v.sl, sv v.sh] 83)) (w.heap.size + 1) 83 #[.int .u64 0, .int .u64 0, .int .u64 0, .int .u64 0, .int .i64 0, .int .i64 0, .int .u64 0, .int .u64 0, .int .u64 0, .int .u64 0, .int .i64 0, .int .i64 0] := Br.alloc _
  replace hB : Below w.heap.size w (w2.alloc (.cells #[uv u.b.v, uv u.b.m, uv u.lo, uv u.hi, sv u.sl, sv u.sh, uv v.b.v, uv v.b.m, uv v.lo, uv v.hi, sv v.sl, sv v.sh] 83)) := Bl_alloc hB _
  generalize (w2.alloc (.cells #[uv u.b.v, uv u.b.m, uv u.lo, uv u.hi, sv u.sl, sv u.sh, uv v.b.v, uv v.b.m, uv v.lo, uv v.hi, sv v.sl, sv v.sh] 83)) = w3 at *
  generalize w2.heap.size = gq at *
  obtain ⟨cp0, cp1, cp2, cp3, cp4, cp5, cp6, cp7, cp8, cp9, cp10, cp11⟩ := cells12 Bp
  have fp := Bp.frozen; have lp := Bp.lt
  obtain ⟨cr0, cr1, cr2, cr3, cr4, cr5, cr6, cr7, cr8, cr9, cr10, cr11⟩ := cells12 Br
  have fr := Br.frozen; have lr := Br.lt
  obtain ⟨cq0, cq1, cq2, cq3, cq4, cq5, cq6, cq7, cq8, cq9, cq10, cq11⟩ := cells12 Bq
  have fq := Bq.frozen; have lq := Bq.lt
  go_wp2_with fail
  refine (k_al _).mono ?_
  rintro e w4 ⟨rfl, hb⟩
  clear cp0 cp1 cp2 cp3 cp4 cp5 cp6 cp7 cp8 cp9 cp10 cp11 fp lp
  clear cr0 cr1 cr2 cr3 cr4 cr5 cr6 cr7 cr8 cr9 cr10 cr11 fr lr
  clear cq0 cq1 cq2 cq3 cq4 cq5 cq6 cq7 cq8 cq9 cq10 cq11 fq lq
  replace Bp := (Bp).next hb
  replace Br := (Br).next hb
  replace Bq := (Bq).next hb
  replace hB : Below w.heap.size w w4 := by repeat (first | exact hB | (refine Bl_set ?_ (by first | omega | (simp; omega)) _) | apply Bl_alloc | (refine Bl_trans ?_ hb))
  clear hb
  obtain ⟨cp0, cp1, cp2, cp3, cp4, cp5, cp6, cp7, cp8, cp9, cp10, cp11⟩ := cells12 Bp
  have fp := Bp.frozen; have lp := Bp.lt
  obtain ⟨cr0, cr1, cr2, cr3, cr4, cr5, cr6, cr7, cr8, cr9, cr10, cr11⟩ := cells12 Br
  have fr := Br.frozen; have lr := Br.lt
  obtain ⟨cq0, cq1, cq2, cq3, cq4, cq5, cq6, cq7, cq8, cq9, cq10, cq11⟩ := cells12 Bq
  have fq := Bq.frozen; have lq := Bq.lt
  go_wp2_with fail
  clear cp0 cp1 cp2 cp3 cp4 cp5 cp6 cp7 cp8 cp9 cp10 cp11; obtain ⟨cp0, cp1, cp2, cp3, cp4, cp5, cp6, cp7, cp8, cp9, cp10, cp11⟩ := lcells12 Bp
  clear cr0 cr1 cr2 cr3 cr4 cr5 cr6 cr7 cr8 cr9 cr10 cr11; obtain ⟨cr0, cr1, cr2, cr3, cr4, cr5, cr6, cr7, cr8, cr9, cr10, cr11⟩ := lcells12 Br
  clear cq0 cq1 cq2 cq3 cq4 cq5 cq6 cq7 cq8 cq9 cq10 cq11; obtain ⟨cq0, cq1, cq2, cq3, cq4, cq5, cq6, cq7, cq8, cq9, cq10, cq11⟩ := lcells12 Bq
  refine wp_region_mixL 8 (fun k => k == 6 || k == 7) (fun _ => #[]) (by kernel_rfl) (by kernel_rfl) (fun d _ _ _ _ h => by cases d <;> exact h) (no_alloc (by kernel_rfl)) ?_
  simp only [List.take_succ_cons, List.take_zero, List.drop_succ_cons, List.drop_zero]
  repeat (refine wpMixL_step (fun K hK => ?_); go_simp; first | (refine hK _ ?_; clear hK K) | (apply Exists.intro; refine ⟨fun g => ?_, hK _ ?_⟩; ((with_reducible refine Calls.mono (k_H g.w) ?_); exact fun _ _ h => h); clear hK K))
  refine wpMixL_nil ?_
  intro G w5 hgr hblk hdist
  have hb : Below w4.heap.size w4 w5 := hgr
  replace Bp := Bp.next hb
  replace Br := Br.next hb
  replace Bq := Bq.next hb
  clear cp0 cp1 cp2 cp3 cp4 cp5 cp6 cp7 cp8 cp9 cp10 cp11 fp lp
  clear cr0 cr1 cr2 cr3 cr4 cr5 cr6 cr7 cr8 cr9 cr10 cr11 fr lr
  clear cq0 cq1 cq2 cq3 cq4 cq5 cq6 cq7 cq8 cq9 cq10 cq11 fq lq
  replace hB : Below w.heap.size w w5 := Bl_trans hB hb
  simp only [putAll, isAlloc]
  clear hb hgr hblk hdist
  obtain ⟨cp0, cp1, cp2, cp3, cp4, cp5, cp6, cp7, cp8, cp9, cp10, cp11⟩ := cells12 Bp
  have fp := Bp.frozen; have lp := Bp.lt
  obtain ⟨cr0, cr1, cr2, cr3, cr4, cr5, cr6, cr7, cr8, cr9, cr10, cr11⟩ := cells12 Br
  have fr := Br.frozen; have lr := Br.lt
  obtain ⟨cq0, cq1, cq2, cq3, cq4, cq5, cq6, cq7, cq8, cq9, cq10, cq11⟩ := cells12 Bq
  have fq := Bq.frozen; have lq := Bq.lt
  go_wp2
  exact bodyPost_ret (v := .tuple #[pv2 u v, .bool true]) (by simp [results, Tryd.results45, go_sem, cr0, cr1, cr2, cr3, cr4, cr5, cr6, cr7, cr8, cr9, cr10, cr11, lr]) rfl ⟨by rw [hs]; first | done | rfl, by repeat (first | (with_reducible exact hB) | (with_reducible refine Bl_set ?_ (by first | omega | (simp; done) | (simp; omega)) _) | with_reducible apply Bl_alloc)⟩
theorem new_rng14 {o : Oper} (h : isAlloc o = some 43) (ρ : Operand → Value) (w : World) : (execOp ρ o).run Tryd.prog w = .ok (.value (.pointer (some ⟨w.heap.size, 0, none⟩))) (w.alloc (.cells #[.int .u64 0, .int .u64 0, .int .u64 0, .int .u64 0, .int .i64 0, .int .i64 0] 43)) := by
  obtain ⟨dst, op, type, pos, after, guard⟩ := o
  have := alloc_is h
  simp only at this
  subst this
  go_simp
/-- Three results. -/
abbrev t3 (R : (Rng × Rng) × Bool) : Value := .tuple #[rv R.1.1, rv R.1.2, .bool R.2]
set_option maxRecDepth 100000 in
set_option maxHeartbeats 3200000 in
theorem ref_false (op : Int) (l : Bool) (a b : Rng) (h : Bool) (u v : Rng) (k_R : ∀ w : World, Calls Tryd.prog 45 #[.int .i64 op, .bool l, pv2 a b, .bool h] w fun e w' => e = .returned (.tuple #[pv2 u v, .bool false]) ∧ Below w.heap.size w w') (hs : PlainBranch.refine op l a b h = (PlainBranch.zero, false)) (w : World) : Calls Tryd.prog 22 #[.int .i64 op, .bool l, rv a, rv b, .bool h] w fun e w' => e = .returned (t3 (PlainBranch.refine op l a b h)) ∧ Below w.heap.size w w' := by
  go_enter Tryd.func22, Tryd.ntmps22
  go_wp2_with fail
  obtain ⟨ga, hga⟩ : ∃ g, g = w.heap.size := ⟨_, rfl⟩
  obtain ⟨gb, hgb⟩ : ∃ g, g = w.heap.size + 1 := ⟨_, rfl⟩
  obtain ⟨gr, hgr⟩ : ∃ g, g = w.heap.size + 1 + 1 := ⟨_, rfl⟩
  obtain ⟨gt, hgt⟩ : ∃ g, g = w.heap.size + 1 + 1 + 1 := ⟨_, rfl⟩
  have Ba : Blk ((((w.alloc (.cells #[uv a.b.v, uv a.b.m, uv a.lo, uv a.hi, sv a.sl, sv a.sh] 43)).alloc (.cells #[uv b.b.v, uv b.b.m, uv b.lo, uv b.hi, sv b.sl, sv b.sh] 43)).alloc (.cells #[.int .u64 0, .int .u64 0, .int .u64 0, .int .u64 0, .int .i64 0, .int .i64 0] 43)).alloc (.cells #[.int .u64 0, .int .u64 0, .int .u64 0, .int .u64 0, .int .i64 0, .int .i64 0] 43)) (w.heap.size) 43 #[uv a.b.v, uv a.b.m, uv a.lo, uv a.hi, sv a.sl, sv a.sh] := ((((Blk.new w 43 #[uv a.b.v, uv a.b.m, uv a.lo, uv a.hi, sv a.sl, sv a.sh])).alloc _).alloc _).alloc _
  have Bb : Blk ((((w.alloc (.cells #[uv a.b.v, uv a.b.m, uv a.lo, uv a.hi, sv a.sl, sv a.sh] 43)).alloc (.cells #[uv b.b.v, uv b.b.m, uv b.lo, uv b.hi, sv b.sl, sv b.sh] 43)).alloc (.cells #[.int .u64 0, .int .u64 0, .int .u64 0, .int .u64 0, .int .i64 0, .int .i64 0] 43)).alloc (.cells #[.int .u64 0, .int .u64 0, .int .u64 0, .int .u64 0, .int .i64 0, .int .i64 0] 43)) (w.heap.size + 1) 43 #[uv b.b.v, uv b.b.m, uv b.lo, uv b.hi, sv b.sl, sv b.sh] := (((by simpa using Blk.new (w.alloc (.cells #[uv a.b.v, uv a.b.m, uv a.lo, uv a.hi, sv a.sl, sv a.sh] 43)) 43 #[uv b.b.v, uv b.b.m, uv b.lo, uv b.hi, sv b.sl, sv b.sh] : Blk _ (w.heap.size + 1) 43 #[uv b.b.v, uv b.b.m, uv b.lo, uv b.hi, sv b.sl, sv b.sh])).alloc _).alloc _
  have Br : Blk ((((w.alloc (.cells #[uv a.b.v, uv a.b.m, uv a.lo, uv a.hi, sv a.sl, sv a.sh] 43)).alloc (.cells #[uv b.b.v, uv b.b.m, uv b.lo, uv b.hi, sv b.sl, sv b.sh] 43)).alloc (.cells #[.int .u64 0, .int .u64 0, .int .u64 0, .int .u64 0, .int .i64 0, .int .i64 0] 43)).alloc (.cells #[.int .u64 0, .int .u64 0, .int .u64 0, .int .u64 0, .int .i64 0, .int .i64 0] 43)) (w.heap.size + 1 + 1) 43 #[.int .u64 0, .int .u64 0, .int .u64 0, .int .u64 0, .int .i64 0, .int .i64 0] := ((by simpa using Blk.new ((w.alloc (.cells #[uv a.b.v, uv a.b.m, uv a.lo, uv a.hi, sv a.sl, sv a.sh] 43)).alloc (.cells #[uv b.b.v, uv b.b.m, uv b.lo, uv b.hi, sv b.sl, sv b.sh] 43)) 43 #[.int .u64 0, .int .u64 0, .int .u64 0, .int .u64 0, .int .i64 0, .int .i64 0] : Blk _ (w.heap.size + 1 + 1) 43 #[.int .u64 0, .int .u64 0, .int .u64 0, .int .u64 0, .int .i64 0, .int .i64 0])).alloc _
  have Bt : Blk ((((w.alloc (.cells #[uv a.b.v, uv a.b.m, uv a.lo, uv a.hi, sv a.sl, sv a.sh] 43)).alloc (.cells #[uv b.b.v, uv b.b.m, uv b.lo, uv b.hi, sv b.sl, sv b.sh] 43)).alloc (.cells #[.int .u64 0, .int .u64 0, .int .u64 0, .int .u64 0, .int .i64 0, .int .i64 0] 43)).alloc (.cells #[.int .u64 0, .int .u64 0, .int .u64 0, .int .u64 0, .int .i64 0, .int .i64 0] 43)) (w.heap.size + 1 + 1 + 1) 43 #[.int .u64 0, .int .u64 0, .int .u64 0, .int .u64 0, .int .i64 0, .int .i64 0] := (by simpa using Blk.new (((w.alloc (.cells #[uv a.b.v, uv a.b.m, uv a.lo, uv a.hi, sv a.sl, sv a.sh] 43)).alloc (.cells #[uv b.b.v, uv b.b.m, uv b.lo, uv b.hi, sv b.sl, sv b.sh] 43)).alloc (.cells #[.int .u64 0, .int .u64 0, .int .u64 0, .int .u64 0, .int .i64 0, .int .i64 0] 43)) 43 #[.int .u64 0, .int .u64 0, .int .u64 0, .int .u64 0, .int .i64 0, .int .i64 0] : Blk _ (w.heap.size + 1 + 1 + 1) 43 #[.int .u64 0, .int .u64 0, .int .u64 0, .int .u64 0, .int .i64 0, .int .i64 0])
  have hB : Below w.heap.size w ((((w.alloc (.cells #[uv a.b.v, uv a.b.m, uv a.lo, uv a.hi, sv a.sl, sv a.sh] 43)).alloc (.cells #[uv b.b.v, uv b.b.m, uv b.lo, uv b.hi, sv b.sl, sv b.sh] 43)).alloc (.cells #[.int .u64 0, .int .u64 0, .int .u64 0, .int .u64 0, .int .i64 0, .int .i64 0] 43)).alloc (.cells #[.int .u64 0, .int .u64 0, .int .u64 0, .int .u64 0, .int .i64 0, .int .i64 0] 43)) := (Bl_alloc (Bl_alloc (Bl_alloc (Bl_alloc (Bl_refl w) _) _) _) _)
  clear hga
  clear ga
  clear hgb
  clear gb
  clear hgr
  clear gr
  clear hgt
  clear gt
  generalize ((((w.alloc (.cells #[uv a.b.v, uv a.b.m, uv a.lo, uv a.hi, sv a.sl, sv a.sh] 43)).alloc (.cells #[uv b.b.v, uv b.b.m, uv b.lo, uv b.hi, sv b.sl, sv b.sh] 43)).alloc (.cells #[.int .u64 0, .int .u64 0, .int .u64 0, .int .u64 0, .int .i64 0, .int .i64 0] 43)).alloc (.cells #[.int .u64 0, .int .u64 0, .int .u64 0, .int .u64 0, .int .i64 0, .int .i64 0] 43)) = w1 at *
  obtain ⟨ca0, ca1, ca2, ca3, ca4, ca5⟩ := cells6 Ba
  have fa := Ba.frozen; have la := Ba.lt
  obtain ⟨cb0, cb1, cb2, cb3, cb4, cb5⟩ := cells6 Bb
  have fb := Bb.frozen; have lb := Bb.lt
  obtain ⟨cr0, cr1, cr2, cr3, cr4, cr5⟩ := cells6 Br
  have fr := Br.frozen; have lr := Br.lt
  obtain ⟨ct0, ct1, ct2, ct3, ct4, ct5⟩ := cells6 Bt
  have ft := Bt.frozen; have lt := Bt.lt
  go_wp2_with fail
  refine (k_R _).mono ?_
  rintro e w2 ⟨rfl, hb⟩
  clear ca0 ca1 ca2 ca3 ca4 ca5 fa la
  clear cb0 cb1 cb2 cb3 cb4 cb5 fb lb
  clear cr0 cr1 cr2 cr3 cr4 cr5 fr lr
  clear ct0 ct1 ct2 ct3 ct4 ct5 ft lt
  replace Ba := (Ba).next hb
  replace Bb := (Bb).next hb
  replace Br := (Br).next hb
  replace Bt := (Bt).next hb
  replace hB : Below w.heap.size w w2 := by repeat (first | exact hB | (refine Bl_set ?_ (by first | omega | (simp; omega)) _) | apply Bl_alloc | (refine Bl_trans ?_ hb))
  clear hb
  obtain ⟨ca0, ca1, ca2, ca3, ca4, ca5⟩ := cells6 Ba
  have fa := Ba.frozen; have la := Ba.lt
  obtain ⟨cb0, cb1, cb2, cb3, cb4, cb5⟩ := cells6 Bb
  have fb := Bb.frozen; have lb := Bb.lt
  obtain ⟨cr0, cr1, cr2, cr3, cr4, cr5⟩ := cells6 Br
  have fr := Br.frozen; have lr := Br.lt
  obtain ⟨ct0, ct1, ct2, ct3, ct4, ct5⟩ := cells6 Bt
  have ft := Bt.frozen; have lt := Bt.lt
  go_upto_region 2 with fail
  clear ca0 ca1 ca2 ca3 ca4 ca5 fa la
  clear cb0 cb1 cb2 cb3 cb4 cb5 fb lb
  clear cr0 cr1 cr2 cr3 cr4 cr5 fr lr
  clear ct0 ct1 ct2 ct3 ct4 ct5 ft lt
  have Bq := Blk.new w2 83 #[uv u.b.v, uv u.b.m, uv u.lo, uv u.hi, sv u.sl, sv u.sh, uv v.b.v, uv v.b.m, uv v.lo, uv v.hi, sv v.sl, sv v.sh]
  have hgq := hB.size
  have hnaq := Nat.ne_of_lt Ba.lt; have hltaq := Ba.lt
  have hnbq := Nat.ne_of_lt Bb.lt; have hltbq := Bb.lt
  have hnrq := Nat.ne_of_lt Br.lt; have hltrq := Br.lt
  have hntq := Nat.ne_of_lt Bt.lt; have hlttq := Bt.lt
  replace Ba : Blk (w2.alloc (.cells #[uv u.b.v, uv u.b.m, uv u.lo, uv u.hi, sv u.sl, sv u.sh, uv v.b.v, uv v.b.m, uv v.lo, uv v.hi, sv v.sl, sv v.sh] 83)) (w.heap.size) 43 #[uv a.b.v, uv a.b.m, uv a.lo, uv a.hi, sv a.sl, sv a.sh] := Ba.alloc _
  replace Bb : Blk (w2.alloc (.cells #[uv u.b.v, uv u.b.m, uv u.lo, uv u.hi, sv u.sl, sv u.sh, uv v.b.v, uv v.b.m, uv v.lo, uv v.hi, sv v.sl, sv v.sh] 83)) (w.heap.size + 1) 43 #[uv b.b.v, uv b.b.m, uv b.lo, uv b.hi, sv b.sl, sv b.sh] := Bb.alloc _
  replace Br : Blk (w2.alloc (.cells #[uv u.b.v, uv u.b.m, uv u.lo, uv u.hi, sv u.sl, sv u.sh, uv v.b.v, uv v.b.m, uv v.lo, uv v.hi, sv v.sl, sv v.sh] 83)) (w.heap.size + 1 + 1) 43 #[.int .u64 0, .int .u64 0, .int .u64 0, .int .u64 0, .int .i64 0, .int .i64 0] := Br.alloc _
  replace Bt : Blk (w2.alloc (.cells #[uv u.b.v, uv u.b.m, uv u.lo, uv u.hi, sv u.sl, sv u.sh, uv v.b.v, uv v.b.m, uv v.lo, uv v.hi, sv v.sl, sv v.sh] 83)) (w.heap.size + 1 + 1 + 1) 43 #[.int .u64 0, .int .u64 0, .int .u64 0, .int .u64 0, .int .i64 0, .int .i64 0] := Bt.alloc _
  replace hB : Below w.heap.size w (w2.alloc (.cells #[uv u.b.v, uv u.b.m, uv u.lo, uv u.hi, sv u.sl, sv u.sh, uv v.b.v, uv v.b.m, uv v.lo, uv v.hi, sv v.sl, sv v.sh] 83)) := Bl_alloc hB _
  generalize (w2.alloc (.cells #[uv u.b.v, uv u.b.m, uv u.lo, uv u.hi, sv u.sl, sv u.sh, uv v.b.v, uv v.b.m, uv v.lo, uv v.hi, sv v.sl, sv v.sh] 83)) = w3 at *
  generalize w2.heap.size = gq at *
  obtain ⟨ca0, ca1, ca2, ca3, ca4, ca5⟩ := cells6 Ba
  have fa := Ba.frozen; have la := Ba.lt
  obtain ⟨cb0, cb1, cb2, cb3, cb4, cb5⟩ := cells6 Bb
  have fb := Bb.frozen; have lb := Bb.lt
  obtain ⟨cr0, cr1, cr2, cr3, cr4, cr5⟩ := cells6 Br
  have fr := Br.frozen; have lr := Br.lt
  obtain ⟨ct0, ct1, ct2, ct3, ct4, ct5⟩ := cells6 Bt
  have ft := Bt.frozen; have lt := Bt.lt
  obtain ⟨cq0, cq1, cq2, cq3, cq4, cq5, cq6, cq7, cq8, cq9, cq10, cq11⟩ := cells12 Bq
  have fq := Bq.frozen; have lq := Bq.lt
  go_wp2
  exact bodyPost_ret (v := .tuple #[rv PlainScalar.none_, rv PlainScalar.none_, .bool false]) (by simp [results, Tryd.results22, go_sem, cr0, cr1, cr2, cr3, cr4, cr5, ct0, ct1, ct2, ct3, ct4, ct5, lr, lt, PlainScalar.none_, T, S]) rfl ⟨by rw [hs]; first | done | rfl, by repeat (first | (with_reducible exact hB) | (with_reducible refine Bl_set ?_ (by first | omega | (simp; done) | (simp; omega)) _) | with_reducible apply Bl_alloc)⟩
set_option maxRecDepth 100000 in
set_option maxHeartbeats 3200000 in
theorem ref_true (op : Int) (l : Bool) (a b : Rng) (h : Bool) (u v : Rng) (k_R : ∀ w : World, Calls Tryd.prog 45 #[.int .i64 op, .bool l, pv2 a b, .bool h] w fun e w' => e = .returned (.tuple #[pv2 u v, .bool true]) ∧ Below w.heap.size w w') (hs : PlainBranch.refine op l a b h = ((u, v), true)) (w : World) : Calls Tryd.prog 22 #[.int .i64 op, .bool l, rv a, rv b, .bool h] w fun e w' => e = .returned (t3 (PlainBranch.refine op l a b h)) ∧ Below w.heap.size w w' := by
  go_enter Tryd.func22, Tryd.ntmps22
  go_wp2_with fail
  obtain ⟨ga, hga⟩ : ∃ g, g = w.heap.size := ⟨_, rfl⟩
  obtain ⟨gb, hgb⟩ : ∃ g, g = w.heap.size + 1 := ⟨_, rfl⟩
  obtain ⟨gr, hgr⟩ : ∃ g, g = w.heap.size + 1 + 1 := ⟨_, rfl⟩
  obtain ⟨gt, hgt⟩ : ∃ g, g = w.heap.size + 1 + 1 + 1 := ⟨_, rfl⟩
  have Ba : Blk ((((w.alloc (.cells #[uv a.b.v, uv a.b.m, uv a.lo, uv a.hi, sv a.sl, sv a.sh] 43)).alloc (.cells #[uv b.b.v, uv b.b.m, uv b.lo, uv b.hi, sv b.sl, sv b.sh] 43)).alloc (.cells #[.int .u64 0, .int .u64 0, .int .u64 0, .int .u64 0, .int .i64 0, .int .i64 0] 43)).alloc (.cells #[.int .u64 0, .int .u64 0, .int .u64 0, .int .u64 0, .int .i64 0, .int .i64 0] 43)) (w.heap.size) 43 #[uv a.b.v, uv a.b.m, uv a.lo, uv a.hi, sv a.sl, sv a.sh] := ((((Blk.new w 43 #[uv a.b.v, uv a.b.m, uv a.lo, uv a.hi, sv a.sl, sv a.sh])).alloc _).alloc _).alloc _
  have Bb : Blk ((((w.alloc (.cells #[uv a.b.v, uv a.b.m, uv a.lo, uv a.hi, sv a.sl, sv a.sh] 43)).alloc (.cells #[uv b.b.v, uv b.b.m, uv b.lo, uv b.hi, sv b.sl, sv b.sh] 43)).alloc (.cells #[.int .u64 0, .int .u64 0, .int .u64 0, .int .u64 0, .int .i64 0, .int .i64 0] 43)).alloc (.cells #[.int .u64 0, .int .u64 0, .int .u64 0, .int .u64 0, .int .i64 0, .int .i64 0] 43)) (w.heap.size + 1) 43 #[uv b.b.v, uv b.b.m, uv b.lo, uv b.hi, sv b.sl, sv b.sh] := (((by simpa using Blk.new (w.alloc (.cells #[uv a.b.v, uv a.b.m, uv a.lo, uv a.hi, sv a.sl, sv a.sh] 43)) 43 #[uv b.b.v, uv b.b.m, uv b.lo, uv b.hi, sv b.sl, sv b.sh] : Blk _ (w.heap.size + 1) 43 #[uv b.b.v, uv b.b.m, uv b.lo, uv b.hi, sv b.sl, sv b.sh])).alloc _).alloc _
  have Br : Blk ((((w.alloc (.cells #[uv a.b.v, uv a.b.m, uv a.lo, uv a.hi, sv a.sl, sv a.sh] 43)).alloc (.cells #[uv b.b.v, uv b.b.m, uv b.lo, uv b.hi, sv b.sl, sv b.sh] 43)).alloc (.cells #[.int .u64 0, .int .u64 0, .int .u64 0, .int .u64 0, .int .i64 0, .int .i64 0] 43)).alloc (.cells #[.int .u64 0, .int .u64 0, .int .u64 0, .int .u64 0, .int .i64 0, .int .i64 0] 43)) (w.heap.size + 1 + 1) 43 #[.int .u64 0, .int .u64 0, .int .u64 0, .int .u64 0, .int .i64 0, .int .i64 0] := ((by simpa using Blk.new ((w.alloc (.cells #[uv a.b.v, uv a.b.m, uv a.lo, uv a.hi, sv a.sl, sv a.sh] 43)).alloc (.cells #[uv b.b.v, uv b.b.m, uv b.lo, uv b.hi, sv b.sl, sv b.sh] 43)) 43 #[.int .u64 0, .int .u64 0, .int .u64 0, .int .u64 0, .int .i64 0, .int .i64 0] : Blk _ (w.heap.size + 1 + 1) 43 #[.int .u64 0, .int .u64 0, .int .u64 0, .int .u64 0, .int .i64 0, .int .i64 0])).alloc _
  have Bt : Blk ((((w.alloc (.cells #[uv a.b.v, uv a.b.m, uv a.lo, uv a.hi, sv a.sl, sv a.sh] 43)).alloc (.cells #[uv b.b.v, uv b.b.m, uv b.lo, uv b.hi, sv b.sl, sv b.sh] 43)).alloc (.cells #[.int .u64 0, .int .u64 0, .int .u64 0, .int .u64 0, .int .i64 0, .int .i64 0] 43)).alloc (.cells #[.int .u64 0, .int .u64 0, .int .u64 0, .int .u64 0, .int .i64 0, .int .i64 0] 43)) (w.heap.size + 1 + 1 + 1) 43 #[.int .u64 0, .int .u64 0, .int .u64 0, .int .u64 0, .int .i64 0, .int .i64 0] := (by simpa using Blk.new (((w.alloc (.cells #[uv a.b.v, uv a.b.m, uv a.lo, uv a.hi, sv a.sl, sv a.sh] 43)).alloc (.cells #[uv b.b.v, uv b.b.m, uv b.lo, uv b.hi, sv b.sl, sv b.sh] 43)).alloc (.cells #[.int .u64 0, .int .u64 0, .int .u64 0, .int .u64 0, .int .i64 0, .int .i64 0] 43)) 43 #[.int .u64 0, .int .u64 0, .int .u64 0, .int .u64 0, .int .i64 0, .int .i64 0] : Blk _ (w.heap.size + 1 + 1 + 1) 43 #[.int .u64 0, .int .u64 0, .int .u64 0, .int .u64 0, .int .i64 0, .int .i64 0])
  have hB : Below w.heap.size w ((((w.alloc (.cells #[uv a.b.v, uv a.b.m, uv a.lo, uv a.hi, sv a.sl, sv a.sh] 43)).alloc (.cells #[uv b.b.v, uv b.b.m, uv b.lo, uv b.hi, sv b.sl, sv b.sh] 43)).alloc (.cells #[.int .u64 0, .int .u64 0, .int .u64 0, .int .u64 0, .int .i64 0, .int .i64 0] 43)).alloc (.cells #[.int .u64 0, .int .u64 0, .int .u64 0, .int .u64 0, .int .i64 0, .int .i64 0] 43)) := (Bl_alloc (Bl_alloc (Bl_alloc (Bl_alloc (Bl_refl w) _) _) _) _)
  clear hga
  clear ga
  clear hgb
  clear gb
  clear hgr
  clear gr
  clear hgt
  clear gt
  generalize ((((w.alloc (.cells #[uv a.b.v, uv a.b.m, uv a.lo, uv a.hi, sv a.sl, sv a.sh] 43)).alloc (.cells #[uv b.b.v, uv b.b.m, uv b.lo, uv b.hi, sv b.sl, sv b.sh] 43)).alloc (.cells #[.int .u64 0, .int .u64 0, .int .u64 0, .int .u64 0, .int .i64 0, .int .i64 0] 43)).alloc (.cells #[.int .u64 0, .int .u64 0, .int .u64 0, .int .u64 0, .int .i64 0, .int .i64 0] 43)) = w1 at *
  obtain ⟨ca0, ca1, ca2, ca3, ca4, ca5⟩ := cells6 Ba
  have fa := Ba.frozen; have la := Ba.lt
  obtain ⟨cb0, cb1, cb2, cb3, cb4, cb5⟩ := cells6 Bb
  have fb := Bb.frozen; have lb := Bb.lt
  obtain ⟨cr0, cr1, cr2, cr3, cr4, cr5⟩ := cells6 Br
  have fr := Br.frozen; have lr := Br.lt
  obtain ⟨ct0, ct1, ct2, ct3, ct4, ct5⟩ := cells6 Bt
  have ft := Bt.frozen; have lt := Bt.lt
  go_wp2_with fail
  refine (k_R _).mono ?_
  rintro e w2 ⟨rfl, hb⟩
  clear ca0 ca1 ca2 ca3 ca4 ca5 fa la
  clear cb0 cb1 cb2 cb3 cb4 cb5 fb lb
  clear cr0 cr1 cr2 cr3 cr4 cr5 fr lr
  clear ct0 ct1 ct2 ct3 ct4 ct5 ft lt
  replace Ba := (Ba).next hb
  replace Bb := (Bb).next hb
  replace Br := (Br).next hb
  replace Bt := (Bt).next hb
  replace hB : Below w.heap.size w w2 := by repeat (first | exact hB | (refine Bl_set ?_ (by first | omega | (simp; omega)) _) | apply Bl_alloc | (refine Bl_trans ?_ hb))
  clear hb
  obtain ⟨ca0, ca1, ca2, ca3, ca4, ca5⟩ := cells6 Ba
  have fa := Ba.frozen; have la := Ba.lt
  obtain ⟨cb0, cb1, cb2, cb3, cb4, cb5⟩ := cells6 Bb
  have fb := Bb.frozen; have lb := Bb.lt
  obtain ⟨cr0, cr1, cr2, cr3, cr4, cr5⟩ := cells6 Br
  have fr := Br.frozen; have lr := Br.lt
  obtain ⟨ct0, ct1, ct2, ct3, ct4, ct5⟩ := cells6 Bt
  have ft := Bt.frozen; have lt := Bt.lt
  go_upto_region 2 with fail
  clear ca0 ca1 ca2 ca3 ca4 ca5 fa la
  clear cb0 cb1 cb2 cb3 cb4 cb5 fb lb
  clear cr0 cr1 cr2 cr3 cr4 cr5 fr lr
  clear ct0 ct1 ct2 ct3 ct4 ct5 ft lt
  have Bq := Blk.new w2 83 #[uv u.b.v, uv u.b.m, uv u.lo, uv u.hi, sv u.sl, sv u.sh, uv v.b.v, uv v.b.m, uv v.lo, uv v.hi, sv v.sl, sv v.sh]
  have hgq := hB.size
  have hnaq := Nat.ne_of_lt Ba.lt; have hltaq := Ba.lt
  have hnbq := Nat.ne_of_lt Bb.lt; have hltbq := Bb.lt
  have hnrq := Nat.ne_of_lt Br.lt; have hltrq := Br.lt
  have hntq := Nat.ne_of_lt Bt.lt; have hlttq := Bt.lt
  replace Ba : Blk (w2.alloc (.cells #[uv u.b.v, uv u.b.m, uv u.lo, uv u.hi, sv u.sl, sv u.sh, uv v.b.v, uv v.b.m, uv v.lo, uv v.hi, sv v.sl, sv v.sh] 83)) (w.heap.size) 43 #[uv a.b.v, uv a.b.m, uv a.lo, uv a.hi, sv a.sl, sv a.sh] := Ba.alloc _
  replace Bb : Blk (w2.alloc (.cells #[uv u.b.v, uv u.b.m, uv u.lo, uv u.hi, sv u.sl, sv u.sh, uv v.b.v, uv v.b.m, uv v.lo, uv v.hi, sv v.sl, sv v.sh] 83)) (w.heap.size + 1) 43 #[uv b.b.v, uv b.b.m, uv b.lo, uv b.hi, sv b.sl, sv b.sh] := Bb.alloc _
  replace Br : Blk (w2.alloc (.cells #[uv u.b.v, uv u.b.m, uv u.lo, uv u.hi, sv u.sl, sv u.sh, uv v.b.v, uv v.b.m, uv v.lo, uv v.hi, sv v.sl, sv v.sh] 83)) (w.heap.size + 1 + 1) 43 #[.int .u64 0, .int .u64 0, .int .u64 0, .int .u64 0, .int .i64 0, .int .i64 0] := Br.alloc _
  replace Bt : Blk (w2.alloc (.cells #[uv u.b.v, uv u.b.m, uv u.lo, uv u.hi, sv u.sl, sv u.sh, uv v.b.v, uv v.b.m, uv v.lo, uv v.hi, sv v.sl, sv v.sh] 83)) (w.heap.size + 1 + 1 + 1) 43 #[.int .u64 0, .int .u64 0, .int .u64 0, .int .u64 0, .int .i64 0, .int .i64 0] := Bt.alloc _
  replace hB : Below w.heap.size w (w2.alloc (.cells #[uv u.b.v, uv u.b.m, uv u.lo, uv u.hi, sv u.sl, sv u.sh, uv v.b.v, uv v.b.m, uv v.lo, uv v.hi, sv v.sl, sv v.sh] 83)) := Bl_alloc hB _
  generalize (w2.alloc (.cells #[uv u.b.v, uv u.b.m, uv u.lo, uv u.hi, sv u.sl, sv u.sh, uv v.b.v, uv v.b.m, uv v.lo, uv v.hi, sv v.sl, sv v.sh] 83)) = w3 at *
  generalize w2.heap.size = gq at *
  obtain ⟨ca0, ca1, ca2, ca3, ca4, ca5⟩ := cells6 Ba
  have fa := Ba.frozen; have la := Ba.lt
  obtain ⟨cb0, cb1, cb2, cb3, cb4, cb5⟩ := cells6 Bb
  have fb := Bb.frozen; have lb := Bb.lt
  obtain ⟨cr0, cr1, cr2, cr3, cr4, cr5⟩ := cells6 Br
  have fr := Br.frozen; have lr := Br.lt
  obtain ⟨ct0, ct1, ct2, ct3, ct4, ct5⟩ := cells6 Bt
  have ft := Bt.frozen; have lt := Bt.lt
  obtain ⟨cq0, cq1, cq2, cq3, cq4, cq5, cq6, cq7, cq8, cq9, cq10, cq11⟩ := cells12 Bq
  have fq := Bq.frozen; have lq := Bq.lt
  go_wp2_with fail
  clear ca0 ca1 ca2 ca3 ca4 ca5; obtain ⟨ca0, ca1, ca2, ca3, ca4, ca5⟩ := lcells6 Ba
  clear cb0 cb1 cb2 cb3 cb4 cb5; obtain ⟨cb0, cb1, cb2, cb3, cb4, cb5⟩ := lcells6 Bb
  clear cr0 cr1 cr2 cr3 cr4 cr5; obtain ⟨cr0, cr1, cr2, cr3, cr4, cr5⟩ := lcells6 Br
  clear ct0 ct1 ct2 ct3 ct4 ct5; obtain ⟨ct0, ct1, ct2, ct3, ct4, ct5⟩ := lcells6 Bt
  clear cq0 cq1 cq2 cq3 cq4 cq5 cq6 cq7 cq8 cq9 cq10 cq11; obtain ⟨cq0, cq1, cq2, cq3, cq4, cq5, cq6, cq7, cq8, cq9, cq10, cq11⟩ := lcells12 Bq
  obtain ⟨S, hS⟩ : ∃ S : World → Prop, ∀ x, S x ↔ (x.cell? ⟨gq, 6, none⟩ = some (uv v.b.v) ∧ x.cell? ⟨gq, 7, none⟩ = some (uv v.b.m) ∧ x.cell? ⟨gq, 8, none⟩ = some (uv v.lo) ∧ x.cell? ⟨gq, 9, none⟩ = some (uv v.hi) ∧ x.cell? ⟨gq, 10, none⟩ = some (sv v.sl) ∧ x.cell? ⟨gq, 11, none⟩ = some (sv v.sh)) := ⟨_, fun _ => Iff.rfl⟩
  have u0 : ∀ g : Under S, g.w.cell? ⟨gq, 6, none⟩ = some (uv v.b.v) := fun g => ((hS _).1 g.is).1
  have u1 : ∀ g : Under S, g.w.cell? ⟨gq, 7, none⟩ = some (uv v.b.m) := fun g => ((hS _).1 g.is).2.1
  have u2 : ∀ g : Under S, g.w.cell? ⟨gq, 8, none⟩ = some (uv v.lo) := fun g => ((hS _).1 g.is).2.2.1
  have u3 : ∀ g : Under S, g.w.cell? ⟨gq, 9, none⟩ = some (uv v.hi) := fun g => ((hS _).1 g.is).2.2.2.1
  have u4 : ∀ g : Under S, g.w.cell? ⟨gq, 10, none⟩ = some (sv v.sl) := fun g => ((hS _).1 g.is).2.2.2.2.1
  have u5 : ∀ g : Under S, g.w.cell? ⟨gq, 11, none⟩ = some (sv v.sh) := fun g => ((hS _).1 g.is).2.2.2.2.2
  refine wp_region_mixS 4 (fun k => k == 2 || k == 3) (fun _ => #[]) S rfl (by kernel_rfl) (by kernel_rfl) (no_alloc (by kernel_rfl)) ?_
  simp only [List.take_succ_cons, List.take_zero, List.drop_succ_cons, List.drop_zero]
  repeat (refine wpMixS_step (fun K hK => ?_); go_simp; first | (refine hK _ ?_; clear hK K))
  refine wpMixS_nil ?_
  intro G w4 hgr hblk hdist
  have hb : Below w3.heap.size w3 w4 := hgr
  replace Ba := Ba.next hb
  replace Bb := Bb.next hb
  replace Br := Br.next hb
  replace Bt := Bt.next hb
  replace Bq := Bq.next hb
  clear ca0 ca1 ca2 ca3 ca4 ca5 fa la
  clear cb0 cb1 cb2 cb3 cb4 cb5 fb lb
  clear cr0 cr1 cr2 cr3 cr4 cr5 fr lr
  clear ct0 ct1 ct2 ct3 ct4 ct5 ft lt
  clear cq0 cq1 cq2 cq3 cq4 cq5 cq6 cq7 cq8 cq9 cq10 cq11 fq lq
  clear u0 u1 u2 u3 u4 u5
  replace hB : Below w.heap.size w w4 := Bl_trans hB hb
  simp only [putAll, isAlloc]
  clear hb hgr hblk hdist
  obtain ⟨ca0, ca1, ca2, ca3, ca4, ca5⟩ := cells6 Ba
  have fa := Ba.frozen; have la := Ba.lt
  obtain ⟨cb0, cb1, cb2, cb3, cb4, cb5⟩ := cells6 Bb
  have fb := Bb.frozen; have lb := Bb.lt
  obtain ⟨cr0, cr1, cr2, cr3, cr4, cr5⟩ := cells6 Br
  have fr := Br.frozen; have lr := Br.lt
  obtain ⟨ct0, ct1, ct2, ct3, ct4, ct5⟩ := cells6 Bt
  have ft := Bt.frozen; have lt := Bt.lt
  obtain ⟨cq0, cq1, cq2, cq3, cq4, cq5, cq6, cq7, cq8, cq9, cq10, cq11⟩ := cells12 Bq
  have fq := Bq.frozen; have lq := Bq.lt
  go_wp2_with fail
  refine ⟨by first | trivial | rfl, ?_, ?_⟩
  · refine (hS _).2 ?_; exact ⟨((((((Bq.far (by first | (simp; done) | (simp; omega) | (simp [*]; done) | (simp only [ne_eq]; constructor <;> omega)) _).far (by first | (simp; done) | (simp; omega) | (simp [*]; done) | (simp only [ne_eq]; constructor <;> omega)) _).far (by first | (simp; done) | (simp; omega) | (simp [*]; done) | (simp only [ne_eq]; constructor <;> omega)) _).far (by first | (simp; done) | (simp; omega) | (simp [*]; done) | (simp only [ne_eq]; constructor <;> omega)) _).far (by first | (simp; done) | (simp; omega) | (simp [*]; done) | (simp only [ne_eq]; constructor <;> omega)) _).far (by first | (simp; done) | (simp; omega) | (simp [*]; done) | (simp only [ne_eq]; constructor <;> omega)) _).cell 6, ((((((Bq.far (by first | (simp; done) | (simp; omega) | (simp [*]; done) | (simp only [ne_eq]; constructor <;> omega)) _).far (by first | (simp; done) | (simp; omega) | (simp [*]; done) | (simp only [ne_eq]; constructor <;> omega)) _).far (by first | (simp; done) | (simp; omega) | (simp [*]; done) | (simp only [ne_eq]; constructor <;> omega)) _).far (by first | (simp; done) | (simp; omega) | (simp [*]; done) | (simp only [ne_eq]; constructor <;> omega)) _).far (by first | (simp; done) | (simp; omega) | (simp [*]; done) | (simp only [ne_eq]; constructor <;> omega)) _).far (by first | (simp; done) | (simp; omega) | (simp [*]; done) | (simp only [ne_eq]; constructor <;> omega)) _).cell 7, ((((((Bq.far (by first | (simp; done) | (simp; omega) | (simp [*]; done) | (simp only [ne_eq]; constructor <;> omega)) _).far (by first | (simp; done) | (simp; omega) | (simp [*]; done) | (simp only [ne_eq]; constructor <;> omega)) _).far (by first | (simp; done) | (simp; omega) | (simp [*]; done) | (simp only [ne_eq]; constructor <;> omega)) _).far (by first | (simp; done) | (simp; omega) | (simp [*]; done) | (simp only [ne_eq]; constructor <;> omega)) _).far (by first | (simp; done) | (simp; omega) | (simp [*]; done) | (simp only [ne_eq]; constructor <;> omega)) _).far (by first | (simp; done) | (simp; omega) | (simp [*]; done) | (simp only [ne_eq]; constructor <;> omega)) _).cell 8, ((((((Bq.far (by first | (simp; done) | (simp; omega) | (simp [*]; done) | (simp only [ne_eq]; constructor <;> omega)) _).far (by first | (simp; done) | (simp; omega) | (simp [*]; done) | (simp only [ne_eq]; constructor <;> omega)) _).far (by first | (simp; done) | (simp; omega) | (simp [*]; done) | (simp only [ne_eq]; constructor <;> omega)) _).far (by first | (simp; done) | (simp; omega) | (simp [*]; done) | (simp only [ne_eq]; constructor <;> omega)) _).far (by first | (simp; done) | (simp; omega) | (simp [*]; done) | (simp only [ne_eq]; constructor <;> omega)) _).far (by first | (simp; done) | (simp; omega) | (simp [*]; done) | (simp only [ne_eq]; constructor <;> omega)) _).cell 9, ((((((Bq.far (by first | (simp; done) | (simp; omega) | (simp [*]; done) | (simp only [ne_eq]; constructor <;> omega)) _).far (by first | (simp; done) | (simp; omega) | (simp [*]; done) | (simp only [ne_eq]; constructor <;> omega)) _).far (by first | (simp; done) | (simp; omega) | (simp [*]; done) | (simp only [ne_eq]; constructor <;> omega)) _).far (by first | (simp; done) | (simp; omega) | (simp [*]; done) | (simp only [ne_eq]; constructor <;> omega)) _).far (by first | (simp; done) | (simp; omega) | (simp [*]; done) | (simp only [ne_eq]; constructor <;> omega)) _).far (by first | (simp; done) | (simp; omega) | (simp [*]; done) | (simp only [ne_eq]; constructor <;> omega)) _).cell 10, ((((((Bq.far (by first | (simp; done) | (simp; omega) | (simp [*]; done) | (simp only [ne_eq]; constructor <;> omega)) _).far (by first | (simp; done) | (simp; omega) | (simp [*]; done) | (simp only [ne_eq]; constructor <;> omega)) _).far (by first | (simp; done) | (simp; omega) | (simp [*]; done) | (simp only [ne_eq]; constructor <;> omega)) _).far (by first | (simp; done) | (simp; omega) | (simp [*]; done) | (simp only [ne_eq]; constructor <;> omega)) _).far (by first | (simp; done) | (simp; omega) | (simp [*]; done) | (simp only [ne_eq]; constructor <;> omega)) _).far (by first | (simp; done) | (simp; omega) | (simp [*]; done) | (simp only [ne_eq]; constructor <;> omega)) _).cell 11⟩
  clear hS S
  clear ca0 ca1 ca2 ca3 ca4 ca5 fa la
  clear cb0 cb1 cb2 cb3 cb4 cb5 fb lb
  clear cr0 cr1 cr2 cr3 cr4 cr5 fr lr
  clear ct0 ct1 ct2 ct3 ct4 ct5 ft lt
  clear cq0 cq1 cq2 cq3 cq4 cq5 cq6 cq7 cq8 cq9 cq10 cq11 fq lq
  replace Ba : Blk ((((((w4.setCell ⟨w.heap.size + 1 + 1, 0, none⟩ (uv u.b.v)).setCell ⟨w.heap.size + 1 + 1, 1, none⟩ (uv u.b.m)).setCell ⟨w.heap.size + 1 + 1, 2, none⟩ (uv u.lo)).setCell ⟨w.heap.size + 1 + 1, 3, none⟩ (uv u.hi)).setCell ⟨w.heap.size + 1 + 1, 4, none⟩ (sv u.sl)).setCell ⟨w.heap.size + 1 + 1, 5, none⟩ (sv u.sh)) (w.heap.size) 43 #[uv a.b.v, uv a.b.m, uv a.lo, uv a.hi, sv a.sl, sv a.sh] := ((((((Ba.far (by first | (simp; done) | (simp; omega) | (simp [*]; done) | (simp only [ne_eq]; constructor <;> omega)) _).far (by first | (simp; done) | (simp; omega) | (simp [*]; done) | (simp only [ne_eq]; constructor <;> omega)) _).far (by first | (simp; done) | (simp; omega) | (simp [*]; done) | (simp only [ne_eq]; constructor <;> omega)) _).far (by first | (simp; done) | (simp; omega) | (simp [*]; done) | (simp only [ne_eq]; constructor <;> omega)) _).far (by first | (simp; done) | (simp; omega) | (simp [*]; done) | (simp only [ne_eq]; constructor <;> omega)) _).far (by first | (simp; done) | (simp; omega) | (simp [*]; done) | (simp only [ne_eq]; constructor <;> omega)) _)
  replace Bb : Blk ((((((w4.setCell ⟨w.heap.size + 1 + 1, 0, none⟩ (uv u.b.v)).setCell ⟨w.heap.size + 1 + 1, 1, none⟩ (uv u.b.m)).setCell ⟨w.heap.size + 1 + 1, 2, none⟩ (uv u.lo)).setCell ⟨w.heap.size + 1 + 1, 3, none⟩ (uv u.hi)).setCell ⟨w.heap.size + 1 + 1, 4, none⟩ (sv u.sl)).setCell ⟨w.heap.size + 1 + 1, 5, none⟩ (sv u.sh)) (w.heap.size + 1) 43 #[uv b.b.v, uv b.b.m, uv b.lo, uv b.hi, sv b.sl, sv b.sh] := ((((((Bb.far (by first | (simp; done) | (simp; omega) | (simp [*]; done) | (simp only [ne_eq]; constructor <;> omega)) _).far (by first | (simp; done) | (simp; omega) | (simp [*]; done) | (simp only [ne_eq]; constructor <;> omega)) _).far (by first | (simp; done) | (simp; omega) | (simp [*]; done) | (simp only [ne_eq]; constructor <;> omega)) _).far (by first | (simp; done) | (simp; omega) | (simp [*]; done) | (simp only [ne_eq]; constructor <;> omega)) _).far (by first | (simp; done) | (simp; omega) | (simp [*]; done) | (simp only [ne_eq]; constructor <;> omega)) _).far (by first | (simp; done) | (simp; omega) | (simp [*]; done) | (simp only [ne_eq]; constructor <;> omega)) _)
  replace Br : Blk ((((((w4.setCell ⟨w.heap.size + 1 + 1, 0, none⟩ (uv u.b.v)).setCell ⟨w.heap.size + 1 + 1, 1, none⟩ (uv u.b.m)).setCell ⟨w.heap.size + 1 + 1, 2, none⟩ (uv u.lo)).setCell ⟨w.heap.size + 1 + 1, 3, none⟩ (uv u.hi)).setCell ⟨w.heap.size + 1 + 1, 4, none⟩ (sv u.sl)).setCell ⟨w.heap.size + 1 + 1, 5, none⟩ (sv u.sh)) (w.heap.size + 1 + 1) 43 #[uv u.b.v, uv u.b.m, uv u.lo, uv u.hi, sv u.sl, sv u.sh] := ((((((Br.set_ 0 _).set_ 1 _).set_ 2 _).set_ 3 _).set_ 4 _).set_ 5 _)
  replace Bt : Blk ((((((w4.setCell ⟨w.heap.size + 1 + 1, 0, none⟩ (uv u.b.v)).setCell ⟨w.heap.size + 1 + 1, 1, none⟩ (uv u.b.m)).setCell ⟨w.heap.size + 1 + 1, 2, none⟩ (uv u.lo)).setCell ⟨w.heap.size + 1 + 1, 3, none⟩ (uv u.hi)).setCell ⟨w.heap.size + 1 + 1, 4, none⟩ (sv u.sl)).setCell ⟨w.heap.size + 1 + 1, 5, none⟩ (sv u.sh)) (w.heap.size + 1 + 1 + 1) 43 #[.int .u64 0, .int .u64 0, .int .u64 0, .int .u64 0, .int .i64 0, .int .i64 0] := ((((((Bt.far (by first | (simp; done) | (simp; omega) | (simp [*]; done) | (simp only [ne_eq]; constructor <;> omega)) _).far (by first | (simp; done) | (simp; omega) | (simp [*]; done) | (simp only [ne_eq]; constructor <;> omega)) _).far (by first | (simp; done) | (simp; omega) | (simp [*]; done) | (simp only [ne_eq]; constructor <;> omega)) _).far (by first | (simp; done) | (simp; omega) | (simp [*]; done) | (simp only [ne_eq]; constructor <;> omega)) _).far (by first | (simp; done) | (simp; omega) | (simp [*]; done) | (simp only [ne_eq]; constructor <;> omega)) _).far (by first | (simp; done) | (simp; omega) | (simp [*]; done) | (simp only [ne_eq]; constructor <;> omega)) _)
  replace Bq : Blk ((((((w4.setCell ⟨w.heap.size + 1 + 1, 0, none⟩ (uv u.b.v)).setCell ⟨w.heap.size + 1 + 1, 1, none⟩ (uv u.b.m)).setCell ⟨w.heap.size + 1 + 1, 2, none⟩ (uv u.lo)).setCell ⟨w.heap.size + 1 + 1, 3, none⟩ (uv u.hi)).setCell ⟨w.heap.size + 1 + 1, 4, none⟩ (sv u.sl)).setCell ⟨w.heap.size + 1 + 1, 5, none⟩ (sv u.sh)) (gq) 83 #[uv u.b.v, uv u.b.m, uv u.lo, uv u.hi, sv u.sl, sv u.sh, uv v.b.v, uv v.b.m, uv v.lo, uv v.hi, sv v.sl, sv v.sh] := ((((((Bq.far (by first | (simp; done) | (simp; omega) | (simp [*]; done) | (simp only [ne_eq]; constructor <;> omega)) _).far (by first | (simp; done) | (simp; omega) | (simp [*]; done) | (simp only [ne_eq]; constructor <;> omega)) _).far (by first | (simp; done) | (simp; omega) | (simp [*]; done) | (simp only [ne_eq]; constructor <;> omega)) _).far (by first | (simp; done) | (simp; omega) | (simp [*]; done) | (simp only [ne_eq]; constructor <;> omega)) _).far (by first | (simp; done) | (simp; omega) | (simp [*]; done) | (simp only [ne_eq]; constructor <;> omega)) _).far (by first | (simp; done) | (simp; omega) | (simp [*]; done) | (simp only [ne_eq]; constructor <;> omega)) _)
  replace hB : Below w.heap.size w ((((((w4.setCell ⟨w.heap.size + 1 + 1, 0, none⟩ (uv u.b.v)).setCell ⟨w.heap.size + 1 + 1, 1, none⟩ (uv u.b.m)).setCell ⟨w.heap.size + 1 + 1, 2, none⟩ (uv u.lo)).setCell ⟨w.heap.size + 1 + 1, 3, none⟩ (uv u.hi)).setCell ⟨w.heap.size + 1 + 1, 4, none⟩ (sv u.sl)).setCell ⟨w.heap.size + 1 + 1, 5, none⟩ (sv u.sh)) := (Bl_set (Bl_set (Bl_set (Bl_set (Bl_set (Bl_set hB (by first | omega | (simp; done) | (simp; omega)) _) (by first | omega | (simp; done) | (simp; omega)) _) (by first | omega | (simp; done) | (simp; omega)) _) (by first | omega | (simp; done) | (simp; omega)) _) (by first | omega | (simp; done) | (simp; omega)) _) (by first | omega | (simp; done) | (simp; omega)) _)
  generalize ((((((w4.setCell ⟨w.heap.size + 1 + 1, 0, none⟩ (uv u.b.v)).setCell ⟨w.heap.size + 1 + 1, 1, none⟩ (uv u.b.m)).setCell ⟨w.heap.size + 1 + 1, 2, none⟩ (uv u.lo)).setCell ⟨w.heap.size + 1 + 1, 3, none⟩ (uv u.hi)).setCell ⟨w.heap.size + 1 + 1, 4, none⟩ (sv u.sl)).setCell ⟨w.heap.size + 1 + 1, 5, none⟩ (sv u.sh)) = w5 at *
  obtain ⟨ca0, ca1, ca2, ca3, ca4, ca5⟩ := cells6 Ba
  have fa := Ba.frozen; have la := Ba.lt
  obtain ⟨cb0, cb1, cb2, cb3, cb4, cb5⟩ := cells6 Bb
  have fb := Bb.frozen; have lb := Bb.lt
  obtain ⟨cr0, cr1, cr2, cr3, cr4, cr5⟩ := cells6 Br
  have fr := Br.frozen; have lr := Br.lt
  obtain ⟨ct0, ct1, ct2, ct3, ct4, ct5⟩ := cells6 Bt
  have ft := Bt.frozen; have lt := Bt.lt
  obtain ⟨cq0, cq1, cq2, cq3, cq4, cq5, cq6, cq7, cq8, cq9, cq10, cq11⟩ := cells12 Bq
  have fq := Bq.frozen; have lq := Bq.lt
  go_wp2
  exact bodyPost_ret (v := .tuple #[rv u, rv v, .bool true]) (by simp [results, Tryd.results22, go_sem, cr0, cr1, cr2, cr3, cr4, cr5, ct0, ct1, ct2, ct3, ct4, ct5, lr, lt]) rfl ⟨by rw [hs]; first | done | rfl, by repeat (first | (with_reducible exact hB) | (with_reducible refine Bl_set ?_ (by first | omega | (simp; done) | (simp; omega)) _) | with_reducible apply Bl_alloc)⟩
theorem refineP_10 (a b : Rng) (h : Bool) (w : World) : Calls Tryd.prog 45 #[.int .i64 10, .bool true, pv2 a b, .bool h] w fun e w' => e = .returned (tv (PlainBranch.refineP 10 true (a, b) h)) ∧ Below w.heap.size w w' := by
  have k_Q := psettle_c a b
  have hq : PlainBranch.refineP 10 true (a, b) h = if (PlainBranch.settleP (a, b)).2 = true then PlainBranch.refine2 10 true (PlainBranch.settleP (a, b)).1 h else (PlainBranch.zero, false) := rfl
  generalize PlainBranch.settleP (a, b) = Q at k_Q hq
  obtain ⟨⟨u, v⟩, ok⟩ := Q
  cases ok
  · exact refP_no a b u v 10 true h k_Q (by rw [hq]; simp) w
  · replace hq : PlainBranch.refineP 10 true (a, b) h = PlainBranch.refine2 10 true (u, v) h := by rw [hq]; simp
    unfold PlainBranch.refine2 at hq
    have k_al := aloneP_c u v
    cases al : PlainBranch.aloneP (u, v)
    · rw [al] at k_al hq
      rw [if_neg (by decide)] at hq
      replace hq := hq.trans (if_neg (fun h => absurd h.1 (by decide)))
      cases h
      · exact refP_whe_true_false a b u v 10 (by decide) k_Q k_al 3 (opposite_c 10) _ (whe_3 u v) (by rw [hq]; simp; rfl) w
      · exact refP_whe_true_true a b u v 10 (by decide) k_Q k_al _ (whe_10 u v) (by rw [hq]; simp) w
    · rw [al] at k_al hq
      rw [if_pos rfl] at hq
      have k_H := holds_c 10 true u.lo v.lo
      cases H : PlainBranch.holds 10 true u.lo v.lo
      · have hH : PlainBranch.holds 10 true u.lo v.lo = false := H
        rw [H] at k_H
        cases h
        · exact refP_al_false_false a b u v 10 true k_Q k_al k_H (by rw [hq, hH]; rfl) w
        · exact refP_al_false_true a b u v 10 true k_Q k_al k_H (by rw [hq, hH]; rfl) w
      · have hH : PlainBranch.holds 10 true u.lo v.lo = true := H
        rw [H] at k_H
        cases h
        · exact refP_al_true_false a b u v 10 true k_Q k_al k_H (by rw [hq, hH]; rfl) w
        · exact refP_al_true_true a b u v 10 true k_Q k_al k_H (by rw [hq, hH]; rfl) w
theorem refine_10 (a b : Rng) (h : Bool) (w : World) : Calls Tryd.prog 22 #[.int .i64 10, .bool true, rv a, rv b, .bool h] w fun e w' => e = .returned (t3 (PlainBranch.refine 10 true a b h)) ∧ Below w.heap.size w w' := by
  have k_R := refineP_10 a b h
  have hq : PlainBranch.refine 10 true a b h = if (PlainBranch.refineP 10 true (a, b) h).2 = true then ((PlainBranch.refineP 10 true (a, b) h).1, true) else (PlainBranch.zero, false) := rfl
  generalize PlainBranch.refineP 10 true (a, b) h = Q at k_R hq
  obtain ⟨⟨u, v⟩, ok⟩ := Q
  cases ok
  · exact ref_false 10 true a b h u v k_R (by rw [hq]; simp) w
  · exact ref_true 10 true a b h u v k_R (by rw [hq]; simp) w
end Go.Proofs.YtmghpoagpiljhaaDoor
