/- Eval of package scalar. -/
import Derived.Test.YtmghpoagpiljhabSc4
import Derived.Test.YtmghpoagpiljhabMixL
set_option linter.unusedSimpArgs false
namespace Go.Proofs.Ytmghpoagpiljhab
open Go.RowKit
open PlainTnum (N)
open PlainScalar (Rng)
theorem T_div (x y : W) : T (x / y) = T x / T y := by unfold T; rw [BitVec.toNat_udiv]; exact Int.natCast_ediv _ _
theorem T_mod (x y : W) : T (x % y) = T x % T y := by unfold T; rw [BitVec.toNat_umod]; exact Int.natCast_emod _ _
@[go_sem] theorem u_quo (x y : W) : IntKind.u64.wrap ((T x).tdiv (T y)) = T (x / y) := by
  have e : (T x).tdiv (T y) = T (x / y) := by rw [T_div, Int.tdiv_eq_ediv_of_nonneg (T_lo x)]
  rw [e, wrap_u, ofInt_T]
@[go_sem] theorem u_rem (x y : W) : (T x).tmod (T y) = T (x % y) := by rw [T_mod, Int.tmod_eq_emod_of_nonneg (T_lo x)]
@[go_sem] theorem u_rem' (x y : W) : IntKind.u64.wrap ((T x).tmod (T y)) = T (x % y) := by rw [u_rem, wrap_u, ofInt_T]
theorem T_pos (x : W) : (0 < T x) = (0 < x.toNat) := by unfold T; exact propext Int.natCast_pos
set_option maxHeartbeats 3200000 in
theorem splain_c (op : Int) (x y : W) (w : World) : Calls Try.prog 69 #[.int .i64 op, uv x, uv y] w fun e w' => e = .returned (uv (PlainScalar.plain op x y)) ∧ Below w.heap.size w w' := by
  by_cases h0 : op = 0
  · subst h0
    go_enter Try.func69, Try.ntmps69
    go_wp2
    go_ret
    exact ⟨by rw [show PlainScalar.plain 0 x y = x + y by rfl]; rfl, (by repeat (first | exact Bl_refl _ | apply Bl_alloc | apply Bl_drew | apply Bl_drewN | (refine Bl_set ?_ (by first | omega | (simp; done) | (simp; omega)) _) | (refine Bl_trans ?_ (by assumption))))⟩
  by_cases h1 : op = 1
  · subst h1
    go_enter Try.func69, Try.ntmps69
    go_wp2
    go_ret
    exact ⟨by rw [show PlainScalar.plain 1 x y = x - y by rfl]; rfl, (by repeat (first | exact Bl_refl _ | apply Bl_alloc | apply Bl_drew | apply Bl_drewN | (refine Bl_set ?_ (by first | omega | (simp; done) | (simp; omega)) _) | (refine Bl_trans ?_ (by assumption))))⟩
  by_cases h2 : op = 2
  · subst h2
    go_enter Try.func69, Try.ntmps69
    go_wp2
    go_ret
    exact ⟨by rw [show PlainScalar.plain 2 x y = x * y by rfl]; rfl, (by repeat (first | exact Bl_refl _ | apply Bl_alloc | apply Bl_drew | apply Bl_drewN | (refine Bl_set ?_ (by first | omega | (simp; done) | (simp; omega)) _) | (refine Bl_trans ?_ (by assumption))))⟩
  by_cases h4 : op = 4
  · subst h4
    go_enter Try.func69, Try.ntmps69
    go_wp2
    go_ret
    exact ⟨by rw [show PlainScalar.plain 4 x y = x ||| y by rfl]; rfl, (by repeat (first | exact Bl_refl _ | apply Bl_alloc | apply Bl_drew | apply Bl_drewN | (refine Bl_set ?_ (by first | omega | (simp; done) | (simp; omega)) _) | (refine Bl_trans ?_ (by assumption))))⟩
  by_cases h5 : op = 5
  · subst h5
    go_enter Try.func69, Try.ntmps69
    go_wp2
    go_ret
    exact ⟨by rw [show PlainScalar.plain 5 x y = x &&& y by rfl]; rfl, (by repeat (first | exact Bl_refl _ | apply Bl_alloc | apply Bl_drew | apply Bl_drewN | (refine Bl_set ?_ (by first | omega | (simp; done) | (simp; omega)) _) | (refine Bl_trans ?_ (by assumption))))⟩
  by_cases h8 : op = 8
  · subst h8
    go_enter Try.func69, Try.ntmps69
    go_wp2
    go_ret
    exact ⟨by rw [show PlainScalar.plain 8 x y = -x by rfl]; rfl, (by repeat (first | exact Bl_refl _ | apply Bl_alloc | apply Bl_drew | apply Bl_drewN | (refine Bl_set ?_ (by first | omega | (simp; done) | (simp; omega)) _) | (refine Bl_trans ?_ (by assumption))))⟩
  by_cases h10 : op = 10
  · subst h10
    go_enter Try.func69, Try.ntmps69
    go_wp2
    go_ret
    exact ⟨by rw [show PlainScalar.plain 10 x y = x ^^^ y by rfl]; rfl, (by repeat (first | exact Bl_refl _ | apply Bl_alloc | apply Bl_drew | apply Bl_drewN | (refine Bl_set ?_ (by first | omega | (simp; done) | (simp; omega)) _) | (refine Bl_trans ?_ (by assumption))))⟩
  by_cases h11 : op = 11
  · subst h11
    go_enter Try.func69, Try.ntmps69
    go_wp2
    go_ret
    exact ⟨by rw [show PlainScalar.plain 11 x y = y by rfl]; rfl, (by repeat (first | exact Bl_refl _ | apply Bl_alloc | apply Bl_drew | apply Bl_drewN | (refine Bl_set ?_ (by first | omega | (simp; done) | (simp; omega)) _) | (refine Bl_trans ?_ (by assumption))))⟩
  by_cases hy : y = 0#64
  · have hz : T y = 0 := by rw [hy]; rfl
    by_cases h3 : op = 3
    · subst h3
      go_enter Try.func69, Try.ntmps69
      go_wp2
      go_ret
      exact ⟨by rw [show PlainScalar.plain 3 x y = 0#64 by unfold PlainScalar.plain; simp [hy]]; rfl, (by repeat (first | exact Bl_refl _ | apply Bl_alloc | apply Bl_drew | apply Bl_drewN | (refine Bl_set ?_ (by first | omega | (simp; done) | (simp; omega)) _) | (refine Bl_trans ?_ (by assumption))))⟩
    by_cases h9 : op = 9
    · subst h9
      go_enter Try.func69, Try.ntmps69
      go_wp2
      go_ret
      exact ⟨by rw [show PlainScalar.plain 9 x y = x by unfold PlainScalar.plain; simp [hy]]; rfl, (by repeat (first | exact Bl_refl _ | apply Bl_alloc | apply Bl_drew | apply Bl_drewN | (refine Bl_set ?_ (by first | omega | (simp; done) | (simp; omega)) _) | (refine Bl_trans ?_ (by assumption))))⟩
    have e0 : (op == 0) = false := by simpa using h0
    have e1 : (op == 1) = false := by simpa using h1
    have e2 : (op == 2) = false := by simpa using h2
    have e4 : (op == 4) = false := by simpa using h4
    have e5 : (op == 5) = false := by simpa using h5
    have e8 : (op == 8) = false := by simpa using h8
    have e10 : (op == 10) = false := by simpa using h10
    have e11 : (op == 11) = false := by simpa using h11
    have e3 : (op == 3) = false := by simpa using h3
    have e9 : (op == 9) = false := by simpa using h9
    go_enter Try.func69, Try.ntmps69
    go_wp2
    go_ret
    exact ⟨by rw [show PlainScalar.plain op x y = 0#64 by unfold PlainScalar.plain; simp only [h0, h1, h2, h4, h5, h8, h10, h11, h3, h9, if_false]]; rfl, (by repeat (first | exact Bl_refl _ | apply Bl_alloc | apply Bl_drew | apply Bl_drewN | (refine Bl_set ?_ (by first | omega | (simp; done) | (simp; omega)) _) | (refine Bl_trans ?_ (by assumption))))⟩
  · have hz : ¬ T y = 0 := fun h => hy (T_inj h)
    by_cases h3 : op = 3
    · subst h3
      go_enter Try.func69, Try.ntmps69
      go_wp2
      go_ret
      exact ⟨by rw [show PlainScalar.plain 3 x y = x / y by unfold PlainScalar.plain; simp [hy]]; rfl, (by repeat (first | exact Bl_refl _ | apply Bl_alloc | apply Bl_drew | apply Bl_drewN | (refine Bl_set ?_ (by first | omega | (simp; done) | (simp; omega)) _) | (refine Bl_trans ?_ (by assumption))))⟩
    by_cases h9 : op = 9
    · subst h9
      go_enter Try.func69, Try.ntmps69
      go_wp2
      go_ret
      exact ⟨by rw [show PlainScalar.plain 9 x y = x % y by unfold PlainScalar.plain; simp [hy]]; rfl, (by repeat (first | exact Bl_refl _ | apply Bl_alloc | apply Bl_drew | apply Bl_drewN | (refine Bl_set ?_ (by first | omega | (simp; done) | (simp; omega)) _) | (refine Bl_trans ?_ (by assumption))))⟩
    have e0 : (op == 0) = false := by simpa using h0
    have e1 : (op == 1) = false := by simpa using h1
    have e2 : (op == 2) = false := by simpa using h2
    have e4 : (op == 4) = false := by simpa using h4
    have e5 : (op == 5) = false := by simpa using h5
    have e8 : (op == 8) = false := by simpa using h8
    have e10 : (op == 10) = false := by simpa using h10
    have e11 : (op == 11) = false := by simpa using h11
    have e3 : (op == 3) = false := by simpa using h3
    have e9 : (op == 9) = false := by simpa using h9
    go_enter Try.func69, Try.ntmps69
    go_wp2
    go_ret
    exact ⟨by rw [show PlainScalar.plain op x y = 0#64 by unfold PlainScalar.plain; simp only [h0, h1, h2, h4, h5, h8, h10, h11, h3, h9, if_false]]; rfl, (by repeat (first | exact Bl_refl _ | apply Bl_alloc | apply Bl_drew | apply Bl_drewN | (refine Bl_set ?_ (by first | omega | (simp; done) | (simp; omega)) _) | (refine Bl_trans ?_ (by assumption))))⟩
@[go_sem] theorem S_sar (x : W) (k : Nat) : S x / 2 ^ k = S (x.sshiftRight k) := by
  unfold S; rw [BitVec.toInt_sshiftRight, Int.shiftRight_eq_div_pow]; rfl
@[go_sem] theorem i32_of_u (x : W) : wrap32 (T x) = S ((x.setWidth 32).signExtend 64) := by
  unfold S T
  rw [BitVec.toInt_signExtend_of_le (by decide), BitVec.toInt_eq_toNat_cond, BitVec.toNat_setWidth]
  unfold wrap32
  have := x.isLt
  split <;> omega
theorem u_rem64 (x : W) : (T x).tmod 64 = ((x.toNat % 64 : Nat) : Int) := by rw [Int.tmod_eq_emod_of_nonneg (T_lo x)]; unfold T; omega
theorem u_rem32 (x : W) : (T x).tmod 32 = ((x.toNat % 32 : Nat) : Int) := by rw [Int.tmod_eq_emod_of_nonneg (T_lo x)]; unfold T; omega
set_option maxHeartbeats 3200000 in
theorem sshift_c (op : Int) (l : Bool) (x y : W) (w : World) : Calls Try.prog 68 #[.int .i64 op, .bool l, uv x, uv y] w fun e w' => e = .returned (uv (PlainScalar.shift op l x y)) ∧ Below w.heap.size w w' := by
  cases l
  · have r64 := u_rem64 y
    have r32 := u_rem32 y
    by_cases h6 : op = 6
    · subst h6
      go_enter Try.func68, Try.ntmps68
      go_wp2
      go_ret
      exact ⟨by rw [show PlainScalar.shift 6 false x y = x <<< (y.toNat % 32) by rfl]; rfl, (by repeat (first | exact Bl_refl _ | apply Bl_alloc | apply Bl_drew | apply Bl_drewN | (refine Bl_set ?_ (by first | omega | (simp; done) | (simp; omega)) _) | (refine Bl_trans ?_ (by assumption))))⟩
    by_cases h7 : op = 7
    · subst h7
      go_enter Try.func68, Try.ntmps68
      go_wp2
      go_ret
      exact ⟨by rw [show PlainScalar.shift 7 false x y = x >>> (y.toNat % 32) by rfl]; rfl, (by repeat (first | exact Bl_refl _ | apply Bl_alloc | apply Bl_drew | apply Bl_drewN | (refine Bl_set ?_ (by first | omega | (simp; done) | (simp; omega)) _) | (refine Bl_trans ?_ (by assumption))))⟩
    have e6 : (op == 6) = false := by simpa using h6
    have e7 : (op == 7) = false := by simpa using h7
    have hs : PlainScalar.shift op false x y = PlainScalar.sar32 x (y.toNat % 32) := by unfold PlainScalar.shift; simp only [h6, h7, if_false, if_true, Bool.false_eq_true]; rfl
    go_enter Try.func68, Try.ntmps68
    go_wp2
    go_ret
    exact ⟨by rw [hs]; rfl, (by repeat (first | exact Bl_refl _ | apply Bl_alloc | apply Bl_drew | apply Bl_drewN | (refine Bl_set ?_ (by first | omega | (simp; done) | (simp; omega)) _) | (refine Bl_trans ?_ (by assumption))))⟩
  · have r64 := u_rem64 y
    have r32 := u_rem32 y
    by_cases h6 : op = 6
    · subst h6
      go_enter Try.func68, Try.ntmps68
      go_wp2
      go_ret
      exact ⟨by rw [show PlainScalar.shift 6 true x y = x <<< (y.toNat % 64) by rfl]; rfl, (by repeat (first | exact Bl_refl _ | apply Bl_alloc | apply Bl_drew | apply Bl_drewN | (refine Bl_set ?_ (by first | omega | (simp; done) | (simp; omega)) _) | (refine Bl_trans ?_ (by assumption))))⟩
    by_cases h7 : op = 7
    · subst h7
      go_enter Try.func68, Try.ntmps68
      go_wp2
      go_ret
      exact ⟨by rw [show PlainScalar.shift 7 true x y = x >>> (y.toNat % 64) by rfl]; rfl, (by repeat (first | exact Bl_refl _ | apply Bl_alloc | apply Bl_drew | apply Bl_drewN | (refine Bl_set ?_ (by first | omega | (simp; done) | (simp; omega)) _) | (refine Bl_trans ?_ (by assumption))))⟩
    have e6 : (op == 6) = false := by simpa using h6
    have e7 : (op == 7) = false := by simpa using h7
    have hs : PlainScalar.shift op true x y = x.sshiftRight (y.toNat % 64) := by unfold PlainScalar.shift; simp only [h6, h7, if_false, if_true, Bool.false_eq_true]; rfl
    go_enter Try.func68, Try.ntmps68
    go_wp2
    go_ret
    exact ⟨by rw [hs]; rfl, (by repeat (first | exact Bl_refl _ | apply Bl_alloc | apply Bl_drew | apply Bl_drewN | (refine Bl_set ?_ (by first | omega | (simp; done) | (simp; omega)) _) | (refine Bl_trans ?_ (by assumption))))⟩
@[go_sem] theorem u64_T (x : W) : IntKind.u64.wrap (T x) = T x := by rw [wrap_u, ofInt_T]
@[go_sem] theorem u_of_u32 (x : W) : IntKind.u32.wrap (T x) = T (PlainScalar.low4 x) := by
  unfold T; rw [PlainScalar.low4_nat]; unfold IntKind.wrap; simp [IntKind.signed, IntKind.bits]
set_option maxHeartbeats 3200000 in
theorem seval_c (op : Int) (l : Bool) (x y : W) (w : World) : Calls Try.prog 50 #[.int .i64 op, .bool l, uv x, uv y] w fun e w' => e = .returned (uv (PlainScalar.eval op l x y)) ∧ Below w.heap.size w w' := by
  cases l
  · by_cases h6 : op = 6
    · subst h6
      have hs : PlainScalar.core 6 false (PlainScalar.low4 x) (PlainScalar.low4 y) = PlainScalar.shift 6 false (PlainScalar.low4 x) (PlainScalar.low4 y) := by unfold PlainScalar.core; rw [if_pos (by omega)]
      go_enter Try.func50, Try.ntmps50
      go_wp2_with fail
      with_reducible refine (sshift_c 6 false (PlainScalar.low4 x) (PlainScalar.low4 y) _).mono ?_
      rintro e w1 ⟨rfl, hb1⟩
      go_wp2
      go_ret
      exact ⟨by rw [show PlainScalar.eval 6 false x y = PlainScalar.low4 (PlainScalar.shift 6 false (PlainScalar.low4 x) (PlainScalar.low4 y)) by unfold PlainScalar.eval; simp only [if_true, Bool.false_eq_true, if_false, hs]]; rfl, (by repeat (first | exact Bl_refl _ | apply Bl_alloc | apply Bl_drew | apply Bl_drewN | (refine Bl_set ?_ (by first | omega | (simp; done) | (simp; omega)) _) | (refine Bl_trans ?_ (by assumption))))⟩
    by_cases h7 : op = 7
    · subst h7
      have hs : PlainScalar.core 7 false (PlainScalar.low4 x) (PlainScalar.low4 y) = PlainScalar.shift 7 false (PlainScalar.low4 x) (PlainScalar.low4 y) := by unfold PlainScalar.core; rw [if_pos (by omega)]
      go_enter Try.func50, Try.ntmps50
      go_wp2_with fail
      with_reducible refine (sshift_c 7 false (PlainScalar.low4 x) (PlainScalar.low4 y) _).mono ?_
      rintro e w1 ⟨rfl, hb1⟩
      go_wp2
      go_ret
      exact ⟨by rw [show PlainScalar.eval 7 false x y = PlainScalar.low4 (PlainScalar.shift 7 false (PlainScalar.low4 x) (PlainScalar.low4 y)) by unfold PlainScalar.eval; simp only [if_true, Bool.false_eq_true, if_false, hs]]; rfl, (by repeat (first | exact Bl_refl _ | apply Bl_alloc | apply Bl_drew | apply Bl_drewN | (refine Bl_set ?_ (by first | omega | (simp; done) | (simp; omega)) _) | (refine Bl_trans ?_ (by assumption))))⟩
    by_cases h12 : op = 12
    · subst h12
      have hs : PlainScalar.core 12 false (PlainScalar.low4 x) (PlainScalar.low4 y) = PlainScalar.shift 12 false (PlainScalar.low4 x) (PlainScalar.low4 y) := by unfold PlainScalar.core; rw [if_pos (by omega)]
      go_enter Try.func50, Try.ntmps50
      go_wp2_with fail
      with_reducible refine (sshift_c 12 false (PlainScalar.low4 x) (PlainScalar.low4 y) _).mono ?_
      rintro e w1 ⟨rfl, hb1⟩
      go_wp2
      go_ret
      exact ⟨by rw [show PlainScalar.eval 12 false x y = PlainScalar.low4 (PlainScalar.shift 12 false (PlainScalar.low4 x) (PlainScalar.low4 y)) by unfold PlainScalar.eval; simp only [if_true, Bool.false_eq_true, if_false, hs]]; rfl, (by repeat (first | exact Bl_refl _ | apply Bl_alloc | apply Bl_drew | apply Bl_drewN | (refine Bl_set ?_ (by first | omega | (simp; done) | (simp; omega)) _) | (refine Bl_trans ?_ (by assumption))))⟩
    have e6 : (op == 6) = false := by simpa using h6
    have e7 : (op == 7) = false := by simpa using h7
    have e12 : (op == 12) = false := by simpa using h12
    have hs : PlainScalar.core op false (PlainScalar.low4 x) (PlainScalar.low4 y) = PlainScalar.plain op (PlainScalar.low4 x) (PlainScalar.low4 y) := by unfold PlainScalar.core; rw [if_neg (by omega)]
    go_enter Try.func50, Try.ntmps50
    go_wp2_with fail
    with_reducible refine (splain_c op (PlainScalar.low4 x) (PlainScalar.low4 y) _).mono ?_
    rintro e w1 ⟨rfl, hb1⟩
    go_wp2
    go_ret
    exact ⟨by rw [show PlainScalar.eval op false x y = PlainScalar.low4 (PlainScalar.plain op (PlainScalar.low4 x) (PlainScalar.low4 y)) by unfold PlainScalar.eval; simp only [if_true, Bool.false_eq_true, if_false, hs]]; rfl, (by repeat (first | exact Bl_refl _ | apply Bl_alloc | apply Bl_drew | apply Bl_drewN | (refine Bl_set ?_ (by first | omega | (simp; done) | (simp; omega)) _) | (refine Bl_trans ?_ (by assumption))))⟩
  · by_cases h6 : op = 6
    · subst h6
      have hs : PlainScalar.core 6 true x y = PlainScalar.shift 6 true x y := by unfold PlainScalar.core; rw [if_pos (by omega)]
      go_enter Try.func50, Try.ntmps50
      go_wp2_with fail
      with_reducible refine (sshift_c 6 true x y _).mono ?_
      rintro e w1 ⟨rfl, hb1⟩
      go_wp2
      go_ret
      exact ⟨by rw [show PlainScalar.eval 6 true x y = PlainScalar.shift 6 true x y by unfold PlainScalar.eval; simp only [if_true, Bool.false_eq_true, if_false, hs]]; rfl, (by repeat (first | exact Bl_refl _ | apply Bl_alloc | apply Bl_drew | apply Bl_drewN | (refine Bl_set ?_ (by first | omega | (simp; done) | (simp; omega)) _) | (refine Bl_trans ?_ (by assumption))))⟩
    by_cases h7 : op = 7
    · subst h7
      have hs : PlainScalar.core 7 true x y = PlainScalar.shift 7 true x y := by unfold PlainScalar.core; rw [if_pos (by omega)]
      go_enter Try.func50, Try.ntmps50
      go_wp2_with fail
      with_reducible refine (sshift_c 7 true x y _).mono ?_
      rintro e w1 ⟨rfl, hb1⟩
      go_wp2
      go_ret
      exact ⟨by rw [show PlainScalar.eval 7 true x y = PlainScalar.shift 7 true x y by unfold PlainScalar.eval; simp only [if_true, Bool.false_eq_true, if_false, hs]]; rfl, (by repeat (first | exact Bl_refl _ | apply Bl_alloc | apply Bl_drew | apply Bl_drewN | (refine Bl_set ?_ (by first | omega | (simp; done) | (simp; omega)) _) | (refine Bl_trans ?_ (by assumption))))⟩
    by_cases h12 : op = 12
    · subst h12
      have hs : PlainScalar.core 12 true x y = PlainScalar.shift 12 true x y := by unfold PlainScalar.core; rw [if_pos (by omega)]
      go_enter Try.func50, Try.ntmps50
      go_wp2_with fail
      with_reducible refine (sshift_c 12 true x y _).mono ?_
      rintro e w1 ⟨rfl, hb1⟩
      go_wp2
      go_ret
      exact ⟨by rw [show PlainScalar.eval 12 true x y = PlainScalar.shift 12 true x y by unfold PlainScalar.eval; simp only [if_true, Bool.false_eq_true, if_false, hs]]; rfl, (by repeat (first | exact Bl_refl _ | apply Bl_alloc | apply Bl_drew | apply Bl_drewN | (refine Bl_set ?_ (by first | omega | (simp; done) | (simp; omega)) _) | (refine Bl_trans ?_ (by assumption))))⟩
    have e6 : (op == 6) = false := by simpa using h6
    have e7 : (op == 7) = false := by simpa using h7
    have e12 : (op == 12) = false := by simpa using h12
    have hs : PlainScalar.core op true x y = PlainScalar.plain op x y := by unfold PlainScalar.core; rw [if_neg (by omega)]
    go_enter Try.func50, Try.ntmps50
    go_wp2_with fail
    with_reducible refine (splain_c op x y _).mono ?_
    rintro e w1 ⟨rfl, hb1⟩
    go_wp2
    go_ret
    exact ⟨by rw [show PlainScalar.eval op true x y = PlainScalar.plain op x y by unfold PlainScalar.eval; simp only [if_true, Bool.false_eq_true, if_false, hs]]; rfl, (by repeat (first | exact Bl_refl _ | apply Bl_alloc | apply Bl_drew | apply Bl_drewN | (refine Bl_set ?_ (by first | omega | (simp; done) | (simp; omega)) _) | (refine Bl_trans ?_ (by assumption))))⟩
theorem ev1 (w : World) : Calls Try.prog 50 #[.int .i64 3, .bool true, .int .u64 7, .int .u64 0] w fun e w' => e = .returned (.int .u64 0) ∧ Below w.heap.size w w' := by
  have := seval_c 3 true 7#64 0#64 w
  rwa [show PlainScalar.eval 3 true 7#64 0#64 = 0#64 by decide] at this
theorem ev2 (w : World) : Calls Try.prog 50 #[.int .i64 9, .bool true, .int .u64 7, .int .u64 0] w fun e w' => e = .returned (.int .u64 7) ∧ Below w.heap.size w w' := by
  have := seval_c 9 true 7#64 0#64 w
  rwa [show PlainScalar.eval 9 true 7#64 0#64 = 7#64 by decide] at this
theorem ev3 (w : World) : Calls Try.prog 50 #[.int .i64 12, .bool false, .int .u64 2147483648, .int .u64 4] w fun e w' => e = .returned (.int .u64 4160749568) ∧ Below w.heap.size w w' := by
  have := seval_c 12 false 2147483648#64 4#64 w
  rwa [show PlainScalar.eval 12 false 2147483648#64 4#64 = 4160749568#64 by decide] at this
theorem evc (w : World) : Calls Try.prog 34 #[.int .u64 7] w fun e w' => e = .returned (rv (PlainScalar.const 7#64)) ∧ Below w.heap.size w w' := sconst_c 7#64 w
theorem ev4 (w : World) : Calls Try.prog 26 #[rv (PlainScalar.const 7#64), .int .u64 7] w fun e w' => e = .returned (.bool true) ∧ Below w.heap.size w w' := by
  have := shas_c (PlainScalar.const 7#64) 7#64 w
  rwa [show PlainScalar.has (PlainScalar.const 7#64) 7#64 = true from PlainScalar.has_iff.2 (PlainScalar.const_has _)] at this
theorem ev5 (w : World) : Calls Try.prog 26 #[rv PlainScalar.any, .int .u64 9] w fun e w' => e = .returned (.bool true) ∧ Below w.heap.size w w' := by
  have := shas_c PlainScalar.any 9#64 w
  rwa [show PlainScalar.has PlainScalar.any 9#64 = true from PlainScalar.has_iff.2 (PlainScalar.any_has _)] at this
set_option maxHeartbeats 400000 in
theorem evals_c  (w : World) : Calls Try.prog 25 #[] w fun e w' => e = .returned (.bool true) ∧ Below w.heap.size w w' := by
  go_enter Try.func25, Try.ntmps25
  go_wp2_with fail
  refine (ev1 _).mono ?_
  rintro e w1 ⟨rfl, hb1⟩
  obtain ⟨hc1, hf1⟩ := bcell hb1
  have hz1 := hb1.size
  go_wp2_with fail
  refine (ev2 _).mono ?_
  rintro e w2 ⟨rfl, hb2⟩
  obtain ⟨hc2, hf2⟩ := bcell hb2
  have hz2 := hb2.size
  go_wp2_with fail
  refine (ev3 _).mono ?_
  rintro e w3 ⟨rfl, hb3⟩
  obtain ⟨hc3, hf3⟩ := bcell hb3
  have hz3 := hb3.size
  go_wp2_with fail
  refine (evc _).mono ?_
  rintro e w4 ⟨rfl, hb4⟩
  obtain ⟨hc4, hf4⟩ := bcell hb4
  have hz4 := hb4.size
  go_wp2_with fail
  refine (ev4 _).mono ?_
  rintro e w5 ⟨rfl, hb5⟩
  obtain ⟨hc5, hf5⟩ := bcell hb5
  have hz5 := hb5.size
  go_wp2_with fail
  refine (sany_c _).mono ?_
  rintro e w6 ⟨rfl, hb6⟩
  obtain ⟨hc6, hf6⟩ := bcell hb6
  have hz6 := hb6.size
  go_wp2_with fail
  refine (ev5 _).mono ?_
  rintro e w7 ⟨rfl, hb7⟩
  obtain ⟨hc7, hf7⟩ := bcell hb7
  have hz7 := hb7.size
  go_wp2
  go_ret
  exact ⟨by simp [], (by repeat (first | (with_reducible exact Bl_refl _) | with_reducible apply Bl_alloc | with_reducible apply Bl_drew | with_reducible apply Bl_drewN | (with_reducible refine Bl_set ?_ (by first | omega | (simp; done) | (simp; omega)) _) | (with_reducible refine Bl_trans ?_ (by assumption))))⟩
theorem rem_is (m : Nat) (h0 : 0 < m) (hm : m < 100) (k : Int) : ∃ n : Nat, n < m ∧ wrap64 ((IntKind.u64.wrap k).tmod m) = (n : Int) := by
  have h1 : 0 ≤ IntKind.u64.wrap k := by rw [wrap_u]; exact T_lo _
  refine ⟨(IntKind.u64.wrap k % m).toNat, ?_, ?_⟩
  · have := Int.emod_lt_of_pos (IntKind.u64.wrap k) (show (0 : Int) < m by omega); have := Int.emod_nonneg (IntKind.u64.wrap k) (show (m : Int) ≠ 0 by omega); omega
  · rw [Int.tmod_eq_emod_of_nonneg h1]
    have := Int.emod_lt_of_pos (IntKind.u64.wrap k) (show (0 : Int) < m by omega); have := Int.emod_nonneg (IntKind.u64.wrap k) (show (m : Int) ≠ 0 by omega)
    rw [IntWalk.wrap64_in _ (by omega)]; omega
end Go.Proofs.Ytmghpoagpiljhab
