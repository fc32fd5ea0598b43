/- The walks of package scalar, seventh part: Eval. -/
import Derived.Test.YtmghpoagpiljhacSc6
set_option linter.unusedSimpArgs false
namespace Go.Proofs.Ytmghpoagpiljhac
open Go.RowKit
open PlainTnum (N)
open PlainScalar (Rng)
@[go_sem] theorem u64_T (x : W) : IntKind.u64.wrap (T x) = T x := by rw [wrap_u, ofInt_T]
@[go_sem] theorem u_of_u32 (x : W) : IntKind.u32.wrap (T x) = T (PlainScalar.low4 x) := by
  unfold T; rw [PlainScalar.low4_nat]; unfold IntKind.wrap; simp [IntKind.signed, IntKind.bits]
set_option maxHeartbeats 3200000 in
theorem seval_c (op : Int) (l : Bool) (x y : W) (w : World) : Calls Try.prog 21 #[.int .i64 op, .bool l, uv x, uv y] w fun e w' => e = .returned (uv (PlainScalar.eval op l x y)) ∧ Below w.heap.size w w' := by
  cases l
  · by_cases h6 : op = 6
    · subst h6
      have hs : PlainScalar.core 6 false (PlainScalar.low4 x) (PlainScalar.low4 y) = PlainScalar.shift 6 false (PlainScalar.low4 x) (PlainScalar.low4 y) := by unfold PlainScalar.core; rw [if_pos (by omega)]
      go_enter Try.func21, Try.ntmps21
      go_wp2_with fail
      with_reducible refine (sshift_c 6 false (PlainScalar.low4 x) (PlainScalar.low4 y) _).mono ?_
      rintro e w1 ⟨rfl, hb1⟩
      go_wp2
      go_ret
      exact ⟨by rw [show PlainScalar.eval 6 false x y = PlainScalar.low4 (PlainScalar.shift 6 false (PlainScalar.low4 x) (PlainScalar.low4 y)) by unfold PlainScalar.eval; simp only [if_true, Bool.false_eq_true, if_false, hs]]; rfl, (by repeat (first | exact Bl_refl _ | apply Bl_alloc | apply Bl_drew | apply Bl_drewN | (refine Bl_set ?_ (by first | omega | (simp; done) | (simp; omega)) _) | (refine Bl_trans ?_ (by assumption))))⟩
    by_cases h7 : op = 7
    · subst h7
      have hs : PlainScalar.core 7 false (PlainScalar.low4 x) (PlainScalar.low4 y) = PlainScalar.shift 7 false (PlainScalar.low4 x) (PlainScalar.low4 y) := by unfold PlainScalar.core; rw [if_pos (by omega)]
      go_enter Try.func21, Try.ntmps21
      go_wp2_with fail
      with_reducible refine (sshift_c 7 false (PlainScalar.low4 x) (PlainScalar.low4 y) _).mono ?_
      rintro e w1 ⟨rfl, hb1⟩
      go_wp2
      go_ret
      exact ⟨by rw [show PlainScalar.eval 7 false x y = PlainScalar.low4 (PlainScalar.shift 7 false (PlainScalar.low4 x) (PlainScalar.low4 y)) by unfold PlainScalar.eval; simp only [if_true, Bool.false_eq_true, if_false, hs]]; rfl, (by repeat (first | exact Bl_refl _ | apply Bl_alloc | apply Bl_drew | apply Bl_drewN | (refine Bl_set ?_ (by first | omega | (simp; done) | (simp; omega)) _) | (refine Bl_trans ?_ (by assumption))))⟩
    by_cases h12 : op = 12
    · subst h12
      have hs : PlainScalar.core 12 false (PlainScalar.low4 x) (PlainScalar.low4 y) = PlainScalar.shift 12 false (PlainScalar.low4 x) (PlainScalar.low4 y) := by unfold PlainScalar.core; rw [if_pos (by omega)]
      go_enter Try.func21, Try.ntmps21
      go_wp2_with fail
      with_reducible refine (sshift_c 12 false (PlainScalar.low4 x) (PlainScalar.low4 y) _).mono ?_
      rintro e w1 ⟨rfl, hb1⟩
      go_wp2
      go_ret
      exact ⟨by rw [show PlainScalar.eval 12 false x y = PlainScalar.low4 (PlainScalar.shift 12 false (PlainScalar.low4 x) (PlainScalar.low4 y)) by unfold PlainScalar.eval; simp only [if_true, Bool.false_eq_true, if_false, hs]]; rfl, (by repeat (first | exact Bl_refl _ | apply Bl_alloc | apply Bl_drew | apply Bl_drewN | (refine Bl_set ?_ (by first | omega | (simp; done) | (simp; omega)) _) | (refine Bl_trans ?_ (by assumption))))⟩
    have e6 : (op == 6) = false := by simpa using h6
    have e7 : (op == 7) = false := by simpa using h7
    have e12 : (op == 12) = false := by simpa using h12
    have hs : PlainScalar.core op false (PlainScalar.low4 x) (PlainScalar.low4 y) = PlainScalar.plain op (PlainScalar.low4 x) (PlainScalar.low4 y) := by unfold PlainScalar.core; rw [if_neg (by omega)]
    go_enter Try.func21, Try.ntmps21
    go_wp2_with fail
    with_reducible refine (splain_c op (PlainScalar.low4 x) (PlainScalar.low4 y) _).mono ?_
    rintro e w1 ⟨rfl, hb1⟩
    go_wp2
    go_ret
    exact ⟨by rw [show PlainScalar.eval op false x y = PlainScalar.low4 (PlainScalar.plain op (PlainScalar.low4 x) (PlainScalar.low4 y)) by unfold PlainScalar.eval; simp only [if_true, Bool.false_eq_true, if_false, hs]]; rfl, (by repeat (first | exact Bl_refl _ | apply Bl_alloc | apply Bl_drew | apply Bl_drewN | (refine Bl_set ?_ (by first | omega | (simp; done) | (simp; omega)) _) | (refine Bl_trans ?_ (by assumption))))⟩
  · by_cases h6 : op = 6
    · subst h6
      have hs : PlainScalar.core 6 true x y = PlainScalar.shift 6 true x y := by unfold PlainScalar.core; rw [if_pos (by omega)]
      go_enter Try.func21, Try.ntmps21
      go_wp2_with fail
      with_reducible refine (sshift_c 6 true x y _).mono ?_
      rintro e w1 ⟨rfl, hb1⟩
      go_wp2
      go_ret
      exact ⟨by rw [show PlainScalar.eval 6 true x y = PlainScalar.shift 6 true x y by unfold PlainScalar.eval; simp only [if_true, Bool.false_eq_true, if_false, hs]]; rfl, (by repeat (first | exact Bl_refl _ | apply Bl_alloc | apply Bl_drew | apply Bl_drewN | (refine Bl_set ?_ (by first | omega | (simp; done) | (simp; omega)) _) | (refine Bl_trans ?_ (by assumption))))⟩
    by_cases h7 : op = 7
    · subst h7
      have hs : PlainScalar.core 7 true x y = PlainScalar.shift 7 true x y := by unfold PlainScalar.core; rw [if_pos (by omega)]
      go_enter Try.func21, Try.ntmps21
      go_wp2_with fail
      with_reducible refine (sshift_c 7 true x y _).mono ?_
      rintro e w1 ⟨rfl, hb1⟩
      go_wp2
      go_ret
      exact ⟨by rw [show PlainScalar.eval 7 true x y = PlainScalar.shift 7 true x y by unfold PlainScalar.eval; simp only [if_true, Bool.false_eq_true, if_false, hs]]; rfl, (by repeat (first | exact Bl_refl _ | apply Bl_alloc | apply Bl_drew | apply Bl_drewN | (refine Bl_set ?_ (by first | omega | (simp; done) | (simp; omega)) _) | (refine Bl_trans ?_ (by assumption))))⟩
    by_cases h12 : op = 12
    · subst h12
      have hs : PlainScalar.core 12 true x y = PlainScalar.shift 12 true x y := by unfold PlainScalar.core; rw [if_pos (by omega)]
      go_enter Try.func21, Try.ntmps21
      go_wp2_with fail
      with_reducible refine (sshift_c 12 true x y _).mono ?_
      rintro e w1 ⟨rfl, hb1⟩
      go_wp2
      go_ret
      exact ⟨by rw [show PlainScalar.eval 12 true x y = PlainScalar.shift 12 true x y by unfold PlainScalar.eval; simp only [if_true, Bool.false_eq_true, if_false, hs]]; rfl, (by repeat (first | exact Bl_refl _ | apply Bl_alloc | apply Bl_drew | apply Bl_drewN | (refine Bl_set ?_ (by first | omega | (simp; done) | (simp; omega)) _) | (refine Bl_trans ?_ (by assumption))))⟩
    have e6 : (op == 6) = false := by simpa using h6
    have e7 : (op == 7) = false := by simpa using h7
    have e12 : (op == 12) = false := by simpa using h12
    have hs : PlainScalar.core op true x y = PlainScalar.plain op x y := by unfold PlainScalar.core; rw [if_neg (by omega)]
    go_enter Try.func21, Try.ntmps21
    go_wp2_with fail
    with_reducible refine (splain_c op x y _).mono ?_
    rintro e w1 ⟨rfl, hb1⟩
    go_wp2
    go_ret
    exact ⟨by rw [show PlainScalar.eval op true x y = PlainScalar.plain op x y by unfold PlainScalar.eval; simp only [if_true, Bool.false_eq_true, if_false, hs]]; rfl, (by repeat (first | exact Bl_refl _ | apply Bl_alloc | apply Bl_drew | apply Bl_drewN | (refine Bl_set ?_ (by first | omega | (simp; done) | (simp; omega)) _) | (refine Bl_trans ?_ (by assumption))))⟩
end Go.Proofs.Ytmghpoagpiljhac
