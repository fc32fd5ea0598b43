/- The small functions of the laws of layer 14, and of their reference. -/
import Derived.Test.YtmghpoagpiljhacSc
import Derived.Test.YtmghpoagpiljhacSc7
set_option linter.unusedSimpArgs false
namespace Go.Proofs.Ytmghpoagpiljhac
open Go.RowKit
open PlainTnum (N)
open PlainScalar (Rng)
theorem ev1 (w : World) : Calls Try.prog 21 #[.int .i64 3, .bool true, .int .u64 7, .int .u64 0] w fun e w' => e = .returned (.int .u64 0) ∧ Below w.heap.size w w' := by
  have := seval_c 3 true 7#64 0#64 w
  rwa [show PlainScalar.eval 3 true 7#64 0#64 = 0#64 by decide] at this
theorem ev2 (w : World) : Calls Try.prog 21 #[.int .i64 9, .bool true, .int .u64 7, .int .u64 0] w fun e w' => e = .returned (.int .u64 7) ∧ Below w.heap.size w w' := by
  have := seval_c 9 true 7#64 0#64 w
  rwa [show PlainScalar.eval 9 true 7#64 0#64 = 7#64 by decide] at this
theorem ev3 (w : World) : Calls Try.prog 21 #[.int .i64 12, .bool false, .int .u64 2147483648, .int .u64 4] w fun e w' => e = .returned (.int .u64 4160749568) ∧ Below w.heap.size w w' := by
  have := seval_c 12 false 2147483648#64 4#64 w
  rwa [show PlainScalar.eval 12 false 2147483648#64 4#64 = 4160749568#64 by decide] at this
theorem evc (w : World) : Calls Try.prog 13 #[.int .u64 7] w fun e w' => e = .returned (rv (PlainScalar.const 7#64)) ∧ Below w.heap.size w w' := sconst_c 7#64 w
theorem ev4 (w : World) : Calls Try.prog 9 #[rv (PlainScalar.const 7#64), .int .u64 7] w fun e w' => e = .returned (.bool true) ∧ Below w.heap.size w w' := by
  have := shas_c (PlainScalar.const 7#64) 7#64 w
  rwa [show PlainScalar.has (PlainScalar.const 7#64) 7#64 = true from PlainScalar.has_iff.2 (PlainScalar.const_has _)] at this
theorem ev5 (w : World) : Calls Try.prog 9 #[rv PlainScalar.any, .int .u64 9] w fun e w' => e = .returned (.bool true) ∧ Below w.heap.size w w' := by
  have := shas_c PlainScalar.any 9#64 w
  rwa [show PlainScalar.has PlainScalar.any 9#64 = true from PlainScalar.has_iff.2 (PlainScalar.any_has _)] at this
set_option maxHeartbeats 400000 in
theorem evals_c  (w : World) : Calls Try.prog 8 #[] w fun e w' => e = .returned (.bool true) ∧ Below w.heap.size w w' := by
  go_enter Try.func8, Try.ntmps8
  go_wp2_with fail
  refine (ev1 _).mono ?_
  rintro e w1 ⟨rfl, hb1⟩
  obtain ⟨hc1, hf1⟩ := bcell hb1
  have hz1 := hb1.size
  go_wp2_with fail
  refine (ev2 _).mono ?_
  rintro e w2 ⟨rfl, hb2⟩
  obtain ⟨hc2, hf2⟩ := bcell hb2
  have hz2 := hb2.size
  go_wp2_with fail
  refine (ev3 _).mono ?_
  rintro e w3 ⟨rfl, hb3⟩
  obtain ⟨hc3, hf3⟩ := bcell hb3
  have hz3 := hb3.size
  go_wp2_with fail
  refine (evc _).mono ?_
  rintro e w4 ⟨rfl, hb4⟩
  obtain ⟨hc4, hf4⟩ := bcell hb4
  have hz4 := hb4.size
  go_wp2_with fail
  refine (ev4 _).mono ?_
  rintro e w5 ⟨rfl, hb5⟩
  obtain ⟨hc5, hf5⟩ := bcell hb5
  have hz5 := hb5.size
  go_wp2_with fail
  refine (sany_c _).mono ?_
  rintro e w6 ⟨rfl, hb6⟩
  obtain ⟨hc6, hf6⟩ := bcell hb6
  have hz6 := hb6.size
  go_wp2_with fail
  refine (ev5 _).mono ?_
  rintro e w7 ⟨rfl, hb7⟩
  obtain ⟨hc7, hf7⟩ := bcell hb7
  have hz7 := hb7.size
  go_wp2
  go_ret
  exact ⟨by simp [], (by repeat (first | (with_reducible exact Bl_refl _) | with_reducible apply Bl_alloc | with_reducible apply Bl_drew | with_reducible apply Bl_drewN | (with_reducible refine Bl_set ?_ (by first | omega | (simp; done) | (simp; omega)) _) | (with_reducible refine Bl_trans ?_ (by assumption))))⟩
set_option maxHeartbeats 400000 in
theorem to14_c (a : Rng) (w : World) : Calls Try.prog 10 #[rv a] w fun e w' => e = .returned (rv a) ∧ Below w.heap.size w w' := by
  go_enter Try.func10, Try.ntmps10
  go_wp2
  exact bodyPost_ret (v := rv a) (by simp [results, Try.results10, go_sem]) rfl ⟨rfl, (by repeat (first | (with_reducible exact Bl_refl _) | with_reducible apply Bl_alloc | with_reducible apply Bl_drew | with_reducible apply Bl_drewN | (with_reducible refine Bl_set ?_ (by first | omega | (simp; done) | (simp; omega)) _) | (with_reducible refine Bl_trans ?_ (by assumption))))⟩
@[go_sem] theorem u_xorAll (x : W) : bits .xor .u64 (T x) 18446744073709551615 = T (~~~x) := by
  rw [bits_xor, ofInt_T]
  have e : BitVec.ofInt 64 18446744073709551615 = BitVec.allOnes 64 := by decide
  rw [e, BitVec.xor_allOnes]
set_option maxHeartbeats 400000 in
theorem rhas_c (a : N) (x : W) (w : World) : Calls Try.prog 37 #[nv a, uv x] w fun e w' => e = .returned (.bool (PlainTnum.has a x)) ∧ Below w.heap.size w w' := by
  go_enter Try.func37, Try.ntmps37
  go_wp2
  go_ret
  exact ⟨by simp [PlainTnum.has, T_beq], (by repeat (first | (with_reducible exact Bl_refl _) | with_reducible apply Bl_alloc | with_reducible apply Bl_drew | with_reducible apply Bl_drewN | (with_reducible refine Bl_set ?_ (by first | omega | (simp; done) | (simp; omega)) _) | (with_reducible refine Bl_trans ?_ (by assumption))))⟩
set_option maxHeartbeats 800000 in
theorem r14has_c (a : Rng) (x : W) (w : World) : Calls Try.prog 19 #[rv a, uv x] w fun e w' => e = .returned (.bool (PlainScalar.has a x)) ∧ Below w.heap.size w w' := by
  go_enter Try.func19, Try.ntmps19
  go_wp2_with fail
  refine (rhas_c _ _ _).mono ?_
  rintro e w1 ⟨rfl, hb1⟩
  obtain ⟨hc1, hf1⟩ := bcell hb1
  have hz1 := hb1.size
  go_wp2
  all_goals
    go_ret
    refine ⟨?_, (by repeat (first | (with_reducible exact Bl_refl _) | with_reducible apply Bl_alloc | with_reducible apply Bl_drew | with_reducible apply Bl_drewN | (with_reducible refine Bl_set ?_ (by first | omega | (simp; done) | (simp; omega)) _) | (with_reducible refine Bl_trans ?_ (by assumption))))⟩
    simp_all [PlainScalar.has, PlainTnum.has, T_le, T_lt, T_eq, S_le, S_lt] <;> first | rfl | exact decide_eq_decide.2 Iff.rfl | (intros; omega)
theorem shast_c (a : Rng) (x : W) (h : PlainScalar.Has a x) (w : World) : Calls Try.prog 9 #[rv a, uv x] w fun e w' => e = .returned (.bool true) ∧ Below w.heap.size w w' := by
  rw [← PlainScalar.has_iff.2 h]; exact shas_c a x w
theorem new_rng14 {o : Oper} (h : isAlloc o = some 39) (ρ : Operand → Value) (w : World) : (execOp ρ o).run Try.prog w = .ok (.value (.pointer (some ⟨w.heap.size, 0, none⟩))) (w.alloc (.cells #[.int .u64 0, .int .u64 0, .int .u64 0, .int .u64 0, .int .i64 0, .int .i64 0] 39)) := by
  obtain ⟨dst, op, type, pos, after, guard⟩ := o
  have := alloc_is h
  simp only at this
  subst this
  go_simp
theorem rem_is (m : Nat) (h0 : 0 < m) (hm : m < 100) (k : Int) : ∃ n : Nat, n < m ∧ wrap64 ((IntKind.u64.wrap k).tmod m) = (n : Int) := by
  have h1 : 0 ≤ IntKind.u64.wrap k := by rw [wrap_u]; exact T_lo _
  refine ⟨(IntKind.u64.wrap k % m).toNat, ?_, ?_⟩
  · have := Int.emod_lt_of_pos (IntKind.u64.wrap k) (show (0 : Int) < m by omega); have := Int.emod_nonneg (IntKind.u64.wrap k) (show (m : Int) ≠ 0 by omega); omega
  · rw [Int.tmod_eq_emod_of_nonneg h1]
    have := Int.emod_lt_of_pos (IntKind.u64.wrap k) (show (0 : Int) < m by omega); have := Int.emod_nonneg (IntKind.u64.wrap k) (show (m : Int) ≠ 0 by omega)
    rw [IntWalk.wrap64_in _ (by omega)]; omega
end Go.Proofs.Ytmghpoagpiljhac
