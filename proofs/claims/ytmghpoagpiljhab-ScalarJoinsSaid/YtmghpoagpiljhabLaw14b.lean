/- The small functions of the laws of layer 14, and of their reference. -/
import Derived.Test.YtmghpoagpiljhabEvB
set_option linter.unusedSimpArgs false
namespace Go.Proofs.Ytmghpoagpiljhab
open Go.RowKit
open PlainTnum (N)
open PlainScalar (Rng)
set_option maxHeartbeats 400000 in
theorem to14_c (a : Rng) (w : World) : Calls Try.prog 23 #[rv a] w fun e w' => e = .returned (rv a) ∧ Below w.heap.size w w' := by
  go_enter Try.func23, Try.ntmps23
  go_wp2
  exact bodyPost_ret (v := rv a) (by simp [results, Try.results23, go_sem]) rfl ⟨rfl, (by repeat (first | (with_reducible exact Bl_refl _) | with_reducible apply Bl_alloc | with_reducible apply Bl_drew | with_reducible apply Bl_drewN | (with_reducible refine Bl_set ?_ (by first | omega | (simp; done) | (simp; omega)) _) | (with_reducible refine Bl_trans ?_ (by assumption))))⟩
@[go_sem] theorem u_xorAll (x : W) : bits .xor .u64 (T x) 18446744073709551615 = T (~~~x) := by
  rw [bits_xor, ofInt_T]
  have e : BitVec.ofInt 64 18446744073709551615 = BitVec.allOnes 64 := by decide
  rw [e, BitVec.xor_allOnes]
set_option maxHeartbeats 400000 in
theorem rhas_c (a : N) (x : W) (w : World) : Calls Try.prog 64 #[nv a, uv x] w fun e w' => e = .returned (.bool (PlainTnum.has a x)) ∧ Below w.heap.size w w' := by
  go_enter Try.func64, Try.ntmps64
  go_wp2
  go_ret
  exact ⟨by simp [PlainTnum.has, T_beq], (by repeat (first | (with_reducible exact Bl_refl _) | with_reducible apply Bl_alloc | with_reducible apply Bl_drew | with_reducible apply Bl_drewN | (with_reducible refine Bl_set ?_ (by first | omega | (simp; done) | (simp; omega)) _) | (with_reducible refine Bl_trans ?_ (by assumption))))⟩
set_option maxHeartbeats 800000 in
theorem r14has_c (a : Rng) (x : W) (w : World) : Calls Try.prog 41 #[rv a, uv x] w fun e w' => e = .returned (.bool (PlainScalar.has a x)) ∧ Below w.heap.size w w' := by
  go_enter Try.func41, Try.ntmps41
  go_wp2_with fail
  refine (rhas_c _ _ _).mono ?_
  rintro e w1 ⟨rfl, hb1⟩
  obtain ⟨hc1, hf1⟩ := bcell hb1
  have hz1 := hb1.size
  go_wp2
  all_goals
    go_ret
    refine ⟨?_, (by repeat (first | (with_reducible exact Bl_refl _) | with_reducible apply Bl_alloc | with_reducible apply Bl_drew | with_reducible apply Bl_drewN | (with_reducible refine Bl_set ?_ (by first | omega | (simp; done) | (simp; omega)) _) | (with_reducible refine Bl_trans ?_ (by assumption))))⟩
    simp_all [PlainScalar.has, PlainTnum.has, T_le, T_lt, T_eq, S_le, S_lt] <;> first | rfl | exact decide_eq_decide.2 Iff.rfl | (intros; omega)
theorem shast_c (a : Rng) (x : W) (h : PlainScalar.Has a x) (w : World) : Calls Try.prog 26 #[rv a, uv x] w fun e w' => e = .returned (.bool true) ∧ Below w.heap.size w w' := by
  rw [← PlainScalar.has_iff.2 h]; exact shas_c a x w
theorem new_rng14 {o : Oper} (h : isAlloc o = some 27) (ρ : Operand → Value) (w : World) : (execOp ρ o).run Try.prog w = .ok (.value (.pointer (some ⟨w.heap.size, 0, none⟩))) (w.alloc (.cells #[.int .u64 0, .int .u64 0, .int .u64 0, .int .u64 0, .int .i64 0, .int .i64 0] 27)) := by
  obtain ⟨dst, op, type, pos, after, guard⟩ := o
  have := alloc_is h
  simp only at this
  subst this
  go_simp
end Go.Proofs.Ytmghpoagpiljhab
