/- The walks of package scalar: what each call answers; nothing that was there is written. -/
import Derived.Test.YtmghpoagpiljhaaTw
import Derived.Test.YtmghpoagpiljhaaMix
import Derived.Test.YtmghpoagpiljhaaSigned
import Derived.Test.YtmghpoagpiljhaaLib
set_option linter.unusedSimpArgs false
namespace Go.Proofs.Ytmghpoagpiljhaa
open Go.RowKit
open PlainTnum (N)
open PlainScalar (Rng)

/-- A range as a value. -/
abbrev rv (a : Rng) : Value := .agg #[uv a.b.v, uv a.b.m, uv a.lo, uv a.hi, sv a.sl, sv a.sh]
set_option maxHeartbeats 400000 in
theorem sconst_c (x : W) (w : World) : Calls Try.prog 57 #[uv x] w fun e w' => e = .returned (rv (PlainScalar.const x)) ∧ Below w.heap.size w w' := by
  go_enter Try.func57, Try.ntmps57
  go_wp2_with fail
  refine (const_c _ _).mono ?_
  rintro e w1 ⟨rfl, hb1⟩
  obtain ⟨hc1, hf1⟩ := bcell hb1
  have hz1 := hb1.size
  go_wp2
  exact bodyPost_ret (v := rv (PlainScalar.const x)) (by simp [results, Try.results57, go_sem, hc1, PlainScalar.const]) rfl ⟨rfl, (by repeat (first | (with_reducible exact Bl_refl _) | with_reducible apply Bl_alloc | with_reducible apply Bl_drew | with_reducible apply Bl_drewN | (with_reducible refine Bl_set ?_ (by first | omega | (simp; done) | (simp; omega)) _) | (with_reducible refine Bl_trans ?_ (by assumption))))⟩
set_option maxHeartbeats 400000 in
theorem sany_c  (w : World) : Calls Try.prog 58 #[] w fun e w' => e = .returned (rv PlainScalar.any) ∧ Below w.heap.size w w' := by
  go_enter Try.func58, Try.ntmps58
  go_wp2_with fail
  refine (any_c _).mono ?_
  rintro e w1 ⟨rfl, hb1⟩
  obtain ⟨hc1, hf1⟩ := bcell hb1
  have hz1 := hb1.size
  go_wp2
  exact bodyPost_ret (v := rv PlainScalar.any) (by simp [results, Try.results58, go_sem, hc1, PlainScalar.any, PlainScalar.minI, PlainScalar.maxI, T, S]) rfl ⟨rfl, (by repeat (first | (with_reducible exact Bl_refl _) | with_reducible apply Bl_alloc | with_reducible apply Bl_drew | with_reducible apply Bl_drewN | (with_reducible refine Bl_set ?_ (by first | omega | (simp; done) | (simp; omega)) _) | (with_reducible refine Bl_trans ?_ (by assumption))))⟩
set_option maxHeartbeats 800000 in
theorem shas_c (a : Rng) (x : W) (w : World) : Calls Try.prog 56 #[rv a, uv x] w fun e w' => e = .returned (.bool (PlainScalar.has a x)) ∧ Below w.heap.size w w' := by
  go_enter Try.func56, Try.ntmps56
  go_wp2
  all_goals
    go_ret
    refine ⟨?_, (by repeat (first | (with_reducible exact Bl_refl _) | with_reducible apply Bl_alloc | with_reducible apply Bl_drew | with_reducible apply Bl_drewN | (with_reducible refine Bl_set ?_ (by first | omega | (simp; done) | (simp; omega)) _) | (with_reducible refine Bl_trans ?_ (by assumption))))⟩
    simp_all [PlainScalar.has, PlainTnum.has, T_le, T_lt, T_eq, S_le, S_lt] <;> first | rfl | exact decide_eq_decide.2 Iff.rfl | (intros; omega)
end Go.Proofs.Ytmghpoagpiljhaa
