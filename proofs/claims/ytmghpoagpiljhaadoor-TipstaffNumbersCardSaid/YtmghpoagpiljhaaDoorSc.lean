/- The walks of package scalar: what each call answers; nothing that was there is written. -/
import Derived.Test.YtmghpoagpiljhaaDoorTw
import Derived.Test.YtmghpoagpiljhaaDoorMix
import Derived.Test.YtmghpoagpiljhaaDoorSigned
import Derived.Test.YtmghpoagpiljhaaDoorLib
set_option linter.unusedSimpArgs false
namespace Go.Proofs.YtmghpoagpiljhaaDoor
open Go.RowKit
open PlainTnum (N)
open PlainScalar (Rng)

/-- A range as a value. -/
abbrev rv (a : Rng) : Value := .agg #[uv a.b.v, uv a.b.m, uv a.lo, uv a.hi, sv a.sl, sv a.sh]
set_option maxHeartbeats 400000 in
theorem sconst_c (x : W) (w : World) : Calls Tryd.prog 19 #[uv x] w fun e w' => e = .returned (rv (PlainScalar.const x)) ∧ Below w.heap.size w w' := by
  go_enter Tryd.func19, Tryd.ntmps19
  go_wp2_with fail
  refine (const_c _ _).mono ?_
  rintro e w1 ⟨rfl, hb1⟩
  obtain ⟨hc1, hf1⟩ := bcell hb1
  have hz1 := hb1.size
  go_wp2
  exact bodyPost_ret (v := rv (PlainScalar.const x)) (by simp [results, Tryd.results19, go_sem, hc1, PlainScalar.const]) rfl ⟨rfl, (by repeat (first | (with_reducible exact Bl_refl _) | with_reducible apply Bl_alloc | with_reducible apply Bl_drew | with_reducible apply Bl_drewN | (with_reducible refine Bl_set ?_ (by first | omega | (simp; done) | (simp; omega)) _) | (with_reducible refine Bl_trans ?_ (by assumption))))⟩
set_option maxHeartbeats 400000 in
theorem sany_c  (w : World) : Calls Tryd.prog 18 #[] w fun e w' => e = .returned (rv PlainScalar.any) ∧ Below w.heap.size w w' := by
  go_enter Tryd.func18, Tryd.ntmps18
  go_wp2_with fail
  refine (any_c _).mono ?_
  rintro e w1 ⟨rfl, hb1⟩
  obtain ⟨hc1, hf1⟩ := bcell hb1
  have hz1 := hb1.size
  go_wp2
  exact bodyPost_ret (v := rv PlainScalar.any) (by simp [results, Tryd.results18, go_sem, hc1, PlainScalar.any, PlainScalar.minI, PlainScalar.maxI, T, S]) rfl ⟨rfl, (by repeat (first | (with_reducible exact Bl_refl _) | with_reducible apply Bl_alloc | with_reducible apply Bl_drew | with_reducible apply Bl_drewN | (with_reducible refine Bl_set ?_ (by first | omega | (simp; done) | (simp; omega)) _) | (with_reducible refine Bl_trans ?_ (by assumption))))⟩
set_option maxHeartbeats 800000 in
theorem shas_c (a : Rng) (x : W) (w : World) : Calls Tryd.prog 21 #[rv a, uv x] w fun e w' => e = .returned (.bool (PlainScalar.has a x)) ∧ Below w.heap.size w w' := by
  go_enter Tryd.func21, Tryd.ntmps21
  go_wp2
  all_goals
    go_ret
    refine ⟨?_, (by repeat (first | (with_reducible exact Bl_refl _) | with_reducible apply Bl_alloc | with_reducible apply Bl_drew | with_reducible apply Bl_drewN | (with_reducible refine Bl_set ?_ (by first | omega | (simp; done) | (simp; omega)) _) | (with_reducible refine Bl_trans ?_ (by assumption))))⟩
    simp_all [PlainScalar.has, PlainTnum.has, T_le, T_lt, T_eq, S_le, S_lt] <;> first | rfl | exact decide_eq_decide.2 Iff.rfl | (intros; omega)
set_option maxHeartbeats 800000 in
theorem swithin_c (a b : Rng) (w : World) : Calls Tryd.prog 23 #[rv a, rv b] w fun e w' => e = .returned (.bool (PlainScalar.within a b)) ∧ Below w.heap.size w w' := by
  go_enter Tryd.func23, Tryd.ntmps23
  go_wp2_with (refine (within_c _ _ _).mono ?_; rintro e w1 ⟨rfl, hb1⟩)
  all_goals
    go_ret
    refine ⟨?_, (by repeat (first | (with_reducible exact Bl_refl _) | with_reducible apply Bl_alloc | with_reducible apply Bl_drew | with_reducible apply Bl_drewN | (with_reducible refine Bl_set ?_ (by first | omega | (simp; done) | (simp; omega)) _) | (with_reducible refine Bl_trans ?_ (by assumption))))⟩
    simp_all [PlainScalar.within, T_le, T_lt, T_eq, S_le, S_lt] <;> first | rfl | exact decide_eq_decide.2 Iff.rfl | (intros; omega)
set_option maxHeartbeats 800000 in
theorem alone_c (a : Rng) (w : World) : Calls Tryd.prog 32 #[rv a] w fun e w' => e = .returned (.bool (PlainScalar.alone a)) ∧ Below w.heap.size w w' := by
  go_enter Tryd.func32, Tryd.ntmps32
  go_wp2_with (refine (shas_c _ _ _).mono ?_; rintro e w1 ⟨rfl, hb1⟩)
  all_goals
    go_ret
    refine ⟨?_, (by repeat (first | (with_reducible exact Bl_refl _) | with_reducible apply Bl_alloc | with_reducible apply Bl_drew | with_reducible apply Bl_drewN | (with_reducible refine Bl_set ?_ (by first | omega | (simp; done) | (simp; omega)) _) | (with_reducible refine Bl_trans ?_ (by assumption))))⟩
    simp_all [PlainScalar.alone, T_beq, T_beq0, T_eq0, T_eq, S_beq, S_eq] <;> first | rfl | exact decide_eq_decide.2 Iff.rfl | (intros; omega)
end Go.Proofs.YtmghpoagpiljhaaDoor
