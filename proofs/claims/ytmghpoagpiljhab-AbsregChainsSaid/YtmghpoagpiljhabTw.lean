/- The walks of package tnum: what each call answers; nothing that was there is written. -/
import Derived.Test.YtmghpoagpiljhabBase
import Derived.Test.YtmghpoagpiljhabTnum
namespace Go.Proofs.Ytmghpoagpiljhab
open Go.RowKit
open PlainTnum (N)

/-- A num as a value. -/
abbrev nv (a : N) : Value := .agg #[.int .u64 (T a.v), .int .u64 (T a.m)]
abbrev uv (x : W) : Value := .int .u64 (T x)

set_option maxHeartbeats 400000 in
theorem of_c (x y : W) (w : World) : Calls Try.prog 66 #[uv x, uv y] w fun e w' => e = .returned (nv (PlainTnum.of x y)) ∧ Below w.heap.size w w' := by
  go_enter Try.func66, Try.ntmps66
  go_wp2
  exact bodyPost_ret (v := nv (PlainTnum.of x y)) (by simp [results, Try.results66, go_sem, PlainTnum.of]) rfl ⟨rfl, (by repeat (first | exact Bl_refl _ | apply Bl_alloc | apply Bl_drew | apply Bl_drewN | (refine Bl_set ?_ (by first | omega | (simp; done) | (simp; omega)) _) | (refine Bl_trans ?_ (by assumption))))⟩
set_option maxHeartbeats 400000 in
theorem const_c (x : W) (w : World) : Calls Try.prog 60 #[uv x] w fun e w' => e = .returned (nv (PlainTnum.const x)) ∧ Below w.heap.size w w' := by
  go_enter Try.func60, Try.ntmps60
  go_wp2
  exact bodyPost_ret (v := nv (PlainTnum.const x)) (by simp [results, Try.results60, go_sem, PlainTnum.const, T]) rfl ⟨rfl, (by repeat (first | exact Bl_refl _ | apply Bl_alloc | apply Bl_drew | apply Bl_drewN | (refine Bl_set ?_ (by first | omega | (simp; done) | (simp; omega)) _) | (refine Bl_trans ?_ (by assumption))))⟩
set_option maxHeartbeats 400000 in
theorem any_c  (w : World) : Calls Try.prog 57 #[] w fun e w' => e = .returned (nv PlainTnum.any) ∧ Below w.heap.size w w' := by
  go_enter Try.func57, Try.ntmps57
  go_wp2
  exact bodyPost_ret (v := nv PlainTnum.any) (by simp [results, Try.results57, go_sem, PlainTnum.any, T]) rfl ⟨rfl, (by repeat (first | exact Bl_refl _ | apply Bl_alloc | apply Bl_drew | apply Bl_drewN | (refine Bl_set ?_ (by first | omega | (simp; done) | (simp; omega)) _) | (refine Bl_trans ?_ (by assumption))))⟩
set_option maxHeartbeats 400000 in
theorem right_c (a : N) (w : World) : Calls Try.prog 46 #[nv a] w fun e w' => e = .returned (.bool (PlainTnum.rightN a)) ∧ Below w.heap.size w w' := by
  go_enter Try.func46, Try.ntmps46
  go_wp2
  go_ret
  exact ⟨by simp [PlainTnum.rightN, T_beq0], (by repeat (first | exact Bl_refl _ | apply Bl_alloc | apply Bl_drew | apply Bl_drewN | (refine Bl_set ?_ (by first | omega | (simp; done) | (simp; omega)) _) | (refine Bl_trans ?_ (by assumption))))⟩
set_option maxHeartbeats 400000 in
theorem has_c (a : N) (x : W) (w : World) : Calls Try.prog 51 #[nv a, uv x] w fun e w' => e = .returned (.bool (PlainTnum.has a x)) ∧ Below w.heap.size w w' := by
  go_enter Try.func51, Try.ntmps51
  go_wp2
  go_ret
  exact ⟨by simp [PlainTnum.has, T_beq], (by repeat (first | exact Bl_refl _ | apply Bl_alloc | apply Bl_drew | apply Bl_drewN | (refine Bl_set ?_ (by first | omega | (simp; done) | (simp; omega)) _) | (refine Bl_trans ?_ (by assumption))))⟩
set_option maxHeartbeats 400000 in
theorem join_c (a b : N) (w : World) : Calls Try.prog 45 #[nv a, nv b] w fun e w' => e = .returned (nv (PlainTnum.join a b)) ∧ Below w.heap.size w w' := by
  go_enter Try.func45, Try.ntmps45
  go_wp2_with fail
  refine (of_c _ _ _).mono ?_
  rintro e w1 ⟨rfl, hb1⟩
  obtain ⟨hc1, hf1⟩ := bcell hb1
  have hz1 := hb1.size
  go_wp2
  exact bodyPost_ret (v := nv (PlainTnum.join a b)) (by simp [results, Try.results45, go_sem, hc1, PlainTnum.join]) rfl ⟨rfl, (by repeat (first | exact Bl_refl _ | apply Bl_alloc | apply Bl_drew | apply Bl_drewN | (refine Bl_set ?_ (by first | omega | (simp; done) | (simp; omega)) _) | (refine Bl_trans ?_ (by assumption))))⟩
set_option maxHeartbeats 400000 in
theorem within_c (a b : N) (w : World) : Calls Try.prog 56 #[nv a, nv b] w fun e w' => e = .returned (.bool (PlainTnum.within a b)) ∧ Below w.heap.size w w' := by
  cases hq : (T (a.m &&& ~~~b.m) == 0)
  · go_enter Try.func56, Try.ntmps56
    go_wp2
    go_ret
    exact ⟨by simp [PlainTnum.within, ← T_beq0, hq], (by repeat (first | exact Bl_refl _ | apply Bl_alloc | apply Bl_drew | apply Bl_drewN | (refine Bl_set ?_ (by first | omega | (simp; done) | (simp; omega)) _) | (refine Bl_trans ?_ (by assumption))))⟩
  · go_enter Try.func56, Try.ntmps56
    skip
    go_wp2
    go_ret
    exact ⟨by simp [PlainTnum.within, T_beq, ← T_beq0, hq], (by repeat (first | exact Bl_refl _ | apply Bl_alloc | apply Bl_drew | apply Bl_drewN | (refine Bl_set ?_ (by first | omega | (simp; done) | (simp; omega)) _) | (refine Bl_trans ?_ (by assumption))))⟩
set_option maxHeartbeats 400000 in
theorem meet_c (a b : N) (w : World) : Calls Try.prog 48 #[nv a, nv b] w fun e w' => e = .returned (.tuple #[nv (PlainTnum.meet a b).1, .bool (PlainTnum.meet a b).2]) ∧ Below w.heap.size w w' := by
  cases hq : (T ((a.v ^^^ b.v) &&& ~~~(a.m ||| b.m)) != 0)
  · have hm : PlainTnum.meet a b = (PlainTnum.of (a.v ||| b.v) (a.m &&& b.m), true) := by unfold PlainTnum.meet; rw [if_neg (by rw [← T_bne0, hq]; decide)]
    rw [hm]
    clear hm
    go_enter Try.func48, Try.ntmps48
    go_wp2_with fail
    refine (of_c _ _ _).mono ?_
    rintro e w1 ⟨rfl, hb1⟩
    obtain ⟨hc1, hf1⟩ := bcell hb1
    have hz1 := hb1.size
    go_wp2
    exact bodyPost_ret (v := .tuple #[nv (PlainTnum.of (a.v ||| b.v) (a.m &&& b.m)), .bool true]) (by simp [results, Try.results48, go_sem, hc1]) rfl ⟨rfl, (by repeat (first | exact Bl_refl _ | apply Bl_alloc | apply Bl_drew | apply Bl_drewN | (refine Bl_set ?_ (by first | omega | (simp; done) | (simp; omega)) _) | (refine Bl_trans ?_ (by assumption))))⟩
  · have hm : PlainTnum.meet a b = (⟨0#64, 0#64⟩, false) := by unfold PlainTnum.meet; rw [if_pos (by rw [← T_bne0]; exact hq)]
    rw [hm]
    clear hm
    go_enter Try.func48, Try.ntmps48
    go_wp2
    exact bodyPost_ret (v := .tuple #[nv ⟨0#64, 0#64⟩, .bool false]) (by simp [results, Try.results48, go_sem, T]) rfl ⟨rfl, (by repeat (first | exact Bl_refl _ | apply Bl_alloc | apply Bl_drew | apply Bl_drewN | (refine Bl_set ?_ (by first | omega | (simp; done) | (simp; omega)) _) | (refine Bl_trans ?_ (by assumption))))⟩
set_option maxHeartbeats 400000 in
theorem low_c (a : N) (k : Int) (w : World) : Calls Try.prog 52 #[nv a, .int .i64 k] w fun e w' => e = .returned (nv (PlainTnum.low a k)) ∧ Below w.heap.size w w' := by
  cases h1 : (k == 1)
  · cases h2 : (k == 2)
    · cases h4 : (k == 4)
      · have e : PlainTnum.low a k = PlainTnum.of a.v a.m := by unfold PlainTnum.low; rw [if_neg (by simpa using h1), if_neg (by simpa using h2), if_neg (by simpa using h4)]
        rw [e]
        clear e
        go_enter Try.func52, Try.ntmps52
        go_wp2_with fail
        refine (of_c _ _ _).mono ?_
        rintro e w1 ⟨rfl, hb1⟩
        obtain ⟨hc1, hf1⟩ := bcell hb1
        have hz1 := hb1.size
        go_wp2
        exact bodyPost_ret (v := nv (PlainTnum.of a.v a.m)) (by simp [results, Try.results52, go_sem, hc1]) rfl ⟨rfl, (by repeat (first | exact Bl_refl _ | apply Bl_alloc | apply Bl_drew | apply Bl_drewN | (refine Bl_set ?_ (by first | omega | (simp; done) | (simp; omega)) _) | (refine Bl_trans ?_ (by assumption))))⟩
      · obtain rfl : k = 4 := by simpa using h4
        clear h1 h2 h4
        go_enter Try.func52, Try.ntmps52
        go_wp2_with fail
        refine (of_c _ _ _).mono ?_
        rintro e w1 ⟨rfl, hb1⟩
        obtain ⟨hc1, hf1⟩ := bcell hb1
        have hz1 := hb1.size
        go_wp2
        exact bodyPost_ret (v := nv (PlainTnum.low a 4)) (by simp [results, Try.results52, go_sem, hc1, PlainTnum.low]) rfl ⟨rfl, (by repeat (first | exact Bl_refl _ | apply Bl_alloc | apply Bl_drew | apply Bl_drewN | (refine Bl_set ?_ (by first | omega | (simp; done) | (simp; omega)) _) | (refine Bl_trans ?_ (by assumption))))⟩
    · obtain rfl : k = 2 := by simpa using h2
      clear h1 h2
      go_enter Try.func52, Try.ntmps52
      go_wp2_with fail
      refine (of_c _ _ _).mono ?_
      rintro e w1 ⟨rfl, hb1⟩
      obtain ⟨hc1, hf1⟩ := bcell hb1
      have hz1 := hb1.size
      go_wp2
      exact bodyPost_ret (v := nv (PlainTnum.low a 2)) (by simp [results, Try.results52, go_sem, hc1, PlainTnum.low]) rfl ⟨rfl, (by repeat (first | exact Bl_refl _ | apply Bl_alloc | apply Bl_drew | apply Bl_drewN | (refine Bl_set ?_ (by first | omega | (simp; done) | (simp; omega)) _) | (refine Bl_trans ?_ (by assumption))))⟩
  · obtain rfl : k = 1 := by simpa using h1
    clear h1
    go_enter Try.func52, Try.ntmps52
    go_wp2_with fail
    refine (of_c _ _ _).mono ?_
    rintro e w1 ⟨rfl, hb1⟩
    obtain ⟨hc1, hf1⟩ := bcell hb1
    have hz1 := hb1.size
    go_wp2
    exact bodyPost_ret (v := nv (PlainTnum.low a 1)) (by simp [results, Try.results52, go_sem, hc1, PlainTnum.low]) rfl ⟨rfl, (by repeat (first | exact Bl_refl _ | apply Bl_alloc | apply Bl_drew | apply Bl_drewN | (refine Bl_set ?_ (by first | omega | (simp; done) | (simp; omega)) _) | (refine Bl_trans ?_ (by assumption))))⟩
end Go.Proofs.Ytmghpoagpiljhab
