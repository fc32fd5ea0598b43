/- The walks of package tnum: what each call answers; nothing that was there is written. -/
import Derived.Test.YtmghpoagpiljhaaDoorBase
import Derived.Test.YtmghpoagpiljhaaDoorTnum
namespace Go.Proofs.YtmghpoagpiljhaaDoor
open Go.RowKit
open PlainTnum (N)

/-- A num as a value. -/
abbrev nv (a : N) : Value := .agg #[.int .u64 (T a.v), .int .u64 (T a.m)]
abbrev uv (x : W) : Value := .int .u64 (T x)

set_option maxHeartbeats 400000 in
theorem of_c (x y : W) (w : World) : Calls Tryd.prog 63 #[uv x, uv y] w fun e w' => e = .returned (nv (PlainTnum.of x y)) ∧ Below w.heap.size w w' := by
  go_enter Tryd.func63, Tryd.ntmps63
  go_wp2
  exact bodyPost_ret (v := nv (PlainTnum.of x y)) (by simp [results, Tryd.results63, go_sem, PlainTnum.of]) rfl ⟨rfl, (by repeat (first | exact Bl_refl _ | apply Bl_alloc | apply Bl_drew | apply Bl_drewN | (refine Bl_set ?_ (by first | omega | (simp; done) | (simp; omega)) _) | (refine Bl_trans ?_ (by assumption))))⟩
set_option maxHeartbeats 400000 in
theorem const_c (x : W) (w : World) : Calls Tryd.prog 40 #[uv x] w fun e w' => e = .returned (nv (PlainTnum.const x)) ∧ Below w.heap.size w w' := by
  go_enter Tryd.func40, Tryd.ntmps40
  go_wp2
  exact bodyPost_ret (v := nv (PlainTnum.const x)) (by simp [results, Tryd.results40, go_sem, PlainTnum.const, T]) rfl ⟨rfl, (by repeat (first | exact Bl_refl _ | apply Bl_alloc | apply Bl_drew | apply Bl_drewN | (refine Bl_set ?_ (by first | omega | (simp; done) | (simp; omega)) _) | (refine Bl_trans ?_ (by assumption))))⟩
set_option maxHeartbeats 400000 in
theorem any_c  (w : World) : Calls Tryd.prog 39 #[] w fun e w' => e = .returned (nv PlainTnum.any) ∧ Below w.heap.size w w' := by
  go_enter Tryd.func39, Tryd.ntmps39
  go_wp2
  exact bodyPost_ret (v := nv PlainTnum.any) (by simp [results, Tryd.results39, go_sem, PlainTnum.any, T]) rfl ⟨rfl, (by repeat (first | exact Bl_refl _ | apply Bl_alloc | apply Bl_drew | apply Bl_drewN | (refine Bl_set ?_ (by first | omega | (simp; done) | (simp; omega)) _) | (refine Bl_trans ?_ (by assumption))))⟩
set_option maxHeartbeats 400000 in
theorem right_c (a : N) (w : World) : Calls Tryd.prog 85 #[nv a] w fun e w' => e = .returned (.bool (PlainTnum.rightN a)) ∧ Below w.heap.size w w' := by
  go_enter Tryd.func85, Tryd.ntmps85
  go_wp2
  go_ret
  exact ⟨by simp [PlainTnum.rightN, T_beq0], (by repeat (first | exact Bl_refl _ | apply Bl_alloc | apply Bl_drew | apply Bl_drewN | (refine Bl_set ?_ (by first | omega | (simp; done) | (simp; omega)) _) | (refine Bl_trans ?_ (by assumption))))⟩
set_option maxHeartbeats 400000 in
theorem has_c (a : N) (x : W) (w : World) : Calls Tryd.prog 44 #[nv a, uv x] w fun e w' => e = .returned (.bool (PlainTnum.has a x)) ∧ Below w.heap.size w w' := by
  go_enter Tryd.func44, Tryd.ntmps44
  go_wp2
  go_ret
  exact ⟨by simp [PlainTnum.has, T_beq], (by repeat (first | exact Bl_refl _ | apply Bl_alloc | apply Bl_drew | apply Bl_drewN | (refine Bl_set ?_ (by first | omega | (simp; done) | (simp; omega)) _) | (refine Bl_trans ?_ (by assumption))))⟩
set_option maxHeartbeats 400000 in
theorem add_c (a b : N) (w : World) : Calls Tryd.prog 76 #[nv a, nv b] w fun e w' => e = .returned (nv (PlainTnum.add a b)) ∧ Below w.heap.size w w' := by
  go_enter Tryd.func76, Tryd.ntmps76
  go_wp2_with fail
  refine (of_c _ _ _).mono ?_
  rintro e w1 ⟨rfl, hb1⟩
  obtain ⟨hc1, hf1⟩ := bcell hb1
  have hz1 := hb1.size
  go_wp2
  exact bodyPost_ret (v := nv (PlainTnum.add a b)) (by simp [results, Tryd.results76, go_sem, hc1, PlainTnum.add]) rfl ⟨rfl, (by repeat (first | exact Bl_refl _ | apply Bl_alloc | apply Bl_drew | apply Bl_drewN | (refine Bl_set ?_ (by first | omega | (simp; done) | (simp; omega)) _) | (refine Bl_trans ?_ (by assumption))))⟩
set_option maxHeartbeats 400000 in
theorem sub_c (a b : N) (w : World) : Calls Tryd.prog 78 #[nv a, nv b] w fun e w' => e = .returned (nv (PlainTnum.sub a b)) ∧ Below w.heap.size w w' := by
  go_enter Tryd.func78, Tryd.ntmps78
  go_wp2_with fail
  go_quiet (fail)
  go_wp2_with fail
  refine (of_c _ _ _).mono ?_
  rintro e w1 ⟨rfl, hb1⟩
  obtain ⟨hc1, hf1⟩ := bcell hb1
  have hz1 := hb1.size
  go_wp2
  exact bodyPost_ret (v := nv (PlainTnum.sub a b)) (by simp [results, Tryd.results78, go_sem, hc1, PlainTnum.sub]) rfl ⟨rfl, (by repeat (first | exact Bl_refl _ | apply Bl_alloc | apply Bl_drew | apply Bl_drewN | (refine Bl_set ?_ (by first | omega | (simp; done) | (simp; omega)) _) | (refine Bl_trans ?_ (by assumption))))⟩
set_option maxHeartbeats 400000 in
theorem and_c (a b : N) (w : World) : Calls Tryd.prog 81 #[nv a, nv b] w fun e w' => e = .returned (nv (PlainTnum.and a b)) ∧ Below w.heap.size w w' := by
  go_enter Tryd.func81, Tryd.ntmps81
  go_wp2_with fail
  refine (of_c _ _ _).mono ?_
  rintro e w1 ⟨rfl, hb1⟩
  obtain ⟨hc1, hf1⟩ := bcell hb1
  have hz1 := hb1.size
  go_wp2
  exact bodyPost_ret (v := nv (PlainTnum.and a b)) (by simp [results, Tryd.results81, go_sem, hc1, PlainTnum.and]) rfl ⟨rfl, (by repeat (first | exact Bl_refl _ | apply Bl_alloc | apply Bl_drew | apply Bl_drewN | (refine Bl_set ?_ (by first | omega | (simp; done) | (simp; omega)) _) | (refine Bl_trans ?_ (by assumption))))⟩
set_option maxHeartbeats 400000 in
theorem or_c (a b : N) (w : World) : Calls Tryd.prog 82 #[nv a, nv b] w fun e w' => e = .returned (nv (PlainTnum.or a b)) ∧ Below w.heap.size w w' := by
  go_enter Tryd.func82, Tryd.ntmps82
  go_wp2_with fail
  refine (of_c _ _ _).mono ?_
  rintro e w1 ⟨rfl, hb1⟩
  obtain ⟨hc1, hf1⟩ := bcell hb1
  have hz1 := hb1.size
  go_wp2
  exact bodyPost_ret (v := nv (PlainTnum.or a b)) (by simp [results, Tryd.results82, go_sem, hc1, PlainTnum.or]) rfl ⟨rfl, (by repeat (first | exact Bl_refl _ | apply Bl_alloc | apply Bl_drew | apply Bl_drewN | (refine Bl_set ?_ (by first | omega | (simp; done) | (simp; omega)) _) | (refine Bl_trans ?_ (by assumption))))⟩
set_option maxHeartbeats 400000 in
theorem xor_c (a b : N) (w : World) : Calls Tryd.prog 83 #[nv a, nv b] w fun e w' => e = .returned (nv (PlainTnum.xor a b)) ∧ Below w.heap.size w w' := by
  go_enter Tryd.func83, Tryd.ntmps83
  go_wp2_with fail
  refine (of_c _ _ _).mono ?_
  rintro e w1 ⟨rfl, hb1⟩
  obtain ⟨hc1, hf1⟩ := bcell hb1
  have hz1 := hb1.size
  go_wp2
  exact bodyPost_ret (v := nv (PlainTnum.xor a b)) (by simp [results, Tryd.results83, go_sem, hc1, PlainTnum.xor]) rfl ⟨rfl, (by repeat (first | exact Bl_refl _ | apply Bl_alloc | apply Bl_drew | apply Bl_drewN | (refine Bl_set ?_ (by first | omega | (simp; done) | (simp; omega)) _) | (refine Bl_trans ?_ (by assumption))))⟩
set_option maxHeartbeats 400000 in
theorem within_c (a b : N) (w : World) : Calls Tryd.prog 46 #[nv a, nv b] w fun e w' => e = .returned (.bool (PlainTnum.within a b)) ∧ Below w.heap.size w w' := by
  cases hq : (T (a.m &&& ~~~b.m) == 0)
  · go_enter Tryd.func46, Tryd.ntmps46
    go_wp2
    go_ret
    exact ⟨by simp [PlainTnum.within, ← T_beq0, hq], (by repeat (first | exact Bl_refl _ | apply Bl_alloc | apply Bl_drew | apply Bl_drewN | (refine Bl_set ?_ (by first | omega | (simp; done) | (simp; omega)) _) | (refine Bl_trans ?_ (by assumption))))⟩
  · go_enter Tryd.func46, Tryd.ntmps46
    skip
    go_wp2
    go_ret
    exact ⟨by simp [PlainTnum.within, T_beq, ← T_beq0, hq], (by repeat (first | exact Bl_refl _ | apply Bl_alloc | apply Bl_drew | apply Bl_drewN | (refine Bl_set ?_ (by first | omega | (simp; done) | (simp; omega)) _) | (refine Bl_trans ?_ (by assumption))))⟩
set_option maxHeartbeats 400000 in
theorem meet_c (a b : N) (w : World) : Calls Tryd.prog 87 #[nv a, nv b] w fun e w' => e = .returned (.tuple #[nv (PlainTnum.meet a b).1, .bool (PlainTnum.meet a b).2]) ∧ Below w.heap.size w w' := by
  cases hq : (T ((a.v ^^^ b.v) &&& ~~~(a.m ||| b.m)) != 0)
  · have hm : PlainTnum.meet a b = (PlainTnum.of (a.v ||| b.v) (a.m &&& b.m), true) := by unfold PlainTnum.meet; rw [if_neg (by rw [← T_bne0, hq]; decide)]
    rw [hm]
    clear hm
    go_enter Tryd.func87, Tryd.ntmps87
    go_wp2_with fail
    refine (of_c _ _ _).mono ?_
    rintro e w1 ⟨rfl, hb1⟩
    obtain ⟨hc1, hf1⟩ := bcell hb1
    have hz1 := hb1.size
    go_wp2
    exact bodyPost_ret (v := .tuple #[nv (PlainTnum.of (a.v ||| b.v) (a.m &&& b.m)), .bool true]) (by simp [results, Tryd.results87, go_sem, hc1]) rfl ⟨rfl, (by repeat (first | exact Bl_refl _ | apply Bl_alloc | apply Bl_drew | apply Bl_drewN | (refine Bl_set ?_ (by first | omega | (simp; done) | (simp; omega)) _) | (refine Bl_trans ?_ (by assumption))))⟩
  · have hm : PlainTnum.meet a b = (⟨0#64, 0#64⟩, false) := by unfold PlainTnum.meet; rw [if_pos (by rw [← T_bne0]; exact hq)]
    rw [hm]
    clear hm
    go_enter Tryd.func87, Tryd.ntmps87
    go_wp2
    exact bodyPost_ret (v := .tuple #[nv ⟨0#64, 0#64⟩, .bool false]) (by simp [results, Tryd.results87, go_sem, T]) rfl ⟨rfl, (by repeat (first | exact Bl_refl _ | apply Bl_alloc | apply Bl_drew | apply Bl_drewN | (refine Bl_set ?_ (by first | omega | (simp; done) | (simp; omega)) _) | (refine Bl_trans ?_ (by assumption))))⟩
set_option maxHeartbeats 400000 in
theorem by_c (k : Int) (w : World) : Calls Tryd.prog 102 #[.int .i64 k] w fun e w' => e = .returned (.int .i64 (byN k : Int)) ∧ w = w' := by
  go_enter Tryd.func102, Tryd.ntmps102
  go_wp2
  go_ret
  exact ⟨by rw [← byN_int, ← by_int]; rfl, rfl⟩
set_option maxRecDepth 20000 in
set_option maxHeartbeats 400000 in
theorem left_c (a : N) (k : Int) (w : World) : Calls Tryd.prog 96 #[nv a, .int .i64 k] w fun e w' => e = .returned (nv (PlainTnum.left a (byN k))) ∧ Below w.heap.size w w' := by
  have hk : ¬ ((byN k : Int) < 0) := by omega
  go_enter Tryd.func96, Tryd.ntmps96
  go_wp2_with fail
  refine wp_region_still_tail 10 (by kernel_rfl) (by kernel_rfl) ?_
  simp only [List.take_succ_cons, List.take_zero, List.drop_succ_cons, List.drop_zero]
  change wpStill _ _ (World.drew _) _ _ _
  repeat still_step
  still_call ((by_c k _).mono fun _ _ h => ⟨h.1, h.2.symm⟩)
  repeat still_step
  still_call ((by_c k _).mono fun _ _ h => ⟨h.1, h.2.symm⟩)
  repeat still_step
  refine wpStill_nil ?_
  change wpList _ _ _ _ _ (World.drew _)
  go_wp2_with fail
  refine (of_c _ _ _).mono ?_
  rintro e w1 ⟨rfl, hb1⟩
  obtain ⟨hc1, hf1⟩ := bcell hb1
  have hz1 := hb1.size
  go_wp2
  exact bodyPost_ret (v := nv (PlainTnum.left a (byN k))) (by simp [results, Tryd.results96, go_sem, hc1, PlainTnum.left]) rfl ⟨rfl, (by repeat (first | exact Bl_refl _ | apply Bl_alloc | apply Bl_drew | apply Bl_drewN | (refine Bl_set ?_ (by first | omega | (simp; done) | (simp; omega)) _) | (refine Bl_trans ?_ (by assumption))))⟩
set_option maxRecDepth 20000 in
set_option maxHeartbeats 400000 in
theorem down_c (a : N) (k : Int) (w : World) : Calls Tryd.prog 95 #[nv a, .int .i64 k] w fun e w' => e = .returned (nv (PlainTnum.down a (byN k))) ∧ Below w.heap.size w w' := by
  have hk : ¬ ((byN k : Int) < 0) := by omega
  go_enter Tryd.func95, Tryd.ntmps95
  go_wp2_with fail
  refine wp_region_still_tail 10 (by kernel_rfl) (by kernel_rfl) ?_
  simp only [List.take_succ_cons, List.take_zero, List.drop_succ_cons, List.drop_zero]
  change wpStill _ _ (World.drew _) _ _ _
  repeat still_step
  still_call ((by_c k _).mono fun _ _ h => ⟨h.1, h.2.symm⟩)
  repeat still_step
  still_call ((by_c k _).mono fun _ _ h => ⟨h.1, h.2.symm⟩)
  repeat still_step
  refine wpStill_nil ?_
  change wpList _ _ _ _ _ (World.drew _)
  go_wp2_with fail
  refine (of_c _ _ _).mono ?_
  rintro e w1 ⟨rfl, hb1⟩
  obtain ⟨hc1, hf1⟩ := bcell hb1
  have hz1 := hb1.size
  go_wp2
  exact bodyPost_ret (v := nv (PlainTnum.down a (byN k))) (by simp [results, Tryd.results95, go_sem, hc1, PlainTnum.down]) rfl ⟨rfl, (by repeat (first | exact Bl_refl _ | apply Bl_alloc | apply Bl_drew | apply Bl_drewN | (refine Bl_set ?_ (by first | omega | (simp; done) | (simp; omega)) _) | (refine Bl_trans ?_ (by assumption))))⟩
set_option maxHeartbeats 400000 in
theorem low_c (a : N) (k : Int) (w : World) : Calls Tryd.prog 35 #[nv a, .int .i64 k] w fun e w' => e = .returned (nv (PlainTnum.low a k)) ∧ Below w.heap.size w w' := by
  cases h1 : (k == 1)
  · cases h2 : (k == 2)
    · cases h4 : (k == 4)
      · have e : PlainTnum.low a k = PlainTnum.of a.v a.m := by unfold PlainTnum.low; rw [if_neg (by simpa using h1), if_neg (by simpa using h2), if_neg (by simpa using h4)]
        rw [e]
        clear e
        go_enter Tryd.func35, Tryd.ntmps35
        go_wp2_with fail
        refine (of_c _ _ _).mono ?_
        rintro e w1 ⟨rfl, hb1⟩
        obtain ⟨hc1, hf1⟩ := bcell hb1
        have hz1 := hb1.size
        go_wp2
        exact bodyPost_ret (v := nv (PlainTnum.of a.v a.m)) (by simp [results, Tryd.results35, go_sem, hc1]) rfl ⟨rfl, (by repeat (first | exact Bl_refl _ | apply Bl_alloc | apply Bl_drew | apply Bl_drewN | (refine Bl_set ?_ (by first | omega | (simp; done) | (simp; omega)) _) | (refine Bl_trans ?_ (by assumption))))⟩
      · obtain rfl : k = 4 := by simpa using h4
        clear h1 h2 h4
        go_enter Tryd.func35, Tryd.ntmps35
        go_wp2_with fail
        refine (of_c _ _ _).mono ?_
        rintro e w1 ⟨rfl, hb1⟩
        obtain ⟨hc1, hf1⟩ := bcell hb1
        have hz1 := hb1.size
        go_wp2
        exact bodyPost_ret (v := nv (PlainTnum.low a 4)) (by simp [results, Tryd.results35, go_sem, hc1, PlainTnum.low]) rfl ⟨rfl, (by repeat (first | exact Bl_refl _ | apply Bl_alloc | apply Bl_drew | apply Bl_drewN | (refine Bl_set ?_ (by first | omega | (simp; done) | (simp; omega)) _) | (refine Bl_trans ?_ (by assumption))))⟩
    · obtain rfl : k = 2 := by simpa using h2
      clear h1 h2
      go_enter Tryd.func35, Tryd.ntmps35
      go_wp2_with fail
      refine (of_c _ _ _).mono ?_
      rintro e w1 ⟨rfl, hb1⟩
      obtain ⟨hc1, hf1⟩ := bcell hb1
      have hz1 := hb1.size
      go_wp2
      exact bodyPost_ret (v := nv (PlainTnum.low a 2)) (by simp [results, Tryd.results35, go_sem, hc1, PlainTnum.low]) rfl ⟨rfl, (by repeat (first | exact Bl_refl _ | apply Bl_alloc | apply Bl_drew | apply Bl_drewN | (refine Bl_set ?_ (by first | omega | (simp; done) | (simp; omega)) _) | (refine Bl_trans ?_ (by assumption))))⟩
  · obtain rfl : k = 1 := by simpa using h1
    clear h1
    go_enter Tryd.func35, Tryd.ntmps35
    go_wp2_with fail
    refine (of_c _ _ _).mono ?_
    rintro e w1 ⟨rfl, hb1⟩
    obtain ⟨hc1, hf1⟩ := bcell hb1
    have hz1 := hb1.size
    go_wp2
    exact bodyPost_ret (v := nv (PlainTnum.low a 1)) (by simp [results, Tryd.results35, go_sem, hc1, PlainTnum.low]) rfl ⟨rfl, (by repeat (first | exact Bl_refl _ | apply Bl_alloc | apply Bl_drew | apply Bl_drewN | (refine Bl_set ?_ (by first | omega | (simp; done) | (simp; omega)) _) | (refine Bl_trans ?_ (by assumption))))⟩
end Go.Proofs.YtmghpoagpiljhaaDoor
