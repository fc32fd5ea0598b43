/- The walks of package branch, third part: other, greater. -/
import Derived.Test.YtmghpoagpiljhabBr2
set_option linter.unusedSimpArgs false
namespace Go.Proofs.Ytmghpoagpiljhab
open Go.RowKit
open PlainTnum (N)
open PlainScalar (Rng)
set_option maxRecDepth 100000 in
set_option maxHeartbeats 3200000 in
theorem other_c (a b : Rng) (w : World) : Calls Try.prog 80 #[pv2 a b] w fun e w' => e = .returned (tv (PlainBranch.other (a, b))) ∧ Below w.heap.size w w' := by
  cases q2 : PlainBranch.one b
  · cases q1 : PlainBranch.one a
    · obtain ⟨R, e_R⟩ : ∃ z' : PlainBranch.Pair × Bool, z' = PlainBranch.settleP (a, b) := ⟨_, rfl⟩
      have k_R : ∀ w : World, Calls Try.prog 71 #[pv2 a b] w fun e w' => e = .returned (tv R) ∧ Below w.heap.size w w' := fun w => by rw [e_R]; exact psettle_c a b w
      have hs : PlainBranch.other (a, b) = R := by rw [e_R]; simp [PlainBranch.other, PlainBranch.other2, q2, q1]
      clear e_R
      try clear e_u
      try clear e_v
      go_enter Try.func80, Try.ntmps80
      go_wp2_with fail
      obtain ⟨gp, hgp⟩ : ∃ g, g = w.heap.size := ⟨_, rfl⟩
      obtain ⟨gr, hgr⟩ : ∃ g, g = w.heap.size + 1 := ⟨_, rfl⟩
      have Bp : Blk ((w.alloc (.cells #[uv a.b.v, uv a.b.m, uv a.lo, uv a.hi, sv a.sl, sv a.sh, uv b.b.v, uv b.b.m, uv b.lo, uv b.hi, sv b.sl, sv b.sh] 118)).alloc (.cells #[.int .u64 0, .int .u64 0, .int .u64 0, .int .u64 0, .int .i64 0, .int .i64 0, .int .u64 0, .int .u64 0, .int .u64 0, .int .u64 0, .int .i64 0, .int .i64 0] 118)) (w.heap.size) 118 #[uv a.b.v, uv a.b.m, uv a.lo, uv a.hi, sv a.sl, sv a.sh, uv b.b.v, uv b.b.m, uv b.lo, uv b.hi, sv b.sl, sv b.sh] := ((Blk.new w 118 #[uv a.b.v, uv a.b.m, uv a.lo, uv a.hi, sv a.sl, sv a.sh, uv b.b.v, uv b.b.m, uv b.lo, uv b.hi, sv b.sl, sv b.sh])).alloc _
      have Br : Blk ((w.alloc (.cells #[uv a.b.v, uv a.b.m, uv a.lo, uv a.hi, sv a.sl, sv a.sh, uv b.b.v, uv b.b.m, uv b.lo, uv b.hi, sv b.sl, sv b.sh] 118)).alloc (.cells #[.int .u64 0, .int .u64 0, .int .u64 0, .int .u64 0, .int .i64 0, .int .i64 0, .int .u64 0, .int .u64 0, .int .u64 0, .int .u64 0, .int .i64 0, .int .i64 0] 118)) (w.heap.size + 1) 118 #[.int .u64 0, .int .u64 0, .int .u64 0, .int .u64 0, .int .i64 0, .int .i64 0, .int .u64 0, .int .u64 0, .int .u64 0, .int .u64 0, .int .i64 0, .int .i64 0] := (by simpa using Blk.new (w.alloc (.cells #[uv a.b.v, uv a.b.m, uv a.lo, uv a.hi, sv a.sl, sv a.sh, uv b.b.v, uv b.b.m, uv b.lo, uv b.hi, sv b.sl, sv b.sh] 118)) 118 #[.int .u64 0, .int .u64 0, .int .u64 0, .int .u64 0, .int .i64 0, .int .i64 0, .int .u64 0, .int .u64 0, .int .u64 0, .int .u64 0, .int .i64 0, .int .i64 0] : Blk _ (w.heap.size + 1) 118 #[.int .u64 0, .int .u64 0, .int .u64 0, .int .u64 0, .int .i64 0, .int .i64 0, .int .u64 0, .int .u64 0, .int .u64 0, .int .u64 0, .int .i64 0, .int .i64 0])
      have hB : Below w.heap.size w ((w.alloc (.cells #[uv a.b.v, uv a.b.m, uv a.lo, uv a.hi, sv a.sl, sv a.sh, uv b.b.v, uv b.b.m, uv b.lo, uv b.hi, sv b.sl, sv b.sh] 118)).alloc (.cells #[.int .u64 0, .int .u64 0, .int .u64 0, .int .u64 0, .int .i64 0, .int .i64 0, .int .u64 0, .int .u64 0, .int .u64 0, .int .u64 0, .int .i64 0, .int .i64 0] 118)) := (Bl_alloc (Bl_alloc (Bl_refl w) _) _)
      clear hgp
      clear gp
      clear hgr
      clear gr
      generalize ((w.alloc (.cells #[uv a.b.v, uv a.b.m, uv a.lo, uv a.hi, sv a.sl, sv a.sh, uv b.b.v, uv b.b.m, uv b.lo, uv b.hi, sv b.sl, sv b.sh] 118)).alloc (.cells #[.int .u64 0, .int .u64 0, .int .u64 0, .int .u64 0, .int .i64 0, .int .i64 0, .int .u64 0, .int .u64 0, .int .u64 0, .int .u64 0, .int .i64 0, .int .i64 0] 118)) = w1 at *
      obtain ⟨cp0, cp1, cp2, cp3, cp4, cp5, cp6, cp7, cp8, cp9, cp10, cp11⟩ := cells12 Bp
      have fp := Bp.frozen; have lp := Bp.lt
      obtain ⟨cr0, cr1, cr2, cr3, cr4, cr5, cr6, cr7, cr8, cr9, cr10, cr11⟩ := cells12 Br
      have fr := Br.frozen; have lr := Br.lt
      go_wp2_with fail
      refine (one_b _ _ q2 _).mono ?_
      rintro e w2 ⟨rfl, hb⟩
      clear cp0 cp1 cp2 cp3 cp4 cp5 cp6 cp7 cp8 cp9 cp10 cp11 fp lp
      clear cr0 cr1 cr2 cr3 cr4 cr5 cr6 cr7 cr8 cr9 cr10 cr11 fr lr
      replace Bp := (Bp).next hb
      replace Br := (Br).next hb
      replace hB : Below w.heap.size w w2 := by repeat (first | exact hB | (refine Bl_set ?_ (by first | omega | (simp; omega)) _) | apply Bl_alloc | (refine Bl_trans ?_ hb))
      clear hb
      obtain ⟨cp0, cp1, cp2, cp3, cp4, cp5, cp6, cp7, cp8, cp9, cp10, cp11⟩ := cells12 Bp
      have fp := Bp.frozen; have lp := Bp.lt
      obtain ⟨cr0, cr1, cr2, cr3, cr4, cr5, cr6, cr7, cr8, cr9, cr10, cr11⟩ := cells12 Br
      have fr := Br.frozen; have lr := Br.lt
      go_wp2_with fail
      refine (one_b _ _ q1 _).mono ?_
      rintro e w3 ⟨rfl, hb⟩
      clear cp0 cp1 cp2 cp3 cp4 cp5 cp6 cp7 cp8 cp9 cp10 cp11 fp lp
      clear cr0 cr1 cr2 cr3 cr4 cr5 cr6 cr7 cr8 cr9 cr10 cr11 fr lr
      replace Bp := (Bp).next hb
      replace Br := (Br).next hb
      replace hB : Below w.heap.size w w3 := by repeat (first | exact hB | (refine Bl_set ?_ (by first | omega | (simp; omega)) _) | apply Bl_alloc | (refine Bl_trans ?_ hb))
      clear hb
      obtain ⟨cp0, cp1, cp2, cp3, cp4, cp5, cp6, cp7, cp8, cp9, cp10, cp11⟩ := cells12 Bp
      have fp := Bp.frozen; have lp := Bp.lt
      obtain ⟨cr0, cr1, cr2, cr3, cr4, cr5, cr6, cr7, cr8, cr9, cr10, cr11⟩ := cells12 Br
      have fr := Br.frozen; have lr := Br.lt
      go_wp2_with fail
      refine (k_R _).mono ?_
      rintro e w4 ⟨rfl, hb⟩
      clear cp0 cp1 cp2 cp3 cp4 cp5 cp6 cp7 cp8 cp9 cp10 cp11 fp lp
      clear cr0 cr1 cr2 cr3 cr4 cr5 cr6 cr7 cr8 cr9 cr10 cr11 fr lr
      replace Bp := (Bp).next hb
      replace Br := (Br).next hb
      replace hB : Below w.heap.size w w4 := by repeat (first | exact hB | (refine Bl_set ?_ (by first | omega | (simp; omega)) _) | apply Bl_alloc | (refine Bl_trans ?_ hb))
      clear hb
      obtain ⟨cp0, cp1, cp2, cp3, cp4, cp5, cp6, cp7, cp8, cp9, cp10, cp11⟩ := cells12 Bp
      have fp := Bp.frozen; have lp := Bp.lt
      obtain ⟨cr0, cr1, cr2, cr3, cr4, cr5, cr6, cr7, cr8, cr9, cr10, cr11⟩ := cells12 Br
      have fr := Br.frozen; have lr := Br.lt
      go_wp2
      exact bodyPost_ret (v := tv R) (by simp [results, Try.results80, go_sem, cr0, cr1, cr2, cr3, cr4, cr5, cr6, cr7, cr8, cr9, cr10, cr11, lr]) rfl ⟨by rw [hs]; first | done | rfl, by repeat (first | (with_reducible exact hB) | (with_reducible refine Bl_set ?_ (by first | omega | (simp; done) | (simp; omega)) _) | with_reducible apply Bl_alloc)⟩
    · cases t_v : (PlainBranch.without b a.lo).2
      · obtain ⟨v, e_v⟩ : ∃ z' : Rng, z' = (PlainBranch.without b a.lo).1 := ⟨_, rfl⟩
        have k_v : ∀ w : World, Calls Try.prog 85 #[rv b, uv a.lo] w fun e w' => e = .returned (.tuple #[rv v, .bool false]) ∧ Below w.heap.size w w' := fun w => by have := without_c b a.lo w; rwa [← e_v, t_v] at this
        have hs : PlainBranch.other (a, b) = (PlainBranch.zero, false) := by simp [PlainBranch.other, PlainBranch.other2, q2, q1, t_v]
        try clear e_u
        try clear e_v
        go_enter Try.func80, Try.ntmps80
        go_wp2_with fail
        obtain ⟨gp, hgp⟩ : ∃ g, g = w.heap.size := ⟨_, rfl⟩
        obtain ⟨gr, hgr⟩ : ∃ g, g = w.heap.size + 1 := ⟨_, rfl⟩
        have Bp : Blk ((w.alloc (.cells #[uv a.b.v, uv a.b.m, uv a.lo, uv a.hi, sv a.sl, sv a.sh, uv b.b.v, uv b.b.m, uv b.lo, uv b.hi, sv b.sl, sv b.sh] 118)).alloc (.cells #[.int .u64 0, .int .u64 0, .int .u64 0, .int .u64 0, .int .i64 0, .int .i64 0, .int .u64 0, .int .u64 0, .int .u64 0, .int .u64 0, .int .i64 0, .int .i64 0] 118)) (w.heap.size) 118 #[uv a.b.v, uv a.b.m, uv a.lo, uv a.hi, sv a.sl, sv a.sh, uv b.b.v, uv b.b.m, uv b.lo, uv b.hi, sv b.sl, sv b.sh] := ((Blk.new w 118 #[uv a.b.v, uv a.b.m, uv a.lo, uv a.hi, sv a.sl, sv a.sh, uv b.b.v, uv b.b.m, uv b.lo, uv b.hi, sv b.sl, sv b.sh])).alloc _
        have Br : Blk ((w.alloc (.cells #[uv a.b.v, uv a.b.m, uv a.lo, uv a.hi, sv a.sl, sv a.sh, uv b.b.v, uv b.b.m, uv b.lo, uv b.hi, sv b.sl, sv b.sh] 118)).alloc (.cells #[.int .u64 0, .int .u64 0, .int .u64 0, .int .u64 0, .int .i64 0, .int .i64 0, .int .u64 0, .int .u64 0, .int .u64 0, .int .u64 0, .int .i64 0, .int .i64 0] 118)) (w.heap.size + 1) 118 #[.int .u64 0, .int .u64 0, .int .u64 0, .int .u64 0, .int .i64 0, .int .i64 0, .int .u64 0, .int .u64 0, .int .u64 0, .int .u64 0, .int .i64 0, .int .i64 0] := (by simpa using Blk.new (w.alloc (.cells #[uv a.b.v, uv a.b.m, uv a.lo, uv a.hi, sv a.sl, sv a.sh, uv b.b.v, uv b.b.m, uv b.lo, uv b.hi, sv b.sl, sv b.sh] 118)) 118 #[.int .u64 0, .int .u64 0, .int .u64 0, .int .u64 0, .int .i64 0, .int .i64 0, .int .u64 0, .int .u64 0, .int .u64 0, .int .u64 0, .int .i64 0, .int .i64 0] : Blk _ (w.heap.size + 1) 118 #[.int .u64 0, .int .u64 0, .int .u64 0, .int .u64 0, .int .i64 0, .int .i64 0, .int .u64 0, .int .u64 0, .int .u64 0, .int .u64 0, .int .i64 0, .int .i64 0])
        have hB : Below w.heap.size w ((w.alloc (.cells #[uv a.b.v, uv a.b.m, uv a.lo, uv a.hi, sv a.sl, sv a.sh, uv b.b.v, uv b.b.m, uv b.lo, uv b.hi, sv b.sl, sv b.sh] 118)).alloc (.cells #[.int .u64 0, .int .u64 0, .int .u64 0, .int .u64 0, .int .i64 0, .int .i64 0, .int .u64 0, .int .u64 0, .int .u64 0, .int .u64 0, .int .i64 0, .int .i64 0] 118)) := (Bl_alloc (Bl_alloc (Bl_refl w) _) _)
        clear hgp
        clear gp
        clear hgr
        clear gr
        generalize ((w.alloc (.cells #[uv a.b.v, uv a.b.m, uv a.lo, uv a.hi, sv a.sl, sv a.sh, uv b.b.v, uv b.b.m, uv b.lo, uv b.hi, sv b.sl, sv b.sh] 118)).alloc (.cells #[.int .u64 0, .int .u64 0, .int .u64 0, .int .u64 0, .int .i64 0, .int .i64 0, .int .u64 0, .int .u64 0, .int .u64 0, .int .u64 0, .int .i64 0, .int .i64 0] 118)) = w1 at *
        obtain ⟨cp0, cp1, cp2, cp3, cp4, cp5, cp6, cp7, cp8, cp9, cp10, cp11⟩ := cells12 Bp
        have fp := Bp.frozen; have lp := Bp.lt
        obtain ⟨cr0, cr1, cr2, cr3, cr4, cr5, cr6, cr7, cr8, cr9, cr10, cr11⟩ := cells12 Br
        have fr := Br.frozen; have lr := Br.lt
        go_wp2_with fail
        refine (one_b _ _ q2 _).mono ?_
        rintro e w2 ⟨rfl, hb⟩
        clear cp0 cp1 cp2 cp3 cp4 cp5 cp6 cp7 cp8 cp9 cp10 cp11 fp lp
        clear cr0 cr1 cr2 cr3 cr4 cr5 cr6 cr7 cr8 cr9 cr10 cr11 fr lr
        replace Bp := (Bp).next hb
        replace Br := (Br).next hb
        replace hB : Below w.heap.size w w2 := by repeat (first | exact hB | (refine Bl_set ?_ (by first | omega | (simp; omega)) _) | apply Bl_alloc | (refine Bl_trans ?_ hb))
        clear hb
        obtain ⟨cp0, cp1, cp2, cp3, cp4, cp5, cp6, cp7, cp8, cp9, cp10, cp11⟩ := cells12 Bp
        have fp := Bp.frozen; have lp := Bp.lt
        obtain ⟨cr0, cr1, cr2, cr3, cr4, cr5, cr6, cr7, cr8, cr9, cr10, cr11⟩ := cells12 Br
        have fr := Br.frozen; have lr := Br.lt
        go_wp2_with fail
        refine (one_b _ _ q1 _).mono ?_
        rintro e w3 ⟨rfl, hb⟩
        clear cp0 cp1 cp2 cp3 cp4 cp5 cp6 cp7 cp8 cp9 cp10 cp11 fp lp
        clear cr0 cr1 cr2 cr3 cr4 cr5 cr6 cr7 cr8 cr9 cr10 cr11 fr lr
        replace Bp := (Bp).next hb
        replace Br := (Br).next hb
        replace hB : Below w.heap.size w w3 := by repeat (first | exact hB | (refine Bl_set ?_ (by first | omega | (simp; omega)) _) | apply Bl_alloc | (refine Bl_trans ?_ hb))
        clear hb
        obtain ⟨cp0, cp1, cp2, cp3, cp4, cp5, cp6, cp7, cp8, cp9, cp10, cp11⟩ := cells12 Bp
        have fp := Bp.frozen; have lp := Bp.lt
        obtain ⟨cr0, cr1, cr2, cr3, cr4, cr5, cr6, cr7, cr8, cr9, cr10, cr11⟩ := cells12 Br
        have fr := Br.frozen; have lr := Br.lt
        go_wp2_with fail
        refine (k_v _).mono ?_
        rintro e w4 ⟨rfl, hb⟩
        clear cp0 cp1 cp2 cp3 cp4 cp5 cp6 cp7 cp8 cp9 cp10 cp11 fp lp
        clear cr0 cr1 cr2 cr3 cr4 cr5 cr6 cr7 cr8 cr9 cr10 cr11 fr lr
        replace Bp := (Bp).next hb
        replace Br := (Br).next hb
        replace hB : Below w.heap.size w w4 := by repeat (first | exact hB | (refine Bl_set ?_ (by first | omega | (simp; omega)) _) | apply Bl_alloc | (refine Bl_trans ?_ hb))
        clear hb
        obtain ⟨cp0, cp1, cp2, cp3, cp4, cp5, cp6, cp7, cp8, cp9, cp10, cp11⟩ := cells12 Bp
        have fp := Bp.frozen; have lp := Bp.lt
        obtain ⟨cr0, cr1, cr2, cr3, cr4, cr5, cr6, cr7, cr8, cr9, cr10, cr11⟩ := cells12 Br
        have fr := Br.frozen; have lr := Br.lt
        go_wp2
        exact bodyPost_ret (v := .tuple #[pv2 PlainScalar.none_ PlainScalar.none_, .bool false]) (by simp [results, Try.results80, go_sem, cr0, cr1, cr2, cr3, cr4, cr5, cr6, cr7, cr8, cr9, cr10, cr11, lr, PlainScalar.none_, T, S]) rfl ⟨by rw [hs]; first | done | rfl, by repeat (first | (with_reducible exact hB) | (with_reducible refine Bl_set ?_ (by first | omega | (simp; done) | (simp; omega)) _) | with_reducible apply Bl_alloc)⟩
      · obtain ⟨v, e_v⟩ : ∃ z' : Rng, z' = (PlainBranch.without b a.lo).1 := ⟨_, rfl⟩
        have k_v : ∀ w : World, Calls Try.prog 85 #[rv b, uv a.lo] w fun e w' => e = .returned (.tuple #[rv v, .bool true]) ∧ Below w.heap.size w w' := fun w => by have := without_c b a.lo w; rwa [← e_v, t_v] at this
        obtain ⟨R, e_R⟩ : ∃ z' : PlainBranch.Pair × Bool, z' = PlainBranch.settleP (a, v) := ⟨_, rfl⟩
        have k_R : ∀ w : World, Calls Try.prog 71 #[pv2 a v] w fun e w' => e = .returned (tv R) ∧ Below w.heap.size w w' := fun w => by rw [e_R]; exact psettle_c a v w
        have hs : PlainBranch.other (a, b) = R := by rw [e_R, e_v]; simp [PlainBranch.other, PlainBranch.other2, q2, q1, t_v]
        clear e_R
        try clear e_u
        try clear e_v
        go_enter Try.func80, Try.ntmps80
        go_wp2_with fail
        obtain ⟨gp, hgp⟩ : ∃ g, g = w.heap.size := ⟨_, rfl⟩
        obtain ⟨gr, hgr⟩ : ∃ g, g = w.heap.size + 1 := ⟨_, rfl⟩
        have Bp : Blk ((w.alloc (.cells #[uv a.b.v, uv a.b.m, uv a.lo, uv a.hi, sv a.sl, sv a.sh, uv b.b.v, uv b.b.m, uv b.lo, uv b.hi, sv b.sl, sv b.sh] 118)).alloc (.cells #[.int .u64 0, .int .u64 0, .int .u64 0, .int .u64 0, .int .i64 0, .int .i64 0, .int .u64 0, .int .u64 0, .int .u64 0, .int .u64 0, .int .i64 0, .int .i64 0] 118)) (w.heap.size) 118 #[uv a.b.v, uv a.b.m, uv a.lo, uv a.hi, sv a.sl, sv a.sh, uv b.b.v, uv b.b.m, uv b.lo, uv b.hi, sv b.sl, sv b.sh] := ((Blk.new w 118 #[uv a.b.v, uv a.b.m, uv a.lo, uv a.hi, sv a.sl, sv a.sh, uv b.b.v, uv b.b.m, uv b.lo, uv b.hi, sv b.sl, sv b.sh])).alloc _
        have Br : Blk ((w.alloc (.cells #[uv a.b.v, uv a.b.m, uv a.lo, uv a.hi, sv a.sl, sv a.sh, uv b.b.v, uv b.b.m, uv b.lo, uv b.hi, sv b.sl, sv b.sh] 118)).alloc (.cells #[.int .u64 0, .int .u64 0, .int .u64 0, .int .u64 0, .int .i64 0, .int .i64 0, .int .u64 0, .int .u64 0, .int .u64 0, .int .u64 0, .int .i64 0, .int .i64 0] 118)) (w.heap.size + 1) 118 #[.int .u64 0, .int .u64 0, .int .u64 0, .int .u64 0, .int .i64 0, .int .i64 0, .int .u64 0, .int .u64 0, .int .u64 0, .int .u64 0, .int .i64 0, .int .i64 0] := (by simpa using Blk.new (w.alloc (.cells #[uv a.b.v, uv a.b.m, uv a.lo, uv a.hi, sv a.sl, sv a.sh, uv b.b.v, uv b.b.m, uv b.lo, uv b.hi, sv b.sl, sv b.sh] 118)) 118 #[.int .u64 0, .int .u64 0, .int .u64 0, .int .u64 0, .int .i64 0, .int .i64 0, .int .u64 0, .int .u64 0, .int .u64 0, .int .u64 0, .int .i64 0, .int .i64 0] : Blk _ (w.heap.size + 1) 118 #[.int .u64 0, .int .u64 0, .int .u64 0, .int .u64 0, .int .i64 0, .int .i64 0, .int .u64 0, .int .u64 0, .int .u64 0, .int .u64 0, .int .i64 0, .int .i64 0])
        have hB : Below w.heap.size w ((w.alloc (.cells #[uv a.b.v, uv a.b.m, uv a.lo, uv a.hi, sv a.sl, sv a.sh, uv b.b.v, uv b.b.m, uv b.lo, uv b.hi, sv b.sl, sv b.sh] 118)).alloc (.cells #[.int .u64 0, .int .u64 0, .int .u64 0, .int .u64 0, .int .i64 0, .int .i64 0, .int .u64 0, .int .u64 0, .int .u64 0, .int .u64 0, .int .i64 0, .int .i64 0] 118)) := (Bl_alloc (Bl_alloc (Bl_refl w) _) _)
        clear hgp
        clear gp
        clear hgr
        clear gr
        generalize ((w.alloc (.cells #[uv a.b.v, uv a.b.m, uv a.lo, uv a.hi, sv a.sl, sv a.sh, uv b.b.v, uv b.b.m, uv b.lo, uv b.hi, sv b.sl, sv b.sh] 118)).alloc (.cells #[.int .u64 0, .int .u64 0, .int .u64 0, .int .u64 0, .int .i64 0, .int .i64 0, .int .u64 0, .int .u64 0, .int .u64 0, .int .u64 0, .int .i64 0, .int .i64 0] 118)) = w1 at *
        obtain ⟨cp0, cp1, cp2, cp3, cp4, cp5, cp6, cp7, cp8, cp9, cp10, cp11⟩ := cells12 Bp
        have fp := Bp.frozen; have lp := Bp.lt
        obtain ⟨cr0, cr1, cr2, cr3, cr4, cr5, cr6, cr7, cr8, cr9, cr10, cr11⟩ := cells12 Br
        have fr := Br.frozen; have lr := Br.lt
        go_wp2_with fail
        refine (one_b _ _ q2 _).mono ?_
        rintro e w2 ⟨rfl, hb⟩
        clear cp0 cp1 cp2 cp3 cp4 cp5 cp6 cp7 cp8 cp9 cp10 cp11 fp lp
        clear cr0 cr1 cr2 cr3 cr4 cr5 cr6 cr7 cr8 cr9 cr10 cr11 fr lr
        replace Bp := (Bp).next hb
        replace Br := (Br).next hb
        replace hB : Below w.heap.size w w2 := by repeat (first | exact hB | (refine Bl_set ?_ (by first | omega | (simp; omega)) _) | apply Bl_alloc | (refine Bl_trans ?_ hb))
        clear hb
        obtain ⟨cp0, cp1, cp2, cp3, cp4, cp5, cp6, cp7, cp8, cp9, cp10, cp11⟩ := cells12 Bp
        have fp := Bp.frozen; have lp := Bp.lt
        obtain ⟨cr0, cr1, cr2, cr3, cr4, cr5, cr6, cr7, cr8, cr9, cr10, cr11⟩ := cells12 Br
        have fr := Br.frozen; have lr := Br.lt
        go_wp2_with fail
        refine (one_b _ _ q1 _).mono ?_
        rintro e w3 ⟨rfl, hb⟩
        clear cp0 cp1 cp2 cp3 cp4 cp5 cp6 cp7 cp8 cp9 cp10 cp11 fp lp
        clear cr0 cr1 cr2 cr3 cr4 cr5 cr6 cr7 cr8 cr9 cr10 cr11 fr lr
        replace Bp := (Bp).next hb
        replace Br := (Br).next hb
        replace hB : Below w.heap.size w w3 := by repeat (first | exact hB | (refine Bl_set ?_ (by first | omega | (simp; omega)) _) | apply Bl_alloc | (refine Bl_trans ?_ hb))
        clear hb
        obtain ⟨cp0, cp1, cp2, cp3, cp4, cp5, cp6, cp7, cp8, cp9, cp10, cp11⟩ := cells12 Bp
        have fp := Bp.frozen; have lp := Bp.lt
        obtain ⟨cr0, cr1, cr2, cr3, cr4, cr5, cr6, cr7, cr8, cr9, cr10, cr11⟩ := cells12 Br
        have fr := Br.frozen; have lr := Br.lt
        go_wp2_with fail
        refine (k_v _).mono ?_
        rintro e w4 ⟨rfl, hb⟩
        clear cp0 cp1 cp2 cp3 cp4 cp5 cp6 cp7 cp8 cp9 cp10 cp11 fp lp
        clear cr0 cr1 cr2 cr3 cr4 cr5 cr6 cr7 cr8 cr9 cr10 cr11 fr lr
        replace Bp := (Bp).next hb
        replace Br := (Br).next hb
        replace hB : Below w.heap.size w w4 := by repeat (first | exact hB | (refine Bl_set ?_ (by first | omega | (simp; omega)) _) | apply Bl_alloc | (refine Bl_trans ?_ hb))
        clear hb
        obtain ⟨cp0, cp1, cp2, cp3, cp4, cp5, cp6, cp7, cp8, cp9, cp10, cp11⟩ := cells12 Bp
        have fp := Bp.frozen; have lp := Bp.lt
        obtain ⟨cr0, cr1, cr2, cr3, cr4, cr5, cr6, cr7, cr8, cr9, cr10, cr11⟩ := cells12 Br
        have fr := Br.frozen; have lr := Br.lt
        go_upto_region 6 with fail
        clear cp0 cp1 cp2 cp3 cp4 cp5 cp6 cp7 cp8 cp9 cp10 cp11 fp lp
        clear cr0 cr1 cr2 cr3 cr4 cr5 cr6 cr7 cr8 cr9 cr10 cr11 fr lr
        replace Bp : Blk ((((((w4.setCell ⟨w.heap.size, 6, none⟩ (uv v.b.v)).setCell ⟨w.heap.size, 7, none⟩ (uv v.b.m)).setCell ⟨w.heap.size, 8, none⟩ (uv v.lo)).setCell ⟨w.heap.size, 9, none⟩ (uv v.hi)).setCell ⟨w.heap.size, 10, none⟩ (sv v.sl)).setCell ⟨w.heap.size, 11, none⟩ (sv v.sh)) (w.heap.size) 118 #[uv a.b.v, uv a.b.m, uv a.lo, uv a.hi, sv a.sl, sv a.sh, uv v.b.v, uv v.b.m, uv v.lo, uv v.hi, sv v.sl, sv v.sh] := ((((((Bp.set_ 6 _).set_ 7 _).set_ 8 _).set_ 9 _).set_ 10 _).set_ 11 _)
        replace Br : Blk ((((((w4.setCell ⟨w.heap.size, 6, none⟩ (uv v.b.v)).setCell ⟨w.heap.size, 7, none⟩ (uv v.b.m)).setCell ⟨w.heap.size, 8, none⟩ (uv v.lo)).setCell ⟨w.heap.size, 9, none⟩ (uv v.hi)).setCell ⟨w.heap.size, 10, none⟩ (sv v.sl)).setCell ⟨w.heap.size, 11, none⟩ (sv v.sh)) (w.heap.size + 1) 118 #[.int .u64 0, .int .u64 0, .int .u64 0, .int .u64 0, .int .i64 0, .int .i64 0, .int .u64 0, .int .u64 0, .int .u64 0, .int .u64 0, .int .i64 0, .int .i64 0] := ((((((Br.far (by first | (simp; done) | (simp; omega) | (simp [*]; done) | (simp only [ne_eq]; constructor <;> omega)) _).far (by first | (simp; done) | (simp; omega) | (simp [*]; done) | (simp only [ne_eq]; constructor <;> omega)) _).far (by first | (simp; done) | (simp; omega) | (simp [*]; done) | (simp only [ne_eq]; constructor <;> omega)) _).far (by first | (simp; done) | (simp; omega) | (simp [*]; done) | (simp only [ne_eq]; constructor <;> omega)) _).far (by first | (simp; done) | (simp; omega) | (simp [*]; done) | (simp only [ne_eq]; constructor <;> omega)) _).far (by first | (simp; done) | (simp; omega) | (simp [*]; done) | (simp only [ne_eq]; constructor <;> omega)) _)
        replace hB : Below w.heap.size w ((((((w4.setCell ⟨w.heap.size, 6, none⟩ (uv v.b.v)).setCell ⟨w.heap.size, 7, none⟩ (uv v.b.m)).setCell ⟨w.heap.size, 8, none⟩ (uv v.lo)).setCell ⟨w.heap.size, 9, none⟩ (uv v.hi)).setCell ⟨w.heap.size, 10, none⟩ (sv v.sl)).setCell ⟨w.heap.size, 11, none⟩ (sv v.sh)) := (Bl_set (Bl_set (Bl_set (Bl_set (Bl_set (Bl_set hB (by first | omega | (simp; done) | (simp; omega)) _) (by first | omega | (simp; done) | (simp; omega)) _) (by first | omega | (simp; done) | (simp; omega)) _) (by first | omega | (simp; done) | (simp; omega)) _) (by first | omega | (simp; done) | (simp; omega)) _) (by first | omega | (simp; done) | (simp; omega)) _)
        generalize ((((((w4.setCell ⟨w.heap.size, 6, none⟩ (uv v.b.v)).setCell ⟨w.heap.size, 7, none⟩ (uv v.b.m)).setCell ⟨w.heap.size, 8, none⟩ (uv v.lo)).setCell ⟨w.heap.size, 9, none⟩ (uv v.hi)).setCell ⟨w.heap.size, 10, none⟩ (sv v.sl)).setCell ⟨w.heap.size, 11, none⟩ (sv v.sh)) = w5 at *
        obtain ⟨cp0, cp1, cp2, cp3, cp4, cp5, cp6, cp7, cp8, cp9, cp10, cp11⟩ := cells12 Bp
        have fp := Bp.frozen; have lp := Bp.lt
        obtain ⟨cr0, cr1, cr2, cr3, cr4, cr5, cr6, cr7, cr8, cr9, cr10, cr11⟩ := cells12 Br
        have fr := Br.frozen; have lr := Br.lt
        go_wp2_with fail
        refine (k_R _).mono ?_
        rintro e w6 ⟨rfl, hb⟩
        clear cp0 cp1 cp2 cp3 cp4 cp5 cp6 cp7 cp8 cp9 cp10 cp11 fp lp
        clear cr0 cr1 cr2 cr3 cr4 cr5 cr6 cr7 cr8 cr9 cr10 cr11 fr lr
        replace Bp := (Bp).next hb
        replace Br := (Br).next hb
        replace hB : Below w.heap.size w w6 := by repeat (first | exact hB | (refine Bl_set ?_ (by first | omega | (simp; omega)) _) | apply Bl_alloc | (refine Bl_trans ?_ hb))
        clear hb
        obtain ⟨cp0, cp1, cp2, cp3, cp4, cp5, cp6, cp7, cp8, cp9, cp10, cp11⟩ := cells12 Bp
        have fp := Bp.frozen; have lp := Bp.lt
        obtain ⟨cr0, cr1, cr2, cr3, cr4, cr5, cr6, cr7, cr8, cr9, cr10, cr11⟩ := cells12 Br
        have fr := Br.frozen; have lr := Br.lt
        go_wp2
        exact bodyPost_ret (v := tv R) (by simp [results, Try.results80, go_sem, cr0, cr1, cr2, cr3, cr4, cr5, cr6, cr7, cr8, cr9, cr10, cr11, lr]) rfl ⟨by rw [hs]; first | done | rfl, by repeat (first | (with_reducible exact hB) | (with_reducible refine Bl_set ?_ (by first | omega | (simp; done) | (simp; omega)) _) | with_reducible apply Bl_alloc)⟩
  · cases t_u : (PlainBranch.without a b.lo).2
    · obtain ⟨u, e_u⟩ : ∃ z' : Rng, z' = (PlainBranch.without a b.lo).1 := ⟨_, rfl⟩
      have k_u : ∀ w : World, Calls Try.prog 85 #[rv a, uv b.lo] w fun e w' => e = .returned (.tuple #[rv u, .bool false]) ∧ Below w.heap.size w w' := fun w => by have := without_c a b.lo w; rwa [← e_u, t_u] at this
      have hs : PlainBranch.other (a, b) = (PlainBranch.zero, false) := by simp [PlainBranch.other, q2, t_u]
      clear e_u
      go_enter Try.func80, Try.ntmps80
      go_wp2_with fail
      obtain ⟨gp, hgp⟩ : ∃ g, g = w.heap.size := ⟨_, rfl⟩
      obtain ⟨gr, hgr⟩ : ∃ g, g = w.heap.size + 1 := ⟨_, rfl⟩
      have Bp : Blk ((w.alloc (.cells #[uv a.b.v, uv a.b.m, uv a.lo, uv a.hi, sv a.sl, sv a.sh, uv b.b.v, uv b.b.m, uv b.lo, uv b.hi, sv b.sl, sv b.sh] 118)).alloc (.cells #[.int .u64 0, .int .u64 0, .int .u64 0, .int .u64 0, .int .i64 0, .int .i64 0, .int .u64 0, .int .u64 0, .int .u64 0, .int .u64 0, .int .i64 0, .int .i64 0] 118)) (w.heap.size) 118 #[uv a.b.v, uv a.b.m, uv a.lo, uv a.hi, sv a.sl, sv a.sh, uv b.b.v, uv b.b.m, uv b.lo, uv b.hi, sv b.sl, sv b.sh] := ((Blk.new w 118 #[uv a.b.v, uv a.b.m, uv a.lo, uv a.hi, sv a.sl, sv a.sh, uv b.b.v, uv b.b.m, uv b.lo, uv b.hi, sv b.sl, sv b.sh])).alloc _
      have Br : Blk ((w.alloc (.cells #[uv a.b.v, uv a.b.m, uv a.lo, uv a.hi, sv a.sl, sv a.sh, uv b.b.v, uv b.b.m, uv b.lo, uv b.hi, sv b.sl, sv b.sh] 118)).alloc (.cells #[.int .u64 0, .int .u64 0, .int .u64 0, .int .u64 0, .int .i64 0, .int .i64 0, .int .u64 0, .int .u64 0, .int .u64 0, .int .u64 0, .int .i64 0, .int .i64 0] 118)) (w.heap.size + 1) 118 #[.int .u64 0, .int .u64 0, .int .u64 0, .int .u64 0, .int .i64 0, .int .i64 0, .int .u64 0, .int .u64 0, .int .u64 0, .int .u64 0, .int .i64 0, .int .i64 0] := (by simpa using Blk.new (w.alloc (.cells #[uv a.b.v, uv a.b.m, uv a.lo, uv a.hi, sv a.sl, sv a.sh, uv b.b.v, uv b.b.m, uv b.lo, uv b.hi, sv b.sl, sv b.sh] 118)) 118 #[.int .u64 0, .int .u64 0, .int .u64 0, .int .u64 0, .int .i64 0, .int .i64 0, .int .u64 0, .int .u64 0, .int .u64 0, .int .u64 0, .int .i64 0, .int .i64 0] : Blk _ (w.heap.size + 1) 118 #[.int .u64 0, .int .u64 0, .int .u64 0, .int .u64 0, .int .i64 0, .int .i64 0, .int .u64 0, .int .u64 0, .int .u64 0, .int .u64 0, .int .i64 0, .int .i64 0])
      have hB : Below w.heap.size w ((w.alloc (.cells #[uv a.b.v, uv a.b.m, uv a.lo, uv a.hi, sv a.sl, sv a.sh, uv b.b.v, uv b.b.m, uv b.lo, uv b.hi, sv b.sl, sv b.sh] 118)).alloc (.cells #[.int .u64 0, .int .u64 0, .int .u64 0, .int .u64 0, .int .i64 0, .int .i64 0, .int .u64 0, .int .u64 0, .int .u64 0, .int .u64 0, .int .i64 0, .int .i64 0] 118)) := (Bl_alloc (Bl_alloc (Bl_refl w) _) _)
      clear hgp
      clear gp
      clear hgr
      clear gr
      generalize ((w.alloc (.cells #[uv a.b.v, uv a.b.m, uv a.lo, uv a.hi, sv a.sl, sv a.sh, uv b.b.v, uv b.b.m, uv b.lo, uv b.hi, sv b.sl, sv b.sh] 118)).alloc (.cells #[.int .u64 0, .int .u64 0, .int .u64 0, .int .u64 0, .int .i64 0, .int .i64 0, .int .u64 0, .int .u64 0, .int .u64 0, .int .u64 0, .int .i64 0, .int .i64 0] 118)) = w1 at *
      obtain ⟨cp0, cp1, cp2, cp3, cp4, cp5, cp6, cp7, cp8, cp9, cp10, cp11⟩ := cells12 Bp
      have fp := Bp.frozen; have lp := Bp.lt
      obtain ⟨cr0, cr1, cr2, cr3, cr4, cr5, cr6, cr7, cr8, cr9, cr10, cr11⟩ := cells12 Br
      have fr := Br.frozen; have lr := Br.lt
      go_wp2_with fail
      refine (one_b _ _ q2 _).mono ?_
      rintro e w2 ⟨rfl, hb⟩
      clear cp0 cp1 cp2 cp3 cp4 cp5 cp6 cp7 cp8 cp9 cp10 cp11 fp lp
      clear cr0 cr1 cr2 cr3 cr4 cr5 cr6 cr7 cr8 cr9 cr10 cr11 fr lr
      replace Bp := (Bp).next hb
      replace Br := (Br).next hb
      replace hB : Below w.heap.size w w2 := by repeat (first | exact hB | (refine Bl_set ?_ (by first | omega | (simp; omega)) _) | apply Bl_alloc | (refine Bl_trans ?_ hb))
      clear hb
      obtain ⟨cp0, cp1, cp2, cp3, cp4, cp5, cp6, cp7, cp8, cp9, cp10, cp11⟩ := cells12 Bp
      have fp := Bp.frozen; have lp := Bp.lt
      obtain ⟨cr0, cr1, cr2, cr3, cr4, cr5, cr6, cr7, cr8, cr9, cr10, cr11⟩ := cells12 Br
      have fr := Br.frozen; have lr := Br.lt
      go_wp2_with fail
      refine (k_u _).mono ?_
      rintro e w3 ⟨rfl, hb⟩
      clear cp0 cp1 cp2 cp3 cp4 cp5 cp6 cp7 cp8 cp9 cp10 cp11 fp lp
      clear cr0 cr1 cr2 cr3 cr4 cr5 cr6 cr7 cr8 cr9 cr10 cr11 fr lr
      replace Bp := (Bp).next hb
      replace Br := (Br).next hb
      replace hB : Below w.heap.size w w3 := by repeat (first | exact hB | (refine Bl_set ?_ (by first | omega | (simp; omega)) _) | apply Bl_alloc | (refine Bl_trans ?_ hb))
      clear hb
      obtain ⟨cp0, cp1, cp2, cp3, cp4, cp5, cp6, cp7, cp8, cp9, cp10, cp11⟩ := cells12 Bp
      have fp := Bp.frozen; have lp := Bp.lt
      obtain ⟨cr0, cr1, cr2, cr3, cr4, cr5, cr6, cr7, cr8, cr9, cr10, cr11⟩ := cells12 Br
      have fr := Br.frozen; have lr := Br.lt
      go_wp2
      exact bodyPost_ret (v := .tuple #[pv2 PlainScalar.none_ PlainScalar.none_, .bool false]) (by simp [results, Try.results80, go_sem, cr0, cr1, cr2, cr3, cr4, cr5, cr6, cr7, cr8, cr9, cr10, cr11, lr, PlainScalar.none_, T, S]) rfl ⟨by rw [hs]; first | done | rfl, by repeat (first | (with_reducible exact hB) | (with_reducible refine Bl_set ?_ (by first | omega | (simp; done) | (simp; omega)) _) | with_reducible apply Bl_alloc)⟩
    · obtain ⟨u, e_u⟩ : ∃ z' : Rng, z' = (PlainBranch.without a b.lo).1 := ⟨_, rfl⟩
      have k_u : ∀ w : World, Calls Try.prog 85 #[rv a, uv b.lo] w fun e w' => e = .returned (.tuple #[rv u, .bool true]) ∧ Below w.heap.size w w' := fun w => by have := without_c a b.lo w; rwa [← e_u, t_u] at this
      cases q1 : PlainBranch.one u
      · obtain ⟨R, e_R⟩ : ∃ z' : PlainBranch.Pair × Bool, z' = PlainBranch.settleP (u, b) := ⟨_, rfl⟩
        have k_R : ∀ w : World, Calls Try.prog 71 #[pv2 u b] w fun e w' => e = .returned (tv R) ∧ Below w.heap.size w w' := fun w => by rw [e_R]; exact psettle_c u b w
        have hs : PlainBranch.other (a, b) = R := by rw [e_R]; simp [PlainBranch.other, PlainBranch.other2, q2, t_u, ← e_u, q1]
        clear e_R
        try clear e_u
        try clear e_v
        go_enter Try.func80, Try.ntmps80
        go_wp2_with fail
        obtain ⟨gp, hgp⟩ : ∃ g, g = w.heap.size := ⟨_, rfl⟩
        obtain ⟨gr, hgr⟩ : ∃ g, g = w.heap.size + 1 := ⟨_, rfl⟩
        have Bp : Blk ((w.alloc (.cells #[uv a.b.v, uv a.b.m, uv a.lo, uv a.hi, sv a.sl, sv a.sh, uv b.b.v, uv b.b.m, uv b.lo, uv b.hi, sv b.sl, sv b.sh] 118)).alloc (.cells #[.int .u64 0, .int .u64 0, .int .u64 0, .int .u64 0, .int .i64 0, .int .i64 0, .int .u64 0, .int .u64 0, .int .u64 0, .int .u64 0, .int .i64 0, .int .i64 0] 118)) (w.heap.size) 118 #[uv a.b.v, uv a.b.m, uv a.lo, uv a.hi, sv a.sl, sv a.sh, uv b.b.v, uv b.b.m, uv b.lo, uv b.hi, sv b.sl, sv b.sh] := ((Blk.new w 118 #[uv a.b.v, uv a.b.m, uv a.lo, uv a.hi, sv a.sl, sv a.sh, uv b.b.v, uv b.b.m, uv b.lo, uv b.hi, sv b.sl, sv b.sh])).alloc _
        have Br : Blk ((w.alloc (.cells #[uv a.b.v, uv a.b.m, uv a.lo, uv a.hi, sv a.sl, sv a.sh, uv b.b.v, uv b.b.m, uv b.lo, uv b.hi, sv b.sl, sv b.sh] 118)).alloc (.cells #[.int .u64 0, .int .u64 0, .int .u64 0, .int .u64 0, .int .i64 0, .int .i64 0, .int .u64 0, .int .u64 0, .int .u64 0, .int .u64 0, .int .i64 0, .int .i64 0] 118)) (w.heap.size + 1) 118 #[.int .u64 0, .int .u64 0, .int .u64 0, .int .u64 0, .int .i64 0, .int .i64 0, .int .u64 0, .int .u64 0, .int .u64 0, .int .u64 0, .int .i64 0, .int .i64 0] := (by simpa using Blk.new (w.alloc (.cells #[uv a.b.v, uv a.b.m, uv a.lo, uv a.hi, sv a.sl, sv a.sh, uv b.b.v, uv b.b.m, uv b.lo, uv b.hi, sv b.sl, sv b.sh] 118)) 118 #[.int .u64 0, .int .u64 0, .int .u64 0, .int .u64 0, .int .i64 0, .int .i64 0, .int .u64 0, .int .u64 0, .int .u64 0, .int .u64 0, .int .i64 0, .int .i64 0] : Blk _ (w.heap.size + 1) 118 #[.int .u64 0, .int .u64 0, .int .u64 0, .int .u64 0, .int .i64 0, .int .i64 0, .int .u64 0, .int .u64 0, .int .u64 0, .int .u64 0, .int .i64 0, .int .i64 0])
        have hB : Below w.heap.size w ((w.alloc (.cells #[uv a.b.v, uv a.b.m, uv a.lo, uv a.hi, sv a.sl, sv a.sh, uv b.b.v, uv b.b.m, uv b.lo, uv b.hi, sv b.sl, sv b.sh] 118)).alloc (.cells #[.int .u64 0, .int .u64 0, .int .u64 0, .int .u64 0, .int .i64 0, .int .i64 0, .int .u64 0, .int .u64 0, .int .u64 0, .int .u64 0, .int .i64 0, .int .i64 0] 118)) := (Bl_alloc (Bl_alloc (Bl_refl w) _) _)
        clear hgp
        clear gp
        clear hgr
        clear gr
        generalize ((w.alloc (.cells #[uv a.b.v, uv a.b.m, uv a.lo, uv a.hi, sv a.sl, sv a.sh, uv b.b.v, uv b.b.m, uv b.lo, uv b.hi, sv b.sl, sv b.sh] 118)).alloc (.cells #[.int .u64 0, .int .u64 0, .int .u64 0, .int .u64 0, .int .i64 0, .int .i64 0, .int .u64 0, .int .u64 0, .int .u64 0, .int .u64 0, .int .i64 0, .int .i64 0] 118)) = w1 at *
        obtain ⟨cp0, cp1, cp2, cp3, cp4, cp5, cp6, cp7, cp8, cp9, cp10, cp11⟩ := cells12 Bp
        have fp := Bp.frozen; have lp := Bp.lt
        obtain ⟨cr0, cr1, cr2, cr3, cr4, cr5, cr6, cr7, cr8, cr9, cr10, cr11⟩ := cells12 Br
        have fr := Br.frozen; have lr := Br.lt
        go_wp2_with fail
        refine (one_b _ _ q2 _).mono ?_
        rintro e w2 ⟨rfl, hb⟩
        clear cp0 cp1 cp2 cp3 cp4 cp5 cp6 cp7 cp8 cp9 cp10 cp11 fp lp
        clear cr0 cr1 cr2 cr3 cr4 cr5 cr6 cr7 cr8 cr9 cr10 cr11 fr lr
        replace Bp := (Bp).next hb
        replace Br := (Br).next hb
        replace hB : Below w.heap.size w w2 := by repeat (first | exact hB | (refine Bl_set ?_ (by first | omega | (simp; omega)) _) | apply Bl_alloc | (refine Bl_trans ?_ hb))
        clear hb
        obtain ⟨cp0, cp1, cp2, cp3, cp4, cp5, cp6, cp7, cp8, cp9, cp10, cp11⟩ := cells12 Bp
        have fp := Bp.frozen; have lp := Bp.lt
        obtain ⟨cr0, cr1, cr2, cr3, cr4, cr5, cr6, cr7, cr8, cr9, cr10, cr11⟩ := cells12 Br
        have fr := Br.frozen; have lr := Br.lt
        go_wp2_with fail
        refine (k_u _).mono ?_
        rintro e w3 ⟨rfl, hb⟩
        clear cp0 cp1 cp2 cp3 cp4 cp5 cp6 cp7 cp8 cp9 cp10 cp11 fp lp
        clear cr0 cr1 cr2 cr3 cr4 cr5 cr6 cr7 cr8 cr9 cr10 cr11 fr lr
        replace Bp := (Bp).next hb
        replace Br := (Br).next hb
        replace hB : Below w.heap.size w w3 := by repeat (first | exact hB | (refine Bl_set ?_ (by first | omega | (simp; omega)) _) | apply Bl_alloc | (refine Bl_trans ?_ hb))
        clear hb
        obtain ⟨cp0, cp1, cp2, cp3, cp4, cp5, cp6, cp7, cp8, cp9, cp10, cp11⟩ := cells12 Bp
        have fp := Bp.frozen; have lp := Bp.lt
        obtain ⟨cr0, cr1, cr2, cr3, cr4, cr5, cr6, cr7, cr8, cr9, cr10, cr11⟩ := cells12 Br
        have fr := Br.frozen; have lr := Br.lt
        go_upto_region 4 with fail
        clear cp0 cp1 cp2 cp3 cp4 cp5 cp6 cp7 cp8 cp9 cp10 cp11 fp lp
        clear cr0 cr1 cr2 cr3 cr4 cr5 cr6 cr7 cr8 cr9 cr10 cr11 fr lr
        replace Bp : Blk ((((((w3.setCell ⟨w.heap.size, 0, none⟩ (uv u.b.v)).setCell ⟨w.heap.size, 1, none⟩ (uv u.b.m)).setCell ⟨w.heap.size, 2, none⟩ (uv u.lo)).setCell ⟨w.heap.size, 3, none⟩ (uv u.hi)).setCell ⟨w.heap.size, 4, none⟩ (sv u.sl)).setCell ⟨w.heap.size, 5, none⟩ (sv u.sh)) (w.heap.size) 118 #[uv u.b.v, uv u.b.m, uv u.lo, uv u.hi, sv u.sl, sv u.sh, uv b.b.v, uv b.b.m, uv b.lo, uv b.hi, sv b.sl, sv b.sh] := ((((((Bp.set_ 0 _).set_ 1 _).set_ 2 _).set_ 3 _).set_ 4 _).set_ 5 _)
        replace Br : Blk ((((((w3.setCell ⟨w.heap.size, 0, none⟩ (uv u.b.v)).setCell ⟨w.heap.size, 1, none⟩ (uv u.b.m)).setCell ⟨w.heap.size, 2, none⟩ (uv u.lo)).setCell ⟨w.heap.size, 3, none⟩ (uv u.hi)).setCell ⟨w.heap.size, 4, none⟩ (sv u.sl)).setCell ⟨w.heap.size, 5, none⟩ (sv u.sh)) (w.heap.size + 1) 118 #[.int .u64 0, .int .u64 0, .int .u64 0, .int .u64 0, .int .i64 0, .int .i64 0, .int .u64 0, .int .u64 0, .int .u64 0, .int .u64 0, .int .i64 0, .int .i64 0] := ((((((Br.far (by first | (simp; done) | (simp; omega) | (simp [*]; done) | (simp only [ne_eq]; constructor <;> omega)) _).far (by first | (simp; done) | (simp; omega) | (simp [*]; done) | (simp only [ne_eq]; constructor <;> omega)) _).far (by first | (simp; done) | (simp; omega) | (simp [*]; done) | (simp only [ne_eq]; constructor <;> omega)) _).far (by first | (simp; done) | (simp; omega) | (simp [*]; done) | (simp only [ne_eq]; constructor <;> omega)) _).far (by first | (simp; done) | (simp; omega) | (simp [*]; done) | (simp only [ne_eq]; constructor <;> omega)) _).far (by first | (simp; done) | (simp; omega) | (simp [*]; done) | (simp only [ne_eq]; constructor <;> omega)) _)
        replace hB : Below w.heap.size w ((((((w3.setCell ⟨w.heap.size, 0, none⟩ (uv u.b.v)).setCell ⟨w.heap.size, 1, none⟩ (uv u.b.m)).setCell ⟨w.heap.size, 2, none⟩ (uv u.lo)).setCell ⟨w.heap.size, 3, none⟩ (uv u.hi)).setCell ⟨w.heap.size, 4, none⟩ (sv u.sl)).setCell ⟨w.heap.size, 5, none⟩ (sv u.sh)) := (Bl_set (Bl_set (Bl_set (Bl_set (Bl_set (Bl_set hB (by first | omega | (simp; done) | (simp; omega)) _) (by first | omega | (simp; done) | (simp; omega)) _) (by first | omega | (simp; done) | (simp; omega)) _) (by first | omega | (simp; done) | (simp; omega)) _) (by first | omega | (simp; done) | (simp; omega)) _) (by first | omega | (simp; done) | (simp; omega)) _)
        generalize ((((((w3.setCell ⟨w.heap.size, 0, none⟩ (uv u.b.v)).setCell ⟨w.heap.size, 1, none⟩ (uv u.b.m)).setCell ⟨w.heap.size, 2, none⟩ (uv u.lo)).setCell ⟨w.heap.size, 3, none⟩ (uv u.hi)).setCell ⟨w.heap.size, 4, none⟩ (sv u.sl)).setCell ⟨w.heap.size, 5, none⟩ (sv u.sh)) = w4 at *
        obtain ⟨cp0, cp1, cp2, cp3, cp4, cp5, cp6, cp7, cp8, cp9, cp10, cp11⟩ := cells12 Bp
        have fp := Bp.frozen; have lp := Bp.lt
        obtain ⟨cr0, cr1, cr2, cr3, cr4, cr5, cr6, cr7, cr8, cr9, cr10, cr11⟩ := cells12 Br
        have fr := Br.frozen; have lr := Br.lt
        go_wp2_with fail
        refine (one_b _ _ q1 _).mono ?_
        rintro e w5 ⟨rfl, hb⟩
        clear cp0 cp1 cp2 cp3 cp4 cp5 cp6 cp7 cp8 cp9 cp10 cp11 fp lp
        clear cr0 cr1 cr2 cr3 cr4 cr5 cr6 cr7 cr8 cr9 cr10 cr11 fr lr
        replace Bp := (Bp).next hb
        replace Br := (Br).next hb
        replace hB : Below w.heap.size w w5 := by repeat (first | exact hB | (refine Bl_set ?_ (by first | omega | (simp; omega)) _) | apply Bl_alloc | (refine Bl_trans ?_ hb))
        clear hb
        obtain ⟨cp0, cp1, cp2, cp3, cp4, cp5, cp6, cp7, cp8, cp9, cp10, cp11⟩ := cells12 Bp
        have fp := Bp.frozen; have lp := Bp.lt
        obtain ⟨cr0, cr1, cr2, cr3, cr4, cr5, cr6, cr7, cr8, cr9, cr10, cr11⟩ := cells12 Br
        have fr := Br.frozen; have lr := Br.lt
        go_wp2_with fail
        refine (k_R _).mono ?_
        rintro e w6 ⟨rfl, hb⟩
        clear cp0 cp1 cp2 cp3 cp4 cp5 cp6 cp7 cp8 cp9 cp10 cp11 fp lp
        clear cr0 cr1 cr2 cr3 cr4 cr5 cr6 cr7 cr8 cr9 cr10 cr11 fr lr
        replace Bp := (Bp).next hb
        replace Br := (Br).next hb
        replace hB : Below w.heap.size w w6 := by repeat (first | exact hB | (refine Bl_set ?_ (by first | omega | (simp; omega)) _) | apply Bl_alloc | (refine Bl_trans ?_ hb))
        clear hb
        obtain ⟨cp0, cp1, cp2, cp3, cp4, cp5, cp6, cp7, cp8, cp9, cp10, cp11⟩ := cells12 Bp
        have fp := Bp.frozen; have lp := Bp.lt
        obtain ⟨cr0, cr1, cr2, cr3, cr4, cr5, cr6, cr7, cr8, cr9, cr10, cr11⟩ := cells12 Br
        have fr := Br.frozen; have lr := Br.lt
        go_wp2
        exact bodyPost_ret (v := tv R) (by simp [results, Try.results80, go_sem, cr0, cr1, cr2, cr3, cr4, cr5, cr6, cr7, cr8, cr9, cr10, cr11, lr]) rfl ⟨by rw [hs]; first | done | rfl, by repeat (first | (with_reducible exact hB) | (with_reducible refine Bl_set ?_ (by first | omega | (simp; done) | (simp; omega)) _) | with_reducible apply Bl_alloc)⟩
      · cases t_v : (PlainBranch.without b u.lo).2
        · obtain ⟨v, e_v⟩ : ∃ z' : Rng, z' = (PlainBranch.without b u.lo).1 := ⟨_, rfl⟩
          have k_v : ∀ w : World, Calls Try.prog 85 #[rv b, uv u.lo] w fun e w' => e = .returned (.tuple #[rv v, .bool false]) ∧ Below w.heap.size w w' := fun w => by have := without_c b u.lo w; rwa [← e_v, t_v] at this
          have hs : PlainBranch.other (a, b) = (PlainBranch.zero, false) := by simp [PlainBranch.other, PlainBranch.other2, q2, t_u, ← e_u, q1, t_v]
          try clear e_u
          try clear e_v
          go_enter Try.func80, Try.ntmps80
          go_wp2_with fail
          obtain ⟨gp, hgp⟩ : ∃ g, g = w.heap.size := ⟨_, rfl⟩
          obtain ⟨gr, hgr⟩ : ∃ g, g = w.heap.size + 1 := ⟨_, rfl⟩
          have Bp : Blk ((w.alloc (.cells #[uv a.b.v, uv a.b.m, uv a.lo, uv a.hi, sv a.sl, sv a.sh, uv b.b.v, uv b.b.m, uv b.lo, uv b.hi, sv b.sl, sv b.sh] 118)).alloc (.cells #[.int .u64 0, .int .u64 0, .int .u64 0, .int .u64 0, .int .i64 0, .int .i64 0, .int .u64 0, .int .u64 0, .int .u64 0, .int .u64 0, .int .i64 0, .int .i64 0] 118)) (w.heap.size) 118 #[uv a.b.v, uv a.b.m, uv a.lo, uv a.hi, sv a.sl, sv a.sh, uv b.b.v, uv b.b.m, uv b.lo, uv b.hi, sv b.sl, sv b.sh] := ((Blk.new w 118 #[uv a.b.v, uv a.b.m, uv a.lo, uv a.hi, sv a.sl, sv a.sh, uv b.b.v, uv b.b.m, uv b.lo, uv b.hi, sv b.sl, sv b.sh])).alloc _
          have Br : Blk ((w.alloc (.cells #[uv a.b.v, uv a.b.m, uv a.lo, uv a.hi, sv a.sl, sv a.sh, uv b.b.v, uv b.b.m, uv b.lo, uv b.hi, sv b.sl, sv b.sh] 118)).alloc (.cells #[.int .u64 0, .int .u64 0, .int .u64 0, .int .u64 0, .int .i64 0, .int .i64 0, .int .u64 0, .int .u64 0, .int .u64 0, .int .u64 0, .int .i64 0, .int .i64 0] 118)) (w.heap.size + 1) 118 #[.int .u64 0, .int .u64 0, .int .u64 0, .int .u64 0, .int .i64 0, .int .i64 0, .int .u64 0, .int .u64 0, .int .u64 0, .int .u64 0, .int .i64 0, .int .i64 0] := (by simpa using Blk.new (w.alloc (.cells #[uv a.b.v, uv a.b.m, uv a.lo, uv a.hi, sv a.sl, sv a.sh, uv b.b.v, uv b.b.m, uv b.lo, uv b.hi, sv b.sl, sv b.sh] 118)) 118 #[.int .u64 0, .int .u64 0, .int .u64 0, .int .u64 0, .int .i64 0, .int .i64 0, .int .u64 0, .int .u64 0, .int .u64 0, .int .u64 0, .int .i64 0, .int .i64 0] : Blk _ (w.heap.size + 1) 118 #[.int .u64 0, .int .u64 0, .int .u64 0, .int .u64 0, .int .i64 0, .int .i64 0, .int .u64 0, .int .u64 0, .int .u64 0, .int .u64 0, .int .i64 0, .int .i64 0])
          have hB : Below w.heap.size w ((w.alloc (.cells #[uv a.b.v, uv a.b.m, uv a.lo, uv a.hi, sv a.sl, sv a.sh, uv b.b.v, uv b.b.m, uv b.lo, uv b.hi, sv b.sl, sv b.sh] 118)).alloc (.cells #[.int .u64 0, .int .u64 0, .int .u64 0, .int .u64 0, .int .i64 0, .int .i64 0, .int .u64 0, .int .u64 0, .int .u64 0, .int .u64 0, .int .i64 0, .int .i64 0] 118)) := (Bl_alloc (Bl_alloc (Bl_refl w) _) _)
          clear hgp
          clear gp
          clear hgr
          clear gr
          generalize ((w.alloc (.cells #[uv a.b.v, uv a.b.m, uv a.lo, uv a.hi, sv a.sl, sv a.sh, uv b.b.v, uv b.b.m, uv b.lo, uv b.hi, sv b.sl, sv b.sh] 118)).alloc (.cells #[.int .u64 0, .int .u64 0, .int .u64 0, .int .u64 0, .int .i64 0, .int .i64 0, .int .u64 0, .int .u64 0, .int .u64 0, .int .u64 0, .int .i64 0, .int .i64 0] 118)) = w1 at *
          obtain ⟨cp0, cp1, cp2, cp3, cp4, cp5, cp6, cp7, cp8, cp9, cp10, cp11⟩ := cells12 Bp
          have fp := Bp.frozen; have lp := Bp.lt
          obtain ⟨cr0, cr1, cr2, cr3, cr4, cr5, cr6, cr7, cr8, cr9, cr10, cr11⟩ := cells12 Br
          have fr := Br.frozen; have lr := Br.lt
          go_wp2_with fail
          refine (one_b _ _ q2 _).mono ?_
          rintro e w2 ⟨rfl, hb⟩
          clear cp0 cp1 cp2 cp3 cp4 cp5 cp6 cp7 cp8 cp9 cp10 cp11 fp lp
          clear cr0 cr1 cr2 cr3 cr4 cr5 cr6 cr7 cr8 cr9 cr10 cr11 fr lr
          replace Bp := (Bp).next hb
          replace Br := (Br).next hb
          replace hB : Below w.heap.size w w2 := by repeat (first | exact hB | (refine Bl_set ?_ (by first | omega | (simp; omega)) _) | apply Bl_alloc | (refine Bl_trans ?_ hb))
          clear hb
          obtain ⟨cp0, cp1, cp2, cp3, cp4, cp5, cp6, cp7, cp8, cp9, cp10, cp11⟩ := cells12 Bp
          have fp := Bp.frozen; have lp := Bp.lt
          obtain ⟨cr0, cr1, cr2, cr3, cr4, cr5, cr6, cr7, cr8, cr9, cr10, cr11⟩ := cells12 Br
          have fr := Br.frozen; have lr := Br.lt
          go_wp2_with fail
          refine (k_u _).mono ?_
          rintro e w3 ⟨rfl, hb⟩
          clear cp0 cp1 cp2 cp3 cp4 cp5 cp6 cp7 cp8 cp9 cp10 cp11 fp lp
          clear cr0 cr1 cr2 cr3 cr4 cr5 cr6 cr7 cr8 cr9 cr10 cr11 fr lr
          replace Bp := (Bp).next hb
          replace Br := (Br).next hb
          replace hB : Below w.heap.size w w3 := by repeat (first | exact hB | (refine Bl_set ?_ (by first | omega | (simp; omega)) _) | apply Bl_alloc | (refine Bl_trans ?_ hb))
          clear hb
          obtain ⟨cp0, cp1, cp2, cp3, cp4, cp5, cp6, cp7, cp8, cp9, cp10, cp11⟩ := cells12 Bp
          have fp := Bp.frozen; have lp := Bp.lt
          obtain ⟨cr0, cr1, cr2, cr3, cr4, cr5, cr6, cr7, cr8, cr9, cr10, cr11⟩ := cells12 Br
          have fr := Br.frozen; have lr := Br.lt
          go_upto_region 4 with fail
          clear cp0 cp1 cp2 cp3 cp4 cp5 cp6 cp7 cp8 cp9 cp10 cp11 fp lp
          clear cr0 cr1 cr2 cr3 cr4 cr5 cr6 cr7 cr8 cr9 cr10 cr11 fr lr
          replace Bp : Blk ((((((w3.setCell ⟨w.heap.size, 0, none⟩ (uv u.b.v)).setCell ⟨w.heap.size, 1, none⟩ (uv u.b.m)).setCell ⟨w.heap.size, 2, none⟩ (uv u.lo)).setCell ⟨w.heap.size, 3, none⟩ (uv u.hi)).setCell ⟨w.heap.size, 4, none⟩ (sv u.sl)).setCell ⟨w.heap.size, 5, none⟩ (sv u.sh)) (w.heap.size) 118 #[uv u.b.v, uv u.b.m, uv u.lo, uv u.hi, sv u.sl, sv u.sh, uv b.b.v, uv b.b.m, uv b.lo, uv b.hi, sv b.sl, sv b.sh] := ((((((Bp.set_ 0 _).set_ 1 _).set_ 2 _).set_ 3 _).set_ 4 _).set_ 5 _)
          replace Br : Blk ((((((w3.setCell ⟨w.heap.size, 0, none⟩ (uv u.b.v)).setCell ⟨w.heap.size, 1, none⟩ (uv u.b.m)).setCell ⟨w.heap.size, 2, none⟩ (uv u.lo)).setCell ⟨w.heap.size, 3, none⟩ (uv u.hi)).setCell ⟨w.heap.size, 4, none⟩ (sv u.sl)).setCell ⟨w.heap.size, 5, none⟩ (sv u.sh)) (w.heap.size + 1) 118 #[.int .u64 0, .int .u64 0, .int .u64 0, .int .u64 0, .int .i64 0, .int .i64 0, .int .u64 0, .int .u64 0, .int .u64 0, .int .u64 0, .int .i64 0, .int .i64 0] := ((((((Br.far (by first | (simp; done) | (simp; omega) | (simp [*]; done) | (simp only [ne_eq]; constructor <;> omega)) _).far (by first | (simp; done) | (simp; omega) | (simp [*]; done) | (simp only [ne_eq]; constructor <;> omega)) _).far (by first | (simp; done) | (simp; omega) | (simp [*]; done) | (simp only [ne_eq]; constructor <;> omega)) _).far (by first | (simp; done) | (simp; omega) | (simp [*]; done) | (simp only [ne_eq]; constructor <;> omega)) _).far (by first | (simp; done) | (simp; omega) | (simp [*]; done) | (simp only [ne_eq]; constructor <;> omega)) _).far (by first | (simp; done) | (simp; omega) | (simp [*]; done) | (simp only [ne_eq]; constructor <;> omega)) _)
          replace hB : Below w.heap.size w ((((((w3.setCell ⟨w.heap.size, 0, none⟩ (uv u.b.v)).setCell ⟨w.heap.size, 1, none⟩ (uv u.b.m)).setCell ⟨w.heap.size, 2, none⟩ (uv u.lo)).setCell ⟨w.heap.size, 3, none⟩ (uv u.hi)).setCell ⟨w.heap.size, 4, none⟩ (sv u.sl)).setCell ⟨w.heap.size, 5, none⟩ (sv u.sh)) := (Bl_set (Bl_set (Bl_set (Bl_set (Bl_set (Bl_set hB (by first | omega | (simp; done) | (simp; omega)) _) (by first | omega | (simp; done) | (simp; omega)) _) (by first | omega | (simp; done) | (simp; omega)) _) (by first | omega | (simp; done) | (simp; omega)) _) (by first | omega | (simp; done) | (simp; omega)) _) (by first | omega | (simp; done) | (simp; omega)) _)
          generalize ((((((w3.setCell ⟨w.heap.size, 0, none⟩ (uv u.b.v)).setCell ⟨w.heap.size, 1, none⟩ (uv u.b.m)).setCell ⟨w.heap.size, 2, none⟩ (uv u.lo)).setCell ⟨w.heap.size, 3, none⟩ (uv u.hi)).setCell ⟨w.heap.size, 4, none⟩ (sv u.sl)).setCell ⟨w.heap.size, 5, none⟩ (sv u.sh)) = w4 at *
          obtain ⟨cp0, cp1, cp2, cp3, cp4, cp5, cp6, cp7, cp8, cp9, cp10, cp11⟩ := cells12 Bp
          have fp := Bp.frozen; have lp := Bp.lt
          obtain ⟨cr0, cr1, cr2, cr3, cr4, cr5, cr6, cr7, cr8, cr9, cr10, cr11⟩ := cells12 Br
          have fr := Br.frozen; have lr := Br.lt
          go_wp2_with fail
          refine (one_b _ _ q1 _).mono ?_
          rintro e w5 ⟨rfl, hb⟩
          clear cp0 cp1 cp2 cp3 cp4 cp5 cp6 cp7 cp8 cp9 cp10 cp11 fp lp
          clear cr0 cr1 cr2 cr3 cr4 cr5 cr6 cr7 cr8 cr9 cr10 cr11 fr lr
          replace Bp := (Bp).next hb
          replace Br := (Br).next hb
          replace hB : Below w.heap.size w w5 := by repeat (first | exact hB | (refine Bl_set ?_ (by first | omega | (simp; omega)) _) | apply Bl_alloc | (refine Bl_trans ?_ hb))
          clear hb
          obtain ⟨cp0, cp1, cp2, cp3, cp4, cp5, cp6, cp7, cp8, cp9, cp10, cp11⟩ := cells12 Bp
          have fp := Bp.frozen; have lp := Bp.lt
          obtain ⟨cr0, cr1, cr2, cr3, cr4, cr5, cr6, cr7, cr8, cr9, cr10, cr11⟩ := cells12 Br
          have fr := Br.frozen; have lr := Br.lt
          go_wp2_with fail
          refine (k_v _).mono ?_
          rintro e w6 ⟨rfl, hb⟩
          clear cp0 cp1 cp2 cp3 cp4 cp5 cp6 cp7 cp8 cp9 cp10 cp11 fp lp
          clear cr0 cr1 cr2 cr3 cr4 cr5 cr6 cr7 cr8 cr9 cr10 cr11 fr lr
          replace Bp := (Bp).next hb
          replace Br := (Br).next hb
          replace hB : Below w.heap.size w w6 := by repeat (first | exact hB | (refine Bl_set ?_ (by first | omega | (simp; omega)) _) | apply Bl_alloc | (refine Bl_trans ?_ hb))
          clear hb
          obtain ⟨cp0, cp1, cp2, cp3, cp4, cp5, cp6, cp7, cp8, cp9, cp10, cp11⟩ := cells12 Bp
          have fp := Bp.frozen; have lp := Bp.lt
          obtain ⟨cr0, cr1, cr2, cr3, cr4, cr5, cr6, cr7, cr8, cr9, cr10, cr11⟩ := cells12 Br
          have fr := Br.frozen; have lr := Br.lt
          go_wp2
          exact bodyPost_ret (v := .tuple #[pv2 PlainScalar.none_ PlainScalar.none_, .bool false]) (by simp [results, Try.results80, go_sem, cr0, cr1, cr2, cr3, cr4, cr5, cr6, cr7, cr8, cr9, cr10, cr11, lr, PlainScalar.none_, T, S]) rfl ⟨by rw [hs]; first | done | rfl, by repeat (first | (with_reducible exact hB) | (with_reducible refine Bl_set ?_ (by first | omega | (simp; done) | (simp; omega)) _) | with_reducible apply Bl_alloc)⟩
        · obtain ⟨v, e_v⟩ : ∃ z' : Rng, z' = (PlainBranch.without b u.lo).1 := ⟨_, rfl⟩
          have k_v : ∀ w : World, Calls Try.prog 85 #[rv b, uv u.lo] w fun e w' => e = .returned (.tuple #[rv v, .bool true]) ∧ Below w.heap.size w w' := fun w => by have := without_c b u.lo w; rwa [← e_v, t_v] at this
          obtain ⟨R, e_R⟩ : ∃ z' : PlainBranch.Pair × Bool, z' = PlainBranch.settleP (u, v) := ⟨_, rfl⟩
          have k_R : ∀ w : World, Calls Try.prog 71 #[pv2 u v] w fun e w' => e = .returned (tv R) ∧ Below w.heap.size w w' := fun w => by rw [e_R]; exact psettle_c u v w
          have hs : PlainBranch.other (a, b) = R := by rw [e_R, e_v]; simp [PlainBranch.other, PlainBranch.other2, q2, t_u, ← e_u, q1, t_v]
          clear e_R
          try clear e_u
          try clear e_v
          go_enter Try.func80, Try.ntmps80
          go_wp2_with fail
          obtain ⟨gp, hgp⟩ : ∃ g, g = w.heap.size := ⟨_, rfl⟩
          obtain ⟨gr, hgr⟩ : ∃ g, g = w.heap.size + 1 := ⟨_, rfl⟩
          have Bp : Blk ((w.alloc (.cells #[uv a.b.v, uv a.b.m, uv a.lo, uv a.hi, sv a.sl, sv a.sh, uv b.b.v, uv b.b.m, uv b.lo, uv b.hi, sv b.sl, sv b.sh] 118)).alloc (.cells #[.int .u64 0, .int .u64 0, .int .u64 0, .int .u64 0, .int .i64 0, .int .i64 0, .int .u64 0, .int .u64 0, .int .u64 0, .int .u64 0, .int .i64 0, .int .i64 0] 118)) (w.heap.size) 118 #[uv a.b.v, uv a.b.m, uv a.lo, uv a.hi, sv a.sl, sv a.sh, uv b.b.v, uv b.b.m, uv b.lo, uv b.hi, sv b.sl, sv b.sh] := ((Blk.new w 118 #[uv a.b.v, uv a.b.m, uv a.lo, uv a.hi, sv a.sl, sv a.sh, uv b.b.v, uv b.b.m, uv b.lo, uv b.hi, sv b.sl, sv b.sh])).alloc _
          have Br : Blk ((w.alloc (.cells #[uv a.b.v, uv a.b.m, uv a.lo, uv a.hi, sv a.sl, sv a.sh, uv b.b.v, uv b.b.m, uv b.lo, uv b.hi, sv b.sl, sv b.sh] 118)).alloc (.cells #[.int .u64 0, .int .u64 0, .int .u64 0, .int .u64 0, .int .i64 0, .int .i64 0, .int .u64 0, .int .u64 0, .int .u64 0, .int .u64 0, .int .i64 0, .int .i64 0] 118)) (w.heap.size + 1) 118 #[.int .u64 0, .int .u64 0, .int .u64 0, .int .u64 0, .int .i64 0, .int .i64 0, .int .u64 0, .int .u64 0, .int .u64 0, .int .u64 0, .int .i64 0, .int .i64 0] := (by simpa using Blk.new (w.alloc (.cells #[uv a.b.v, uv a.b.m, uv a.lo, uv a.hi, sv a.sl, sv a.sh, uv b.b.v, uv b.b.m, uv b.lo, uv b.hi, sv b.sl, sv b.sh] 118)) 118 #[.int .u64 0, .int .u64 0, .int .u64 0, .int .u64 0, .int .i64 0, .int .i64 0, .int .u64 0, .int .u64 0, .int .u64 0, .int .u64 0, .int .i64 0, .int .i64 0] : Blk _ (w.heap.size + 1) 118 #[.int .u64 0, .int .u64 0, .int .u64 0, .int .u64 0, .int .i64 0, .int .i64 0, .int .u64 0, .int .u64 0, .int .u64 0, .int .u64 0, .int .i64 0, .int .i64 0])
          have hB : Below w.heap.size w ((w.alloc (.cells #[uv a.b.v, uv a.b.m, uv a.lo, uv a.hi, sv a.sl, sv a.sh, uv b.b.v, uv b.b.m, uv b.lo, uv b.hi, sv b.sl, sv b.sh] 118)).alloc (.cells #[.int .u64 0, .int .u64 0, .int .u64 0, .int .u64 0, .int .i64 0, .int .i64 0, .int .u64 0, .int .u64 0, .int .u64 0, .int .u64 0, .int .i64 0, .int .i64 0] 118)) := (Bl_alloc (Bl_alloc (Bl_refl w) _) _)
          clear hgp
          clear gp
          clear hgr
          clear gr
          generalize ((w.alloc (.cells #[uv a.b.v, uv a.b.m, uv a.lo, uv a.hi, sv a.sl, sv a.sh, uv b.b.v, uv b.b.m, uv b.lo, uv b.hi, sv b.sl, sv b.sh] 118)).alloc (.cells #[.int .u64 0, .int .u64 0, .int .u64 0, .int .u64 0, .int .i64 0, .int .i64 0, .int .u64 0, .int .u64 0, .int .u64 0, .int .u64 0, .int .i64 0, .int .i64 0] 118)) = w1 at *
          obtain ⟨cp0, cp1, cp2, cp3, cp4, cp5, cp6, cp7, cp8, cp9, cp10, cp11⟩ := cells12 Bp
          have fp := Bp.frozen; have lp := Bp.lt
          obtain ⟨cr0, cr1, cr2, cr3, cr4, cr5, cr6, cr7, cr8, cr9, cr10, cr11⟩ := cells12 Br
          have fr := Br.frozen; have lr := Br.lt
          go_wp2_with fail
          refine (one_b _ _ q2 _).mono ?_
          rintro e w2 ⟨rfl, hb⟩
          clear cp0 cp1 cp2 cp3 cp4 cp5 cp6 cp7 cp8 cp9 cp10 cp11 fp lp
          clear cr0 cr1 cr2 cr3 cr4 cr5 cr6 cr7 cr8 cr9 cr10 cr11 fr lr
          replace Bp := (Bp).next hb
          replace Br := (Br).next hb
          replace hB : Below w.heap.size w w2 := by repeat (first | exact hB | (refine Bl_set ?_ (by first | omega | (simp; omega)) _) | apply Bl_alloc | (refine Bl_trans ?_ hb))
          clear hb
          obtain ⟨cp0, cp1, cp2, cp3, cp4, cp5, cp6, cp7, cp8, cp9, cp10, cp11⟩ := cells12 Bp
          have fp := Bp.frozen; have lp := Bp.lt
          obtain ⟨cr0, cr1, cr2, cr3, cr4, cr5, cr6, cr7, cr8, cr9, cr10, cr11⟩ := cells12 Br
          have fr := Br.frozen; have lr := Br.lt
          go_wp2_with fail
          refine (k_u _).mono ?_
          rintro e w3 ⟨rfl, hb⟩
          clear cp0 cp1 cp2 cp3 cp4 cp5 cp6 cp7 cp8 cp9 cp10 cp11 fp lp
          clear cr0 cr1 cr2 cr3 cr4 cr5 cr6 cr7 cr8 cr9 cr10 cr11 fr lr
          replace Bp := (Bp).next hb
          replace Br := (Br).next hb
          replace hB : Below w.heap.size w w3 := by repeat (first | exact hB | (refine Bl_set ?_ (by first | omega | (simp; omega)) _) | apply Bl_alloc | (refine Bl_trans ?_ hb))
          clear hb
          obtain ⟨cp0, cp1, cp2, cp3, cp4, cp5, cp6, cp7, cp8, cp9, cp10, cp11⟩ := cells12 Bp
          have fp := Bp.frozen; have lp := Bp.lt
          obtain ⟨cr0, cr1, cr2, cr3, cr4, cr5, cr6, cr7, cr8, cr9, cr10, cr11⟩ := cells12 Br
          have fr := Br.frozen; have lr := Br.lt
          go_upto_region 4 with fail
          clear cp0 cp1 cp2 cp3 cp4 cp5 cp6 cp7 cp8 cp9 cp10 cp11 fp lp
          clear cr0 cr1 cr2 cr3 cr4 cr5 cr6 cr7 cr8 cr9 cr10 cr11 fr lr
          replace Bp : Blk ((((((w3.setCell ⟨w.heap.size, 0, none⟩ (uv u.b.v)).setCell ⟨w.heap.size, 1, none⟩ (uv u.b.m)).setCell ⟨w.heap.size, 2, none⟩ (uv u.lo)).setCell ⟨w.heap.size, 3, none⟩ (uv u.hi)).setCell ⟨w.heap.size, 4, none⟩ (sv u.sl)).setCell ⟨w.heap.size, 5, none⟩ (sv u.sh)) (w.heap.size) 118 #[uv u.b.v, uv u.b.m, uv u.lo, uv u.hi, sv u.sl, sv u.sh, uv b.b.v, uv b.b.m, uv b.lo, uv b.hi, sv b.sl, sv b.sh] := ((((((Bp.set_ 0 _).set_ 1 _).set_ 2 _).set_ 3 _).set_ 4 _).set_ 5 _)
          replace Br : Blk ((((((w3.setCell ⟨w.heap.size, 0, none⟩ (uv u.b.v)).setCell ⟨w.heap.size, 1, none⟩ (uv u.b.m)).setCell ⟨w.heap.size, 2, none⟩ (uv u.lo)).setCell ⟨w.heap.size, 3, none⟩ (uv u.hi)).setCell ⟨w.heap.size, 4, none⟩ (sv u.sl)).setCell ⟨w.heap.size, 5, none⟩ (sv u.sh)) (w.heap.size + 1) 118 #[.int .u64 0, .int .u64 0, .int .u64 0, .int .u64 0, .int .i64 0, .int .i64 0, .int .u64 0, .int .u64 0, .int .u64 0, .int .u64 0, .int .i64 0, .int .i64 0] := ((((((Br.far (by first | (simp; done) | (simp; omega) | (simp [*]; done) | (simp only [ne_eq]; constructor <;> omega)) _).far (by first | (simp; done) | (simp; omega) | (simp [*]; done) | (simp only [ne_eq]; constructor <;> omega)) _).far (by first | (simp; done) | (simp; omega) | (simp [*]; done) | (simp only [ne_eq]; constructor <;> omega)) _).far (by first | (simp; done) | (simp; omega) | (simp [*]; done) | (simp only [ne_eq]; constructor <;> omega)) _).far (by first | (simp; done) | (simp; omega) | (simp [*]; done) | (simp only [ne_eq]; constructor <;> omega)) _).far (by first | (simp; done) | (simp; omega) | (simp [*]; done) | (simp only [ne_eq]; constructor <;> omega)) _)
          replace hB : Below w.heap.size w ((((((w3.setCell ⟨w.heap.size, 0, none⟩ (uv u.b.v)).setCell ⟨w.heap.size, 1, none⟩ (uv u.b.m)).setCell ⟨w.heap.size, 2, none⟩ (uv u.lo)).setCell ⟨w.heap.size, 3, none⟩ (uv u.hi)).setCell ⟨w.heap.size, 4, none⟩ (sv u.sl)).setCell ⟨w.heap.size, 5, none⟩ (sv u.sh)) := (Bl_set (Bl_set (Bl_set (Bl_set (Bl_set (Bl_set hB (by first | omega | (simp; done) | (simp; omega)) _) (by first | omega | (simp; done) | (simp; omega)) _) (by first | omega | (simp; done) | (simp; omega)) _) (by first | omega | (simp; done) | (simp; omega)) _) (by first | omega | (simp; done) | (simp; omega)) _) (by first | omega | (simp; done) | (simp; omega)) _)
          generalize ((((((w3.setCell ⟨w.heap.size, 0, none⟩ (uv u.b.v)).setCell ⟨w.heap.size, 1, none⟩ (uv u.b.m)).setCell ⟨w.heap.size, 2, none⟩ (uv u.lo)).setCell ⟨w.heap.size, 3, none⟩ (uv u.hi)).setCell ⟨w.heap.size, 4, none⟩ (sv u.sl)).setCell ⟨w.heap.size, 5, none⟩ (sv u.sh)) = w4 at *
          obtain ⟨cp0, cp1, cp2, cp3, cp4, cp5, cp6, cp7, cp8, cp9, cp10, cp11⟩ := cells12 Bp
          have fp := Bp.frozen; have lp := Bp.lt
          obtain ⟨cr0, cr1, cr2, cr3, cr4, cr5, cr6, cr7, cr8, cr9, cr10, cr11⟩ := cells12 Br
          have fr := Br.frozen; have lr := Br.lt
          go_wp2_with fail
          refine (one_b _ _ q1 _).mono ?_
          rintro e w5 ⟨rfl, hb⟩
          clear cp0 cp1 cp2 cp3 cp4 cp5 cp6 cp7 cp8 cp9 cp10 cp11 fp lp
          clear cr0 cr1 cr2 cr3 cr4 cr5 cr6 cr7 cr8 cr9 cr10 cr11 fr lr
          replace Bp := (Bp).next hb
          replace Br := (Br).next hb
          replace hB : Below w.heap.size w w5 := by repeat (first | exact hB | (refine Bl_set ?_ (by first | omega | (simp; omega)) _) | apply Bl_alloc | (refine Bl_trans ?_ hb))
          clear hb
          obtain ⟨cp0, cp1, cp2, cp3, cp4, cp5, cp6, cp7, cp8, cp9, cp10, cp11⟩ := cells12 Bp
          have fp := Bp.frozen; have lp := Bp.lt
          obtain ⟨cr0, cr1, cr2, cr3, cr4, cr5, cr6, cr7, cr8, cr9, cr10, cr11⟩ := cells12 Br
          have fr := Br.frozen; have lr := Br.lt
          go_wp2_with fail
          refine (k_v _).mono ?_
          rintro e w6 ⟨rfl, hb⟩
          clear cp0 cp1 cp2 cp3 cp4 cp5 cp6 cp7 cp8 cp9 cp10 cp11 fp lp
          clear cr0 cr1 cr2 cr3 cr4 cr5 cr6 cr7 cr8 cr9 cr10 cr11 fr lr
          replace Bp := (Bp).next hb
          replace Br := (Br).next hb
          replace hB : Below w.heap.size w w6 := by repeat (first | exact hB | (refine Bl_set ?_ (by first | omega | (simp; omega)) _) | apply Bl_alloc | (refine Bl_trans ?_ hb))
          clear hb
          obtain ⟨cp0, cp1, cp2, cp3, cp4, cp5, cp6, cp7, cp8, cp9, cp10, cp11⟩ := cells12 Bp
          have fp := Bp.frozen; have lp := Bp.lt
          obtain ⟨cr0, cr1, cr2, cr3, cr4, cr5, cr6, cr7, cr8, cr9, cr10, cr11⟩ := cells12 Br
          have fr := Br.frozen; have lr := Br.lt
          go_upto_region 6 with fail
          clear cp0 cp1 cp2 cp3 cp4 cp5 cp6 cp7 cp8 cp9 cp10 cp11 fp lp
          clear cr0 cr1 cr2 cr3 cr4 cr5 cr6 cr7 cr8 cr9 cr10 cr11 fr lr
          replace Bp : Blk ((((((w6.setCell ⟨w.heap.size, 6, none⟩ (uv v.b.v)).setCell ⟨w.heap.size, 7, none⟩ (uv v.b.m)).setCell ⟨w.heap.size, 8, none⟩ (uv v.lo)).setCell ⟨w.heap.size, 9, none⟩ (uv v.hi)).setCell ⟨w.heap.size, 10, none⟩ (sv v.sl)).setCell ⟨w.heap.size, 11, none⟩ (sv v.sh)) (w.heap.size) 118 #[uv u.b.v, uv u.b.m, uv u.lo, uv u.hi, sv u.sl, sv u.sh, uv v.b.v, uv v.b.m, uv v.lo, uv v.hi, sv v.sl, sv v.sh] := ((((((Bp.set_ 6 _).set_ 7 _).set_ 8 _).set_ 9 _).set_ 10 _).set_ 11 _)
          replace Br : Blk ((((((w6.setCell ⟨w.heap.size, 6, none⟩ (uv v.b.v)).setCell ⟨w.heap.size, 7, none⟩ (uv v.b.m)).setCell ⟨w.heap.size, 8, none⟩ (uv v.lo)).setCell ⟨w.heap.size, 9, none⟩ (uv v.hi)).setCell ⟨w.heap.size, 10, none⟩ (sv v.sl)).setCell ⟨w.heap.size, 11, none⟩ (sv v.sh)) (w.heap.size + 1) 118 #[.int .u64 0, .int .u64 0, .int .u64 0, .int .u64 0, .int .i64 0, .int .i64 0, .int .u64 0, .int .u64 0, .int .u64 0, .int .u64 0, .int .i64 0, .int .i64 0] := ((((((Br.far (by first | (simp; done) | (simp; omega) | (simp [*]; done) | (simp only [ne_eq]; constructor <;> omega)) _).far (by first | (simp; done) | (simp; omega) | (simp [*]; done) | (simp only [ne_eq]; constructor <;> omega)) _).far (by first | (simp; done) | (simp; omega) | (simp [*]; done) | (simp only [ne_eq]; constructor <;> omega)) _).far (by first | (simp; done) | (simp; omega) | (simp [*]; done) | (simp only [ne_eq]; constructor <;> omega)) _).far (by first | (simp; done) | (simp; omega) | (simp [*]; done) | (simp only [ne_eq]; constructor <;> omega)) _).far (by first | (simp; done) | (simp; omega) | (simp [*]; done) | (simp only [ne_eq]; constructor <;> omega)) _)
          replace hB : Below w.heap.size w ((((((w6.setCell ⟨w.heap.size, 6, none⟩ (uv v.b.v)).setCell ⟨w.heap.size, 7, none⟩ (uv v.b.m)).setCell ⟨w.heap.size, 8, none⟩ (uv v.lo)).setCell ⟨w.heap.size, 9, none⟩ (uv v.hi)).setCell ⟨w.heap.size, 10, none⟩ (sv v.sl)).setCell ⟨w.heap.size, 11, none⟩ (sv v.sh)) := (Bl_set (Bl_set (Bl_set (Bl_set (Bl_set (Bl_set hB (by first | omega | (simp; done) | (simp; omega)) _) (by first | omega | (simp; done) | (simp; omega)) _) (by first | omega | (simp; done) | (simp; omega)) _) (by first | omega | (simp; done) | (simp; omega)) _) (by first | omega | (simp; done) | (simp; omega)) _) (by first | omega | (simp; done) | (simp; omega)) _)
          generalize ((((((w6.setCell ⟨w.heap.size, 6, none⟩ (uv v.b.v)).setCell ⟨w.heap.size, 7, none⟩ (uv v.b.m)).setCell ⟨w.heap.size, 8, none⟩ (uv v.lo)).setCell ⟨w.heap.size, 9, none⟩ (uv v.hi)).setCell ⟨w.heap.size, 10, none⟩ (sv v.sl)).setCell ⟨w.heap.size, 11, none⟩ (sv v.sh)) = w7 at *
          obtain ⟨cp0, cp1, cp2, cp3, cp4, cp5, cp6, cp7, cp8, cp9, cp10, cp11⟩ := cells12 Bp
          have fp := Bp.frozen; have lp := Bp.lt
          obtain ⟨cr0, cr1, cr2, cr3, cr4, cr5, cr6, cr7, cr8, cr9, cr10, cr11⟩ := cells12 Br
          have fr := Br.frozen; have lr := Br.lt
          go_wp2_with fail
          refine (k_R _).mono ?_
          rintro e w8 ⟨rfl, hb⟩
          clear cp0 cp1 cp2 cp3 cp4 cp5 cp6 cp7 cp8 cp9 cp10 cp11 fp lp
          clear cr0 cr1 cr2 cr3 cr4 cr5 cr6 cr7 cr8 cr9 cr10 cr11 fr lr
          replace Bp := (Bp).next hb
          replace Br := (Br).next hb
          replace hB : Below w.heap.size w w8 := by repeat (first | exact hB | (refine Bl_set ?_ (by first | omega | (simp; omega)) _) | apply Bl_alloc | (refine Bl_trans ?_ hb))
          clear hb
          obtain ⟨cp0, cp1, cp2, cp3, cp4, cp5, cp6, cp7, cp8, cp9, cp10, cp11⟩ := cells12 Bp
          have fp := Bp.frozen; have lp := Bp.lt
          obtain ⟨cr0, cr1, cr2, cr3, cr4, cr5, cr6, cr7, cr8, cr9, cr10, cr11⟩ := cells12 Br
          have fr := Br.frozen; have lr := Br.lt
          go_wp2
          exact bodyPost_ret (v := tv R) (by simp [results, Try.results80, go_sem, cr0, cr1, cr2, cr3, cr4, cr5, cr6, cr7, cr8, cr9, cr10, cr11, lr]) rfl ⟨by rw [hs]; first | done | rfl, by repeat (first | (with_reducible exact hB) | (with_reducible refine Bl_set ?_ (by first | omega | (simp; done) | (simp; omega)) _) | with_reducible apply Bl_alloc)⟩
set_option maxRecDepth 100000 in
set_option maxHeartbeats 3200000 in
theorem greater_c (a b : Rng) (s : Bool) (w : World) : Calls Try.prog 81 #[pv2 a b, .bool s] w fun e w' => e = .returned (tv (PlainBranch.greater (a, b) s)) ∧ Below w.heap.size w w' := by
  cases s
  · obtain ⟨R, e_R⟩ : ∃ z' : PlainBranch.Pair × Bool, z' = PlainBranch.settleP ((⟨a.b, (PlainScalar.maxU a.lo b.lo), a.hi, a.sl, a.sh⟩ : Rng), (⟨b.b, b.lo, (PlainScalar.minU b.hi a.hi), b.sl, b.sh⟩ : Rng)) := ⟨_, rfl⟩
    have k_R : ∀ w : World, Calls Try.prog 71 #[pv2 ⟨a.b, (PlainScalar.maxU a.lo b.lo), a.hi, a.sl, a.sh⟩ ⟨b.b, b.lo, (PlainScalar.minU b.hi a.hi), b.sl, b.sh⟩] w fun e w' => e = .returned (tv R) ∧ Below w.heap.size w w' := fun w => by rw [e_R]; exact psettle_c ⟨a.b, (PlainScalar.maxU a.lo b.lo), a.hi, a.sl, a.sh⟩ ⟨b.b, b.lo, (PlainScalar.minU b.hi a.hi), b.sl, b.sh⟩ w
    have hs : PlainBranch.greater (a, b) false = R := by rw [e_R]; unfold PlainBranch.greater; rw [if_neg (fun h => absurd h.1 (by decide))]; simp [PlainBranch.more]
    clear e_R
    have := u64_T b.lo
    have := u64_T a.hi
    try clear p1
    try clear p2
    go_enter Try.func81, Try.ntmps81
    go_upto_region 1 with fail
    obtain ⟨gp, hgp⟩ : ∃ g, g = w.heap.size := ⟨_, rfl⟩
    obtain ⟨gr, hgr⟩ : ∃ g, g = w.heap.size + 1 := ⟨_, rfl⟩
    have Bp : Blk ((w.alloc (.cells #[uv a.b.v, uv a.b.m, uv a.lo, uv a.hi, sv a.sl, sv a.sh, uv b.b.v, uv b.b.m, uv b.lo, uv b.hi, sv b.sl, sv b.sh] 118)).alloc (.cells #[.int .u64 0, .int .u64 0, .int .u64 0, .int .u64 0, .int .i64 0, .int .i64 0, .int .u64 0, .int .u64 0, .int .u64 0, .int .u64 0, .int .i64 0, .int .i64 0] 118)) (w.heap.size) 118 #[uv a.b.v, uv a.b.m, uv a.lo, uv a.hi, sv a.sl, sv a.sh, uv b.b.v, uv b.b.m, uv b.lo, uv b.hi, sv b.sl, sv b.sh] := ((Blk.new w 118 #[uv a.b.v, uv a.b.m, uv a.lo, uv a.hi, sv a.sl, sv a.sh, uv b.b.v, uv b.b.m, uv b.lo, uv b.hi, sv b.sl, sv b.sh])).alloc _
    have Br : Blk ((w.alloc (.cells #[uv a.b.v, uv a.b.m, uv a.lo, uv a.hi, sv a.sl, sv a.sh, uv b.b.v, uv b.b.m, uv b.lo, uv b.hi, sv b.sl, sv b.sh] 118)).alloc (.cells #[.int .u64 0, .int .u64 0, .int .u64 0, .int .u64 0, .int .i64 0, .int .i64 0, .int .u64 0, .int .u64 0, .int .u64 0, .int .u64 0, .int .i64 0, .int .i64 0] 118)) (w.heap.size + 1) 118 #[.int .u64 0, .int .u64 0, .int .u64 0, .int .u64 0, .int .i64 0, .int .i64 0, .int .u64 0, .int .u64 0, .int .u64 0, .int .u64 0, .int .i64 0, .int .i64 0] := (by simpa using Blk.new (w.alloc (.cells #[uv a.b.v, uv a.b.m, uv a.lo, uv a.hi, sv a.sl, sv a.sh, uv b.b.v, uv b.b.m, uv b.lo, uv b.hi, sv b.sl, sv b.sh] 118)) 118 #[.int .u64 0, .int .u64 0, .int .u64 0, .int .u64 0, .int .i64 0, .int .i64 0, .int .u64 0, .int .u64 0, .int .u64 0, .int .u64 0, .int .i64 0, .int .i64 0] : Blk _ (w.heap.size + 1) 118 #[.int .u64 0, .int .u64 0, .int .u64 0, .int .u64 0, .int .i64 0, .int .i64 0, .int .u64 0, .int .u64 0, .int .u64 0, .int .u64 0, .int .i64 0, .int .i64 0])
    have hB : Below w.heap.size w ((w.alloc (.cells #[uv a.b.v, uv a.b.m, uv a.lo, uv a.hi, sv a.sl, sv a.sh, uv b.b.v, uv b.b.m, uv b.lo, uv b.hi, sv b.sl, sv b.sh] 118)).alloc (.cells #[.int .u64 0, .int .u64 0, .int .u64 0, .int .u64 0, .int .i64 0, .int .i64 0, .int .u64 0, .int .u64 0, .int .u64 0, .int .u64 0, .int .i64 0, .int .i64 0] 118)) := (Bl_alloc (Bl_alloc (Bl_refl w) _) _)
    clear hgp
    clear gp
    clear hgr
    clear gr
    generalize ((w.alloc (.cells #[uv a.b.v, uv a.b.m, uv a.lo, uv a.hi, sv a.sl, sv a.sh, uv b.b.v, uv b.b.m, uv b.lo, uv b.hi, sv b.sl, sv b.sh] 118)).alloc (.cells #[.int .u64 0, .int .u64 0, .int .u64 0, .int .u64 0, .int .i64 0, .int .i64 0, .int .u64 0, .int .u64 0, .int .u64 0, .int .u64 0, .int .i64 0, .int .i64 0] 118)) = w1 at *
    obtain ⟨cp0, cp1, cp2, cp3, cp4, cp5, cp6, cp7, cp8, cp9, cp10, cp11⟩ := cells12 Bp
    have fp := Bp.frozen; have lp := Bp.lt
    obtain ⟨cr0, cr1, cr2, cr3, cr4, cr5, cr6, cr7, cr8, cr9, cr10, cr11⟩ := cells12 Br
    have fr := Br.frozen; have lr := Br.lt
    go_upto_region 7 with fail
    clear cp0 cp1 cp2 cp3 cp4 cp5 cp6 cp7 cp8 cp9 cp10 cp11 fp lp
    clear cr0 cr1 cr2 cr3 cr4 cr5 cr6 cr7 cr8 cr9 cr10 cr11 fr lr
    replace Bp : Blk (w1.setCell ⟨w.heap.size, 2, none⟩ (uv (PlainScalar.maxU a.lo b.lo))) (w.heap.size) 118 #[uv a.b.v, uv a.b.m, uv (PlainScalar.maxU a.lo b.lo), uv a.hi, sv a.sl, sv a.sh, uv b.b.v, uv b.b.m, uv b.lo, uv b.hi, sv b.sl, sv b.sh] := Bp.set_ 2 _
    replace Br : Blk (w1.setCell ⟨w.heap.size, 2, none⟩ (uv (PlainScalar.maxU a.lo b.lo))) (w.heap.size + 1) 118 #[.int .u64 0, .int .u64 0, .int .u64 0, .int .u64 0, .int .i64 0, .int .i64 0, .int .u64 0, .int .u64 0, .int .u64 0, .int .u64 0, .int .i64 0, .int .i64 0] := (Br.far (by first | (simp; done) | (simp; omega) | (simp [*]; done) | (simp only [ne_eq]; constructor <;> omega)) _)
    replace hB : Below w.heap.size w (w1.setCell ⟨w.heap.size, 2, none⟩ (uv (PlainScalar.maxU a.lo b.lo))) := (Bl_set hB (by first | omega | (simp; done) | (simp; omega)) _)
    generalize (w1.setCell ⟨w.heap.size, 2, none⟩ (uv (PlainScalar.maxU a.lo b.lo))) = w2 at *
    obtain ⟨cp0, cp1, cp2, cp3, cp4, cp5, cp6, cp7, cp8, cp9, cp10, cp11⟩ := cells12 Bp
    have fp := Bp.frozen; have lp := Bp.lt
    obtain ⟨cr0, cr1, cr2, cr3, cr4, cr5, cr6, cr7, cr8, cr9, cr10, cr11⟩ := cells12 Br
    have fr := Br.frozen; have lr := Br.lt
    go_upto_region 8 with fail
    clear cp0 cp1 cp2 cp3 cp4 cp5 cp6 cp7 cp8 cp9 cp10 cp11 fp lp
    clear cr0 cr1 cr2 cr3 cr4 cr5 cr6 cr7 cr8 cr9 cr10 cr11 fr lr
    replace Bp : Blk (w2.setCell ⟨w.heap.size, 9, none⟩ (uv (PlainScalar.minU b.hi a.hi))) (w.heap.size) 118 #[uv a.b.v, uv a.b.m, uv (PlainScalar.maxU a.lo b.lo), uv a.hi, sv a.sl, sv a.sh, uv b.b.v, uv b.b.m, uv b.lo, uv (PlainScalar.minU b.hi a.hi), sv b.sl, sv b.sh] := Bp.set_ 9 _
    replace Br : Blk (w2.setCell ⟨w.heap.size, 9, none⟩ (uv (PlainScalar.minU b.hi a.hi))) (w.heap.size + 1) 118 #[.int .u64 0, .int .u64 0, .int .u64 0, .int .u64 0, .int .i64 0, .int .i64 0, .int .u64 0, .int .u64 0, .int .u64 0, .int .u64 0, .int .i64 0, .int .i64 0] := (Br.far (by first | (simp; done) | (simp; omega) | (simp [*]; done) | (simp only [ne_eq]; constructor <;> omega)) _)
    replace hB : Below w.heap.size w (w2.setCell ⟨w.heap.size, 9, none⟩ (uv (PlainScalar.minU b.hi a.hi))) := (Bl_set hB (by first | omega | (simp; done) | (simp; omega)) _)
    generalize (w2.setCell ⟨w.heap.size, 9, none⟩ (uv (PlainScalar.minU b.hi a.hi))) = w3 at *
    obtain ⟨cp0, cp1, cp2, cp3, cp4, cp5, cp6, cp7, cp8, cp9, cp10, cp11⟩ := cells12 Bp
    have fp := Bp.frozen; have lp := Bp.lt
    obtain ⟨cr0, cr1, cr2, cr3, cr4, cr5, cr6, cr7, cr8, cr9, cr10, cr11⟩ := cells12 Br
    have fr := Br.frozen; have lr := Br.lt
    go_wp2_with fail
    refine (k_R _).mono ?_
    rintro e w4 ⟨rfl, hb⟩
    clear cp0 cp1 cp2 cp3 cp4 cp5 cp6 cp7 cp8 cp9 cp10 cp11 fp lp
    clear cr0 cr1 cr2 cr3 cr4 cr5 cr6 cr7 cr8 cr9 cr10 cr11 fr lr
    replace Bp := (Bp).next hb
    replace Br := (Br).next hb
    replace hB : Below w.heap.size w w4 := by repeat (first | exact hB | (refine Bl_set ?_ (by first | omega | (simp; omega)) _) | apply Bl_alloc | (refine Bl_trans ?_ hb))
    clear hb
    obtain ⟨cp0, cp1, cp2, cp3, cp4, cp5, cp6, cp7, cp8, cp9, cp10, cp11⟩ := cells12 Bp
    have fp := Bp.frozen; have lp := Bp.lt
    obtain ⟨cr0, cr1, cr2, cr3, cr4, cr5, cr6, cr7, cr8, cr9, cr10, cr11⟩ := cells12 Br
    have fr := Br.frozen; have lr := Br.lt
    go_wp2
    exact bodyPost_ret (v := tv R) (by simp [results, Try.results81, go_sem, cr0, cr1, cr2, cr3, cr4, cr5, cr6, cr7, cr8, cr9, cr10, cr11, lr]) rfl ⟨by rw [hs]; first | done | rfl, by repeat (first | (with_reducible exact hB) | (with_reducible refine Bl_set ?_ (by first | omega | (simp; done) | (simp; omega)) _) | with_reducible apply Bl_alloc)⟩
  · cases q1 : (T b.lo == 18446744073709551615)
    · have p1 : ¬ b.lo = BitVec.allOnes 64 := by rw [T_beqAll] at q1; simpa using q1
      cases q2 : (T a.hi == 0)
      · have p2 : ¬ a.hi = 0#64 := by rw [T_beq0] at q2; simpa using q2
        obtain ⟨R, e_R⟩ : ∃ z' : PlainBranch.Pair × Bool, z' = PlainBranch.settleP ((⟨a.b, (PlainScalar.maxU a.lo (b.lo + 1#64)), a.hi, a.sl, a.sh⟩ : Rng), (⟨b.b, b.lo, (PlainScalar.minU b.hi (a.hi - 1#64)), b.sl, b.sh⟩ : Rng)) := ⟨_, rfl⟩
        have k_R : ∀ w : World, Calls Try.prog 71 #[pv2 ⟨a.b, (PlainScalar.maxU a.lo (b.lo + 1#64)), a.hi, a.sl, a.sh⟩ ⟨b.b, b.lo, (PlainScalar.minU b.hi (a.hi - 1#64)), b.sl, b.sh⟩] w fun e w' => e = .returned (tv R) ∧ Below w.heap.size w w' := fun w => by rw [e_R]; exact psettle_c ⟨a.b, (PlainScalar.maxU a.lo (b.lo + 1#64)), a.hi, a.sl, a.sh⟩ ⟨b.b, b.lo, (PlainScalar.minU b.hi (a.hi - 1#64)), b.sl, b.sh⟩ w
        have hs : PlainBranch.greater (a, b) true = R := by rw [e_R]; unfold PlainBranch.greater; rw [if_neg (fun h => h.2.elim p1 p2)]; simp [PlainBranch.more]
        clear e_R
        have := u64_T b.lo
        have := u64_T a.hi
        try clear p1
        try clear p2
        go_enter Try.func81, Try.ntmps81
        go_upto_region 1 with fail
        obtain ⟨gp, hgp⟩ : ∃ g, g = w.heap.size := ⟨_, rfl⟩
        obtain ⟨gr, hgr⟩ : ∃ g, g = w.heap.size + 1 := ⟨_, rfl⟩
        have Bp : Blk ((w.alloc (.cells #[uv a.b.v, uv a.b.m, uv a.lo, uv a.hi, sv a.sl, sv a.sh, uv b.b.v, uv b.b.m, uv b.lo, uv b.hi, sv b.sl, sv b.sh] 118)).alloc (.cells #[.int .u64 0, .int .u64 0, .int .u64 0, .int .u64 0, .int .i64 0, .int .i64 0, .int .u64 0, .int .u64 0, .int .u64 0, .int .u64 0, .int .i64 0, .int .i64 0] 118)) (w.heap.size) 118 #[uv a.b.v, uv a.b.m, uv a.lo, uv a.hi, sv a.sl, sv a.sh, uv b.b.v, uv b.b.m, uv b.lo, uv b.hi, sv b.sl, sv b.sh] := ((Blk.new w 118 #[uv a.b.v, uv a.b.m, uv a.lo, uv a.hi, sv a.sl, sv a.sh, uv b.b.v, uv b.b.m, uv b.lo, uv b.hi, sv b.sl, sv b.sh])).alloc _
        have Br : Blk ((w.alloc (.cells #[uv a.b.v, uv a.b.m, uv a.lo, uv a.hi, sv a.sl, sv a.sh, uv b.b.v, uv b.b.m, uv b.lo, uv b.hi, sv b.sl, sv b.sh] 118)).alloc (.cells #[.int .u64 0, .int .u64 0, .int .u64 0, .int .u64 0, .int .i64 0, .int .i64 0, .int .u64 0, .int .u64 0, .int .u64 0, .int .u64 0, .int .i64 0, .int .i64 0] 118)) (w.heap.size + 1) 118 #[.int .u64 0, .int .u64 0, .int .u64 0, .int .u64 0, .int .i64 0, .int .i64 0, .int .u64 0, .int .u64 0, .int .u64 0, .int .u64 0, .int .i64 0, .int .i64 0] := (by simpa using Blk.new (w.alloc (.cells #[uv a.b.v, uv a.b.m, uv a.lo, uv a.hi, sv a.sl, sv a.sh, uv b.b.v, uv b.b.m, uv b.lo, uv b.hi, sv b.sl, sv b.sh] 118)) 118 #[.int .u64 0, .int .u64 0, .int .u64 0, .int .u64 0, .int .i64 0, .int .i64 0, .int .u64 0, .int .u64 0, .int .u64 0, .int .u64 0, .int .i64 0, .int .i64 0] : Blk _ (w.heap.size + 1) 118 #[.int .u64 0, .int .u64 0, .int .u64 0, .int .u64 0, .int .i64 0, .int .i64 0, .int .u64 0, .int .u64 0, .int .u64 0, .int .u64 0, .int .i64 0, .int .i64 0])
        have hB : Below w.heap.size w ((w.alloc (.cells #[uv a.b.v, uv a.b.m, uv a.lo, uv a.hi, sv a.sl, sv a.sh, uv b.b.v, uv b.b.m, uv b.lo, uv b.hi, sv b.sl, sv b.sh] 118)).alloc (.cells #[.int .u64 0, .int .u64 0, .int .u64 0, .int .u64 0, .int .i64 0, .int .i64 0, .int .u64 0, .int .u64 0, .int .u64 0, .int .u64 0, .int .i64 0, .int .i64 0] 118)) := (Bl_alloc (Bl_alloc (Bl_refl w) _) _)
        clear hgp
        clear gp
        clear hgr
        clear gr
        generalize ((w.alloc (.cells #[uv a.b.v, uv a.b.m, uv a.lo, uv a.hi, sv a.sl, sv a.sh, uv b.b.v, uv b.b.m, uv b.lo, uv b.hi, sv b.sl, sv b.sh] 118)).alloc (.cells #[.int .u64 0, .int .u64 0, .int .u64 0, .int .u64 0, .int .i64 0, .int .i64 0, .int .u64 0, .int .u64 0, .int .u64 0, .int .u64 0, .int .i64 0, .int .i64 0] 118)) = w1 at *
        obtain ⟨cp0, cp1, cp2, cp3, cp4, cp5, cp6, cp7, cp8, cp9, cp10, cp11⟩ := cells12 Bp
        have fp := Bp.frozen; have lp := Bp.lt
        obtain ⟨cr0, cr1, cr2, cr3, cr4, cr5, cr6, cr7, cr8, cr9, cr10, cr11⟩ := cells12 Br
        have fr := Br.frozen; have lr := Br.lt
        go_upto_region 7 with fail
        clear cp0 cp1 cp2 cp3 cp4 cp5 cp6 cp7 cp8 cp9 cp10 cp11 fp lp
        clear cr0 cr1 cr2 cr3 cr4 cr5 cr6 cr7 cr8 cr9 cr10 cr11 fr lr
        replace Bp : Blk (w1.setCell ⟨w.heap.size, 2, none⟩ (uv (PlainScalar.maxU a.lo (b.lo + 1#64)))) (w.heap.size) 118 #[uv a.b.v, uv a.b.m, uv (PlainScalar.maxU a.lo (b.lo + 1#64)), uv a.hi, sv a.sl, sv a.sh, uv b.b.v, uv b.b.m, uv b.lo, uv b.hi, sv b.sl, sv b.sh] := Bp.set_ 2 _
        replace Br : Blk (w1.setCell ⟨w.heap.size, 2, none⟩ (uv (PlainScalar.maxU a.lo (b.lo + 1#64)))) (w.heap.size + 1) 118 #[.int .u64 0, .int .u64 0, .int .u64 0, .int .u64 0, .int .i64 0, .int .i64 0, .int .u64 0, .int .u64 0, .int .u64 0, .int .u64 0, .int .i64 0, .int .i64 0] := (Br.far (by first | (simp; done) | (simp; omega) | (simp [*]; done) | (simp only [ne_eq]; constructor <;> omega)) _)
        replace hB : Below w.heap.size w (w1.setCell ⟨w.heap.size, 2, none⟩ (uv (PlainScalar.maxU a.lo (b.lo + 1#64)))) := (Bl_set hB (by first | omega | (simp; done) | (simp; omega)) _)
        generalize (w1.setCell ⟨w.heap.size, 2, none⟩ (uv (PlainScalar.maxU a.lo (b.lo + 1#64)))) = w2 at *
        obtain ⟨cp0, cp1, cp2, cp3, cp4, cp5, cp6, cp7, cp8, cp9, cp10, cp11⟩ := cells12 Bp
        have fp := Bp.frozen; have lp := Bp.lt
        obtain ⟨cr0, cr1, cr2, cr3, cr4, cr5, cr6, cr7, cr8, cr9, cr10, cr11⟩ := cells12 Br
        have fr := Br.frozen; have lr := Br.lt
        go_upto_region 8 with fail
        clear cp0 cp1 cp2 cp3 cp4 cp5 cp6 cp7 cp8 cp9 cp10 cp11 fp lp
        clear cr0 cr1 cr2 cr3 cr4 cr5 cr6 cr7 cr8 cr9 cr10 cr11 fr lr
        replace Bp : Blk (w2.setCell ⟨w.heap.size, 9, none⟩ (uv (PlainScalar.minU b.hi (a.hi - 1#64)))) (w.heap.size) 118 #[uv a.b.v, uv a.b.m, uv (PlainScalar.maxU a.lo (b.lo + 1#64)), uv a.hi, sv a.sl, sv a.sh, uv b.b.v, uv b.b.m, uv b.lo, uv (PlainScalar.minU b.hi (a.hi - 1#64)), sv b.sl, sv b.sh] := Bp.set_ 9 _
        replace Br : Blk (w2.setCell ⟨w.heap.size, 9, none⟩ (uv (PlainScalar.minU b.hi (a.hi - 1#64)))) (w.heap.size + 1) 118 #[.int .u64 0, .int .u64 0, .int .u64 0, .int .u64 0, .int .i64 0, .int .i64 0, .int .u64 0, .int .u64 0, .int .u64 0, .int .u64 0, .int .i64 0, .int .i64 0] := (Br.far (by first | (simp; done) | (simp; omega) | (simp [*]; done) | (simp only [ne_eq]; constructor <;> omega)) _)
        replace hB : Below w.heap.size w (w2.setCell ⟨w.heap.size, 9, none⟩ (uv (PlainScalar.minU b.hi (a.hi - 1#64)))) := (Bl_set hB (by first | omega | (simp; done) | (simp; omega)) _)
        generalize (w2.setCell ⟨w.heap.size, 9, none⟩ (uv (PlainScalar.minU b.hi (a.hi - 1#64)))) = w3 at *
        obtain ⟨cp0, cp1, cp2, cp3, cp4, cp5, cp6, cp7, cp8, cp9, cp10, cp11⟩ := cells12 Bp
        have fp := Bp.frozen; have lp := Bp.lt
        obtain ⟨cr0, cr1, cr2, cr3, cr4, cr5, cr6, cr7, cr8, cr9, cr10, cr11⟩ := cells12 Br
        have fr := Br.frozen; have lr := Br.lt
        go_wp2_with fail
        refine (k_R _).mono ?_
        rintro e w4 ⟨rfl, hb⟩
        clear cp0 cp1 cp2 cp3 cp4 cp5 cp6 cp7 cp8 cp9 cp10 cp11 fp lp
        clear cr0 cr1 cr2 cr3 cr4 cr5 cr6 cr7 cr8 cr9 cr10 cr11 fr lr
        replace Bp := (Bp).next hb
        replace Br := (Br).next hb
        replace hB : Below w.heap.size w w4 := by repeat (first | exact hB | (refine Bl_set ?_ (by first | omega | (simp; omega)) _) | apply Bl_alloc | (refine Bl_trans ?_ hb))
        clear hb
        obtain ⟨cp0, cp1, cp2, cp3, cp4, cp5, cp6, cp7, cp8, cp9, cp10, cp11⟩ := cells12 Bp
        have fp := Bp.frozen; have lp := Bp.lt
        obtain ⟨cr0, cr1, cr2, cr3, cr4, cr5, cr6, cr7, cr8, cr9, cr10, cr11⟩ := cells12 Br
        have fr := Br.frozen; have lr := Br.lt
        go_wp2
        exact bodyPost_ret (v := tv R) (by simp [results, Try.results81, go_sem, cr0, cr1, cr2, cr3, cr4, cr5, cr6, cr7, cr8, cr9, cr10, cr11, lr]) rfl ⟨by rw [hs]; first | done | rfl, by repeat (first | (with_reducible exact hB) | (with_reducible refine Bl_set ?_ (by first | omega | (simp; done) | (simp; omega)) _) | with_reducible apply Bl_alloc)⟩
      · have p2 : a.hi = 0#64 := by rw [T_beq0] at q2; simpa using q2
        have hs : PlainBranch.greater (a, b) true = (PlainBranch.zero, false) := by unfold PlainBranch.greater; rw [if_pos ⟨rfl, .inr p2⟩]
        try clear p1
        try clear p2
        go_enter Try.func81, Try.ntmps81
        go_upto_region 1 with fail
        obtain ⟨gp, hgp⟩ : ∃ g, g = w.heap.size := ⟨_, rfl⟩
        obtain ⟨gr, hgr⟩ : ∃ g, g = w.heap.size + 1 := ⟨_, rfl⟩
        have Bp : Blk ((w.alloc (.cells #[uv a.b.v, uv a.b.m, uv a.lo, uv a.hi, sv a.sl, sv a.sh, uv b.b.v, uv b.b.m, uv b.lo, uv b.hi, sv b.sl, sv b.sh] 118)).alloc (.cells #[.int .u64 0, .int .u64 0, .int .u64 0, .int .u64 0, .int .i64 0, .int .i64 0, .int .u64 0, .int .u64 0, .int .u64 0, .int .u64 0, .int .i64 0, .int .i64 0] 118)) (w.heap.size) 118 #[uv a.b.v, uv a.b.m, uv a.lo, uv a.hi, sv a.sl, sv a.sh, uv b.b.v, uv b.b.m, uv b.lo, uv b.hi, sv b.sl, sv b.sh] := ((Blk.new w 118 #[uv a.b.v, uv a.b.m, uv a.lo, uv a.hi, sv a.sl, sv a.sh, uv b.b.v, uv b.b.m, uv b.lo, uv b.hi, sv b.sl, sv b.sh])).alloc _
        have Br : Blk ((w.alloc (.cells #[uv a.b.v, uv a.b.m, uv a.lo, uv a.hi, sv a.sl, sv a.sh, uv b.b.v, uv b.b.m, uv b.lo, uv b.hi, sv b.sl, sv b.sh] 118)).alloc (.cells #[.int .u64 0, .int .u64 0, .int .u64 0, .int .u64 0, .int .i64 0, .int .i64 0, .int .u64 0, .int .u64 0, .int .u64 0, .int .u64 0, .int .i64 0, .int .i64 0] 118)) (w.heap.size + 1) 118 #[.int .u64 0, .int .u64 0, .int .u64 0, .int .u64 0, .int .i64 0, .int .i64 0, .int .u64 0, .int .u64 0, .int .u64 0, .int .u64 0, .int .i64 0, .int .i64 0] := (by simpa using Blk.new (w.alloc (.cells #[uv a.b.v, uv a.b.m, uv a.lo, uv a.hi, sv a.sl, sv a.sh, uv b.b.v, uv b.b.m, uv b.lo, uv b.hi, sv b.sl, sv b.sh] 118)) 118 #[.int .u64 0, .int .u64 0, .int .u64 0, .int .u64 0, .int .i64 0, .int .i64 0, .int .u64 0, .int .u64 0, .int .u64 0, .int .u64 0, .int .i64 0, .int .i64 0] : Blk _ (w.heap.size + 1) 118 #[.int .u64 0, .int .u64 0, .int .u64 0, .int .u64 0, .int .i64 0, .int .i64 0, .int .u64 0, .int .u64 0, .int .u64 0, .int .u64 0, .int .i64 0, .int .i64 0])
        have hB : Below w.heap.size w ((w.alloc (.cells #[uv a.b.v, uv a.b.m, uv a.lo, uv a.hi, sv a.sl, sv a.sh, uv b.b.v, uv b.b.m, uv b.lo, uv b.hi, sv b.sl, sv b.sh] 118)).alloc (.cells #[.int .u64 0, .int .u64 0, .int .u64 0, .int .u64 0, .int .i64 0, .int .i64 0, .int .u64 0, .int .u64 0, .int .u64 0, .int .u64 0, .int .i64 0, .int .i64 0] 118)) := (Bl_alloc (Bl_alloc (Bl_refl w) _) _)
        clear hgp
        clear gp
        clear hgr
        clear gr
        generalize ((w.alloc (.cells #[uv a.b.v, uv a.b.m, uv a.lo, uv a.hi, sv a.sl, sv a.sh, uv b.b.v, uv b.b.m, uv b.lo, uv b.hi, sv b.sl, sv b.sh] 118)).alloc (.cells #[.int .u64 0, .int .u64 0, .int .u64 0, .int .u64 0, .int .i64 0, .int .i64 0, .int .u64 0, .int .u64 0, .int .u64 0, .int .u64 0, .int .i64 0, .int .i64 0] 118)) = w1 at *
        obtain ⟨cp0, cp1, cp2, cp3, cp4, cp5, cp6, cp7, cp8, cp9, cp10, cp11⟩ := cells12 Bp
        have fp := Bp.frozen; have lp := Bp.lt
        obtain ⟨cr0, cr1, cr2, cr3, cr4, cr5, cr6, cr7, cr8, cr9, cr10, cr11⟩ := cells12 Br
        have fr := Br.frozen; have lr := Br.lt
        go_wp2
        exact bodyPost_ret (v := .tuple #[pv2 PlainScalar.none_ PlainScalar.none_, .bool false]) (by simp [results, Try.results81, go_sem, cr0, cr1, cr2, cr3, cr4, cr5, cr6, cr7, cr8, cr9, cr10, cr11, lr, PlainScalar.none_, T, S]) rfl ⟨by rw [hs]; first | done | rfl, by repeat (first | (with_reducible exact hB) | (with_reducible refine Bl_set ?_ (by first | omega | (simp; done) | (simp; omega)) _) | with_reducible apply Bl_alloc)⟩
    · have p1 : b.lo = BitVec.allOnes 64 := by rw [T_beqAll] at q1; simpa using q1
      have hs : PlainBranch.greater (a, b) true = (PlainBranch.zero, false) := by unfold PlainBranch.greater; rw [if_pos ⟨rfl, .inl p1⟩]
      try clear p1
      try clear p2
      go_enter Try.func81, Try.ntmps81
      go_upto_region 1 with fail
      obtain ⟨gp, hgp⟩ : ∃ g, g = w.heap.size := ⟨_, rfl⟩
      obtain ⟨gr, hgr⟩ : ∃ g, g = w.heap.size + 1 := ⟨_, rfl⟩
      have Bp : Blk ((w.alloc (.cells #[uv a.b.v, uv a.b.m, uv a.lo, uv a.hi, sv a.sl, sv a.sh, uv b.b.v, uv b.b.m, uv b.lo, uv b.hi, sv b.sl, sv b.sh] 118)).alloc (.cells #[.int .u64 0, .int .u64 0, .int .u64 0, .int .u64 0, .int .i64 0, .int .i64 0, .int .u64 0, .int .u64 0, .int .u64 0, .int .u64 0, .int .i64 0, .int .i64 0] 118)) (w.heap.size) 118 #[uv a.b.v, uv a.b.m, uv a.lo, uv a.hi, sv a.sl, sv a.sh, uv b.b.v, uv b.b.m, uv b.lo, uv b.hi, sv b.sl, sv b.sh] := ((Blk.new w 118 #[uv a.b.v, uv a.b.m, uv a.lo, uv a.hi, sv a.sl, sv a.sh, uv b.b.v, uv b.b.m, uv b.lo, uv b.hi, sv b.sl, sv b.sh])).alloc _
      have Br : Blk ((w.alloc (.cells #[uv a.b.v, uv a.b.m, uv a.lo, uv a.hi, sv a.sl, sv a.sh, uv b.b.v, uv b.b.m, uv b.lo, uv b.hi, sv b.sl, sv b.sh] 118)).alloc (.cells #[.int .u64 0, .int .u64 0, .int .u64 0, .int .u64 0, .int .i64 0, .int .i64 0, .int .u64 0, .int .u64 0, .int .u64 0, .int .u64 0, .int .i64 0, .int .i64 0] 118)) (w.heap.size + 1) 118 #[.int .u64 0, .int .u64 0, .int .u64 0, .int .u64 0, .int .i64 0, .int .i64 0, .int .u64 0, .int .u64 0, .int .u64 0, .int .u64 0, .int .i64 0, .int .i64 0] := (by simpa using Blk.new (w.alloc (.cells #[uv a.b.v, uv a.b.m, uv a.lo, uv a.hi, sv a.sl, sv a.sh, uv b.b.v, uv b.b.m, uv b.lo, uv b.hi, sv b.sl, sv b.sh] 118)) 118 #[.int .u64 0, .int .u64 0, .int .u64 0, .int .u64 0, .int .i64 0, .int .i64 0, .int .u64 0, .int .u64 0, .int .u64 0, .int .u64 0, .int .i64 0, .int .i64 0] : Blk _ (w.heap.size + 1) 118 #[.int .u64 0, .int .u64 0, .int .u64 0, .int .u64 0, .int .i64 0, .int .i64 0, .int .u64 0, .int .u64 0, .int .u64 0, .int .u64 0, .int .i64 0, .int .i64 0])
      have hB : Below w.heap.size w ((w.alloc (.cells #[uv a.b.v, uv a.b.m, uv a.lo, uv a.hi, sv a.sl, sv a.sh, uv b.b.v, uv b.b.m, uv b.lo, uv b.hi, sv b.sl, sv b.sh] 118)).alloc (.cells #[.int .u64 0, .int .u64 0, .int .u64 0, .int .u64 0, .int .i64 0, .int .i64 0, .int .u64 0, .int .u64 0, .int .u64 0, .int .u64 0, .int .i64 0, .int .i64 0] 118)) := (Bl_alloc (Bl_alloc (Bl_refl w) _) _)
      clear hgp
      clear gp
      clear hgr
      clear gr
      generalize ((w.alloc (.cells #[uv a.b.v, uv a.b.m, uv a.lo, uv a.hi, sv a.sl, sv a.sh, uv b.b.v, uv b.b.m, uv b.lo, uv b.hi, sv b.sl, sv b.sh] 118)).alloc (.cells #[.int .u64 0, .int .u64 0, .int .u64 0, .int .u64 0, .int .i64 0, .int .i64 0, .int .u64 0, .int .u64 0, .int .u64 0, .int .u64 0, .int .i64 0, .int .i64 0] 118)) = w1 at *
      obtain ⟨cp0, cp1, cp2, cp3, cp4, cp5, cp6, cp7, cp8, cp9, cp10, cp11⟩ := cells12 Bp
      have fp := Bp.frozen; have lp := Bp.lt
      obtain ⟨cr0, cr1, cr2, cr3, cr4, cr5, cr6, cr7, cr8, cr9, cr10, cr11⟩ := cells12 Br
      have fr := Br.frozen; have lr := Br.lt
      go_wp2
      exact bodyPost_ret (v := .tuple #[pv2 PlainScalar.none_ PlainScalar.none_, .bool false]) (by simp [results, Try.results81, go_sem, cr0, cr1, cr2, cr3, cr4, cr5, cr6, cr7, cr8, cr9, cr10, cr11, lr, PlainScalar.none_, T, S]) rfl ⟨by rw [hs]; first | done | rfl, by repeat (first | (with_reducible exact hB) | (with_reducible refine Bl_set ?_ (by first | omega | (simp; done) | (simp; omega)) _) | with_reducible apply Bl_alloc)⟩
set_option maxRecDepth 100000 in
set_option maxHeartbeats 3200000 in
theorem sgreater_c (a b : Rng) (s : Bool) (w : World) : Calls Try.prog 83 #[pv2 a b, .bool s] w fun e w' => e = .returned (tv (PlainBranch.sGreater (a, b) s)) ∧ Below w.heap.size w w' := by
  cases s
  · obtain ⟨R, e_R⟩ : ∃ z' : PlainBranch.Pair × Bool, z' = PlainBranch.settleP ((⟨a.b, a.lo, a.hi, (PlainScalar.maxS a.sl b.sl), a.sh⟩ : Rng), (⟨b.b, b.lo, b.hi, b.sl, (PlainScalar.minS b.sh a.sh)⟩ : Rng)) := ⟨_, rfl⟩
    have k_R : ∀ w : World, Calls Try.prog 71 #[pv2 ⟨a.b, a.lo, a.hi, (PlainScalar.maxS a.sl b.sl), a.sh⟩ ⟨b.b, b.lo, b.hi, b.sl, (PlainScalar.minS b.sh a.sh)⟩] w fun e w' => e = .returned (tv R) ∧ Below w.heap.size w w' := fun w => by rw [e_R]; exact psettle_c ⟨a.b, a.lo, a.hi, (PlainScalar.maxS a.sl b.sl), a.sh⟩ ⟨b.b, b.lo, b.hi, b.sl, (PlainScalar.minS b.sh a.sh)⟩ w
    have hs : PlainBranch.sGreater (a, b) false = R := by rw [e_R]; unfold PlainBranch.sGreater; rw [if_neg (fun h => absurd h.1 (by decide))]; simp [PlainBranch.more]
    clear e_R
    have := i64_S b.sl
    have := i64_S a.sh
    have := w64_S b.sl
    have := w64_S a.sh
    have := i_up b.sl
    have := i_up' b.sl
    have := i_down a.sh
    have := i_down' a.sh
    try clear p1
    try clear p2
    go_enter Try.func83, Try.ntmps83
    go_upto_region 1 with fail
    obtain ⟨gp, hgp⟩ : ∃ g, g = w.heap.size := ⟨_, rfl⟩
    obtain ⟨gr, hgr⟩ : ∃ g, g = w.heap.size + 1 := ⟨_, rfl⟩
    have Bp : Blk ((w.alloc (.cells #[uv a.b.v, uv a.b.m, uv a.lo, uv a.hi, sv a.sl, sv a.sh, uv b.b.v, uv b.b.m, uv b.lo, uv b.hi, sv b.sl, sv b.sh] 118)).alloc (.cells #[.int .u64 0, .int .u64 0, .int .u64 0, .int .u64 0, .int .i64 0, .int .i64 0, .int .u64 0, .int .u64 0, .int .u64 0, .int .u64 0, .int .i64 0, .int .i64 0] 118)) (w.heap.size) 118 #[uv a.b.v, uv a.b.m, uv a.lo, uv a.hi, sv a.sl, sv a.sh, uv b.b.v, uv b.b.m, uv b.lo, uv b.hi, sv b.sl, sv b.sh] := ((Blk.new w 118 #[uv a.b.v, uv a.b.m, uv a.lo, uv a.hi, sv a.sl, sv a.sh, uv b.b.v, uv b.b.m, uv b.lo, uv b.hi, sv b.sl, sv b.sh])).alloc _
    have Br : Blk ((w.alloc (.cells #[uv a.b.v, uv a.b.m, uv a.lo, uv a.hi, sv a.sl, sv a.sh, uv b.b.v, uv b.b.m, uv b.lo, uv b.hi, sv b.sl, sv b.sh] 118)).alloc (.cells #[.int .u64 0, .int .u64 0, .int .u64 0, .int .u64 0, .int .i64 0, .int .i64 0, .int .u64 0, .int .u64 0, .int .u64 0, .int .u64 0, .int .i64 0, .int .i64 0] 118)) (w.heap.size + 1) 118 #[.int .u64 0, .int .u64 0, .int .u64 0, .int .u64 0, .int .i64 0, .int .i64 0, .int .u64 0, .int .u64 0, .int .u64 0, .int .u64 0, .int .i64 0, .int .i64 0] := (by simpa using Blk.new (w.alloc (.cells #[uv a.b.v, uv a.b.m, uv a.lo, uv a.hi, sv a.sl, sv a.sh, uv b.b.v, uv b.b.m, uv b.lo, uv b.hi, sv b.sl, sv b.sh] 118)) 118 #[.int .u64 0, .int .u64 0, .int .u64 0, .int .u64 0, .int .i64 0, .int .i64 0, .int .u64 0, .int .u64 0, .int .u64 0, .int .u64 0, .int .i64 0, .int .i64 0] : Blk _ (w.heap.size + 1) 118 #[.int .u64 0, .int .u64 0, .int .u64 0, .int .u64 0, .int .i64 0, .int .i64 0, .int .u64 0, .int .u64 0, .int .u64 0, .int .u64 0, .int .i64 0, .int .i64 0])
    have hB : Below w.heap.size w ((w.alloc (.cells #[uv a.b.v, uv a.b.m, uv a.lo, uv a.hi, sv a.sl, sv a.sh, uv b.b.v, uv b.b.m, uv b.lo, uv b.hi, sv b.sl, sv b.sh] 118)).alloc (.cells #[.int .u64 0, .int .u64 0, .int .u64 0, .int .u64 0, .int .i64 0, .int .i64 0, .int .u64 0, .int .u64 0, .int .u64 0, .int .u64 0, .int .i64 0, .int .i64 0] 118)) := (Bl_alloc (Bl_alloc (Bl_refl w) _) _)
    clear hgp
    clear gp
    clear hgr
    clear gr
    generalize ((w.alloc (.cells #[uv a.b.v, uv a.b.m, uv a.lo, uv a.hi, sv a.sl, sv a.sh, uv b.b.v, uv b.b.m, uv b.lo, uv b.hi, sv b.sl, sv b.sh] 118)).alloc (.cells #[.int .u64 0, .int .u64 0, .int .u64 0, .int .u64 0, .int .i64 0, .int .i64 0, .int .u64 0, .int .u64 0, .int .u64 0, .int .u64 0, .int .i64 0, .int .i64 0] 118)) = w1 at *
    obtain ⟨cp0, cp1, cp2, cp3, cp4, cp5, cp6, cp7, cp8, cp9, cp10, cp11⟩ := cells12 Bp
    have fp := Bp.frozen; have lp := Bp.lt
    obtain ⟨cr0, cr1, cr2, cr3, cr4, cr5, cr6, cr7, cr8, cr9, cr10, cr11⟩ := cells12 Br
    have fr := Br.frozen; have lr := Br.lt
    go_upto_region 7 with fail
    clear cp0 cp1 cp2 cp3 cp4 cp5 cp6 cp7 cp8 cp9 cp10 cp11 fp lp
    clear cr0 cr1 cr2 cr3 cr4 cr5 cr6 cr7 cr8 cr9 cr10 cr11 fr lr
    replace Bp : Blk (w1.setCell ⟨w.heap.size, 4, none⟩ (sv (PlainScalar.maxS a.sl b.sl))) (w.heap.size) 118 #[uv a.b.v, uv a.b.m, uv a.lo, uv a.hi, sv (PlainScalar.maxS a.sl b.sl), sv a.sh, uv b.b.v, uv b.b.m, uv b.lo, uv b.hi, sv b.sl, sv b.sh] := Bp.set_ 4 _
    replace Br : Blk (w1.setCell ⟨w.heap.size, 4, none⟩ (sv (PlainScalar.maxS a.sl b.sl))) (w.heap.size + 1) 118 #[.int .u64 0, .int .u64 0, .int .u64 0, .int .u64 0, .int .i64 0, .int .i64 0, .int .u64 0, .int .u64 0, .int .u64 0, .int .u64 0, .int .i64 0, .int .i64 0] := (Br.far (by first | (simp; done) | (simp; omega) | (simp [*]; done) | (simp only [ne_eq]; constructor <;> omega)) _)
    replace hB : Below w.heap.size w (w1.setCell ⟨w.heap.size, 4, none⟩ (sv (PlainScalar.maxS a.sl b.sl))) := (Bl_set hB (by first | omega | (simp; done) | (simp; omega)) _)
    generalize (w1.setCell ⟨w.heap.size, 4, none⟩ (sv (PlainScalar.maxS a.sl b.sl))) = w2 at *
    obtain ⟨cp0, cp1, cp2, cp3, cp4, cp5, cp6, cp7, cp8, cp9, cp10, cp11⟩ := cells12 Bp
    have fp := Bp.frozen; have lp := Bp.lt
    obtain ⟨cr0, cr1, cr2, cr3, cr4, cr5, cr6, cr7, cr8, cr9, cr10, cr11⟩ := cells12 Br
    have fr := Br.frozen; have lr := Br.lt
    go_upto_region 8 with fail
    clear cp0 cp1 cp2 cp3 cp4 cp5 cp6 cp7 cp8 cp9 cp10 cp11 fp lp
    clear cr0 cr1 cr2 cr3 cr4 cr5 cr6 cr7 cr8 cr9 cr10 cr11 fr lr
    replace Bp : Blk (w2.setCell ⟨w.heap.size, 11, none⟩ (sv (PlainScalar.minS b.sh a.sh))) (w.heap.size) 118 #[uv a.b.v, uv a.b.m, uv a.lo, uv a.hi, sv (PlainScalar.maxS a.sl b.sl), sv a.sh, uv b.b.v, uv b.b.m, uv b.lo, uv b.hi, sv b.sl, sv (PlainScalar.minS b.sh a.sh)] := Bp.set_ 11 _
    replace Br : Blk (w2.setCell ⟨w.heap.size, 11, none⟩ (sv (PlainScalar.minS b.sh a.sh))) (w.heap.size + 1) 118 #[.int .u64 0, .int .u64 0, .int .u64 0, .int .u64 0, .int .i64 0, .int .i64 0, .int .u64 0, .int .u64 0, .int .u64 0, .int .u64 0, .int .i64 0, .int .i64 0] := (Br.far (by first | (simp; done) | (simp; omega) | (simp [*]; done) | (simp only [ne_eq]; constructor <;> omega)) _)
    replace hB : Below w.heap.size w (w2.setCell ⟨w.heap.size, 11, none⟩ (sv (PlainScalar.minS b.sh a.sh))) := (Bl_set hB (by first | omega | (simp; done) | (simp; omega)) _)
    generalize (w2.setCell ⟨w.heap.size, 11, none⟩ (sv (PlainScalar.minS b.sh a.sh))) = w3 at *
    obtain ⟨cp0, cp1, cp2, cp3, cp4, cp5, cp6, cp7, cp8, cp9, cp10, cp11⟩ := cells12 Bp
    have fp := Bp.frozen; have lp := Bp.lt
    obtain ⟨cr0, cr1, cr2, cr3, cr4, cr5, cr6, cr7, cr8, cr9, cr10, cr11⟩ := cells12 Br
    have fr := Br.frozen; have lr := Br.lt
    go_wp2_with fail
    refine (k_R _).mono ?_
    rintro e w4 ⟨rfl, hb⟩
    clear cp0 cp1 cp2 cp3 cp4 cp5 cp6 cp7 cp8 cp9 cp10 cp11 fp lp
    clear cr0 cr1 cr2 cr3 cr4 cr5 cr6 cr7 cr8 cr9 cr10 cr11 fr lr
    replace Bp := (Bp).next hb
    replace Br := (Br).next hb
    replace hB : Below w.heap.size w w4 := by repeat (first | exact hB | (refine Bl_set ?_ (by first | omega | (simp; omega)) _) | apply Bl_alloc | (refine Bl_trans ?_ hb))
    clear hb
    obtain ⟨cp0, cp1, cp2, cp3, cp4, cp5, cp6, cp7, cp8, cp9, cp10, cp11⟩ := cells12 Bp
    have fp := Bp.frozen; have lp := Bp.lt
    obtain ⟨cr0, cr1, cr2, cr3, cr4, cr5, cr6, cr7, cr8, cr9, cr10, cr11⟩ := cells12 Br
    have fr := Br.frozen; have lr := Br.lt
    go_wp2
    exact bodyPost_ret (v := tv R) (by simp [results, Try.results83, go_sem, cr0, cr1, cr2, cr3, cr4, cr5, cr6, cr7, cr8, cr9, cr10, cr11, lr]) rfl ⟨by rw [hs]; first | done | rfl, by repeat (first | (with_reducible exact hB) | (with_reducible refine Bl_set ?_ (by first | omega | (simp; done) | (simp; omega)) _) | with_reducible apply Bl_alloc)⟩
  · cases q1 : (S b.sl == 9223372036854775807)
    · have p1 : ¬ b.sl = PlainScalar.maxI := by rw [S_beqMax] at q1; simpa using q1
      cases q2 : (S a.sh == -9223372036854775808)
      · have p2 : ¬ a.sh = PlainScalar.minI := by rw [S_beqMin] at q2; simpa using q2
        obtain ⟨R, e_R⟩ : ∃ z' : PlainBranch.Pair × Bool, z' = PlainBranch.settleP ((⟨a.b, a.lo, a.hi, (PlainScalar.maxS a.sl (b.sl + 1#64)), a.sh⟩ : Rng), (⟨b.b, b.lo, b.hi, b.sl, (PlainScalar.minS b.sh (a.sh - 1#64))⟩ : Rng)) := ⟨_, rfl⟩
        have k_R : ∀ w : World, Calls Try.prog 71 #[pv2 ⟨a.b, a.lo, a.hi, (PlainScalar.maxS a.sl (b.sl + 1#64)), a.sh⟩ ⟨b.b, b.lo, b.hi, b.sl, (PlainScalar.minS b.sh (a.sh - 1#64))⟩] w fun e w' => e = .returned (tv R) ∧ Below w.heap.size w w' := fun w => by rw [e_R]; exact psettle_c ⟨a.b, a.lo, a.hi, (PlainScalar.maxS a.sl (b.sl + 1#64)), a.sh⟩ ⟨b.b, b.lo, b.hi, b.sl, (PlainScalar.minS b.sh (a.sh - 1#64))⟩ w
        have hs : PlainBranch.sGreater (a, b) true = R := by rw [e_R]; unfold PlainBranch.sGreater; rw [if_neg (fun h => h.2.elim p1 p2)]; simp [PlainBranch.more]
        clear e_R
        have := i64_S b.sl
        have := i64_S a.sh
        have := w64_S b.sl
        have := w64_S a.sh
        have := i_up b.sl
        have := i_up' b.sl
        have := i_down a.sh
        have := i_down' a.sh
        try clear p1
        try clear p2
        go_enter Try.func83, Try.ntmps83
        go_upto_region 1 with fail
        obtain ⟨gp, hgp⟩ : ∃ g, g = w.heap.size := ⟨_, rfl⟩
        obtain ⟨gr, hgr⟩ : ∃ g, g = w.heap.size + 1 := ⟨_, rfl⟩
        have Bp : Blk ((w.alloc (.cells #[uv a.b.v, uv a.b.m, uv a.lo, uv a.hi, sv a.sl, sv a.sh, uv b.b.v, uv b.b.m, uv b.lo, uv b.hi, sv b.sl, sv b.sh] 118)).alloc (.cells #[.int .u64 0, .int .u64 0, .int .u64 0, .int .u64 0, .int .i64 0, .int .i64 0, .int .u64 0, .int .u64 0, .int .u64 0, .int .u64 0, .int .i64 0, .int .i64 0] 118)) (w.heap.size) 118 #[uv a.b.v, uv a.b.m, uv a.lo, uv a.hi, sv a.sl, sv a.sh, uv b.b.v, uv b.b.m, uv b.lo, uv b.hi, sv b.sl, sv b.sh] := ((Blk.new w 118 #[uv a.b.v, uv a.b.m, uv a.lo, uv a.hi, sv a.sl, sv a.sh, uv b.b.v, uv b.b.m, uv b.lo, uv b.hi, sv b.sl, sv b.sh])).alloc _
        have Br : Blk ((w.alloc (.cells #[uv a.b.v, uv a.b.m, uv a.lo, uv a.hi, sv a.sl, sv a.sh, uv b.b.v, uv b.b.m, uv b.lo, uv b.hi, sv b.sl, sv b.sh] 118)).alloc (.cells #[.int .u64 0, .int .u64 0, .int .u64 0, .int .u64 0, .int .i64 0, .int .i64 0, .int .u64 0, .int .u64 0, .int .u64 0, .int .u64 0, .int .i64 0, .int .i64 0] 118)) (w.heap.size + 1) 118 #[.int .u64 0, .int .u64 0, .int .u64 0, .int .u64 0, .int .i64 0, .int .i64 0, .int .u64 0, .int .u64 0, .int .u64 0, .int .u64 0, .int .i64 0, .int .i64 0] := (by simpa using Blk.new (w.alloc (.cells #[uv a.b.v, uv a.b.m, uv a.lo, uv a.hi, sv a.sl, sv a.sh, uv b.b.v, uv b.b.m, uv b.lo, uv b.hi, sv b.sl, sv b.sh] 118)) 118 #[.int .u64 0, .int .u64 0, .int .u64 0, .int .u64 0, .int .i64 0, .int .i64 0, .int .u64 0, .int .u64 0, .int .u64 0, .int .u64 0, .int .i64 0, .int .i64 0] : Blk _ (w.heap.size + 1) 118 #[.int .u64 0, .int .u64 0, .int .u64 0, .int .u64 0, .int .i64 0, .int .i64 0, .int .u64 0, .int .u64 0, .int .u64 0, .int .u64 0, .int .i64 0, .int .i64 0])
        have hB : Below w.heap.size w ((w.alloc (.cells #[uv a.b.v, uv a.b.m, uv a.lo, uv a.hi, sv a.sl, sv a.sh, uv b.b.v, uv b.b.m, uv b.lo, uv b.hi, sv b.sl, sv b.sh] 118)).alloc (.cells #[.int .u64 0, .int .u64 0, .int .u64 0, .int .u64 0, .int .i64 0, .int .i64 0, .int .u64 0, .int .u64 0, .int .u64 0, .int .u64 0, .int .i64 0, .int .i64 0] 118)) := (Bl_alloc (Bl_alloc (Bl_refl w) _) _)
        clear hgp
        clear gp
        clear hgr
        clear gr
        generalize ((w.alloc (.cells #[uv a.b.v, uv a.b.m, uv a.lo, uv a.hi, sv a.sl, sv a.sh, uv b.b.v, uv b.b.m, uv b.lo, uv b.hi, sv b.sl, sv b.sh] 118)).alloc (.cells #[.int .u64 0, .int .u64 0, .int .u64 0, .int .u64 0, .int .i64 0, .int .i64 0, .int .u64 0, .int .u64 0, .int .u64 0, .int .u64 0, .int .i64 0, .int .i64 0] 118)) = w1 at *
        obtain ⟨cp0, cp1, cp2, cp3, cp4, cp5, cp6, cp7, cp8, cp9, cp10, cp11⟩ := cells12 Bp
        have fp := Bp.frozen; have lp := Bp.lt
        obtain ⟨cr0, cr1, cr2, cr3, cr4, cr5, cr6, cr7, cr8, cr9, cr10, cr11⟩ := cells12 Br
        have fr := Br.frozen; have lr := Br.lt
        go_upto_region 7 with fail
        clear cp0 cp1 cp2 cp3 cp4 cp5 cp6 cp7 cp8 cp9 cp10 cp11 fp lp
        clear cr0 cr1 cr2 cr3 cr4 cr5 cr6 cr7 cr8 cr9 cr10 cr11 fr lr
        replace Bp : Blk (w1.setCell ⟨w.heap.size, 4, none⟩ (sv (PlainScalar.maxS a.sl (b.sl + 1#64)))) (w.heap.size) 118 #[uv a.b.v, uv a.b.m, uv a.lo, uv a.hi, sv (PlainScalar.maxS a.sl (b.sl + 1#64)), sv a.sh, uv b.b.v, uv b.b.m, uv b.lo, uv b.hi, sv b.sl, sv b.sh] := Bp.set_ 4 _
        replace Br : Blk (w1.setCell ⟨w.heap.size, 4, none⟩ (sv (PlainScalar.maxS a.sl (b.sl + 1#64)))) (w.heap.size + 1) 118 #[.int .u64 0, .int .u64 0, .int .u64 0, .int .u64 0, .int .i64 0, .int .i64 0, .int .u64 0, .int .u64 0, .int .u64 0, .int .u64 0, .int .i64 0, .int .i64 0] := (Br.far (by first | (simp; done) | (simp; omega) | (simp [*]; done) | (simp only [ne_eq]; constructor <;> omega)) _)
        replace hB : Below w.heap.size w (w1.setCell ⟨w.heap.size, 4, none⟩ (sv (PlainScalar.maxS a.sl (b.sl + 1#64)))) := (Bl_set hB (by first | omega | (simp; done) | (simp; omega)) _)
        generalize (w1.setCell ⟨w.heap.size, 4, none⟩ (sv (PlainScalar.maxS a.sl (b.sl + 1#64)))) = w2 at *
        obtain ⟨cp0, cp1, cp2, cp3, cp4, cp5, cp6, cp7, cp8, cp9, cp10, cp11⟩ := cells12 Bp
        have fp := Bp.frozen; have lp := Bp.lt
        obtain ⟨cr0, cr1, cr2, cr3, cr4, cr5, cr6, cr7, cr8, cr9, cr10, cr11⟩ := cells12 Br
        have fr := Br.frozen; have lr := Br.lt
        go_upto_region 8 with fail
        clear cp0 cp1 cp2 cp3 cp4 cp5 cp6 cp7 cp8 cp9 cp10 cp11 fp lp
        clear cr0 cr1 cr2 cr3 cr4 cr5 cr6 cr7 cr8 cr9 cr10 cr11 fr lr
        replace Bp : Blk (w2.setCell ⟨w.heap.size, 11, none⟩ (sv (PlainScalar.minS b.sh (a.sh - 1#64)))) (w.heap.size) 118 #[uv a.b.v, uv a.b.m, uv a.lo, uv a.hi, sv (PlainScalar.maxS a.sl (b.sl + 1#64)), sv a.sh, uv b.b.v, uv b.b.m, uv b.lo, uv b.hi, sv b.sl, sv (PlainScalar.minS b.sh (a.sh - 1#64))] := Bp.set_ 11 _
        replace Br : Blk (w2.setCell ⟨w.heap.size, 11, none⟩ (sv (PlainScalar.minS b.sh (a.sh - 1#64)))) (w.heap.size + 1) 118 #[.int .u64 0, .int .u64 0, .int .u64 0, .int .u64 0, .int .i64 0, .int .i64 0, .int .u64 0, .int .u64 0, .int .u64 0, .int .u64 0, .int .i64 0, .int .i64 0] := (Br.far (by first | (simp; done) | (simp; omega) | (simp [*]; done) | (simp only [ne_eq]; constructor <;> omega)) _)
        replace hB : Below w.heap.size w (w2.setCell ⟨w.heap.size, 11, none⟩ (sv (PlainScalar.minS b.sh (a.sh - 1#64)))) := (Bl_set hB (by first | omega | (simp; done) | (simp; omega)) _)
        generalize (w2.setCell ⟨w.heap.size, 11, none⟩ (sv (PlainScalar.minS b.sh (a.sh - 1#64)))) = w3 at *
        obtain ⟨cp0, cp1, cp2, cp3, cp4, cp5, cp6, cp7, cp8, cp9, cp10, cp11⟩ := cells12 Bp
        have fp := Bp.frozen; have lp := Bp.lt
        obtain ⟨cr0, cr1, cr2, cr3, cr4, cr5, cr6, cr7, cr8, cr9, cr10, cr11⟩ := cells12 Br
        have fr := Br.frozen; have lr := Br.lt
        go_wp2_with fail
        refine (k_R _).mono ?_
        rintro e w4 ⟨rfl, hb⟩
        clear cp0 cp1 cp2 cp3 cp4 cp5 cp6 cp7 cp8 cp9 cp10 cp11 fp lp
        clear cr0 cr1 cr2 cr3 cr4 cr5 cr6 cr7 cr8 cr9 cr10 cr11 fr lr
        replace Bp := (Bp).next hb
        replace Br := (Br).next hb
        replace hB : Below w.heap.size w w4 := by repeat (first | exact hB | (refine Bl_set ?_ (by first | omega | (simp; omega)) _) | apply Bl_alloc | (refine Bl_trans ?_ hb))
        clear hb
        obtain ⟨cp0, cp1, cp2, cp3, cp4, cp5, cp6, cp7, cp8, cp9, cp10, cp11⟩ := cells12 Bp
        have fp := Bp.frozen; have lp := Bp.lt
        obtain ⟨cr0, cr1, cr2, cr3, cr4, cr5, cr6, cr7, cr8, cr9, cr10, cr11⟩ := cells12 Br
        have fr := Br.frozen; have lr := Br.lt
        go_wp2
        exact bodyPost_ret (v := tv R) (by simp [results, Try.results83, go_sem, cr0, cr1, cr2, cr3, cr4, cr5, cr6, cr7, cr8, cr9, cr10, cr11, lr]) rfl ⟨by rw [hs]; first | done | rfl, by repeat (first | (with_reducible exact hB) | (with_reducible refine Bl_set ?_ (by first | omega | (simp; done) | (simp; omega)) _) | with_reducible apply Bl_alloc)⟩
      · have p2 : a.sh = PlainScalar.minI := by rw [S_beqMin] at q2; simpa using q2
        have hs : PlainBranch.sGreater (a, b) true = (PlainBranch.zero, false) := by unfold PlainBranch.sGreater; rw [if_pos ⟨rfl, .inr p2⟩]
        try clear p1
        try clear p2
        go_enter Try.func83, Try.ntmps83
        go_upto_region 1 with fail
        obtain ⟨gp, hgp⟩ : ∃ g, g = w.heap.size := ⟨_, rfl⟩
        obtain ⟨gr, hgr⟩ : ∃ g, g = w.heap.size + 1 := ⟨_, rfl⟩
        have Bp : Blk ((w.alloc (.cells #[uv a.b.v, uv a.b.m, uv a.lo, uv a.hi, sv a.sl, sv a.sh, uv b.b.v, uv b.b.m, uv b.lo, uv b.hi, sv b.sl, sv b.sh] 118)).alloc (.cells #[.int .u64 0, .int .u64 0, .int .u64 0, .int .u64 0, .int .i64 0, .int .i64 0, .int .u64 0, .int .u64 0, .int .u64 0, .int .u64 0, .int .i64 0, .int .i64 0] 118)) (w.heap.size) 118 #[uv a.b.v, uv a.b.m, uv a.lo, uv a.hi, sv a.sl, sv a.sh, uv b.b.v, uv b.b.m, uv b.lo, uv b.hi, sv b.sl, sv b.sh] := ((Blk.new w 118 #[uv a.b.v, uv a.b.m, uv a.lo, uv a.hi, sv a.sl, sv a.sh, uv b.b.v, uv b.b.m, uv b.lo, uv b.hi, sv b.sl, sv b.sh])).alloc _
        have Br : Blk ((w.alloc (.cells #[uv a.b.v, uv a.b.m, uv a.lo, uv a.hi, sv a.sl, sv a.sh, uv b.b.v, uv b.b.m, uv b.lo, uv b.hi, sv b.sl, sv b.sh] 118)).alloc (.cells #[.int .u64 0, .int .u64 0, .int .u64 0, .int .u64 0, .int .i64 0, .int .i64 0, .int .u64 0, .int .u64 0, .int .u64 0, .int .u64 0, .int .i64 0, .int .i64 0] 118)) (w.heap.size + 1) 118 #[.int .u64 0, .int .u64 0, .int .u64 0, .int .u64 0, .int .i64 0, .int .i64 0, .int .u64 0, .int .u64 0, .int .u64 0, .int .u64 0, .int .i64 0, .int .i64 0] := (by simpa using Blk.new (w.alloc (.cells #[uv a.b.v, uv a.b.m, uv a.lo, uv a.hi, sv a.sl, sv a.sh, uv b.b.v, uv b.b.m, uv b.lo, uv b.hi, sv b.sl, sv b.sh] 118)) 118 #[.int .u64 0, .int .u64 0, .int .u64 0, .int .u64 0, .int .i64 0, .int .i64 0, .int .u64 0, .int .u64 0, .int .u64 0, .int .u64 0, .int .i64 0, .int .i64 0] : Blk _ (w.heap.size + 1) 118 #[.int .u64 0, .int .u64 0, .int .u64 0, .int .u64 0, .int .i64 0, .int .i64 0, .int .u64 0, .int .u64 0, .int .u64 0, .int .u64 0, .int .i64 0, .int .i64 0])
        have hB : Below w.heap.size w ((w.alloc (.cells #[uv a.b.v, uv a.b.m, uv a.lo, uv a.hi, sv a.sl, sv a.sh, uv b.b.v, uv b.b.m, uv b.lo, uv b.hi, sv b.sl, sv b.sh] 118)).alloc (.cells #[.int .u64 0, .int .u64 0, .int .u64 0, .int .u64 0, .int .i64 0, .int .i64 0, .int .u64 0, .int .u64 0, .int .u64 0, .int .u64 0, .int .i64 0, .int .i64 0] 118)) := (Bl_alloc (Bl_alloc (Bl_refl w) _) _)
        clear hgp
        clear gp
        clear hgr
        clear gr
        generalize ((w.alloc (.cells #[uv a.b.v, uv a.b.m, uv a.lo, uv a.hi, sv a.sl, sv a.sh, uv b.b.v, uv b.b.m, uv b.lo, uv b.hi, sv b.sl, sv b.sh] 118)).alloc (.cells #[.int .u64 0, .int .u64 0, .int .u64 0, .int .u64 0, .int .i64 0, .int .i64 0, .int .u64 0, .int .u64 0, .int .u64 0, .int .u64 0, .int .i64 0, .int .i64 0] 118)) = w1 at *
        obtain ⟨cp0, cp1, cp2, cp3, cp4, cp5, cp6, cp7, cp8, cp9, cp10, cp11⟩ := cells12 Bp
        have fp := Bp.frozen; have lp := Bp.lt
        obtain ⟨cr0, cr1, cr2, cr3, cr4, cr5, cr6, cr7, cr8, cr9, cr10, cr11⟩ := cells12 Br
        have fr := Br.frozen; have lr := Br.lt
        go_wp2
        exact bodyPost_ret (v := .tuple #[pv2 PlainScalar.none_ PlainScalar.none_, .bool false]) (by simp [results, Try.results83, go_sem, cr0, cr1, cr2, cr3, cr4, cr5, cr6, cr7, cr8, cr9, cr10, cr11, lr, PlainScalar.none_, T, S]) rfl ⟨by rw [hs]; first | done | rfl, by repeat (first | (with_reducible exact hB) | (with_reducible refine Bl_set ?_ (by first | omega | (simp; done) | (simp; omega)) _) | with_reducible apply Bl_alloc)⟩
    · have p1 : b.sl = PlainScalar.maxI := by rw [S_beqMax] at q1; simpa using q1
      have hs : PlainBranch.sGreater (a, b) true = (PlainBranch.zero, false) := by unfold PlainBranch.sGreater; rw [if_pos ⟨rfl, .inl p1⟩]
      try clear p1
      try clear p2
      go_enter Try.func83, Try.ntmps83
      go_upto_region 1 with fail
      obtain ⟨gp, hgp⟩ : ∃ g, g = w.heap.size := ⟨_, rfl⟩
      obtain ⟨gr, hgr⟩ : ∃ g, g = w.heap.size + 1 := ⟨_, rfl⟩
      have Bp : Blk ((w.alloc (.cells #[uv a.b.v, uv a.b.m, uv a.lo, uv a.hi, sv a.sl, sv a.sh, uv b.b.v, uv b.b.m, uv b.lo, uv b.hi, sv b.sl, sv b.sh] 118)).alloc (.cells #[.int .u64 0, .int .u64 0, .int .u64 0, .int .u64 0, .int .i64 0, .int .i64 0, .int .u64 0, .int .u64 0, .int .u64 0, .int .u64 0, .int .i64 0, .int .i64 0] 118)) (w.heap.size) 118 #[uv a.b.v, uv a.b.m, uv a.lo, uv a.hi, sv a.sl, sv a.sh, uv b.b.v, uv b.b.m, uv b.lo, uv b.hi, sv b.sl, sv b.sh] := ((Blk.new w 118 #[uv a.b.v, uv a.b.m, uv a.lo, uv a.hi, sv a.sl, sv a.sh, uv b.b.v, uv b.b.m, uv b.lo, uv b.hi, sv b.sl, sv b.sh])).alloc _
      have Br : Blk ((w.alloc (.cells #[uv a.b.v, uv a.b.m, uv a.lo, uv a.hi, sv a.sl, sv a.sh, uv b.b.v, uv b.b.m, uv b.lo, uv b.hi, sv b.sl, sv b.sh] 118)).alloc (.cells #[.int .u64 0, .int .u64 0, .int .u64 0, .int .u64 0, .int .i64 0, .int .i64 0, .int .u64 0, .int .u64 0, .int .u64 0, .int .u64 0, .int .i64 0, .int .i64 0] 118)) (w.heap.size + 1) 118 #[.int .u64 0, .int .u64 0, .int .u64 0, .int .u64 0, .int .i64 0, .int .i64 0, .int .u64 0, .int .u64 0, .int .u64 0, .int .u64 0, .int .i64 0, .int .i64 0] := (by simpa using Blk.new (w.alloc (.cells #[uv a.b.v, uv a.b.m, uv a.lo, uv a.hi, sv a.sl, sv a.sh, uv b.b.v, uv b.b.m, uv b.lo, uv b.hi, sv b.sl, sv b.sh] 118)) 118 #[.int .u64 0, .int .u64 0, .int .u64 0, .int .u64 0, .int .i64 0, .int .i64 0, .int .u64 0, .int .u64 0, .int .u64 0, .int .u64 0, .int .i64 0, .int .i64 0] : Blk _ (w.heap.size + 1) 118 #[.int .u64 0, .int .u64 0, .int .u64 0, .int .u64 0, .int .i64 0, .int .i64 0, .int .u64 0, .int .u64 0, .int .u64 0, .int .u64 0, .int .i64 0, .int .i64 0])
      have hB : Below w.heap.size w ((w.alloc (.cells #[uv a.b.v, uv a.b.m, uv a.lo, uv a.hi, sv a.sl, sv a.sh, uv b.b.v, uv b.b.m, uv b.lo, uv b.hi, sv b.sl, sv b.sh] 118)).alloc (.cells #[.int .u64 0, .int .u64 0, .int .u64 0, .int .u64 0, .int .i64 0, .int .i64 0, .int .u64 0, .int .u64 0, .int .u64 0, .int .u64 0, .int .i64 0, .int .i64 0] 118)) := (Bl_alloc (Bl_alloc (Bl_refl w) _) _)
      clear hgp
      clear gp
      clear hgr
      clear gr
      generalize ((w.alloc (.cells #[uv a.b.v, uv a.b.m, uv a.lo, uv a.hi, sv a.sl, sv a.sh, uv b.b.v, uv b.b.m, uv b.lo, uv b.hi, sv b.sl, sv b.sh] 118)).alloc (.cells #[.int .u64 0, .int .u64 0, .int .u64 0, .int .u64 0, .int .i64 0, .int .i64 0, .int .u64 0, .int .u64 0, .int .u64 0, .int .u64 0, .int .i64 0, .int .i64 0] 118)) = w1 at *
      obtain ⟨cp0, cp1, cp2, cp3, cp4, cp5, cp6, cp7, cp8, cp9, cp10, cp11⟩ := cells12 Bp
      have fp := Bp.frozen; have lp := Bp.lt
      obtain ⟨cr0, cr1, cr2, cr3, cr4, cr5, cr6, cr7, cr8, cr9, cr10, cr11⟩ := cells12 Br
      have fr := Br.frozen; have lr := Br.lt
      go_wp2
      exact bodyPost_ret (v := .tuple #[pv2 PlainScalar.none_ PlainScalar.none_, .bool false]) (by simp [results, Try.results83, go_sem, cr0, cr1, cr2, cr3, cr4, cr5, cr6, cr7, cr8, cr9, cr10, cr11, lr, PlainScalar.none_, T, S]) rfl ⟨by rw [hs]; first | done | rfl, by repeat (first | (with_reducible exact hB) | (with_reducible refine Bl_set ?_ (by first | omega | (simp; done) | (simp; omega)) _) | with_reducible apply Bl_alloc)⟩
end Go.Proofs.Ytmghpoagpiljhab
