/- The walks of package branch, sixth part: refine, Refine. -/
import Derived.Test.YtmghpoagpiljhabBr5
import Derived.Test.YtmghpoagpiljhabSc4
set_option linter.unusedSimpArgs false
namespace Go.Proofs.Ytmghpoagpiljhab
open Go.RowKit
open PlainTnum (N)
open PlainScalar (Rng)
set_option maxRecDepth 100000 in
set_option maxHeartbeats 3200000 in
theorem refP_no (a b u v : Rng) (op : Int) (l : Bool) (h : Bool) (k_Q : ∀ w : World, Calls Try.prog 71 #[pv2 a b] w fun e w' => e = .returned (.tuple #[pv2 u v, .bool false]) ∧ Below w.heap.size w w') (hs : PlainBranch.refineP op l (a, b) h = (PlainBranch.zero, false)) (w : World) : Calls Try.prog 63 #[.int .i64 op, .bool l, pv2 a b, .bool h] w fun e w' => e = .returned (tv (PlainBranch.refineP op l (a, b) h)) ∧ Below w.heap.size w w' := by
  go_enter Try.func63, Try.ntmps63
  go_wp2_with fail
  obtain ⟨gp, hgp⟩ : ∃ g, g = w.heap.size := ⟨_, rfl⟩
  obtain ⟨gr, hgr⟩ : ∃ g, g = w.heap.size + 1 := ⟨_, rfl⟩
  have Bp : Blk ((w.alloc (.cells #[uv a.b.v, uv a.b.m, uv a.lo, uv a.hi, sv a.sl, sv a.sh, uv b.b.v, uv b.b.m, uv b.lo, uv b.hi, sv b.sl, sv b.sh] 118)).alloc (.cells #[.int .u64 0, .int .u64 0, .int .u64 0, .int .u64 0, .int .i64 0, .int .i64 0, .int .u64 0, .int .u64 0, .int .u64 0, .int .u64 0, .int .i64 0, .int .i64 0] 118)) (w.heap.size) 118 #[uv a.b.v, uv a.b.m, uv a.lo, uv a.hi, sv a.sl, sv a.sh, uv b.b.v, uv b.b.m, uv b.lo, uv b.hi, sv b.sl, sv b.sh] := ((Blk.new w 118 #[uv a.b.v, uv a.b.m, uv a.lo, uv a.hi, sv a.sl, sv a.sh, uv b.b.v, uv b.b.m, uv b.lo, uv b.hi, sv b.sl, sv b.sh])).alloc _
  have Br : Blk ((w.alloc (.cells #[uv a.b.v, uv a.b.m, uv a.lo, uv a.hi, sv a.sl, sv a.sh, uv b.b.v, uv b.b.m, uv b.lo, uv b.hi, sv b.sl, sv b.sh] 118)).alloc (.cells #[.int .u64 0, .int .u64 0, .int .u64 0, .int .u64 0, .int .i64 0, .int .i64 0, .int .u64 0, .int .u64 0, .int .u64 0, .int .u64 0, .int .i64 0, .int .i64 0] 118)) (w.heap.size + 1) 118 #[.int .u64 0, .int .u64 0, .int .u64 0, .int .u64 0, .int .i64 0, .int .i64 0, .int .u64 0, .int .u64 0, .int .u64 0, .int .u64 0, .int .i64 0, .int .i64 0] := (by simpa using Blk.new (w.alloc (.cells #[uv a.b.v, uv a.b.m, uv a.lo, uv a.hi, sv a.sl, sv a.sh, uv b.b.v, uv b.b.m, uv b.lo, uv b.hi, sv b.sl, sv b.sh] 118)) 118 #[.int .u64 0, .int .u64 0, .int .u64 0, .int .u64 0, .int .i64 0, .int .i64 0, .int .u64 0, .int .u64 0, .int .u64 0, .int .u64 0, .int .i64 0, .int .i64 0] : Blk _ (w.heap.size + 1) 118 #[.int .u64 0, .int .u64 0, .int .u64 0, .int .u64 0, .int .i64 0, .int .i64 0, .int .u64 0, .int .u64 0, .int .u64 0, .int .u64 0, .int .i64 0, .int .i64 0])
  have hB : Below w.heap.size w ((w.alloc (.cells #[uv a.b.v, uv a.b.m, uv a.lo, uv a.hi, sv a.sl, sv a.sh, uv b.b.v, uv b.b.m, uv b.lo, uv b.hi, sv b.sl, sv b.sh] 118)).alloc (.cells #[.int .u64 0, .int .u64 0, .int .u64 0, .int .u64 0, .int .i64 0, .int .i64 0, .int .u64 0, .int .u64 0, .int .u64 0, .int .u64 0, .int .i64 0, .int .i64 0] 118)) := (Bl_alloc (Bl_alloc (Bl_refl w) _) _)
  clear hgp
  clear gp
  clear hgr
  clear gr
  generalize ((w.alloc (.cells #[uv a.b.v, uv a.b.m, uv a.lo, uv a.hi, sv a.sl, sv a.sh, uv b.b.v, uv b.b.m, uv b.lo, uv b.hi, sv b.sl, sv b.sh] 118)).alloc (.cells #[.int .u64 0, .int .u64 0, .int .u64 0, .int .u64 0, .int .i64 0, .int .i64 0, .int .u64 0, .int .u64 0, .int .u64 0, .int .u64 0, .int .i64 0, .int .i64 0] 118)) = w1 at *
  obtain ⟨cp0, cp1, cp2, cp3, cp4, cp5, cp6, cp7, cp8, cp9, cp10, cp11⟩ := cells12 Bp
  have fp := Bp.frozen; have lp := Bp.lt
  obtain ⟨cr0, cr1, cr2, cr3, cr4, cr5, cr6, cr7, cr8, cr9, cr10, cr11⟩ := cells12 Br
  have fr := Br.frozen; have lr := Br.lt
  go_wp2_with fail
  refine (k_Q _).mono ?_
  rintro e w2 ⟨rfl, hb⟩
  clear cp0 cp1 cp2 cp3 cp4 cp5 cp6 cp7 cp8 cp9 cp10 cp11 fp lp
  clear cr0 cr1 cr2 cr3 cr4 cr5 cr6 cr7 cr8 cr9 cr10 cr11 fr lr
  replace Bp := (Bp).next hb
  replace Br := (Br).next hb
  replace hB : Below w.heap.size w w2 := by repeat (first | exact hB | (refine Bl_set ?_ (by first | omega | (simp; omega)) _) | apply Bl_alloc | (refine Bl_trans ?_ hb))
  clear hb
  obtain ⟨cp0, cp1, cp2, cp3, cp4, cp5, cp6, cp7, cp8, cp9, cp10, cp11⟩ := cells12 Bp
  have fp := Bp.frozen; have lp := Bp.lt
  obtain ⟨cr0, cr1, cr2, cr3, cr4, cr5, cr6, cr7, cr8, cr9, cr10, cr11⟩ := cells12 Br
  have fr := Br.frozen; have lr := Br.lt
  go_upto_region 2 with fail
  clear cp0 cp1 cp2 cp3 cp4 cp5 cp6 cp7 cp8 cp9 cp10 cp11 fp lp
  clear cr0 cr1 cr2 cr3 cr4 cr5 cr6 cr7 cr8 cr9 cr10 cr11 fr lr
  have Bq := Blk.new w2 118 #[uv u.b.v, uv u.b.m, uv u.lo, uv u.hi, sv u.sl, sv u.sh, uv v.b.v, uv v.b.m, uv v.lo, uv v.hi, sv v.sl, sv v.sh]
  have hgq := hB.size
  have hnpq := Nat.ne_of_lt Bp.lt; have hltpq := Bp.lt
  have hnrq := Nat.ne_of_lt Br.lt; have hltrq := Br.lt
  replace Bp : Blk (w2.alloc (.cells #[uv u.b.v, uv u.b.m, uv u.lo, uv u.hi, sv u.sl, sv u.sh, uv v.b.v, uv v.b.m, uv v.lo, uv v.hi, sv v.sl, sv v.sh] 118)) (w.heap.size) 118 #[uv a.b.v, uv a.b.m, uv a.lo, uv a.hi, sv a.sl, sv a.sh, uv b.b.v, uv b.b.m, uv b.lo, uv b.hi, sv b.sl, sv b.sh] := Bp.alloc _
  replace Br : Blk (w2.alloc (.cells #[uv u.b.v, uv u.b.m, uv u.lo, uv u.hi, sv u.sl, sv u.sh, uv v.b.v, uv v.b.m, uv v.lo, uv v.hi, sv v.sl, sv v.sh] 118)) (w.heap.size + 1) 118 #[.int .u64 0, .int .u64 0, .int .u64 0, .int .u64 0, .int .i64 0, .int .i64 0, .int .u64 0, .int .u64 0, .int .u64 0, .int .u64 0, .int .i64 0, .int .i64 0] := Br.alloc _
  replace hB : Below w.heap.size w (w2.alloc (.cells #[uv u.b.v, uv u.b.m, uv u.lo, uv u.hi, sv u.sl, sv u.sh, uv v.b.v, uv v.b.m, uv v.lo, uv v.hi, sv v.sl, sv v.sh] 118)) := Bl_alloc hB _
  generalize (w2.alloc (.cells #[uv u.b.v, uv u.b.m, uv u.lo, uv u.hi, sv u.sl, sv u.sh, uv v.b.v, uv v.b.m, uv v.lo, uv v.hi, sv v.sl, sv v.sh] 118)) = w3 at *
  generalize w2.heap.size = gq at *
  obtain ⟨cp0, cp1, cp2, cp3, cp4, cp5, cp6, cp7, cp8, cp9, cp10, cp11⟩ := cells12 Bp
  have fp := Bp.frozen; have lp := Bp.lt
  obtain ⟨cr0, cr1, cr2, cr3, cr4, cr5, cr6, cr7, cr8, cr9, cr10, cr11⟩ := cells12 Br
  have fr := Br.frozen; have lr := Br.lt
  obtain ⟨cq0, cq1, cq2, cq3, cq4, cq5, cq6, cq7, cq8, cq9, cq10, cq11⟩ := cells12 Bq
  have fq := Bq.frozen; have lq := Bq.lt
  go_wp2
  exact bodyPost_ret (v := .tuple #[pv2 PlainScalar.none_ PlainScalar.none_, .bool false]) (by simp [results, Try.results63, go_sem, cr0, cr1, cr2, cr3, cr4, cr5, cr6, cr7, cr8, cr9, cr10, cr11, lr, PlainScalar.none_, T, S]) rfl ⟨by rw [hs]; first | done | rfl, by repeat (first | (with_reducible exact hB) | (with_reducible refine Bl_set ?_ (by first | omega | (simp; done) | (simp; omega)) _) | with_reducible apply Bl_alloc)⟩
set_option maxRecDepth 100000 in
set_option maxHeartbeats 3200000 in
theorem refP_long (a b u v : Rng) (op : Int) (h : Bool) (k_Q : ∀ w : World, Calls Try.prog 71 #[pv2 a b] w fun e w' => e = .returned (.tuple #[pv2 u v, .bool true]) ∧ Below w.heap.size w w') (k_al : ∀ w : World, Calls Try.prog 72 #[pv2 u v] w fun e w' => e = .returned (.tuple #[uv u.lo, uv v.lo, .bool false]) ∧ Below w.heap.size w w') (k_sh : ∀ w : World, Calls Try.prog 73 #[.int .i64 op, pv2 u v] w fun e w' => e = .returned (.bool false) ∧ Below w.heap.size w w') (hs : PlainBranch.refineP op false (a, b) h = ((u, v), true)) (w : World) : Calls Try.prog 63 #[.int .i64 op, .bool false, pv2 a b, .bool h] w fun e w' => e = .returned (tv (PlainBranch.refineP op false (a, b) h)) ∧ Below w.heap.size w w' := by
  go_enter Try.func63, Try.ntmps63
  go_wp2_with fail
  obtain ⟨gp, hgp⟩ : ∃ g, g = w.heap.size := ⟨_, rfl⟩
  obtain ⟨gr, hgr⟩ : ∃ g, g = w.heap.size + 1 := ⟨_, rfl⟩
  have Bp : Blk ((w.alloc (.cells #[uv a.b.v, uv a.b.m, uv a.lo, uv a.hi, sv a.sl, sv a.sh, uv b.b.v, uv b.b.m, uv b.lo, uv b.hi, sv b.sl, sv b.sh] 118)).alloc (.cells #[.int .u64 0, .int .u64 0, .int .u64 0, .int .u64 0, .int .i64 0, .int .i64 0, .int .u64 0, .int .u64 0, .int .u64 0, .int .u64 0, .int .i64 0, .int .i64 0] 118)) (w.heap.size) 118 #[uv a.b.v, uv a.b.m, uv a.lo, uv a.hi, sv a.sl, sv a.sh, uv b.b.v, uv b.b.m, uv b.lo, uv b.hi, sv b.sl, sv b.sh] := ((Blk.new w 118 #[uv a.b.v, uv a.b.m, uv a.lo, uv a.hi, sv a.sl, sv a.sh, uv b.b.v, uv b.b.m, uv b.lo, uv b.hi, sv b.sl, sv b.sh])).alloc _
  have Br : Blk ((w.alloc (.cells #[uv a.b.v, uv a.b.m, uv a.lo, uv a.hi, sv a.sl, sv a.sh, uv b.b.v, uv b.b.m, uv b.lo, uv b.hi, sv b.sl, sv b.sh] 118)).alloc (.cells #[.int .u64 0, .int .u64 0, .int .u64 0, .int .u64 0, .int .i64 0, .int .i64 0, .int .u64 0, .int .u64 0, .int .u64 0, .int .u64 0, .int .i64 0, .int .i64 0] 118)) (w.heap.size + 1) 118 #[.int .u64 0, .int .u64 0, .int .u64 0, .int .u64 0, .int .i64 0, .int .i64 0, .int .u64 0, .int .u64 0, .int .u64 0, .int .u64 0, .int .i64 0, .int .i64 0] := (by simpa using Blk.new (w.alloc (.cells #[uv a.b.v, uv a.b.m, uv a.lo, uv a.hi, sv a.sl, sv a.sh, uv b.b.v, uv b.b.m, uv b.lo, uv b.hi, sv b.sl, sv b.sh] 118)) 118 #[.int .u64 0, .int .u64 0, .int .u64 0, .int .u64 0, .int .i64 0, .int .i64 0, .int .u64 0, .int .u64 0, .int .u64 0, .int .u64 0, .int .i64 0, .int .i64 0] : Blk _ (w.heap.size + 1) 118 #[.int .u64 0, .int .u64 0, .int .u64 0, .int .u64 0, .int .i64 0, .int .i64 0, .int .u64 0, .int .u64 0, .int .u64 0, .int .u64 0, .int .i64 0, .int .i64 0])
  have hB : Below w.heap.size w ((w.alloc (.cells #[uv a.b.v, uv a.b.m, uv a.lo, uv a.hi, sv a.sl, sv a.sh, uv b.b.v, uv b.b.m, uv b.lo, uv b.hi, sv b.sl, sv b.sh] 118)).alloc (.cells #[.int .u64 0, .int .u64 0, .int .u64 0, .int .u64 0, .int .i64 0, .int .i64 0, .int .u64 0, .int .u64 0, .int .u64 0, .int .u64 0, .int .i64 0, .int .i64 0] 118)) := (Bl_alloc (Bl_alloc (Bl_refl w) _) _)
  clear hgp
  clear gp
  clear hgr
  clear gr
  generalize ((w.alloc (.cells #[uv a.b.v, uv a.b.m, uv a.lo, uv a.hi, sv a.sl, sv a.sh, uv b.b.v, uv b.b.m, uv b.lo, uv b.hi, sv b.sl, sv b.sh] 118)).alloc (.cells #[.int .u64 0, .int .u64 0, .int .u64 0, .int .u64 0, .int .i64 0, .int .i64 0, .int .u64 0, .int .u64 0, .int .u64 0, .int .u64 0, .int .i64 0, .int .i64 0] 118)) = w1 at *
  obtain ⟨cp0, cp1, cp2, cp3, cp4, cp5, cp6, cp7, cp8, cp9, cp10, cp11⟩ := cells12 Bp
  have fp := Bp.frozen; have lp := Bp.lt
  obtain ⟨cr0, cr1, cr2, cr3, cr4, cr5, cr6, cr7, cr8, cr9, cr10, cr11⟩ := cells12 Br
  have fr := Br.frozen; have lr := Br.lt
  go_wp2_with fail
  refine (k_Q _).mono ?_
  rintro e w2 ⟨rfl, hb⟩
  clear cp0 cp1 cp2 cp3 cp4 cp5 cp6 cp7 cp8 cp9 cp10 cp11 fp lp
  clear cr0 cr1 cr2 cr3 cr4 cr5 cr6 cr7 cr8 cr9 cr10 cr11 fr lr
  replace Bp := (Bp).next hb
  replace Br := (Br).next hb
  replace hB : Below w.heap.size w w2 := by repeat (first | exact hB | (refine Bl_set ?_ (by first | omega | (simp; omega)) _) | apply Bl_alloc | (refine Bl_trans ?_ hb))
  clear hb
  obtain ⟨cp0, cp1, cp2, cp3, cp4, cp5, cp6, cp7, cp8, cp9, cp10, cp11⟩ := cells12 Bp
  have fp := Bp.frozen; have lp := Bp.lt
  obtain ⟨cr0, cr1, cr2, cr3, cr4, cr5, cr6, cr7, cr8, cr9, cr10, cr11⟩ := cells12 Br
  have fr := Br.frozen; have lr := Br.lt
  go_upto_region 2 with fail
  clear cp0 cp1 cp2 cp3 cp4 cp5 cp6 cp7 cp8 cp9 cp10 cp11 fp lp
  clear cr0 cr1 cr2 cr3 cr4 cr5 cr6 cr7 cr8 cr9 cr10 cr11 fr lr
  have Bq := Blk.new w2 118 #[uv u.b.v, uv u.b.m, uv u.lo, uv u.hi, sv u.sl, sv u.sh, uv v.b.v, uv v.b.m, uv v.lo, uv v.hi, sv v.sl, sv v.sh]
  have hgq := hB.size
  have hnpq := Nat.ne_of_lt Bp.lt; have hltpq := Bp.lt
  have hnrq := Nat.ne_of_lt Br.lt; have hltrq := Br.lt
  replace Bp : Blk (w2.alloc (.cells #[uv u.b.v, uv u.b.m, uv u.lo, uv u.hi, sv u.sl, sv u.sh, uv v.b.v, uv v.b.m, uv v.lo, uv v.hi, sv v.sl, sv v.sh] 118)) (w.heap.size) 118 #[uv a.b.v, uv a.b.m, uv a.lo, uv a.hi, sv a.sl, sv a.sh, uv b.b.v, uv b.b.m, uv b.lo, uv b.hi, sv b.sl, sv b.sh] := Bp.alloc _
  replace Br : Blk (w2.alloc (.cells #[uv u.b.v, uv u.b.m, uv u.lo, uv u.hi, sv u.sl, sv u.sh, uv v.b.v, uv v.b.m, uv v.lo, uv v.hi, sv v.sl, sv v.sh] 118)) (w.heap.size + 1) 118 #[.int .u64 0, .int .u64 0, .int .u64 0, .int .u64 0, .int .i64 0, .int .i64 0, .int .u64 0, .int .u64 0, .int .u64 0, .int .u64 0, .int .i64 0, .int .i64 0] := Br.alloc _
  replace hB : Below w.heap.size w (w2.alloc (.cells #[uv u.b.v, uv u.b.m, uv u.lo, uv u.hi, sv u.sl, sv u.sh, uv v.b.v, uv v.b.m, uv v.lo, uv v.hi, sv v.sl, sv v.sh] 118)) := Bl_alloc hB _
  generalize (w2.alloc (.cells #[uv u.b.v, uv u.b.m, uv u.lo, uv u.hi, sv u.sl, sv u.sh, uv v.b.v, uv v.b.m, uv v.lo, uv v.hi, sv v.sl, sv v.sh] 118)) = w3 at *
  generalize w2.heap.size = gq at *
  obtain ⟨cp0, cp1, cp2, cp3, cp4, cp5, cp6, cp7, cp8, cp9, cp10, cp11⟩ := cells12 Bp
  have fp := Bp.frozen; have lp := Bp.lt
  obtain ⟨cr0, cr1, cr2, cr3, cr4, cr5, cr6, cr7, cr8, cr9, cr10, cr11⟩ := cells12 Br
  have fr := Br.frozen; have lr := Br.lt
  obtain ⟨cq0, cq1, cq2, cq3, cq4, cq5, cq6, cq7, cq8, cq9, cq10, cq11⟩ := cells12 Bq
  have fq := Bq.frozen; have lq := Bq.lt
  go_wp2_with fail
  refine (k_al _).mono ?_
  rintro e w4 ⟨rfl, hb⟩
  clear cp0 cp1 cp2 cp3 cp4 cp5 cp6 cp7 cp8 cp9 cp10 cp11 fp lp
  clear cr0 cr1 cr2 cr3 cr4 cr5 cr6 cr7 cr8 cr9 cr10 cr11 fr lr
  clear cq0 cq1 cq2 cq3 cq4 cq5 cq6 cq7 cq8 cq9 cq10 cq11 fq lq
  replace Bp := (Bp).next hb
  replace Br := (Br).next hb
  replace Bq := (Bq).next hb
  replace hB : Below w.heap.size w w4 := by repeat (first | exact hB | (refine Bl_set ?_ (by first | omega | (simp; omega)) _) | apply Bl_alloc | (refine Bl_trans ?_ hb))
  clear hb
  obtain ⟨cp0, cp1, cp2, cp3, cp4, cp5, cp6, cp7, cp8, cp9, cp10, cp11⟩ := cells12 Bp
  have fp := Bp.frozen; have lp := Bp.lt
  obtain ⟨cr0, cr1, cr2, cr3, cr4, cr5, cr6, cr7, cr8, cr9, cr10, cr11⟩ := cells12 Br
  have fr := Br.frozen; have lr := Br.lt
  obtain ⟨cq0, cq1, cq2, cq3, cq4, cq5, cq6, cq7, cq8, cq9, cq10, cq11⟩ := cells12 Bq
  have fq := Bq.frozen; have lq := Bq.lt
  go_wp2_with fail
  refine (k_sh _).mono ?_
  rintro e w5 ⟨rfl, hb⟩
  clear cp0 cp1 cp2 cp3 cp4 cp5 cp6 cp7 cp8 cp9 cp10 cp11 fp lp
  clear cr0 cr1 cr2 cr3 cr4 cr5 cr6 cr7 cr8 cr9 cr10 cr11 fr lr
  clear cq0 cq1 cq2 cq3 cq4 cq5 cq6 cq7 cq8 cq9 cq10 cq11 fq lq
  replace Bp := (Bp).next hb
  replace Br := (Br).next hb
  replace Bq := (Bq).next hb
  replace hB : Below w.heap.size w w5 := by repeat (first | exact hB | (refine Bl_set ?_ (by first | omega | (simp; omega)) _) | apply Bl_alloc | (refine Bl_trans ?_ hb))
  clear hb
  obtain ⟨cp0, cp1, cp2, cp3, cp4, cp5, cp6, cp7, cp8, cp9, cp10, cp11⟩ := cells12 Bp
  have fp := Bp.frozen; have lp := Bp.lt
  obtain ⟨cr0, cr1, cr2, cr3, cr4, cr5, cr6, cr7, cr8, cr9, cr10, cr11⟩ := cells12 Br
  have fr := Br.frozen; have lr := Br.lt
  obtain ⟨cq0, cq1, cq2, cq3, cq4, cq5, cq6, cq7, cq8, cq9, cq10, cq11⟩ := cells12 Bq
  have fq := Bq.frozen; have lq := Bq.lt
  go_wp2
  exact bodyPost_ret (v := .tuple #[pv2 u v, .bool true]) (by simp [results, Try.results63, go_sem, cq0, cq1, cq2, cq3, cq4, cq5, cq6, cq7, cq8, cq9, cq10, cq11, cr0, cr1, cr2, cr3, cr4, cr5, cr6, cr7, cr8, cr9, cr10, cr11, lq, lr]) rfl ⟨by rw [hs]; first | done | rfl, by repeat (first | (with_reducible exact hB) | (with_reducible refine Bl_set ?_ (by first | omega | (simp; done) | (simp; omega)) _) | with_reducible apply Bl_alloc)⟩
set_option maxRecDepth 100000 in
set_option maxHeartbeats 3200000 in
theorem refP_nob_false (a b u v : Rng) (k_Q : ∀ w : World, Calls Try.prog 71 #[pv2 a b] w fun e w' => e = .returned (.tuple #[pv2 u v, .bool true]) ∧ Below w.heap.size w w') (k_al : ∀ w : World, Calls Try.prog 72 #[pv2 u v] w fun e w' => e = .returned (.tuple #[uv u.lo, uv v.lo, .bool false]) ∧ Below w.heap.size w w') (k_sh : ∀ w : World, Calls Try.prog 73 #[.int .i64 4, pv2 u v] w fun e w' => e = .returned (.bool true) ∧ Below w.heap.size w w') (R : PlainBranch.Pair × Bool) (k_R : ∀ w : World, Calls Try.prog 74 #[pv2 u v] w fun e w' => e = .returned (tv R) ∧ Below w.heap.size w w') (hs : PlainBranch.refineP 4 false (a, b) false = R) (w : World) : Calls Try.prog 63 #[.int .i64 4, .bool false, pv2 a b, .bool false] w fun e w' => e = .returned (tv (PlainBranch.refineP 4 false (a, b) false)) ∧ Below w.heap.size w w' := by
  go_enter Try.func63, Try.ntmps63
  go_wp2_with fail
  obtain ⟨gp, hgp⟩ : ∃ g, g = w.heap.size := ⟨_, rfl⟩
  obtain ⟨gr, hgr⟩ : ∃ g, g = w.heap.size + 1 := ⟨_, rfl⟩
  have Bp : Blk ((w.alloc (.cells #[uv a.b.v, uv a.b.m, uv a.lo, uv a.hi, sv a.sl, sv a.sh, uv b.b.v, uv b.b.m, uv b.lo, uv b.hi, sv b.sl, sv b.sh] 118)).alloc (.cells #[.int .u64 0, .int .u64 0, .int .u64 0, .int .u64 0, .int .i64 0, .int .i64 0, .int .u64 0, .int .u64 0, .int .u64 0, .int .u64 0, .int .i64 0, .int .i64 0] 118)) (w.heap.size) 118 #[uv a.b.v, uv a.b.m, uv a.lo, uv a.hi, sv a.sl, sv a.sh, uv b.b.v, uv b.b.m, uv b.lo, uv b.hi, sv b.sl, sv b.sh] := ((Blk.new w 118 #[uv a.b.v, uv a.b.m, uv a.lo, uv a.hi, sv a.sl, sv a.sh, uv b.b.v, uv b.b.m, uv b.lo, uv b.hi, sv b.sl, sv b.sh])).alloc _
  have Br : Blk ((w.alloc (.cells #[uv a.b.v, uv a.b.m, uv a.lo, uv a.hi, sv a.sl, sv a.sh, uv b.b.v, uv b.b.m, uv b.lo, uv b.hi, sv b.sl, sv b.sh] 118)).alloc (.cells #[.int .u64 0, .int .u64 0, .int .u64 0, .int .u64 0, .int .i64 0, .int .i64 0, .int .u64 0, .int .u64 0, .int .u64 0, .int .u64 0, .int .i64 0, .int .i64 0] 118)) (w.heap.size + 1) 118 #[.int .u64 0, .int .u64 0, .int .u64 0, .int .u64 0, .int .i64 0, .int .i64 0, .int .u64 0, .int .u64 0, .int .u64 0, .int .u64 0, .int .i64 0, .int .i64 0] := (by simpa using Blk.new (w.alloc (.cells #[uv a.b.v, uv a.b.m, uv a.lo, uv a.hi, sv a.sl, sv a.sh, uv b.b.v, uv b.b.m, uv b.lo, uv b.hi, sv b.sl, sv b.sh] 118)) 118 #[.int .u64 0, .int .u64 0, .int .u64 0, .int .u64 0, .int .i64 0, .int .i64 0, .int .u64 0, .int .u64 0, .int .u64 0, .int .u64 0, .int .i64 0, .int .i64 0] : Blk _ (w.heap.size + 1) 118 #[.int .u64 0, .int .u64 0, .int .u64 0, .int .u64 0, .int .i64 0, .int .i64 0, .int .u64 0, .int .u64 0, .int .u64 0, .int .u64 0, .int .i64 0, .int .i64 0])
  have hB : Below w.heap.size w ((w.alloc (.cells #[uv a.b.v, uv a.b.m, uv a.lo, uv a.hi, sv a.sl, sv a.sh, uv b.b.v, uv b.b.m, uv b.lo, uv b.hi, sv b.sl, sv b.sh] 118)).alloc (.cells #[.int .u64 0, .int .u64 0, .int .u64 0, .int .u64 0, .int .i64 0, .int .i64 0, .int .u64 0, .int .u64 0, .int .u64 0, .int .u64 0, .int .i64 0, .int .i64 0] 118)) := (Bl_alloc (Bl_alloc (Bl_refl w) _) _)
  clear hgp
  clear gp
  clear hgr
  clear gr
  generalize ((w.alloc (.cells #[uv a.b.v, uv a.b.m, uv a.lo, uv a.hi, sv a.sl, sv a.sh, uv b.b.v, uv b.b.m, uv b.lo, uv b.hi, sv b.sl, sv b.sh] 118)).alloc (.cells #[.int .u64 0, .int .u64 0, .int .u64 0, .int .u64 0, .int .i64 0, .int .i64 0, .int .u64 0, .int .u64 0, .int .u64 0, .int .u64 0, .int .i64 0, .int .i64 0] 118)) = w1 at *
  obtain ⟨cp0, cp1, cp2, cp3, cp4, cp5, cp6, cp7, cp8, cp9, cp10, cp11⟩ := cells12 Bp
  have fp := Bp.frozen; have lp := Bp.lt
  obtain ⟨cr0, cr1, cr2, cr3, cr4, cr5, cr6, cr7, cr8, cr9, cr10, cr11⟩ := cells12 Br
  have fr := Br.frozen; have lr := Br.lt
  go_wp2_with fail
  refine (k_Q _).mono ?_
  rintro e w2 ⟨rfl, hb⟩
  clear cp0 cp1 cp2 cp3 cp4 cp5 cp6 cp7 cp8 cp9 cp10 cp11 fp lp
  clear cr0 cr1 cr2 cr3 cr4 cr5 cr6 cr7 cr8 cr9 cr10 cr11 fr lr
  replace Bp := (Bp).next hb
  replace Br := (Br).next hb
  replace hB : Below w.heap.size w w2 := by repeat (first | exact hB | (refine Bl_set ?_ (by first | omega | (simp; omega)) _) | apply Bl_alloc | (refine Bl_trans ?_ hb))
  clear hb
  obtain ⟨cp0, cp1, cp2, cp3, cp4, cp5, cp6, cp7, cp8, cp9, cp10, cp11⟩ := cells12 Bp
  have fp := Bp.frozen; have lp := Bp.lt
  obtain ⟨cr0, cr1, cr2, cr3, cr4, cr5, cr6, cr7, cr8, cr9, cr10, cr11⟩ := cells12 Br
  have fr := Br.frozen; have lr := Br.lt
  go_upto_region 2 with fail
  clear cp0 cp1 cp2 cp3 cp4 cp5 cp6 cp7 cp8 cp9 cp10 cp11 fp lp
  clear cr0 cr1 cr2 cr3 cr4 cr5 cr6 cr7 cr8 cr9 cr10 cr11 fr lr
  have Bq := Blk.new w2 118 #[uv u.b.v, uv u.b.m, uv u.lo, uv u.hi, sv u.sl, sv u.sh, uv v.b.v, uv v.b.m, uv v.lo, uv v.hi, sv v.sl, sv v.sh]
  have hgq := hB.size
  have hnpq := Nat.ne_of_lt Bp.lt; have hltpq := Bp.lt
  have hnrq := Nat.ne_of_lt Br.lt; have hltrq := Br.lt
  replace Bp : Blk (w2.alloc (.cells #[uv u.b.v, uv u.b.m, uv u.lo, uv u.hi, sv u.sl, sv u.sh, uv v.b.v, uv v.b.m, uv v.lo, uv v.hi, sv v.sl, sv v.sh] 118)) (w.heap.size) 118 #[uv a.b.v, uv a.b.m, uv a.lo, uv a.hi, sv a.sl, sv a.sh, uv b.b.v, uv b.b.m, uv b.lo, uv b.hi, sv b.sl, sv b.sh] := Bp.alloc _
  replace Br : Blk (w2.alloc (.cells #[uv u.b.v, uv u.b.m, uv u.lo, uv u.hi, sv u.sl, sv u.sh, uv v.b.v, uv v.b.m, uv v.lo, uv v.hi, sv v.sl, sv v.sh] 118)) (w.heap.size + 1) 118 #[.int .u64 0, .int .u64 0, .int .u64 0, .int .u64 0, .int .i64 0, .int .i64 0, .int .u64 0, .int .u64 0, .int .u64 0, .int .u64 0, .int .i64 0, .int .i64 0] := Br.alloc _
  replace hB : Below w.heap.size w (w2.alloc (.cells #[uv u.b.v, uv u.b.m, uv u.lo, uv u.hi, sv u.sl, sv u.sh, uv v.b.v, uv v.b.m, uv v.lo, uv v.hi, sv v.sl, sv v.sh] 118)) := Bl_alloc hB _
  generalize (w2.alloc (.cells #[uv u.b.v, uv u.b.m, uv u.lo, uv u.hi, sv u.sl, sv u.sh, uv v.b.v, uv v.b.m, uv v.lo, uv v.hi, sv v.sl, sv v.sh] 118)) = w3 at *
  generalize w2.heap.size = gq at *
  obtain ⟨cp0, cp1, cp2, cp3, cp4, cp5, cp6, cp7, cp8, cp9, cp10, cp11⟩ := cells12 Bp
  have fp := Bp.frozen; have lp := Bp.lt
  obtain ⟨cr0, cr1, cr2, cr3, cr4, cr5, cr6, cr7, cr8, cr9, cr10, cr11⟩ := cells12 Br
  have fr := Br.frozen; have lr := Br.lt
  obtain ⟨cq0, cq1, cq2, cq3, cq4, cq5, cq6, cq7, cq8, cq9, cq10, cq11⟩ := cells12 Bq
  have fq := Bq.frozen; have lq := Bq.lt
  go_wp2_with fail
  refine (k_al _).mono ?_
  rintro e w4 ⟨rfl, hb⟩
  clear cp0 cp1 cp2 cp3 cp4 cp5 cp6 cp7 cp8 cp9 cp10 cp11 fp lp
  clear cr0 cr1 cr2 cr3 cr4 cr5 cr6 cr7 cr8 cr9 cr10 cr11 fr lr
  clear cq0 cq1 cq2 cq3 cq4 cq5 cq6 cq7 cq8 cq9 cq10 cq11 fq lq
  replace Bp := (Bp).next hb
  replace Br := (Br).next hb
  replace Bq := (Bq).next hb
  replace hB : Below w.heap.size w w4 := by repeat (first | exact hB | (refine Bl_set ?_ (by first | omega | (simp; omega)) _) | apply Bl_alloc | (refine Bl_trans ?_ hb))
  clear hb
  obtain ⟨cp0, cp1, cp2, cp3, cp4, cp5, cp6, cp7, cp8, cp9, cp10, cp11⟩ := cells12 Bp
  have fp := Bp.frozen; have lp := Bp.lt
  obtain ⟨cr0, cr1, cr2, cr3, cr4, cr5, cr6, cr7, cr8, cr9, cr10, cr11⟩ := cells12 Br
  have fr := Br.frozen; have lr := Br.lt
  obtain ⟨cq0, cq1, cq2, cq3, cq4, cq5, cq6, cq7, cq8, cq9, cq10, cq11⟩ := cells12 Bq
  have fq := Bq.frozen; have lq := Bq.lt
  go_wp2_with fail
  refine (k_sh _).mono ?_
  rintro e w5 ⟨rfl, hb⟩
  clear cp0 cp1 cp2 cp3 cp4 cp5 cp6 cp7 cp8 cp9 cp10 cp11 fp lp
  clear cr0 cr1 cr2 cr3 cr4 cr5 cr6 cr7 cr8 cr9 cr10 cr11 fr lr
  clear cq0 cq1 cq2 cq3 cq4 cq5 cq6 cq7 cq8 cq9 cq10 cq11 fq lq
  replace Bp := (Bp).next hb
  replace Br := (Br).next hb
  replace Bq := (Bq).next hb
  replace hB : Below w.heap.size w w5 := by repeat (first | exact hB | (refine Bl_set ?_ (by first | omega | (simp; omega)) _) | apply Bl_alloc | (refine Bl_trans ?_ hb))
  clear hb
  obtain ⟨cp0, cp1, cp2, cp3, cp4, cp5, cp6, cp7, cp8, cp9, cp10, cp11⟩ := cells12 Bp
  have fp := Bp.frozen; have lp := Bp.lt
  obtain ⟨cr0, cr1, cr2, cr3, cr4, cr5, cr6, cr7, cr8, cr9, cr10, cr11⟩ := cells12 Br
  have fr := Br.frozen; have lr := Br.lt
  obtain ⟨cq0, cq1, cq2, cq3, cq4, cq5, cq6, cq7, cq8, cq9, cq10, cq11⟩ := cells12 Bq
  have fq := Bq.frozen; have lq := Bq.lt
  go_wp2_with fail
  refine (k_R _).mono ?_
  rintro e w6 ⟨rfl, hb⟩
  clear cp0 cp1 cp2 cp3 cp4 cp5 cp6 cp7 cp8 cp9 cp10 cp11 fp lp
  clear cr0 cr1 cr2 cr3 cr4 cr5 cr6 cr7 cr8 cr9 cr10 cr11 fr lr
  clear cq0 cq1 cq2 cq3 cq4 cq5 cq6 cq7 cq8 cq9 cq10 cq11 fq lq
  replace Bp := (Bp).next hb
  replace Br := (Br).next hb
  replace Bq := (Bq).next hb
  replace hB : Below w.heap.size w w6 := by repeat (first | exact hB | (refine Bl_set ?_ (by first | omega | (simp; omega)) _) | apply Bl_alloc | (refine Bl_trans ?_ hb))
  clear hb
  obtain ⟨cp0, cp1, cp2, cp3, cp4, cp5, cp6, cp7, cp8, cp9, cp10, cp11⟩ := cells12 Bp
  have fp := Bp.frozen; have lp := Bp.lt
  obtain ⟨cr0, cr1, cr2, cr3, cr4, cr5, cr6, cr7, cr8, cr9, cr10, cr11⟩ := cells12 Br
  have fr := Br.frozen; have lr := Br.lt
  obtain ⟨cq0, cq1, cq2, cq3, cq4, cq5, cq6, cq7, cq8, cq9, cq10, cq11⟩ := cells12 Bq
  have fq := Bq.frozen; have lq := Bq.lt
  go_wp2
  exact bodyPost_ret (v := tv R) (by simp [results, Try.results63, go_sem, cr0, cr1, cr2, cr3, cr4, cr5, cr6, cr7, cr8, cr9, cr10, cr11, lr]) rfl ⟨by rw [hs]; first | done | rfl, by repeat (first | (with_reducible exact hB) | (with_reducible refine Bl_set ?_ (by first | omega | (simp; done) | (simp; omega)) _) | with_reducible apply Bl_alloc)⟩
set_option maxRecDepth 100000 in
set_option maxHeartbeats 3200000 in
theorem refP_com_false (a b u v : Rng) (k_Q : ∀ w : World, Calls Try.prog 71 #[pv2 a b] w fun e w' => e = .returned (.tuple #[pv2 u v, .bool true]) ∧ Below w.heap.size w w') (k_al : ∀ w : World, Calls Try.prog 72 #[pv2 u v] w fun e w' => e = .returned (.tuple #[uv u.lo, uv v.lo, .bool false]) ∧ Below w.heap.size w w') (k_sh : ∀ w : World, Calls Try.prog 73 #[.int .i64 4, pv2 u v] w fun e w' => e = .returned (.bool true) ∧ Below w.heap.size w w') (hs : PlainBranch.refineP 4 false (a, b) true = ((u, v), true)) (w : World) : Calls Try.prog 63 #[.int .i64 4, .bool false, pv2 a b, .bool true] w fun e w' => e = .returned (tv (PlainBranch.refineP 4 false (a, b) true)) ∧ Below w.heap.size w w' := by
  go_enter Try.func63, Try.ntmps63
  go_wp2_with fail
  obtain ⟨gp, hgp⟩ : ∃ g, g = w.heap.size := ⟨_, rfl⟩
  obtain ⟨gr, hgr⟩ : ∃ g, g = w.heap.size + 1 := ⟨_, rfl⟩
  have Bp : Blk ((w.alloc (.cells #[uv a.b.v, uv a.b.m, uv a.lo, uv a.hi, sv a.sl, sv a.sh, uv b.b.v, uv b.b.m, uv b.lo, uv b.hi, sv b.sl, sv b.sh] 118)).alloc (.cells #[.int .u64 0, .int .u64 0, .int .u64 0, .int .u64 0, .int .i64 0, .int .i64 0, .int .u64 0, .int .u64 0, .int .u64 0, .int .u64 0, .int .i64 0, .int .i64 0] 118)) (w.heap.size) 118 #[uv a.b.v, uv a.b.m, uv a.lo, uv a.hi, sv a.sl, sv a.sh, uv b.b.v, uv b.b.m, uv b.lo, uv b.hi, sv b.sl, sv b.sh] := ((Blk.new w 118 #[uv a.b.v, uv a.b.m, uv a.lo, uv a.hi, sv a.sl, sv a.sh, uv b.b.v, uv b.b.m, uv b.lo, uv b.hi, sv b.sl, sv b.sh])).alloc _
  have Br : Blk ((w.alloc (.cells #[uv a.b.v, uv a.b.m, uv a.lo, uv a.hi, sv a.sl, sv a.sh, uv b.b.v, uv b.b.m, uv b.lo, uv b.hi, sv b.sl, sv b.sh] 118)).alloc (.cells #[.int .u64 0, .int .u64 0, .int .u64 0, .int .u64 0, .int .i64 0, .int .i64 0, .int .u64 0, .int .u64 0, .int .u64 0, .int .u64 0, .int .i64 0, .int .i64 0] 118)) (w.heap.size + 1) 118 #[.int .u64 0, .int .u64 0, .int .u64 0, .int .u64 0, .int .i64 0, .int .i64 0, .int .u64 0, .int .u64 0, .int .u64 0, .int .u64 0, .int .i64 0, .int .i64 0] := (by simpa using Blk.new (w.alloc (.cells #[uv a.b.v, uv a.b.m, uv a.lo, uv a.hi, sv a.sl, sv a.sh, uv b.b.v, uv b.b.m, uv b.lo, uv b.hi, sv b.sl, sv b.sh] 118)) 118 #[.int .u64 0, .int .u64 0, .int .u64 0, .int .u64 0, .int .i64 0, .int .i64 0, .int .u64 0, .int .u64 0, .int .u64 0, .int .u64 0, .int .i64 0, .int .i64 0] : Blk _ (w.heap.size + 1) 118 #[.int .u64 0, .int .u64 0, .int .u64 0, .int .u64 0, .int .i64 0, .int .i64 0, .int .u64 0, .int .u64 0, .int .u64 0, .int .u64 0, .int .i64 0, .int .i64 0])
  have hB : Below w.heap.size w ((w.alloc (.cells #[uv a.b.v, uv a.b.m, uv a.lo, uv a.hi, sv a.sl, sv a.sh, uv b.b.v, uv b.b.m, uv b.lo, uv b.hi, sv b.sl, sv b.sh] 118)).alloc (.cells #[.int .u64 0, .int .u64 0, .int .u64 0, .int .u64 0, .int .i64 0, .int .i64 0, .int .u64 0, .int .u64 0, .int .u64 0, .int .u64 0, .int .i64 0, .int .i64 0] 118)) := (Bl_alloc (Bl_alloc (Bl_refl w) _) _)
  clear hgp
  clear gp
  clear hgr
  clear gr
  generalize ((w.alloc (.cells #[uv a.b.v, uv a.b.m, uv a.lo, uv a.hi, sv a.sl, sv a.sh, uv b.b.v, uv b.b.m, uv b.lo, uv b.hi, sv b.sl, sv b.sh] 118)).alloc (.cells #[.int .u64 0, .int .u64 0, .int .u64 0, .int .u64 0, .int .i64 0, .int .i64 0, .int .u64 0, .int .u64 0, .int .u64 0, .int .u64 0, .int .i64 0, .int .i64 0] 118)) = w1 at *
  obtain ⟨cp0, cp1, cp2, cp3, cp4, cp5, cp6, cp7, cp8, cp9, cp10, cp11⟩ := cells12 Bp
  have fp := Bp.frozen; have lp := Bp.lt
  obtain ⟨cr0, cr1, cr2, cr3, cr4, cr5, cr6, cr7, cr8, cr9, cr10, cr11⟩ := cells12 Br
  have fr := Br.frozen; have lr := Br.lt
  go_wp2_with fail
  refine (k_Q _).mono ?_
  rintro e w2 ⟨rfl, hb⟩
  clear cp0 cp1 cp2 cp3 cp4 cp5 cp6 cp7 cp8 cp9 cp10 cp11 fp lp
  clear cr0 cr1 cr2 cr3 cr4 cr5 cr6 cr7 cr8 cr9 cr10 cr11 fr lr
  replace Bp := (Bp).next hb
  replace Br := (Br).next hb
  replace hB : Below w.heap.size w w2 := by repeat (first | exact hB | (refine Bl_set ?_ (by first | omega | (simp; omega)) _) | apply Bl_alloc | (refine Bl_trans ?_ hb))
  clear hb
  obtain ⟨cp0, cp1, cp2, cp3, cp4, cp5, cp6, cp7, cp8, cp9, cp10, cp11⟩ := cells12 Bp
  have fp := Bp.frozen; have lp := Bp.lt
  obtain ⟨cr0, cr1, cr2, cr3, cr4, cr5, cr6, cr7, cr8, cr9, cr10, cr11⟩ := cells12 Br
  have fr := Br.frozen; have lr := Br.lt
  go_upto_region 2 with fail
  clear cp0 cp1 cp2 cp3 cp4 cp5 cp6 cp7 cp8 cp9 cp10 cp11 fp lp
  clear cr0 cr1 cr2 cr3 cr4 cr5 cr6 cr7 cr8 cr9 cr10 cr11 fr lr
  have Bq := Blk.new w2 118 #[uv u.b.v, uv u.b.m, uv u.lo, uv u.hi, sv u.sl, sv u.sh, uv v.b.v, uv v.b.m, uv v.lo, uv v.hi, sv v.sl, sv v.sh]
  have hgq := hB.size
  have hnpq := Nat.ne_of_lt Bp.lt; have hltpq := Bp.lt
  have hnrq := Nat.ne_of_lt Br.lt; have hltrq := Br.lt
  replace Bp : Blk (w2.alloc (.cells #[uv u.b.v, uv u.b.m, uv u.lo, uv u.hi, sv u.sl, sv u.sh, uv v.b.v, uv v.b.m, uv v.lo, uv v.hi, sv v.sl, sv v.sh] 118)) (w.heap.size) 118 #[uv a.b.v, uv a.b.m, uv a.lo, uv a.hi, sv a.sl, sv a.sh, uv b.b.v, uv b.b.m, uv b.lo, uv b.hi, sv b.sl, sv b.sh] := Bp.alloc _
  replace Br : Blk (w2.alloc (.cells #[uv u.b.v, uv u.b.m, uv u.lo, uv u.hi, sv u.sl, sv u.sh, uv v.b.v, uv v.b.m, uv v.lo, uv v.hi, sv v.sl, sv v.sh] 118)) (w.heap.size + 1) 118 #[.int .u64 0, .int .u64 0, .int .u64 0, .int .u64 0, .int .i64 0, .int .i64 0, .int .u64 0, .int .u64 0, .int .u64 0, .int .u64 0, .int .i64 0, .int .i64 0] := Br.alloc _
  replace hB : Below w.heap.size w (w2.alloc (.cells #[uv u.b.v, uv u.b.m, uv u.lo, uv u.hi, sv u.sl, sv u.sh, uv v.b.v, uv v.b.m, uv v.lo, uv v.hi, sv v.sl, sv v.sh] 118)) := Bl_alloc hB _
  generalize (w2.alloc (.cells #[uv u.b.v, uv u.b.m, uv u.lo, uv u.hi, sv u.sl, sv u.sh, uv v.b.v, uv v.b.m, uv v.lo, uv v.hi, sv v.sl, sv v.sh] 118)) = w3 at *
  generalize w2.heap.size = gq at *
  obtain ⟨cp0, cp1, cp2, cp3, cp4, cp5, cp6, cp7, cp8, cp9, cp10, cp11⟩ := cells12 Bp
  have fp := Bp.frozen; have lp := Bp.lt
  obtain ⟨cr0, cr1, cr2, cr3, cr4, cr5, cr6, cr7, cr8, cr9, cr10, cr11⟩ := cells12 Br
  have fr := Br.frozen; have lr := Br.lt
  obtain ⟨cq0, cq1, cq2, cq3, cq4, cq5, cq6, cq7, cq8, cq9, cq10, cq11⟩ := cells12 Bq
  have fq := Bq.frozen; have lq := Bq.lt
  go_wp2_with fail
  refine (k_al _).mono ?_
  rintro e w4 ⟨rfl, hb⟩
  clear cp0 cp1 cp2 cp3 cp4 cp5 cp6 cp7 cp8 cp9 cp10 cp11 fp lp
  clear cr0 cr1 cr2 cr3 cr4 cr5 cr6 cr7 cr8 cr9 cr10 cr11 fr lr
  clear cq0 cq1 cq2 cq3 cq4 cq5 cq6 cq7 cq8 cq9 cq10 cq11 fq lq
  replace Bp := (Bp).next hb
  replace Br := (Br).next hb
  replace Bq := (Bq).next hb
  replace hB : Below w.heap.size w w4 := by repeat (first | exact hB | (refine Bl_set ?_ (by first | omega | (simp; omega)) _) | apply Bl_alloc | (refine Bl_trans ?_ hb))
  clear hb
  obtain ⟨cp0, cp1, cp2, cp3, cp4, cp5, cp6, cp7, cp8, cp9, cp10, cp11⟩ := cells12 Bp
  have fp := Bp.frozen; have lp := Bp.lt
  obtain ⟨cr0, cr1, cr2, cr3, cr4, cr5, cr6, cr7, cr8, cr9, cr10, cr11⟩ := cells12 Br
  have fr := Br.frozen; have lr := Br.lt
  obtain ⟨cq0, cq1, cq2, cq3, cq4, cq5, cq6, cq7, cq8, cq9, cq10, cq11⟩ := cells12 Bq
  have fq := Bq.frozen; have lq := Bq.lt
  go_wp2_with fail
  refine (k_sh _).mono ?_
  rintro e w5 ⟨rfl, hb⟩
  clear cp0 cp1 cp2 cp3 cp4 cp5 cp6 cp7 cp8 cp9 cp10 cp11 fp lp
  clear cr0 cr1 cr2 cr3 cr4 cr5 cr6 cr7 cr8 cr9 cr10 cr11 fr lr
  clear cq0 cq1 cq2 cq3 cq4 cq5 cq6 cq7 cq8 cq9 cq10 cq11 fq lq
  replace Bp := (Bp).next hb
  replace Br := (Br).next hb
  replace Bq := (Bq).next hb
  replace hB : Below w.heap.size w w5 := by repeat (first | exact hB | (refine Bl_set ?_ (by first | omega | (simp; omega)) _) | apply Bl_alloc | (refine Bl_trans ?_ hb))
  clear hb
  obtain ⟨cp0, cp1, cp2, cp3, cp4, cp5, cp6, cp7, cp8, cp9, cp10, cp11⟩ := cells12 Bp
  have fp := Bp.frozen; have lp := Bp.lt
  obtain ⟨cr0, cr1, cr2, cr3, cr4, cr5, cr6, cr7, cr8, cr9, cr10, cr11⟩ := cells12 Br
  have fr := Br.frozen; have lr := Br.lt
  obtain ⟨cq0, cq1, cq2, cq3, cq4, cq5, cq6, cq7, cq8, cq9, cq10, cq11⟩ := cells12 Bq
  have fq := Bq.frozen; have lq := Bq.lt
  go_wp2
  exact bodyPost_ret (v := .tuple #[pv2 u v, .bool true]) (by simp [results, Try.results63, go_sem, cq0, cq1, cq2, cq3, cq4, cq5, cq6, cq7, cq8, cq9, cq10, cq11, cr0, cr1, cr2, cr3, cr4, cr5, cr6, cr7, cr8, cr9, cr10, cr11, lq, lr]) rfl ⟨by rw [hs]; first | done | rfl, by repeat (first | (with_reducible exact hB) | (with_reducible refine Bl_set ?_ (by first | omega | (simp; done) | (simp; omega)) _) | with_reducible apply Bl_alloc)⟩
set_option maxRecDepth 100000 in
set_option maxHeartbeats 3200000 in
theorem refP_whe_false_true (a b u v : Rng) (op : Int) (e4 : (op == 4) = false) (k_Q : ∀ w : World, Calls Try.prog 71 #[pv2 a b] w fun e w' => e = .returned (.tuple #[pv2 u v, .bool true]) ∧ Below w.heap.size w w') (k_al : ∀ w : World, Calls Try.prog 72 #[pv2 u v] w fun e w' => e = .returned (.tuple #[uv u.lo, uv v.lo, .bool false]) ∧ Below w.heap.size w w') (k_sh : ∀ w : World, Calls Try.prog 73 #[.int .i64 op, pv2 u v] w fun e w' => e = .returned (.bool true) ∧ Below w.heap.size w w') (R : PlainBranch.Pair × Bool) (k_R : ∀ w : World, Calls Try.prog 76 #[.int .i64 op, pv2 u v] w fun e w' => e = .returned (tv R) ∧ Below w.heap.size w w') (hs : PlainBranch.refineP op false (a, b) true = R) (w : World) : Calls Try.prog 63 #[.int .i64 op, .bool false, pv2 a b, .bool true] w fun e w' => e = .returned (tv (PlainBranch.refineP op false (a, b) true)) ∧ Below w.heap.size w w' := by
  go_enter Try.func63, Try.ntmps63
  go_wp2_with fail
  obtain ⟨gp, hgp⟩ : ∃ g, g = w.heap.size := ⟨_, rfl⟩
  obtain ⟨gr, hgr⟩ : ∃ g, g = w.heap.size + 1 := ⟨_, rfl⟩
  have Bp : Blk ((w.alloc (.cells #[uv a.b.v, uv a.b.m, uv a.lo, uv a.hi, sv a.sl, sv a.sh, uv b.b.v, uv b.b.m, uv b.lo, uv b.hi, sv b.sl, sv b.sh] 118)).alloc (.cells #[.int .u64 0, .int .u64 0, .int .u64 0, .int .u64 0, .int .i64 0, .int .i64 0, .int .u64 0, .int .u64 0, .int .u64 0, .int .u64 0, .int .i64 0, .int .i64 0] 118)) (w.heap.size) 118 #[uv a.b.v, uv a.b.m, uv a.lo, uv a.hi, sv a.sl, sv a.sh, uv b.b.v, uv b.b.m, uv b.lo, uv b.hi, sv b.sl, sv b.sh] := ((Blk.new w 118 #[uv a.b.v, uv a.b.m, uv a.lo, uv a.hi, sv a.sl, sv a.sh, uv b.b.v, uv b.b.m, uv b.lo, uv b.hi, sv b.sl, sv b.sh])).alloc _
  have Br : Blk ((w.alloc (.cells #[uv a.b.v, uv a.b.m, uv a.lo, uv a.hi, sv a.sl, sv a.sh, uv b.b.v, uv b.b.m, uv b.lo, uv b.hi, sv b.sl, sv b.sh] 118)).alloc (.cells #[.int .u64 0, .int .u64 0, .int .u64 0, .int .u64 0, .int .i64 0, .int .i64 0, .int .u64 0, .int .u64 0, .int .u64 0, .int .u64 0, .int .i64 0, .int .i64 0] 118)) (w.heap.size + 1) 118 #[.int .u64 0, .int .u64 0, .int .u64 0, .int .u64 0, .int .i64 0, .int .i64 0, .int .u64 0, .int .u64 0, .int .u64 0, .int .u64 0, .int .i64 0, .int .i64 0] := (by simpa using Blk.new (w.alloc (.cells #[uv a.b.v, uv a.b.m, uv a.lo, uv a.hi, sv a.sl, sv a.sh, uv b.b.v, uv b.b.m, uv b.lo, uv b.hi, sv b.sl, sv b.sh] 118)) 118 #[.int .u64 0, .int .u64 0, .int .u64 0, .int .u64 0, .int .i64 0, .int .i64 0, .int .u64 0, .int .u64 0, .int .u64 0, .int .u64 0, .int .i64 0, .int .i64 0] : Blk _ (w.heap.size + 1) 118 #[.int .u64 0, .int .u64 0, .int .u64 0, .int .u64 0, .int .i64 0, .int .i64 0, .int .u64 0, .int .u64 0, .int .u64 0, .int .u64 0, .int .i64 0, .int .i64 0])
  have hB : Below w.heap.size w ((w.alloc (.cells #[uv a.b.v, uv a.b.m, uv a.lo, uv a.hi, sv a.sl, sv a.sh, uv b.b.v, uv b.b.m, uv b.lo, uv b.hi, sv b.sl, sv b.sh] 118)).alloc (.cells #[.int .u64 0, .int .u64 0, .int .u64 0, .int .u64 0, .int .i64 0, .int .i64 0, .int .u64 0, .int .u64 0, .int .u64 0, .int .u64 0, .int .i64 0, .int .i64 0] 118)) := (Bl_alloc (Bl_alloc (Bl_refl w) _) _)
  clear hgp
  clear gp
  clear hgr
  clear gr
  generalize ((w.alloc (.cells #[uv a.b.v, uv a.b.m, uv a.lo, uv a.hi, sv a.sl, sv a.sh, uv b.b.v, uv b.b.m, uv b.lo, uv b.hi, sv b.sl, sv b.sh] 118)).alloc (.cells #[.int .u64 0, .int .u64 0, .int .u64 0, .int .u64 0, .int .i64 0, .int .i64 0, .int .u64 0, .int .u64 0, .int .u64 0, .int .u64 0, .int .i64 0, .int .i64 0] 118)) = w1 at *
  obtain ⟨cp0, cp1, cp2, cp3, cp4, cp5, cp6, cp7, cp8, cp9, cp10, cp11⟩ := cells12 Bp
  have fp := Bp.frozen; have lp := Bp.lt
  obtain ⟨cr0, cr1, cr2, cr3, cr4, cr5, cr6, cr7, cr8, cr9, cr10, cr11⟩ := cells12 Br
  have fr := Br.frozen; have lr := Br.lt
  go_wp2_with fail
  refine (k_Q _).mono ?_
  rintro e w2 ⟨rfl, hb⟩
  clear cp0 cp1 cp2 cp3 cp4 cp5 cp6 cp7 cp8 cp9 cp10 cp11 fp lp
  clear cr0 cr1 cr2 cr3 cr4 cr5 cr6 cr7 cr8 cr9 cr10 cr11 fr lr
  replace Bp := (Bp).next hb
  replace Br := (Br).next hb
  replace hB : Below w.heap.size w w2 := by repeat (first | exact hB | (refine Bl_set ?_ (by first | omega | (simp; omega)) _) | apply Bl_alloc | (refine Bl_trans ?_ hb))
  clear hb
  obtain ⟨cp0, cp1, cp2, cp3, cp4, cp5, cp6, cp7, cp8, cp9, cp10, cp11⟩ := cells12 Bp
  have fp := Bp.frozen; have lp := Bp.lt
  obtain ⟨cr0, cr1, cr2, cr3, cr4, cr5, cr6, cr7, cr8, cr9, cr10, cr11⟩ := cells12 Br
  have fr := Br.frozen; have lr := Br.lt
  go_upto_region 2 with fail
  clear cp0 cp1 cp2 cp3 cp4 cp5 cp6 cp7 cp8 cp9 cp10 cp11 fp lp
  clear cr0 cr1 cr2 cr3 cr4 cr5 cr6 cr7 cr8 cr9 cr10 cr11 fr lr
  have Bq := Blk.new w2 118 #[uv u.b.v, uv u.b.m, uv u.lo, uv u.hi, sv u.sl, sv u.sh, uv v.b.v, uv v.b.m, uv v.lo, uv v.hi, sv v.sl, sv v.sh]
  have hgq := hB.size
  have hnpq := Nat.ne_of_lt Bp.lt; have hltpq := Bp.lt
  have hnrq := Nat.ne_of_lt Br.lt; have hltrq := Br.lt
  replace Bp : Blk (w2.alloc (.cells #[uv u.b.v, uv u.b.m, uv u.lo, uv u.hi, sv u.sl, sv u.sh, uv v.b.v, uv v.b.m, uv v.lo, uv v.hi, sv v.sl, sv v.sh] 118)) (w.heap.size) 118 #[uv a.b.v, uv a.b.m, uv a.lo, uv a.hi, sv a.sl, sv a.sh, uv b.b.v, uv b.b.m, uv b.lo, uv b.hi, sv b.sl, sv b.sh] := Bp.alloc _
  replace Br : Blk (w2.alloc (.cells #[uv u.b.v, uv u.b.m, uv u.lo, uv u.hi, sv u.sl, sv u.sh, uv v.b.v, uv v.b.m, uv v.lo, uv v.hi, sv v.sl, sv v.sh] 118)) (w.heap.size + 1) 118 #[.int .u64 0, .int .u64 0, .int .u64 0, .int .u64 0, .int .i64 0, .int .i64 0, .int .u64 0, .int .u64 0, .int .u64 0, .int .u64 0, .int .i64 0, .int .i64 0] := Br.alloc _
  replace hB : Below w.heap.size w (w2.alloc (.cells #[uv u.b.v, uv u.b.m, uv u.lo, uv u.hi, sv u.sl, sv u.sh, uv v.b.v, uv v.b.m, uv v.lo, uv v.hi, sv v.sl, sv v.sh] 118)) := Bl_alloc hB _
  generalize (w2.alloc (.cells #[uv u.b.v, uv u.b.m, uv u.lo, uv u.hi, sv u.sl, sv u.sh, uv v.b.v, uv v.b.m, uv v.lo, uv v.hi, sv v.sl, sv v.sh] 118)) = w3 at *
  generalize w2.heap.size = gq at *
  obtain ⟨cp0, cp1, cp2, cp3, cp4, cp5, cp6, cp7, cp8, cp9, cp10, cp11⟩ := cells12 Bp
  have fp := Bp.frozen; have lp := Bp.lt
  obtain ⟨cr0, cr1, cr2, cr3, cr4, cr5, cr6, cr7, cr8, cr9, cr10, cr11⟩ := cells12 Br
  have fr := Br.frozen; have lr := Br.lt
  obtain ⟨cq0, cq1, cq2, cq3, cq4, cq5, cq6, cq7, cq8, cq9, cq10, cq11⟩ := cells12 Bq
  have fq := Bq.frozen; have lq := Bq.lt
  go_wp2_with fail
  refine (k_al _).mono ?_
  rintro e w4 ⟨rfl, hb⟩
  clear cp0 cp1 cp2 cp3 cp4 cp5 cp6 cp7 cp8 cp9 cp10 cp11 fp lp
  clear cr0 cr1 cr2 cr3 cr4 cr5 cr6 cr7 cr8 cr9 cr10 cr11 fr lr
  clear cq0 cq1 cq2 cq3 cq4 cq5 cq6 cq7 cq8 cq9 cq10 cq11 fq lq
  replace Bp := (Bp).next hb
  replace Br := (Br).next hb
  replace Bq := (Bq).next hb
  replace hB : Below w.heap.size w w4 := by repeat (first | exact hB | (refine Bl_set ?_ (by first | omega | (simp; omega)) _) | apply Bl_alloc | (refine Bl_trans ?_ hb))
  clear hb
  obtain ⟨cp0, cp1, cp2, cp3, cp4, cp5, cp6, cp7, cp8, cp9, cp10, cp11⟩ := cells12 Bp
  have fp := Bp.frozen; have lp := Bp.lt
  obtain ⟨cr0, cr1, cr2, cr3, cr4, cr5, cr6, cr7, cr8, cr9, cr10, cr11⟩ := cells12 Br
  have fr := Br.frozen; have lr := Br.lt
  obtain ⟨cq0, cq1, cq2, cq3, cq4, cq5, cq6, cq7, cq8, cq9, cq10, cq11⟩ := cells12 Bq
  have fq := Bq.frozen; have lq := Bq.lt
  go_wp2_with fail
  refine (k_sh _).mono ?_
  rintro e w5 ⟨rfl, hb⟩
  clear cp0 cp1 cp2 cp3 cp4 cp5 cp6 cp7 cp8 cp9 cp10 cp11 fp lp
  clear cr0 cr1 cr2 cr3 cr4 cr5 cr6 cr7 cr8 cr9 cr10 cr11 fr lr
  clear cq0 cq1 cq2 cq3 cq4 cq5 cq6 cq7 cq8 cq9 cq10 cq11 fq lq
  replace Bp := (Bp).next hb
  replace Br := (Br).next hb
  replace Bq := (Bq).next hb
  replace hB : Below w.heap.size w w5 := by repeat (first | exact hB | (refine Bl_set ?_ (by first | omega | (simp; omega)) _) | apply Bl_alloc | (refine Bl_trans ?_ hb))
  clear hb
  obtain ⟨cp0, cp1, cp2, cp3, cp4, cp5, cp6, cp7, cp8, cp9, cp10, cp11⟩ := cells12 Bp
  have fp := Bp.frozen; have lp := Bp.lt
  obtain ⟨cr0, cr1, cr2, cr3, cr4, cr5, cr6, cr7, cr8, cr9, cr10, cr11⟩ := cells12 Br
  have fr := Br.frozen; have lr := Br.lt
  obtain ⟨cq0, cq1, cq2, cq3, cq4, cq5, cq6, cq7, cq8, cq9, cq10, cq11⟩ := cells12 Bq
  have fq := Bq.frozen; have lq := Bq.lt
  go_wp2_with fail
  refine (k_R _).mono ?_
  rintro e w6 ⟨rfl, hb⟩
  clear cp0 cp1 cp2 cp3 cp4 cp5 cp6 cp7 cp8 cp9 cp10 cp11 fp lp
  clear cr0 cr1 cr2 cr3 cr4 cr5 cr6 cr7 cr8 cr9 cr10 cr11 fr lr
  clear cq0 cq1 cq2 cq3 cq4 cq5 cq6 cq7 cq8 cq9 cq10 cq11 fq lq
  replace Bp := (Bp).next hb
  replace Br := (Br).next hb
  replace Bq := (Bq).next hb
  replace hB : Below w.heap.size w w6 := by repeat (first | exact hB | (refine Bl_set ?_ (by first | omega | (simp; omega)) _) | apply Bl_alloc | (refine Bl_trans ?_ hb))
  clear hb
  obtain ⟨cp0, cp1, cp2, cp3, cp4, cp5, cp6, cp7, cp8, cp9, cp10, cp11⟩ := cells12 Bp
  have fp := Bp.frozen; have lp := Bp.lt
  obtain ⟨cr0, cr1, cr2, cr3, cr4, cr5, cr6, cr7, cr8, cr9, cr10, cr11⟩ := cells12 Br
  have fr := Br.frozen; have lr := Br.lt
  obtain ⟨cq0, cq1, cq2, cq3, cq4, cq5, cq6, cq7, cq8, cq9, cq10, cq11⟩ := cells12 Bq
  have fq := Bq.frozen; have lq := Bq.lt
  go_wp2
  exact bodyPost_ret (v := tv R) (by simp [results, Try.results63, go_sem, cr0, cr1, cr2, cr3, cr4, cr5, cr6, cr7, cr8, cr9, cr10, cr11, lr]) rfl ⟨by rw [hs]; first | done | rfl, by repeat (first | (with_reducible exact hB) | (with_reducible refine Bl_set ?_ (by first | omega | (simp; done) | (simp; omega)) _) | with_reducible apply Bl_alloc)⟩
set_option maxRecDepth 100000 in
set_option maxHeartbeats 3200000 in
theorem refP_whe_false_false (a b u v : Rng) (op : Int) (e4 : (op == 4) = false) (k_Q : ∀ w : World, Calls Try.prog 71 #[pv2 a b] w fun e w' => e = .returned (.tuple #[pv2 u v, .bool true]) ∧ Below w.heap.size w w') (k_al : ∀ w : World, Calls Try.prog 72 #[pv2 u v] w fun e w' => e = .returned (.tuple #[uv u.lo, uv v.lo, .bool false]) ∧ Below w.heap.size w w') (k_sh : ∀ w : World, Calls Try.prog 73 #[.int .i64 op, pv2 u v] w fun e w' => e = .returned (.bool true) ∧ Below w.heap.size w w') (op' : Int) (k_op : ∀ w : World, Calls Try.prog 75 #[.int .i64 op] w fun e w' => e = .returned (.int .i64 op') ∧ Below w.heap.size w w') (R : PlainBranch.Pair × Bool) (k_R : ∀ w : World, Calls Try.prog 76 #[.int .i64 op', pv2 u v] w fun e w' => e = .returned (tv R) ∧ Below w.heap.size w w') (hs : PlainBranch.refineP op false (a, b) false = R) (w : World) : Calls Try.prog 63 #[.int .i64 op, .bool false, pv2 a b, .bool false] w fun e w' => e = .returned (tv (PlainBranch.refineP op false (a, b) false)) ∧ Below w.heap.size w w' := by
  go_enter Try.func63, Try.ntmps63
  go_wp2_with fail
  obtain ⟨gp, hgp⟩ : ∃ g, g = w.heap.size := ⟨_, rfl⟩
  obtain ⟨gr, hgr⟩ : ∃ g, g = w.heap.size + 1 := ⟨_, rfl⟩
  have Bp : Blk ((w.alloc (.cells #[uv a.b.v, uv a.b.m, uv a.lo, uv a.hi, sv a.sl, sv a.sh, uv b.b.v, uv b.b.m, uv b.lo, uv b.hi, sv b.sl, sv b.sh] 118)).alloc (.cells #[.int .u64 0, .int .u64 0, .int .u64 0, .int .u64 0, .int .i64 0, .int .i64 0, .int .u64 0, .int .u64 0, .int .u64 0, .int .u64 0, .int .i64 0, .int .i64 0] 118)) (w.heap.size) 118 #[uv a.b.v, uv a.b.m, uv a.lo, uv a.hi, sv a.sl, sv a.sh, uv b.b.v, uv b.b.m, uv b.lo, uv b.hi, sv b.sl, sv b.sh] := ((Blk.new w 118 #[uv a.b.v, uv a.b.m, uv a.lo, uv a.hi, sv a.sl, sv a.sh, uv b.b.v, uv b.b.m, uv b.lo, uv b.hi, sv b.sl, sv b.sh])).alloc _
  have Br : Blk ((w.alloc (.cells #[uv a.b.v, uv a.b.m, uv a.lo, uv a.hi, sv a.sl, sv a.sh, uv b.b.v, uv b.b.m, uv b.lo, uv b.hi, sv b.sl, sv b.sh] 118)).alloc (.cells #[.int .u64 0, .int .u64 0, .int .u64 0, .int .u64 0, .int .i64 0, .int .i64 0, .int .u64 0, .int .u64 0, .int .u64 0, .int .u64 0, .int .i64 0, .int .i64 0] 118)) (w.heap.size + 1) 118 #[.int .u64 0, .int .u64 0, .int .u64 0, .int .u64 0, .int .i64 0, .int .i64 0, .int .u64 0, .int .u64 0, .int .u64 0, .int .u64 0, .int .i64 0, .int .i64 0] := (by simpa using Blk.new (w.alloc (.cells #[uv a.b.v, uv a.b.m, uv a.lo, uv a.hi, sv a.sl, sv a.sh, uv b.b.v, uv b.b.m, uv b.lo, uv b.hi, sv b.sl, sv b.sh] 118)) 118 #[.int .u64 0, .int .u64 0, .int .u64 0, .int .u64 0, .int .i64 0, .int .i64 0, .int .u64 0, .int .u64 0, .int .u64 0, .int .u64 0, .int .i64 0, .int .i64 0] : Blk _ (w.heap.size + 1) 118 #[.int .u64 0, .int .u64 0, .int .u64 0, .int .u64 0, .int .i64 0, .int .i64 0, .int .u64 0, .int .u64 0, .int .u64 0, .int .u64 0, .int .i64 0, .int .i64 0])
  have hB : Below w.heap.size w ((w.alloc (.cells #[uv a.b.v, uv a.b.m, uv a.lo, uv a.hi, sv a.sl, sv a.sh, uv b.b.v, uv b.b.m, uv b.lo, uv b.hi, sv b.sl, sv b.sh] 118)).alloc (.cells #[.int .u64 0, .int .u64 0, .int .u64 0, .int .u64 0, .int .i64 0, .int .i64 0, .int .u64 0, .int .u64 0, .int .u64 0, .int .u64 0, .int .i64 0, .int .i64 0] 118)) := (Bl_alloc (Bl_alloc (Bl_refl w) _) _)
  clear hgp
  clear gp
  clear hgr
  clear gr
  generalize ((w.alloc (.cells #[uv a.b.v, uv a.b.m, uv a.lo, uv a.hi, sv a.sl, sv a.sh, uv b.b.v, uv b.b.m, uv b.lo, uv b.hi, sv b.sl, sv b.sh] 118)).alloc (.cells #[.int .u64 0, .int .u64 0, .int .u64 0, .int .u64 0, .int .i64 0, .int .i64 0, .int .u64 0, .int .u64 0, .int .u64 0, .int .u64 0, .int .i64 0, .int .i64 0] 118)) = w1 at *
  obtain ⟨cp0, cp1, cp2, cp3, cp4, cp5, cp6, cp7, cp8, cp9, cp10, cp11⟩ := cells12 Bp
  have fp := Bp.frozen; have lp := Bp.lt
  obtain ⟨cr0, cr1, cr2, cr3, cr4, cr5, cr6, cr7, cr8, cr9, cr10, cr11⟩ := cells12 Br
  have fr := Br.frozen; have lr := Br.lt
  go_wp2_with fail
  refine (k_Q _).mono ?_
  rintro e w2 ⟨rfl, hb⟩
  clear cp0 cp1 cp2 cp3 cp4 cp5 cp6 cp7 cp8 cp9 cp10 cp11 fp lp
  clear cr0 cr1 cr2 cr3 cr4 cr5 cr6 cr7 cr8 cr9 cr10 cr11 fr lr
  replace Bp := (Bp).next hb
  replace Br := (Br).next hb
  replace hB : Below w.heap.size w w2 := by repeat (first | exact hB | (refine Bl_set ?_ (by first | omega | (simp; omega)) _) | apply Bl_alloc | (refine Bl_trans ?_ hb))
  clear hb
  obtain ⟨cp0, cp1, cp2, cp3, cp4, cp5, cp6, cp7, cp8, cp9, cp10, cp11⟩ := cells12 Bp
  have fp := Bp.frozen; have lp := Bp.lt
  obtain ⟨cr0, cr1, cr2, cr3, cr4, cr5, cr6, cr7, cr8, cr9, cr10, cr11⟩ := cells12 Br
  have fr := Br.frozen; have lr := Br.lt
  go_upto_region 2 with fail
  clear cp0 cp1 cp2 cp3 cp4 cp5 cp6 cp7 cp8 cp9 cp10 cp11 fp lp
  clear cr0 cr1 cr2 cr3 cr4 cr5 cr6 cr7 cr8 cr9 cr10 cr11 fr lr
  have Bq := Blk.new w2 118 #[uv u.b.v, uv u.b.m, uv u.lo, uv u.hi, sv u.sl, sv u.sh, uv v.b.v, uv v.b.m, uv v.lo, uv v.hi, sv v.sl, sv v.sh]
  have hgq := hB.size
  have hnpq := Nat.ne_of_lt Bp.lt; have hltpq := Bp.lt
  have hnrq := Nat.ne_of_lt Br.lt; have hltrq := Br.lt
  replace Bp : Blk (w2.alloc (.cells #[uv u.b.v, uv u.b.m, uv u.lo, uv u.hi, sv u.sl, sv u.sh, uv v.b.v, uv v.b.m, uv v.lo, uv v.hi, sv v.sl, sv v.sh] 118)) (w.heap.size) 118 #[uv a.b.v, uv a.b.m, uv a.lo, uv a.hi, sv a.sl, sv a.sh, uv b.b.v, uv b.b.m, uv b.lo, uv b.hi, sv b.sl, sv b.sh] := Bp.alloc _
  replace Br : Blk (w2.alloc (.cells #[uv u.b.v, uv u.b.m, uv u.lo, uv u.hi, sv u.sl, sv u.sh, uv v.b.v, uv v.b.m, uv v.lo, uv v.hi, sv v.sl, sv v.sh] 118)) (w.heap.size + 1) 118 #[.int .u64 0, .int .u64 0, .int .u64 0, .int .u64 0, .int .i64 0, .int .i64 0, .int .u64 0, .int .u64 0, .int .u64 0, .int .u64 0, .int .i64 0, .int .i64 0] := Br.alloc _
  replace hB : Below w.heap.size w (w2.alloc (.cells #[uv u.b.v, uv u.b.m, uv u.lo, uv u.hi, sv u.sl, sv u.sh, uv v.b.v, uv v.b.m, uv v.lo, uv v.hi, sv v.sl, sv v.sh] 118)) := Bl_alloc hB _
  generalize (w2.alloc (.cells #[uv u.b.v, uv u.b.m, uv u.lo, uv u.hi, sv u.sl, sv u.sh, uv v.b.v, uv v.b.m, uv v.lo, uv v.hi, sv v.sl, sv v.sh] 118)) = w3 at *
  generalize w2.heap.size = gq at *
  obtain ⟨cp0, cp1, cp2, cp3, cp4, cp5, cp6, cp7, cp8, cp9, cp10, cp11⟩ := cells12 Bp
  have fp := Bp.frozen; have lp := Bp.lt
  obtain ⟨cr0, cr1, cr2, cr3, cr4, cr5, cr6, cr7, cr8, cr9, cr10, cr11⟩ := cells12 Br
  have fr := Br.frozen; have lr := Br.lt
  obtain ⟨cq0, cq1, cq2, cq3, cq4, cq5, cq6, cq7, cq8, cq9, cq10, cq11⟩ := cells12 Bq
  have fq := Bq.frozen; have lq := Bq.lt
  go_wp2_with fail
  refine (k_al _).mono ?_
  rintro e w4 ⟨rfl, hb⟩
  clear cp0 cp1 cp2 cp3 cp4 cp5 cp6 cp7 cp8 cp9 cp10 cp11 fp lp
  clear cr0 cr1 cr2 cr3 cr4 cr5 cr6 cr7 cr8 cr9 cr10 cr11 fr lr
  clear cq0 cq1 cq2 cq3 cq4 cq5 cq6 cq7 cq8 cq9 cq10 cq11 fq lq
  replace Bp := (Bp).next hb
  replace Br := (Br).next hb
  replace Bq := (Bq).next hb
  replace hB : Below w.heap.size w w4 := by repeat (first | exact hB | (refine Bl_set ?_ (by first | omega | (simp; omega)) _) | apply Bl_alloc | (refine Bl_trans ?_ hb))
  clear hb
  obtain ⟨cp0, cp1, cp2, cp3, cp4, cp5, cp6, cp7, cp8, cp9, cp10, cp11⟩ := cells12 Bp
  have fp := Bp.frozen; have lp := Bp.lt
  obtain ⟨cr0, cr1, cr2, cr3, cr4, cr5, cr6, cr7, cr8, cr9, cr10, cr11⟩ := cells12 Br
  have fr := Br.frozen; have lr := Br.lt
  obtain ⟨cq0, cq1, cq2, cq3, cq4, cq5, cq6, cq7, cq8, cq9, cq10, cq11⟩ := cells12 Bq
  have fq := Bq.frozen; have lq := Bq.lt
  go_wp2_with fail
  refine (k_sh _).mono ?_
  rintro e w5 ⟨rfl, hb⟩
  clear cp0 cp1 cp2 cp3 cp4 cp5 cp6 cp7 cp8 cp9 cp10 cp11 fp lp
  clear cr0 cr1 cr2 cr3 cr4 cr5 cr6 cr7 cr8 cr9 cr10 cr11 fr lr
  clear cq0 cq1 cq2 cq3 cq4 cq5 cq6 cq7 cq8 cq9 cq10 cq11 fq lq
  replace Bp := (Bp).next hb
  replace Br := (Br).next hb
  replace Bq := (Bq).next hb
  replace hB : Below w.heap.size w w5 := by repeat (first | exact hB | (refine Bl_set ?_ (by first | omega | (simp; omega)) _) | apply Bl_alloc | (refine Bl_trans ?_ hb))
  clear hb
  obtain ⟨cp0, cp1, cp2, cp3, cp4, cp5, cp6, cp7, cp8, cp9, cp10, cp11⟩ := cells12 Bp
  have fp := Bp.frozen; have lp := Bp.lt
  obtain ⟨cr0, cr1, cr2, cr3, cr4, cr5, cr6, cr7, cr8, cr9, cr10, cr11⟩ := cells12 Br
  have fr := Br.frozen; have lr := Br.lt
  obtain ⟨cq0, cq1, cq2, cq3, cq4, cq5, cq6, cq7, cq8, cq9, cq10, cq11⟩ := cells12 Bq
  have fq := Bq.frozen; have lq := Bq.lt
  go_wp2_with fail
  refine (k_op _).mono ?_
  rintro e w6 ⟨rfl, hb⟩
  clear cp0 cp1 cp2 cp3 cp4 cp5 cp6 cp7 cp8 cp9 cp10 cp11 fp lp
  clear cr0 cr1 cr2 cr3 cr4 cr5 cr6 cr7 cr8 cr9 cr10 cr11 fr lr
  clear cq0 cq1 cq2 cq3 cq4 cq5 cq6 cq7 cq8 cq9 cq10 cq11 fq lq
  replace Bp := (Bp).next hb
  replace Br := (Br).next hb
  replace Bq := (Bq).next hb
  replace hB : Below w.heap.size w w6 := by repeat (first | exact hB | (refine Bl_set ?_ (by first | omega | (simp; omega)) _) | apply Bl_alloc | (refine Bl_trans ?_ hb))
  clear hb
  obtain ⟨cp0, cp1, cp2, cp3, cp4, cp5, cp6, cp7, cp8, cp9, cp10, cp11⟩ := cells12 Bp
  have fp := Bp.frozen; have lp := Bp.lt
  obtain ⟨cr0, cr1, cr2, cr3, cr4, cr5, cr6, cr7, cr8, cr9, cr10, cr11⟩ := cells12 Br
  have fr := Br.frozen; have lr := Br.lt
  obtain ⟨cq0, cq1, cq2, cq3, cq4, cq5, cq6, cq7, cq8, cq9, cq10, cq11⟩ := cells12 Bq
  have fq := Bq.frozen; have lq := Bq.lt
  go_wp2_with fail
  refine (k_R _).mono ?_
  rintro e w7 ⟨rfl, hb⟩
  clear cp0 cp1 cp2 cp3 cp4 cp5 cp6 cp7 cp8 cp9 cp10 cp11 fp lp
  clear cr0 cr1 cr2 cr3 cr4 cr5 cr6 cr7 cr8 cr9 cr10 cr11 fr lr
  clear cq0 cq1 cq2 cq3 cq4 cq5 cq6 cq7 cq8 cq9 cq10 cq11 fq lq
  replace Bp := (Bp).next hb
  replace Br := (Br).next hb
  replace Bq := (Bq).next hb
  replace hB : Below w.heap.size w w7 := by repeat (first | exact hB | (refine Bl_set ?_ (by first | omega | (simp; omega)) _) | apply Bl_alloc | (refine Bl_trans ?_ hb))
  clear hb
  obtain ⟨cp0, cp1, cp2, cp3, cp4, cp5, cp6, cp7, cp8, cp9, cp10, cp11⟩ := cells12 Bp
  have fp := Bp.frozen; have lp := Bp.lt
  obtain ⟨cr0, cr1, cr2, cr3, cr4, cr5, cr6, cr7, cr8, cr9, cr10, cr11⟩ := cells12 Br
  have fr := Br.frozen; have lr := Br.lt
  obtain ⟨cq0, cq1, cq2, cq3, cq4, cq5, cq6, cq7, cq8, cq9, cq10, cq11⟩ := cells12 Bq
  have fq := Bq.frozen; have lq := Bq.lt
  go_wp2
  exact bodyPost_ret (v := tv R) (by simp [results, Try.results63, go_sem, cr0, cr1, cr2, cr3, cr4, cr5, cr6, cr7, cr8, cr9, cr10, cr11, lr]) rfl ⟨by rw [hs]; first | done | rfl, by repeat (first | (with_reducible exact hB) | (with_reducible refine Bl_set ?_ (by first | omega | (simp; done) | (simp; omega)) _) | with_reducible apply Bl_alloc)⟩
set_option maxRecDepth 100000 in
set_option maxHeartbeats 3200000 in
theorem refP_nob_true (a b u v : Rng) (k_Q : ∀ w : World, Calls Try.prog 71 #[pv2 a b] w fun e w' => e = .returned (.tuple #[pv2 u v, .bool true]) ∧ Below w.heap.size w w') (k_al : ∀ w : World, Calls Try.prog 72 #[pv2 u v] w fun e w' => e = .returned (.tuple #[uv u.lo, uv v.lo, .bool false]) ∧ Below w.heap.size w w') (R : PlainBranch.Pair × Bool) (k_R : ∀ w : World, Calls Try.prog 74 #[pv2 u v] w fun e w' => e = .returned (tv R) ∧ Below w.heap.size w w') (hs : PlainBranch.refineP 4 true (a, b) false = R) (w : World) : Calls Try.prog 63 #[.int .i64 4, .bool true, pv2 a b, .bool false] w fun e w' => e = .returned (tv (PlainBranch.refineP 4 true (a, b) false)) ∧ Below w.heap.size w w' := by
  go_enter Try.func63, Try.ntmps63
  go_wp2_with fail
  obtain ⟨gp, hgp⟩ : ∃ g, g = w.heap.size := ⟨_, rfl⟩
  obtain ⟨gr, hgr⟩ : ∃ g, g = w.heap.size + 1 := ⟨_, rfl⟩
  have Bp : Blk ((w.alloc (.cells #[uv a.b.v, uv a.b.m, uv a.lo, uv a.hi, sv a.sl, sv a.sh, uv b.b.v, uv b.b.m, uv b.lo, uv b.hi, sv b.sl, sv b.sh] 118)).alloc (.cells #[.int .u64 0, .int .u64 0, .int .u64 0, .int .u64 0, .int .i64 0, .int .i64 0, .int .u64 0, .int .u64 0, .int .u64 0, .int .u64 0, .int .i64 0, .int .i64 0] 118)) (w.heap.size) 118 #[uv a.b.v, uv a.b.m, uv a.lo, uv a.hi, sv a.sl, sv a.sh, uv b.b.v, uv b.b.m, uv b.lo, uv b.hi, sv b.sl, sv b.sh] := ((Blk.new w 118 #[uv a.b.v, uv a.b.m, uv a.lo, uv a.hi, sv a.sl, sv a.sh, uv b.b.v, uv b.b.m, uv b.lo, uv b.hi, sv b.sl, sv b.sh])).alloc _
  have Br : Blk ((w.alloc (.cells #[uv a.b.v, uv a.b.m, uv a.lo, uv a.hi, sv a.sl, sv a.sh, uv b.b.v, uv b.b.m, uv b.lo, uv b.hi, sv b.sl, sv b.sh] 118)).alloc (.cells #[.int .u64 0, .int .u64 0, .int .u64 0, .int .u64 0, .int .i64 0, .int .i64 0, .int .u64 0, .int .u64 0, .int .u64 0, .int .u64 0, .int .i64 0, .int .i64 0] 118)) (w.heap.size + 1) 118 #[.int .u64 0, .int .u64 0, .int .u64 0, .int .u64 0, .int .i64 0, .int .i64 0, .int .u64 0, .int .u64 0, .int .u64 0, .int .u64 0, .int .i64 0, .int .i64 0] := (by simpa using Blk.new (w.alloc (.cells #[uv a.b.v, uv a.b.m, uv a.lo, uv a.hi, sv a.sl, sv a.sh, uv b.b.v, uv b.b.m, uv b.lo, uv b.hi, sv b.sl, sv b.sh] 118)) 118 #[.int .u64 0, .int .u64 0, .int .u64 0, .int .u64 0, .int .i64 0, .int .i64 0, .int .u64 0, .int .u64 0, .int .u64 0, .int .u64 0, .int .i64 0, .int .i64 0] : Blk _ (w.heap.size + 1) 118 #[.int .u64 0, .int .u64 0, .int .u64 0, .int .u64 0, .int .i64 0, .int .i64 0, .int .u64 0, .int .u64 0, .int .u64 0, .int .u64 0, .int .i64 0, .int .i64 0])
  have hB : Below w.heap.size w ((w.alloc (.cells #[uv a.b.v, uv a.b.m, uv a.lo, uv a.hi, sv a.sl, sv a.sh, uv b.b.v, uv b.b.m, uv b.lo, uv b.hi, sv b.sl, sv b.sh] 118)).alloc (.cells #[.int .u64 0, .int .u64 0, .int .u64 0, .int .u64 0, .int .i64 0, .int .i64 0, .int .u64 0, .int .u64 0, .int .u64 0, .int .u64 0, .int .i64 0, .int .i64 0] 118)) := (Bl_alloc (Bl_alloc (Bl_refl w) _) _)
  clear hgp
  clear gp
  clear hgr
  clear gr
  generalize ((w.alloc (.cells #[uv a.b.v, uv a.b.m, uv a.lo, uv a.hi, sv a.sl, sv a.sh, uv b.b.v, uv b.b.m, uv b.lo, uv b.hi, sv b.sl, sv b.sh] 118)).alloc (.cells #[.int .u64 0, .int .u64 0, .int .u64 0, .int .u64 0, .int .i64 0, .int .i64 0, .int .u64 0, .int .u64 0, .int .u64 0, .int .u64 0, .int .i64 0, .int .i64 0] 118)) = w1 at *
  obtain ⟨cp0, cp1, cp2, cp3, cp4, cp5, cp6, cp7, cp8, cp9, cp10, cp11⟩ := cells12 Bp
  have fp := Bp.frozen; have lp := Bp.lt
  obtain ⟨cr0, cr1, cr2, cr3, cr4, cr5, cr6, cr7, cr8, cr9, cr10, cr11⟩ := cells12 Br
  have fr := Br.frozen; have lr := Br.lt
  go_wp2_with fail
  refine (k_Q _).mono ?_
  rintro e w2 ⟨rfl, hb⟩
  clear cp0 cp1 cp2 cp3 cp4 cp5 cp6 cp7 cp8 cp9 cp10 cp11 fp lp
  clear cr0 cr1 cr2 cr3 cr4 cr5 cr6 cr7 cr8 cr9 cr10 cr11 fr lr
  replace Bp := (Bp).next hb
  replace Br := (Br).next hb
  replace hB : Below w.heap.size w w2 := by repeat (first | exact hB | (refine Bl_set ?_ (by first | omega | (simp; omega)) _) | apply Bl_alloc | (refine Bl_trans ?_ hb))
  clear hb
  obtain ⟨cp0, cp1, cp2, cp3, cp4, cp5, cp6, cp7, cp8, cp9, cp10, cp11⟩ := cells12 Bp
  have fp := Bp.frozen; have lp := Bp.lt
  obtain ⟨cr0, cr1, cr2, cr3, cr4, cr5, cr6, cr7, cr8, cr9, cr10, cr11⟩ := cells12 Br
  have fr := Br.frozen; have lr := Br.lt
  go_upto_region 2 with fail
  clear cp0 cp1 cp2 cp3 cp4 cp5 cp6 cp7 cp8 cp9 cp10 cp11 fp lp
  clear cr0 cr1 cr2 cr3 cr4 cr5 cr6 cr7 cr8 cr9 cr10 cr11 fr lr
  have Bq := Blk.new w2 118 #[uv u.b.v, uv u.b.m, uv u.lo, uv u.hi, sv u.sl, sv u.sh, uv v.b.v, uv v.b.m, uv v.lo, uv v.hi, sv v.sl, sv v.sh]
  have hgq := hB.size
  have hnpq := Nat.ne_of_lt Bp.lt; have hltpq := Bp.lt
  have hnrq := Nat.ne_of_lt Br.lt; have hltrq := Br.lt
  replace Bp : Blk (w2.alloc (.cells #[uv u.b.v, uv u.b.m, uv u.lo, uv u.hi, sv u.sl, sv u.sh, uv v.b.v, uv v.b.m, uv v.lo, uv v.hi, sv v.sl, sv v.sh] 118)) (w.heap.size) 118 #[uv a.b.v, uv a.b.m, uv a.lo, uv a.hi, sv a.sl, sv a.sh, uv b.b.v, uv b.b.m, uv b.lo, uv b.hi, sv b.sl, sv b.sh] := Bp.alloc _
  replace Br : Blk (w2.alloc (.cells #[uv u.b.v, uv u.b.m, uv u.lo, uv u.hi, sv u.sl, sv u.sh, uv v.b.v, uv v.b.m, uv v.lo, uv v.hi, sv v.sl, sv v.sh] 118)) (w.heap.size + 1) 118 #[.int .u64 0, .int .u64 0, .int .u64 0, .int .u64 0, .int .i64 0, .int .i64 0, .int .u64 0, .int .u64 0, .int .u64 0, .int .u64 0, .int .i64 0, .int .i64 0] := Br.alloc _
  replace hB : Below w.heap.size w (w2.alloc (.cells #[uv u.b.v, uv u.b.m, uv u.lo, uv u.hi, sv u.sl, sv u.sh, uv v.b.v, uv v.b.m, uv v.lo, uv v.hi, sv v.sl, sv v.sh] 118)) := Bl_alloc hB _
  generalize (w2.alloc (.cells #[uv u.b.v, uv u.b.m, uv u.lo, uv u.hi, sv u.sl, sv u.sh, uv v.b.v, uv v.b.m, uv v.lo, uv v.hi, sv v.sl, sv v.sh] 118)) = w3 at *
  generalize w2.heap.size = gq at *
  obtain ⟨cp0, cp1, cp2, cp3, cp4, cp5, cp6, cp7, cp8, cp9, cp10, cp11⟩ := cells12 Bp
  have fp := Bp.frozen; have lp := Bp.lt
  obtain ⟨cr0, cr1, cr2, cr3, cr4, cr5, cr6, cr7, cr8, cr9, cr10, cr11⟩ := cells12 Br
  have fr := Br.frozen; have lr := Br.lt
  obtain ⟨cq0, cq1, cq2, cq3, cq4, cq5, cq6, cq7, cq8, cq9, cq10, cq11⟩ := cells12 Bq
  have fq := Bq.frozen; have lq := Bq.lt
  go_wp2_with fail
  refine (k_al _).mono ?_
  rintro e w4 ⟨rfl, hb⟩
  clear cp0 cp1 cp2 cp3 cp4 cp5 cp6 cp7 cp8 cp9 cp10 cp11 fp lp
  clear cr0 cr1 cr2 cr3 cr4 cr5 cr6 cr7 cr8 cr9 cr10 cr11 fr lr
  clear cq0 cq1 cq2 cq3 cq4 cq5 cq6 cq7 cq8 cq9 cq10 cq11 fq lq
  replace Bp := (Bp).next hb
  replace Br := (Br).next hb
  replace Bq := (Bq).next hb
  replace hB : Below w.heap.size w w4 := by repeat (first | exact hB | (refine Bl_set ?_ (by first | omega | (simp; omega)) _) | apply Bl_alloc | (refine Bl_trans ?_ hb))
  clear hb
  obtain ⟨cp0, cp1, cp2, cp3, cp4, cp5, cp6, cp7, cp8, cp9, cp10, cp11⟩ := cells12 Bp
  have fp := Bp.frozen; have lp := Bp.lt
  obtain ⟨cr0, cr1, cr2, cr3, cr4, cr5, cr6, cr7, cr8, cr9, cr10, cr11⟩ := cells12 Br
  have fr := Br.frozen; have lr := Br.lt
  obtain ⟨cq0, cq1, cq2, cq3, cq4, cq5, cq6, cq7, cq8, cq9, cq10, cq11⟩ := cells12 Bq
  have fq := Bq.frozen; have lq := Bq.lt
  go_wp2_with fail
  refine (k_R _).mono ?_
  rintro e w5 ⟨rfl, hb⟩
  clear cp0 cp1 cp2 cp3 cp4 cp5 cp6 cp7 cp8 cp9 cp10 cp11 fp lp
  clear cr0 cr1 cr2 cr3 cr4 cr5 cr6 cr7 cr8 cr9 cr10 cr11 fr lr
  clear cq0 cq1 cq2 cq3 cq4 cq5 cq6 cq7 cq8 cq9 cq10 cq11 fq lq
  replace Bp := (Bp).next hb
  replace Br := (Br).next hb
  replace Bq := (Bq).next hb
  replace hB : Below w.heap.size w w5 := by repeat (first | exact hB | (refine Bl_set ?_ (by first | omega | (simp; omega)) _) | apply Bl_alloc | (refine Bl_trans ?_ hb))
  clear hb
  obtain ⟨cp0, cp1, cp2, cp3, cp4, cp5, cp6, cp7, cp8, cp9, cp10, cp11⟩ := cells12 Bp
  have fp := Bp.frozen; have lp := Bp.lt
  obtain ⟨cr0, cr1, cr2, cr3, cr4, cr5, cr6, cr7, cr8, cr9, cr10, cr11⟩ := cells12 Br
  have fr := Br.frozen; have lr := Br.lt
  obtain ⟨cq0, cq1, cq2, cq3, cq4, cq5, cq6, cq7, cq8, cq9, cq10, cq11⟩ := cells12 Bq
  have fq := Bq.frozen; have lq := Bq.lt
  go_wp2
  exact bodyPost_ret (v := tv R) (by simp [results, Try.results63, go_sem, cr0, cr1, cr2, cr3, cr4, cr5, cr6, cr7, cr8, cr9, cr10, cr11, lr]) rfl ⟨by rw [hs]; first | done | rfl, by repeat (first | (with_reducible exact hB) | (with_reducible refine Bl_set ?_ (by first | omega | (simp; done) | (simp; omega)) _) | with_reducible apply Bl_alloc)⟩
set_option maxRecDepth 100000 in
set_option maxHeartbeats 3200000 in
theorem refP_com_true (a b u v : Rng) (k_Q : ∀ w : World, Calls Try.prog 71 #[pv2 a b] w fun e w' => e = .returned (.tuple #[pv2 u v, .bool true]) ∧ Below w.heap.size w w') (k_al : ∀ w : World, Calls Try.prog 72 #[pv2 u v] w fun e w' => e = .returned (.tuple #[uv u.lo, uv v.lo, .bool false]) ∧ Below w.heap.size w w') (hs : PlainBranch.refineP 4 true (a, b) true = ((u, v), true)) (w : World) : Calls Try.prog 63 #[.int .i64 4, .bool true, pv2 a b, .bool true] w fun e w' => e = .returned (tv (PlainBranch.refineP 4 true (a, b) true)) ∧ Below w.heap.size w w' := by
  go_enter Try.func63, Try.ntmps63
  go_wp2_with fail
  obtain ⟨gp, hgp⟩ : ∃ g, g = w.heap.size := ⟨_, rfl⟩
  obtain ⟨gr, hgr⟩ : ∃ g, g = w.heap.size + 1 := ⟨_, rfl⟩
  have Bp : Blk ((w.alloc (.cells #[uv a.b.v, uv a.b.m, uv a.lo, uv a.hi, sv a.sl, sv a.sh, uv b.b.v, uv b.b.m, uv b.lo, uv b.hi, sv b.sl, sv b.sh] 118)).alloc (.cells #[.int .u64 0, .int .u64 0, .int .u64 0, .int .u64 0, .int .i64 0, .int .i64 0, .int .u64 0, .int .u64 0, .int .u64 0, .int .u64 0, .int .i64 0, .int .i64 0] 118)) (w.heap.size) 118 #[uv a.b.v, uv a.b.m, uv a.lo, uv a.hi, sv a.sl, sv a.sh, uv b.b.v, uv b.b.m, uv b.lo, uv b.hi, sv b.sl, sv b.sh] := ((Blk.new w 118 #[uv a.b.v, uv a.b.m, uv a.lo, uv a.hi, sv a.sl, sv a.sh, uv b.b.v, uv b.b.m, uv b.lo, uv b.hi, sv b.sl, sv b.sh])).alloc _
  have Br : Blk ((w.alloc (.cells #[uv a.b.v, uv a.b.m, uv a.lo, uv a.hi, sv a.sl, sv a.sh, uv b.b.v, uv b.b.m, uv b.lo, uv b.hi, sv b.sl, sv b.sh] 118)).alloc (.cells #[.int .u64 0, .int .u64 0, .int .u64 0, .int .u64 0, .int .i64 0, .int .i64 0, .int .u64 0, .int .u64 0, .int .u64 0, .int .u64 0, .int .i64 0, .int .i64 0] 118)) (w.heap.size + 1) 118 #[.int .u64 0, .int .u64 0, .int .u64 0, .int .u64 0, .int .i64 0, .int .i64 0, .int .u64 0, .int .u64 0, .int .u64 0, .int .u64 0, .int .i64 0, .int .i64 0] := (by simpa using Blk.new (w.alloc (.cells #[uv a.b.v, uv a.b.m, uv a.lo, uv a.hi, sv a.sl, sv a.sh, uv b.b.v, uv b.b.m, uv b.lo, uv b.hi, sv b.sl, sv b.sh] 118)) 118 #[.int .u64 0, .int .u64 0, .int .u64 0, .int .u64 0, .int .i64 0, .int .i64 0, .int .u64 0, .int .u64 0, .int .u64 0, .int .u64 0, .int .i64 0, .int .i64 0] : Blk _ (w.heap.size + 1) 118 #[.int .u64 0, .int .u64 0, .int .u64 0, .int .u64 0, .int .i64 0, .int .i64 0, .int .u64 0, .int .u64 0, .int .u64 0, .int .u64 0, .int .i64 0, .int .i64 0])
  have hB : Below w.heap.size w ((w.alloc (.cells #[uv a.b.v, uv a.b.m, uv a.lo, uv a.hi, sv a.sl, sv a.sh, uv b.b.v, uv b.b.m, uv b.lo, uv b.hi, sv b.sl, sv b.sh] 118)).alloc (.cells #[.int .u64 0, .int .u64 0, .int .u64 0, .int .u64 0, .int .i64 0, .int .i64 0, .int .u64 0, .int .u64 0, .int .u64 0, .int .u64 0, .int .i64 0, .int .i64 0] 118)) := (Bl_alloc (Bl_alloc (Bl_refl w) _) _)
  clear hgp
  clear gp
  clear hgr
  clear gr
  generalize ((w.alloc (.cells #[uv a.b.v, uv a.b.m, uv a.lo, uv a.hi, sv a.sl, sv a.sh, uv b.b.v, uv b.b.m, uv b.lo, uv b.hi, sv b.sl, sv b.sh] 118)).alloc (.cells #[.int .u64 0, .int .u64 0, .int .u64 0, .int .u64 0, .int .i64 0, .int .i64 0, .int .u64 0, .int .u64 0, .int .u64 0, .int .u64 0, .int .i64 0, .int .i64 0] 118)) = w1 at *
  obtain ⟨cp0, cp1, cp2, cp3, cp4, cp5, cp6, cp7, cp8, cp9, cp10, cp11⟩ := cells12 Bp
  have fp := Bp.frozen; have lp := Bp.lt
  obtain ⟨cr0, cr1, cr2, cr3, cr4, cr5, cr6, cr7, cr8, cr9, cr10, cr11⟩ := cells12 Br
  have fr := Br.frozen; have lr := Br.lt
  go_wp2_with fail
  refine (k_Q _).mono ?_
  rintro e w2 ⟨rfl, hb⟩
  clear cp0 cp1 cp2 cp3 cp4 cp5 cp6 cp7 cp8 cp9 cp10 cp11 fp lp
  clear cr0 cr1 cr2 cr3 cr4 cr5 cr6 cr7 cr8 cr9 cr10 cr11 fr lr
  replace Bp := (Bp).next hb
  replace Br := (Br).next hb
  replace hB : Below w.heap.size w w2 := by repeat (first | exact hB | (refine Bl_set ?_ (by first | omega | (simp; omega)) _) | apply Bl_alloc | (refine Bl_trans ?_ hb))
  clear hb
  obtain ⟨cp0, cp1, cp2, cp3, cp4, cp5, cp6, cp7, cp8, cp9, cp10, cp11⟩ := cells12 Bp
  have fp := Bp.frozen; have lp := Bp.lt
  obtain ⟨cr0, cr1, cr2, cr3, cr4, cr5, cr6, cr7, cr8, cr9, cr10, cr11⟩ := cells12 Br
  have fr := Br.frozen; have lr := Br.lt
  go_upto_region 2 with fail
  clear cp0 cp1 cp2 cp3 cp4 cp5 cp6 cp7 cp8 cp9 cp10 cp11 fp lp
  clear cr0 cr1 cr2 cr3 cr4 cr5 cr6 cr7 cr8 cr9 cr10 cr11 fr lr
  have Bq := Blk.new w2 118 #[uv u.b.v, uv u.b.m, uv u.lo, uv u.hi, sv u.sl, sv u.sh, uv v.b.v, uv v.b.m, uv v.lo, uv v.hi, sv v.sl, sv v.sh]
  have hgq := hB.size
  have hnpq := Nat.ne_of_lt Bp.lt; have hltpq := Bp.lt
  have hnrq := Nat.ne_of_lt Br.lt; have hltrq := Br.lt
  replace Bp : Blk (w2.alloc (.cells #[uv u.b.v, uv u.b.m, uv u.lo, uv u.hi, sv u.sl, sv u.sh, uv v.b.v, uv v.b.m, uv v.lo, uv v.hi, sv v.sl, sv v.sh] 118)) (w.heap.size) 118 #[uv a.b.v, uv a.b.m, uv a.lo, uv a.hi, sv a.sl, sv a.sh, uv b.b.v, uv b.b.m, uv b.lo, uv b.hi, sv b.sl, sv b.sh] := Bp.alloc _
  replace Br : Blk (w2.alloc (.cells #[uv u.b.v, uv u.b.m, uv u.lo, uv u.hi, sv u.sl, sv u.sh, uv v.b.v, uv v.b.m, uv v.lo, uv v.hi, sv v.sl, sv v.sh] 118)) (w.heap.size + 1) 118 #[.int .u64 0, .int .u64 0, .int .u64 0, .int .u64 0, .int .i64 0, .int .i64 0, .int .u64 0, .int .u64 0, .int .u64 0, .int .u64 0, .int .i64 0, .int .i64 0] := Br.alloc _
  replace hB : Below w.heap.size w (w2.alloc (.cells #[uv u.b.v, uv u.b.m, uv u.lo, uv u.hi, sv u.sl, sv u.sh, uv v.b.v, uv v.b.m, uv v.lo, uv v.hi, sv v.sl, sv v.sh] 118)) := Bl_alloc hB _
  generalize (w2.alloc (.cells #[uv u.b.v, uv u.b.m, uv u.lo, uv u.hi, sv u.sl, sv u.sh, uv v.b.v, uv v.b.m, uv v.lo, uv v.hi, sv v.sl, sv v.sh] 118)) = w3 at *
  generalize w2.heap.size = gq at *
  obtain ⟨cp0, cp1, cp2, cp3, cp4, cp5, cp6, cp7, cp8, cp9, cp10, cp11⟩ := cells12 Bp
  have fp := Bp.frozen; have lp := Bp.lt
  obtain ⟨cr0, cr1, cr2, cr3, cr4, cr5, cr6, cr7, cr8, cr9, cr10, cr11⟩ := cells12 Br
  have fr := Br.frozen; have lr := Br.lt
  obtain ⟨cq0, cq1, cq2, cq3, cq4, cq5, cq6, cq7, cq8, cq9, cq10, cq11⟩ := cells12 Bq
  have fq := Bq.frozen; have lq := Bq.lt
  go_wp2_with fail
  refine (k_al _).mono ?_
  rintro e w4 ⟨rfl, hb⟩
  clear cp0 cp1 cp2 cp3 cp4 cp5 cp6 cp7 cp8 cp9 cp10 cp11 fp lp
  clear cr0 cr1 cr2 cr3 cr4 cr5 cr6 cr7 cr8 cr9 cr10 cr11 fr lr
  clear cq0 cq1 cq2 cq3 cq4 cq5 cq6 cq7 cq8 cq9 cq10 cq11 fq lq
  replace Bp := (Bp).next hb
  replace Br := (Br).next hb
  replace Bq := (Bq).next hb
  replace hB : Below w.heap.size w w4 := by repeat (first | exact hB | (refine Bl_set ?_ (by first | omega | (simp; omega)) _) | apply Bl_alloc | (refine Bl_trans ?_ hb))
  clear hb
  obtain ⟨cp0, cp1, cp2, cp3, cp4, cp5, cp6, cp7, cp8, cp9, cp10, cp11⟩ := cells12 Bp
  have fp := Bp.frozen; have lp := Bp.lt
  obtain ⟨cr0, cr1, cr2, cr3, cr4, cr5, cr6, cr7, cr8, cr9, cr10, cr11⟩ := cells12 Br
  have fr := Br.frozen; have lr := Br.lt
  obtain ⟨cq0, cq1, cq2, cq3, cq4, cq5, cq6, cq7, cq8, cq9, cq10, cq11⟩ := cells12 Bq
  have fq := Bq.frozen; have lq := Bq.lt
  go_wp2
  exact bodyPost_ret (v := .tuple #[pv2 u v, .bool true]) (by simp [results, Try.results63, go_sem, cq0, cq1, cq2, cq3, cq4, cq5, cq6, cq7, cq8, cq9, cq10, cq11, cr0, cr1, cr2, cr3, cr4, cr5, cr6, cr7, cr8, cr9, cr10, cr11, lq, lr]) rfl ⟨by rw [hs]; first | done | rfl, by repeat (first | (with_reducible exact hB) | (with_reducible refine Bl_set ?_ (by first | omega | (simp; done) | (simp; omega)) _) | with_reducible apply Bl_alloc)⟩
set_option maxRecDepth 100000 in
set_option maxHeartbeats 3200000 in
theorem refP_whe_true_true (a b u v : Rng) (op : Int) (e4 : (op == 4) = false) (k_Q : ∀ w : World, Calls Try.prog 71 #[pv2 a b] w fun e w' => e = .returned (.tuple #[pv2 u v, .bool true]) ∧ Below w.heap.size w w') (k_al : ∀ w : World, Calls Try.prog 72 #[pv2 u v] w fun e w' => e = .returned (.tuple #[uv u.lo, uv v.lo, .bool false]) ∧ Below w.heap.size w w') (R : PlainBranch.Pair × Bool) (k_R : ∀ w : World, Calls Try.prog 76 #[.int .i64 op, pv2 u v] w fun e w' => e = .returned (tv R) ∧ Below w.heap.size w w') (hs : PlainBranch.refineP op true (a, b) true = R) (w : World) : Calls Try.prog 63 #[.int .i64 op, .bool true, pv2 a b, .bool true] w fun e w' => e = .returned (tv (PlainBranch.refineP op true (a, b) true)) ∧ Below w.heap.size w w' := by
  go_enter Try.func63, Try.ntmps63
  go_wp2_with fail
  obtain ⟨gp, hgp⟩ : ∃ g, g = w.heap.size := ⟨_, rfl⟩
  obtain ⟨gr, hgr⟩ : ∃ g, g = w.heap.size + 1 := ⟨_, rfl⟩
  have Bp : Blk ((w.alloc (.cells #[uv a.b.v, uv a.b.m, uv a.lo, uv a.hi, sv a.sl, sv a.sh, uv b.b.v, uv b.b.m, uv b.lo, uv b.hi, sv b.sl, sv b.sh] 118)).alloc (.cells #[.int .u64 0, .int .u64 0, .int .u64 0, .int .u64 0, .int .i64 0, .int .i64 0, .int .u64 0, .int .u64 0, .int .u64 0, .int .u64 0, .int .i64 0, .int .i64 0] 118)) (w.heap.size) 118 #[uv a.b.v, uv a.b.m, uv a.lo, uv a.hi, sv a.sl, sv a.sh, uv b.b.v, uv b.b.m, uv b.lo, uv b.hi, sv b.sl, sv b.sh] := ((Blk.new w 118 #[uv a.b.v, uv a.b.m, uv a.lo, uv a.hi, sv a.sl, sv a.sh, uv b.b.v, uv b.b.m, uv b.lo, uv b.hi, sv b.sl, sv b.sh])).alloc _
  have Br : Blk ((w.alloc (.cells #[uv a.b.v, uv a.b.m, uv a.lo, uv a.hi, sv a.sl, sv a.sh, uv b.b.v, uv b.b.m, uv b.lo, uv b.hi, sv b.sl, sv b.sh] 118)).alloc (.cells #[.int .u64 0, .int .u64 0, .int .u64 0, .int .u64 0, .int .i64 0, .int .i64 0, .int .u64 0, .int .u64 0, .int .u64 0, .int .u64 0, .int .i64 0, .int .i64 0] 118)) (w.heap.size + 1) 118 #[.int .u64 0, .int .u64 0, .int .u64 0, .int .u64 0, .int .i64 0, .int .i64 0, .int .u64 0, .int .u64 0, .int .u64 0, .int .u64 0, .int .i64 0, .int .i64 0] := (by simpa using Blk.new (w.alloc (.cells #[uv a.b.v, uv a.b.m, uv a.lo, uv a.hi, sv a.sl, sv a.sh, uv b.b.v, uv b.b.m, uv b.lo, uv b.hi, sv b.sl, sv b.sh] 118)) 118 #[.int .u64 0, .int .u64 0, .int .u64 0, .int .u64 0, .int .i64 0, .int .i64 0, .int .u64 0, .int .u64 0, .int .u64 0, .int .u64 0, .int .i64 0, .int .i64 0] : Blk _ (w.heap.size + 1) 118 #[.int .u64 0, .int .u64 0, .int .u64 0, .int .u64 0, .int .i64 0, .int .i64 0, .int .u64 0, .int .u64 0, .int .u64 0, .int .u64 0, .int .i64 0, .int .i64 0])
  have hB : Below w.heap.size w ((w.alloc (.cells #[uv a.b.v, uv a.b.m, uv a.lo, uv a.hi, sv a.sl, sv a.sh, uv b.b.v, uv b.b.m, uv b.lo, uv b.hi, sv b.sl, sv b.sh] 118)).alloc (.cells #[.int .u64 0, .int .u64 0, .int .u64 0, .int .u64 0, .int .i64 0, .int .i64 0, .int .u64 0, .int .u64 0, .int .u64 0, .int .u64 0, .int .i64 0, .int .i64 0] 118)) := (Bl_alloc (Bl_alloc (Bl_refl w) _) _)
  clear hgp
  clear gp
  clear hgr
  clear gr
  generalize ((w.alloc (.cells #[uv a.b.v, uv a.b.m, uv a.lo, uv a.hi, sv a.sl, sv a.sh, uv b.b.v, uv b.b.m, uv b.lo, uv b.hi, sv b.sl, sv b.sh] 118)).alloc (.cells #[.int .u64 0, .int .u64 0, .int .u64 0, .int .u64 0, .int .i64 0, .int .i64 0, .int .u64 0, .int .u64 0, .int .u64 0, .int .u64 0, .int .i64 0, .int .i64 0] 118)) = w1 at *
  obtain ⟨cp0, cp1, cp2, cp3, cp4, cp5, cp6, cp7, cp8, cp9, cp10, cp11⟩ := cells12 Bp
  have fp := Bp.frozen; have lp := Bp.lt
  obtain ⟨cr0, cr1, cr2, cr3, cr4, cr5, cr6, cr7, cr8, cr9, cr10, cr11⟩ := cells12 Br
  have fr := Br.frozen; have lr := Br.lt
  go_wp2_with fail
  refine (k_Q _).mono ?_
  rintro e w2 ⟨rfl, hb⟩
  clear cp0 cp1 cp2 cp3 cp4 cp5 cp6 cp7 cp8 cp9 cp10 cp11 fp lp
  clear cr0 cr1 cr2 cr3 cr4 cr5 cr6 cr7 cr8 cr9 cr10 cr11 fr lr
  replace Bp := (Bp).next hb
  replace Br := (Br).next hb
  replace hB : Below w.heap.size w w2 := by repeat (first | exact hB | (refine Bl_set ?_ (by first | omega | (simp; omega)) _) | apply Bl_alloc | (refine Bl_trans ?_ hb))
  clear hb
  obtain ⟨cp0, cp1, cp2, cp3, cp4, cp5, cp6, cp7, cp8, cp9, cp10, cp11⟩ := cells12 Bp
  have fp := Bp.frozen; have lp := Bp.lt
  obtain ⟨cr0, cr1, cr2, cr3, cr4, cr5, cr6, cr7, cr8, cr9, cr10, cr11⟩ := cells12 Br
  have fr := Br.frozen; have lr := Br.lt
  go_upto_region 2 with fail
  clear cp0 cp1 cp2 cp3 cp4 cp5 cp6 cp7 cp8 cp9 cp10 cp11 fp lp
  clear cr0 cr1 cr2 cr3 cr4 cr5 cr6 cr7 cr8 cr9 cr10 cr11 fr lr
  have Bq := Blk.new w2 118 #[uv u.b.v, uv u.b.m, uv u.lo, uv u.hi, sv u.sl, sv u.sh, uv v.b.v, uv v.b.m, uv v.lo, uv v.hi, sv v.sl, sv v.sh]
  have hgq := hB.size
  have hnpq := Nat.ne_of_lt Bp.lt; have hltpq := Bp.lt
  have hnrq := Nat.ne_of_lt Br.lt; have hltrq := Br.lt
  replace Bp : Blk (w2.alloc (.cells #[uv u.b.v, uv u.b.m, uv u.lo, uv u.hi, sv u.sl, sv u.sh, uv v.b.v, uv v.b.m, uv v.lo, uv v.hi, sv v.sl, sv v.sh] 118)) (w.heap.size) 118 #[uv a.b.v, uv a.b.m, uv a.lo, uv a.hi, sv a.sl, sv a.sh, uv b.b.v, uv b.b.m, uv b.lo, uv b.hi, sv b.sl, sv b.sh] := Bp.alloc _
  replace Br : Blk (w2.alloc (.cells #[uv u.b.v, uv u.b.m, uv u.lo, uv u.hi, sv u.sl, sv u.sh, uv v.b.v, uv v.b.m, uv v.lo, uv v.hi, sv v.sl, sv v.sh] 118)) (w.heap.size + 1) 118 #[.int .u64 0, .int .u64 0, .int .u64 0, .int .u64 0, .int .i64 0, .int .i64 0, .int .u64 0, .int .u64 0, .int .u64 0, .int .u64 0, .int .i64 0, .int .i64 0] := Br.alloc _
  replace hB : Below w.heap.size w (w2.alloc (.cells #[uv u.b.v, uv u.b.m, uv u.lo, uv u.hi, sv u.sl, sv u.sh, uv v.b.v, uv v.b.m, uv v.lo, uv v.hi, sv v.sl, sv v.sh] 118)) := Bl_alloc hB _
  generalize (w2.alloc (.cells #[uv u.b.v, uv u.b.m, uv u.lo, uv u.hi, sv u.sl, sv u.sh, uv v.b.v, uv v.b.m, uv v.lo, uv v.hi, sv v.sl, sv v.sh] 118)) = w3 at *
  generalize w2.heap.size = gq at *
  obtain ⟨cp0, cp1, cp2, cp3, cp4, cp5, cp6, cp7, cp8, cp9, cp10, cp11⟩ := cells12 Bp
  have fp := Bp.frozen; have lp := Bp.lt
  obtain ⟨cr0, cr1, cr2, cr3, cr4, cr5, cr6, cr7, cr8, cr9, cr10, cr11⟩ := cells12 Br
  have fr := Br.frozen; have lr := Br.lt
  obtain ⟨cq0, cq1, cq2, cq3, cq4, cq5, cq6, cq7, cq8, cq9, cq10, cq11⟩ := cells12 Bq
  have fq := Bq.frozen; have lq := Bq.lt
  go_wp2_with fail
  refine (k_al _).mono ?_
  rintro e w4 ⟨rfl, hb⟩
  clear cp0 cp1 cp2 cp3 cp4 cp5 cp6 cp7 cp8 cp9 cp10 cp11 fp lp
  clear cr0 cr1 cr2 cr3 cr4 cr5 cr6 cr7 cr8 cr9 cr10 cr11 fr lr
  clear cq0 cq1 cq2 cq3 cq4 cq5 cq6 cq7 cq8 cq9 cq10 cq11 fq lq
  replace Bp := (Bp).next hb
  replace Br := (Br).next hb
  replace Bq := (Bq).next hb
  replace hB : Below w.heap.size w w4 := by repeat (first | exact hB | (refine Bl_set ?_ (by first | omega | (simp; omega)) _) | apply Bl_alloc | (refine Bl_trans ?_ hb))
  clear hb
  obtain ⟨cp0, cp1, cp2, cp3, cp4, cp5, cp6, cp7, cp8, cp9, cp10, cp11⟩ := cells12 Bp
  have fp := Bp.frozen; have lp := Bp.lt
  obtain ⟨cr0, cr1, cr2, cr3, cr4, cr5, cr6, cr7, cr8, cr9, cr10, cr11⟩ := cells12 Br
  have fr := Br.frozen; have lr := Br.lt
  obtain ⟨cq0, cq1, cq2, cq3, cq4, cq5, cq6, cq7, cq8, cq9, cq10, cq11⟩ := cells12 Bq
  have fq := Bq.frozen; have lq := Bq.lt
  go_wp2_with fail
  refine (k_R _).mono ?_
  rintro e w5 ⟨rfl, hb⟩
  clear cp0 cp1 cp2 cp3 cp4 cp5 cp6 cp7 cp8 cp9 cp10 cp11 fp lp
  clear cr0 cr1 cr2 cr3 cr4 cr5 cr6 cr7 cr8 cr9 cr10 cr11 fr lr
  clear cq0 cq1 cq2 cq3 cq4 cq5 cq6 cq7 cq8 cq9 cq10 cq11 fq lq
  replace Bp := (Bp).next hb
  replace Br := (Br).next hb
  replace Bq := (Bq).next hb
  replace hB : Below w.heap.size w w5 := by repeat (first | exact hB | (refine Bl_set ?_ (by first | omega | (simp; omega)) _) | apply Bl_alloc | (refine Bl_trans ?_ hb))
  clear hb
  obtain ⟨cp0, cp1, cp2, cp3, cp4, cp5, cp6, cp7, cp8, cp9, cp10, cp11⟩ := cells12 Bp
  have fp := Bp.frozen; have lp := Bp.lt
  obtain ⟨cr0, cr1, cr2, cr3, cr4, cr5, cr6, cr7, cr8, cr9, cr10, cr11⟩ := cells12 Br
  have fr := Br.frozen; have lr := Br.lt
  obtain ⟨cq0, cq1, cq2, cq3, cq4, cq5, cq6, cq7, cq8, cq9, cq10, cq11⟩ := cells12 Bq
  have fq := Bq.frozen; have lq := Bq.lt
  go_wp2
  exact bodyPost_ret (v := tv R) (by simp [results, Try.results63, go_sem, cr0, cr1, cr2, cr3, cr4, cr5, cr6, cr7, cr8, cr9, cr10, cr11, lr]) rfl ⟨by rw [hs]; first | done | rfl, by repeat (first | (with_reducible exact hB) | (with_reducible refine Bl_set ?_ (by first | omega | (simp; done) | (simp; omega)) _) | with_reducible apply Bl_alloc)⟩
set_option maxRecDepth 100000 in
set_option maxHeartbeats 3200000 in
theorem refP_whe_true_false (a b u v : Rng) (op : Int) (e4 : (op == 4) = false) (k_Q : ∀ w : World, Calls Try.prog 71 #[pv2 a b] w fun e w' => e = .returned (.tuple #[pv2 u v, .bool true]) ∧ Below w.heap.size w w') (k_al : ∀ w : World, Calls Try.prog 72 #[pv2 u v] w fun e w' => e = .returned (.tuple #[uv u.lo, uv v.lo, .bool false]) ∧ Below w.heap.size w w') (op' : Int) (k_op : ∀ w : World, Calls Try.prog 75 #[.int .i64 op] w fun e w' => e = .returned (.int .i64 op') ∧ Below w.heap.size w w') (R : PlainBranch.Pair × Bool) (k_R : ∀ w : World, Calls Try.prog 76 #[.int .i64 op', pv2 u v] w fun e w' => e = .returned (tv R) ∧ Below w.heap.size w w') (hs : PlainBranch.refineP op true (a, b) false = R) (w : World) : Calls Try.prog 63 #[.int .i64 op, .bool true, pv2 a b, .bool false] w fun e w' => e = .returned (tv (PlainBranch.refineP op true (a, b) false)) ∧ Below w.heap.size w w' := by
  go_enter Try.func63, Try.ntmps63
  go_wp2_with fail
  obtain ⟨gp, hgp⟩ : ∃ g, g = w.heap.size := ⟨_, rfl⟩
  obtain ⟨gr, hgr⟩ : ∃ g, g = w.heap.size + 1 := ⟨_, rfl⟩
  have Bp : Blk ((w.alloc (.cells #[uv a.b.v, uv a.b.m, uv a.lo, uv a.hi, sv a.sl, sv a.sh, uv b.b.v, uv b.b.m, uv b.lo, uv b.hi, sv b.sl, sv b.sh] 118)).alloc (.cells #[.int .u64 0, .int .u64 0, .int .u64 0, .int .u64 0, .int .i64 0, .int .i64 0, .int .u64 0, .int .u64 0, .int .u64 0, .int .u64 0, .int .i64 0, .int .i64 0] 118)) (w.heap.size) 118 #[uv a.b.v, uv a.b.m, uv a.lo, uv a.hi, sv a.sl, sv a.sh, uv b.b.v, uv b.b.m, uv b.lo, uv b.hi, sv b.sl, sv b.sh] := ((Blk.new w 118 #[uv a.b.v, uv a.b.m, uv a.lo, uv a.hi, sv a.sl, sv a.sh, uv b.b.v, uv b.b.m, uv b.lo, uv b.hi, sv b.sl, sv b.sh])).alloc _
  have Br : Blk ((w.alloc (.cells #[uv a.b.v, uv a.b.m, uv a.lo, uv a.hi, sv a.sl, sv a.sh, uv b.b.v, uv b.b.m, uv b.lo, uv b.hi, sv b.sl, sv b.sh] 118)).alloc (.cells #[.int .u64 0, .int .u64 0, .int .u64 0, .int .u64 0, .int .i64 0, .int .i64 0, .int .u64 0, .int .u64 0, .int .u64 0, .int .u64 0, .int .i64 0, .int .i64 0] 118)) (w.heap.size + 1) 118 #[.int .u64 0, .int .u64 0, .int .u64 0, .int .u64 0, .int .i64 0, .int .i64 0, .int .u64 0, .int .u64 0, .int .u64 0, .int .u64 0, .int .i64 0, .int .i64 0] := (by simpa using Blk.new (w.alloc (.cells #[uv a.b.v, uv a.b.m, uv a.lo, uv a.hi, sv a.sl, sv a.sh, uv b.b.v, uv b.b.m, uv b.lo, uv b.hi, sv b.sl, sv b.sh] 118)) 118 #[.int .u64 0, .int .u64 0, .int .u64 0, .int .u64 0, .int .i64 0, .int .i64 0, .int .u64 0, .int .u64 0, .int .u64 0, .int .u64 0, .int .i64 0, .int .i64 0] : Blk _ (w.heap.size + 1) 118 #[.int .u64 0, .int .u64 0, .int .u64 0, .int .u64 0, .int .i64 0, .int .i64 0, .int .u64 0, .int .u64 0, .int .u64 0, .int .u64 0, .int .i64 0, .int .i64 0])
  have hB : Below w.heap.size w ((w.alloc (.cells #[uv a.b.v, uv a.b.m, uv a.lo, uv a.hi, sv a.sl, sv a.sh, uv b.b.v, uv b.b.m, uv b.lo, uv b.hi, sv b.sl, sv b.sh] 118)).alloc (.cells #[.int .u64 0, .int .u64 0, .int .u64 0, .int .u64 0, .int .i64 0, .int .i64 0, .int .u64 0, .int .u64 0, .int .u64 0, .int .u64 0, .int .i64 0, .int .i64 0] 118)) := (Bl_alloc (Bl_alloc (Bl_refl w) _) _)
  clear hgp
  clear gp
  clear hgr
  clear gr
  generalize ((w.alloc (.cells #[uv a.b.v, uv a.b.m, uv a.lo, uv a.hi, sv a.sl, sv a.sh, uv b.b.v, uv b.b.m, uv b.lo, uv b.hi, sv b.sl, sv b.sh] 118)).alloc (.cells #[.int .u64 0, .int .u64 0, .int .u64 0, .int .u64 0, .int .i64 0, .int .i64 0, .int .u64 0, .int .u64 0, .int .u64 0, .int .u64 0, .int .i64 0, .int .i64 0] 118)) = w1 at *
  obtain ⟨cp0, cp1, cp2, cp3, cp4, cp5, cp6, cp7, cp8, cp9, cp10, cp11⟩ := cells12 Bp
  have fp := Bp.frozen; have lp := Bp.lt
  obtain ⟨cr0, cr1, cr2, cr3, cr4, cr5, cr6, cr7, cr8, cr9, cr10, cr11⟩ := cells12 Br
  have fr := Br.frozen; have lr := Br.lt
  go_wp2_with fail
  refine (k_Q _).mono ?_
  rintro e w2 ⟨rfl, hb⟩
  clear cp0 cp1 cp2 cp3 cp4 cp5 cp6 cp7 cp8 cp9 cp10 cp11 fp lp
  clear cr0 cr1 cr2 cr3 cr4 cr5 cr6 cr7 cr8 cr9 cr10 cr11 fr lr
  replace Bp := (Bp).next hb
  replace Br := (Br).next hb
  replace hB : Below w.heap.size w w2 := by repeat (first | exact hB | (refine Bl_set ?_ (by first | omega | (simp; omega)) _) | apply Bl_alloc | (refine Bl_trans ?_ hb))
  clear hb
  obtain ⟨cp0, cp1, cp2, cp3, cp4, cp5, cp6, cp7, cp8, cp9, cp10, cp11⟩ := cells12 Bp
  have fp := Bp.frozen; have lp := Bp.lt
  obtain ⟨cr0, cr1, cr2, cr3, cr4, cr5, cr6, cr7, cr8, cr9, cr10, cr11⟩ := cells12 Br
  have fr := Br.frozen; have lr := Br.lt
  go_upto_region 2 with fail
  clear cp0 cp1 cp2 cp3 cp4 cp5 cp6 cp7 cp8 cp9 cp10 cp11 fp lp
  clear cr0 cr1 cr2 cr3 cr4 cr5 cr6 cr7 cr8 cr9 cr10 cr11 fr lr
  have Bq := Blk.new w2 118 #[uv u.b.v, uv u.b.m, uv u.lo, uv u.hi, sv u.sl, sv u.sh, uv v.b.v, uv v.b.m, uv v.lo, uv v.hi, sv v.sl, sv v.sh]
  have hgq := hB.size
  have hnpq := Nat.ne_of_lt Bp.lt; have hltpq := Bp.lt
  have hnrq := Nat.ne_of_lt Br.lt; have hltrq := Br.lt
  replace Bp : Blk (w2.alloc (.cells #[uv u.b.v, uv u.b.m, uv u.lo, uv u.hi, sv u.sl, sv u.sh, uv v.b.v, uv v.b.m, uv v.lo, uv v.hi, sv v.sl, sv v.sh] 118)) (w.heap.size) 118 #[uv a.b.v, uv a.b.m, uv a.lo, uv a.hi, sv a.sl, sv a.sh, uv b.b.v, uv b.b.m, uv b.lo, uv b.hi, sv b.sl, sv b.sh] := Bp.alloc _
  replace Br : Blk (w2.alloc (.cells #[uv u.b.v, uv u.b.m, uv u.lo, uv u.hi, sv u.sl, sv u.sh, uv v.b.v, uv v.b.m, uv v.lo, uv v.hi, sv v.sl, sv v.sh] 118)) (w.heap.size + 1) 118 #[.int .u64 0, .int .u64 0, .int .u64 0, .int .u64 0, .int .i64 0, .int .i64 0, .int .u64 0, .int .u64 0, .int .u64 0, .int .u64 0, .int .i64 0, .int .i64 0] := Br.alloc _
  replace hB : Below w.heap.size w (w2.alloc (.cells #[uv u.b.v, uv u.b.m, uv u.lo, uv u.hi, sv u.sl, sv u.sh, uv v.b.v, uv v.b.m, uv v.lo, uv v.hi, sv v.sl, sv v.sh] 118)) := Bl_alloc hB _
  generalize (w2.alloc (.cells #[uv u.b.v, uv u.b.m, uv u.lo, uv u.hi, sv u.sl, sv u.sh, uv v.b.v, uv v.b.m, uv v.lo, uv v.hi, sv v.sl, sv v.sh] 118)) = w3 at *
  generalize w2.heap.size = gq at *
  obtain ⟨cp0, cp1, cp2, cp3, cp4, cp5, cp6, cp7, cp8, cp9, cp10, cp11⟩ := cells12 Bp
  have fp := Bp.frozen; have lp := Bp.lt
  obtain ⟨cr0, cr1, cr2, cr3, cr4, cr5, cr6, cr7, cr8, cr9, cr10, cr11⟩ := cells12 Br
  have fr := Br.frozen; have lr := Br.lt
  obtain ⟨cq0, cq1, cq2, cq3, cq4, cq5, cq6, cq7, cq8, cq9, cq10, cq11⟩ := cells12 Bq
  have fq := Bq.frozen; have lq := Bq.lt
  go_wp2_with fail
  refine (k_al _).mono ?_
  rintro e w4 ⟨rfl, hb⟩
  clear cp0 cp1 cp2 cp3 cp4 cp5 cp6 cp7 cp8 cp9 cp10 cp11 fp lp
  clear cr0 cr1 cr2 cr3 cr4 cr5 cr6 cr7 cr8 cr9 cr10 cr11 fr lr
  clear cq0 cq1 cq2 cq3 cq4 cq5 cq6 cq7 cq8 cq9 cq10 cq11 fq lq
  replace Bp := (Bp).next hb
  replace Br := (Br).next hb
  replace Bq := (Bq).next hb
  replace hB : Below w.heap.size w w4 := by repeat (first | exact hB | (refine Bl_set ?_ (by first | omega | (simp; omega)) _) | apply Bl_alloc | (refine Bl_trans ?_ hb))
  clear hb
  obtain ⟨cp0, cp1, cp2, cp3, cp4, cp5, cp6, cp7, cp8, cp9, cp10, cp11⟩ := cells12 Bp
  have fp := Bp.frozen; have lp := Bp.lt
  obtain ⟨cr0, cr1, cr2, cr3, cr4, cr5, cr6, cr7, cr8, cr9, cr10, cr11⟩ := cells12 Br
  have fr := Br.frozen; have lr := Br.lt
  obtain ⟨cq0, cq1, cq2, cq3, cq4, cq5, cq6, cq7, cq8, cq9, cq10, cq11⟩ := cells12 Bq
  have fq := Bq.frozen; have lq := Bq.lt
  go_wp2_with fail
  refine (k_op _).mono ?_
  rintro e w5 ⟨rfl, hb⟩
  clear cp0 cp1 cp2 cp3 cp4 cp5 cp6 cp7 cp8 cp9 cp10 cp11 fp lp
  clear cr0 cr1 cr2 cr3 cr4 cr5 cr6 cr7 cr8 cr9 cr10 cr11 fr lr
  clear cq0 cq1 cq2 cq3 cq4 cq5 cq6 cq7 cq8 cq9 cq10 cq11 fq lq
  replace Bp := (Bp).next hb
  replace Br := (Br).next hb
  replace Bq := (Bq).next hb
  replace hB : Below w.heap.size w w5 := by repeat (first | exact hB | (refine Bl_set ?_ (by first | omega | (simp; omega)) _) | apply Bl_alloc | (refine Bl_trans ?_ hb))
  clear hb
  obtain ⟨cp0, cp1, cp2, cp3, cp4, cp5, cp6, cp7, cp8, cp9, cp10, cp11⟩ := cells12 Bp
  have fp := Bp.frozen; have lp := Bp.lt
  obtain ⟨cr0, cr1, cr2, cr3, cr4, cr5, cr6, cr7, cr8, cr9, cr10, cr11⟩ := cells12 Br
  have fr := Br.frozen; have lr := Br.lt
  obtain ⟨cq0, cq1, cq2, cq3, cq4, cq5, cq6, cq7, cq8, cq9, cq10, cq11⟩ := cells12 Bq
  have fq := Bq.frozen; have lq := Bq.lt
  go_wp2_with fail
  refine (k_R _).mono ?_
  rintro e w6 ⟨rfl, hb⟩
  clear cp0 cp1 cp2 cp3 cp4 cp5 cp6 cp7 cp8 cp9 cp10 cp11 fp lp
  clear cr0 cr1 cr2 cr3 cr4 cr5 cr6 cr7 cr8 cr9 cr10 cr11 fr lr
  clear cq0 cq1 cq2 cq3 cq4 cq5 cq6 cq7 cq8 cq9 cq10 cq11 fq lq
  replace Bp := (Bp).next hb
  replace Br := (Br).next hb
  replace Bq := (Bq).next hb
  replace hB : Below w.heap.size w w6 := by repeat (first | exact hB | (refine Bl_set ?_ (by first | omega | (simp; omega)) _) | apply Bl_alloc | (refine Bl_trans ?_ hb))
  clear hb
  obtain ⟨cp0, cp1, cp2, cp3, cp4, cp5, cp6, cp7, cp8, cp9, cp10, cp11⟩ := cells12 Bp
  have fp := Bp.frozen; have lp := Bp.lt
  obtain ⟨cr0, cr1, cr2, cr3, cr4, cr5, cr6, cr7, cr8, cr9, cr10, cr11⟩ := cells12 Br
  have fr := Br.frozen; have lr := Br.lt
  obtain ⟨cq0, cq1, cq2, cq3, cq4, cq5, cq6, cq7, cq8, cq9, cq10, cq11⟩ := cells12 Bq
  have fq := Bq.frozen; have lq := Bq.lt
  go_wp2
  exact bodyPost_ret (v := tv R) (by simp [results, Try.results63, go_sem, cr0, cr1, cr2, cr3, cr4, cr5, cr6, cr7, cr8, cr9, cr10, cr11, lr]) rfl ⟨by rw [hs]; first | done | rfl, by repeat (first | (with_reducible exact hB) | (with_reducible refine Bl_set ?_ (by first | omega | (simp; done) | (simp; omega)) _) | with_reducible apply Bl_alloc)⟩
set_option maxRecDepth 100000 in
set_option maxHeartbeats 3200000 in
theorem refP_al_false_false (a b u v : Rng) (op : Int) (l : Bool) (k_Q : ∀ w : World, Calls Try.prog 71 #[pv2 a b] w fun e w' => e = .returned (.tuple #[pv2 u v, .bool true]) ∧ Below w.heap.size w w') (k_al : ∀ w : World, Calls Try.prog 72 #[pv2 u v] w fun e w' => e = .returned (.tuple #[uv u.lo, uv v.lo, .bool true]) ∧ Below w.heap.size w w') (k_H : ∀ w : World, Calls Try.prog 36 #[.int .i64 op, .bool l, uv u.lo, uv v.lo] w fun e w' => e = .returned (.bool false) ∧ Below w.heap.size w w') (hs : PlainBranch.refineP op l (a, b) false = ((u, v), true)) (w : World) : Calls Try.prog 63 #[.int .i64 op, .bool l, pv2 a b, .bool false] w fun e w' => e = .returned (tv (PlainBranch.refineP op l (a, b) false)) ∧ Below w.heap.size w w' := by
  go_enter Try.func63, Try.ntmps63
  go_wp2_with fail
  obtain ⟨gp, hgp⟩ : ∃ g, g = w.heap.size := ⟨_, rfl⟩
  obtain ⟨gr, hgr⟩ : ∃ g, g = w.heap.size + 1 := ⟨_, rfl⟩
  have Bp : Blk ((w.alloc (.cells #[uv a.b.v, uv a.b.m, uv a.lo, uv a.hi, sv a.sl, sv a.sh, uv b.b.v, uv b.b.m, uv b.lo, uv b.hi, sv b.sl, sv b.sh] 118)).alloc (.cells #[.int .u64 0, .int .u64 0, .int .u64 0, .int .u64 0, .int .i64 0, .int .i64 0, .int .u64 0, .int .u64 0, .int .u64 0, .int .u64 0, .int .i64 0, .int .i64 0] 118)) (w.heap.size) 118 #[uv a.b.v, uv a.b.m, uv a.lo, uv a.hi, sv a.sl, sv a.sh, uv b.b.v, uv b.b.m, uv b.lo, uv b.hi, sv b.sl, sv b.sh] := ((Blk.new w 118 #[uv a.b.v, uv a.b.m, uv a.lo, uv a.hi, sv a.sl, sv a.sh, uv b.b.v, uv b.b.m, uv b.lo, uv b.hi, sv b.sl, sv b.sh])).alloc _
  have Br : Blk ((w.alloc (.cells #[uv a.b.v, uv a.b.m, uv a.lo, uv a.hi, sv a.sl, sv a.sh, uv b.b.v, uv b.b.m, uv b.lo, uv b.hi, sv b.sl, sv b.sh] 118)).alloc (.cells #[.int .u64 0, .int .u64 0, .int .u64 0, .int .u64 0, .int .i64 0, .int .i64 0, .int .u64 0, .int .u64 0, .int .u64 0, .int .u64 0, .int .i64 0, .int .i64 0] 118)) (w.heap.size + 1) 118 #[.int .u64 0, .int .u64 0, .int .u64 0, .int .u64 0, .int .i64 0, .int .i64 0, .int .u64 0, .int .u64 0, .int .u64 0, .int .u64 0, .int .i64 0, .int .i64 0] := (by simpa using Blk.new (w.alloc (.cells #[uv a.b.v, uv a.b.m, uv a.lo, uv a.hi, sv a.sl, sv a.sh, uv b.b.v, uv b.b.m, uv b.lo, uv b.hi, sv b.sl, sv b.sh] 118)) 118 #[.int .u64 0, .int .u64 0, .int .u64 0, .int .u64 0, .int .i64 0, .int .i64 0, .int .u64 0, .int .u64 0, .int .u64 0, .int .u64 0, .int .i64 0, .int .i64 0] : Blk _ (w.heap.size + 1) 118 #[.int .u64 0, .int .u64 0, .int .u64 0, .int .u64 0, .int .i64 0, .int .i64 0, .int .u64 0, .int .u64 0, .int .u64 0, .int .u64 0, .int .i64 0, .int .i64 0])
  have hB : Below w.heap.size w ((w.alloc (.cells #[uv a.b.v, uv a.b.m, uv a.lo, uv a.hi, sv a.sl, sv a.sh, uv b.b.v, uv b.b.m, uv b.lo, uv b.hi, sv b.sl, sv b.sh] 118)).alloc (.cells #[.int .u64 0, .int .u64 0, .int .u64 0, .int .u64 0, .int .i64 0, .int .i64 0, .int .u64 0, .int .u64 0, .int .u64 0, .int .u64 0, .int .i64 0, .int .i64 0] 118)) := (Bl_alloc (Bl_alloc (Bl_refl w) _) _)
  clear hgp
  clear gp
  clear hgr
  clear gr
  generalize ((w.alloc (.cells #[uv a.b.v, uv a.b.m, uv a.lo, uv a.hi, sv a.sl, sv a.sh, uv b.b.v, uv b.b.m, uv b.lo, uv b.hi, sv b.sl, sv b.sh] 118)).alloc (.cells #[.int .u64 0, .int .u64 0, .int .u64 0, .int .u64 0, .int .i64 0, .int .i64 0, .int .u64 0, .int .u64 0, .int .u64 0, .int .u64 0, .int .i64 0, .int .i64 0] 118)) = w1 at *
  obtain ⟨cp0, cp1, cp2, cp3, cp4, cp5, cp6, cp7, cp8, cp9, cp10, cp11⟩ := cells12 Bp
  have fp := Bp.frozen; have lp := Bp.lt
  obtain ⟨cr0, cr1, cr2, cr3, cr4, cr5, cr6, cr7, cr8, cr9, cr10, cr11⟩ := cells12 Br
  have fr := Br.frozen; have lr := Br.lt
  go_wp2_with fail
  refine (k_Q _).mono ?_
  rintro e w2 ⟨rfl, hb⟩
  clear cp0 cp1 cp2 cp3 cp4 cp5 cp6 cp7 cp8 cp9 cp10 cp11 fp lp
  clear cr0 cr1 cr2 cr3 cr4 cr5 cr6 cr7 cr8 cr9 cr10 cr11 fr lr
  replace Bp := (Bp).next hb
  replace Br := (Br).next hb
  replace hB : Below w.heap.size w w2 := by repeat (first | exact hB | (refine Bl_set ?_ (by first | omega | (simp; omega)) _) | apply Bl_alloc | (refine Bl_trans ?_ hb))
  clear hb
  obtain ⟨cp0, cp1, cp2, cp3, cp4, cp5, cp6, cp7, cp8, cp9, cp10, cp11⟩ := cells12 Bp
  have fp := Bp.frozen; have lp := Bp.lt
  obtain ⟨cr0, cr1, cr2, cr3, cr4, cr5, cr6, cr7, cr8, cr9, cr10, cr11⟩ := cells12 Br
  have fr := Br.frozen; have lr := Br.lt
  go_upto_region 2 with fail
  clear cp0 cp1 cp2 cp3 cp4 cp5 cp6 cp7 cp8 cp9 cp10 cp11 fp lp
  clear cr0 cr1 cr2 cr3 cr4 cr5 cr6 cr7 cr8 cr9 cr10 cr11 fr lr
  have Bq := Blk.new w2 118 #[uv u.b.v, uv u.b.m, uv u.lo, uv u.hi, sv u.sl, sv u.sh, uv v.b.v, uv v.b.m, uv v.lo, uv v.hi, sv v.sl, sv v.sh]
  have hgq := hB.size
  have hnpq := Nat.ne_of_lt Bp.lt; have hltpq := Bp.lt
  have hnrq := Nat.ne_of_lt Br.lt; have hltrq := Br.lt
  replace Bp : Blk (w2.alloc (.cells #[uv u.b.v, uv u.b.m, uv u.lo, uv u.hi, sv u.sl, sv u.sh, uv v.b.v, uv v.b.m, uv v.lo, uv v.hi, sv v.sl, sv v.sh] 118)) (w.heap.size) 118 #[uv a.b.v, uv a.b.m, uv a.lo, uv a.hi, sv a.sl, sv a.sh, uv b.b.v, uv b.b.m, uv b.lo, uv b.hi, sv b.sl, sv b.sh] := Bp.alloc _
  replace Br : Blk (w2.alloc (.cells #[uv u.b.v, uv u.b.m, uv u.lo, uv u.hi, sv u.sl, sv u.sh, uv v.b.v, uv v.b.m, uv v.lo, uv v.hi, sv v.sl, sv v.sh] 118)) (w.heap.size + 1) 118 #[.int .u64 0, .int .u64 0, .int .u64 0, .int .u64 0, .int .i64 0, .int .i64 0, .int .u64 0, .int .u64 0, .int .u64 0, .int .u64 0, .int .i64 0, .int .i64 0] := Br.alloc _
  replace hB : Below w.heap.size w (w2.alloc (.cells #[uv u.b.v, uv u.b.m, uv u.lo, uv u.hi, sv u.sl, sv u.sh, uv v.b.v, uv v.b.m, uv v.lo, uv v.hi, sv v.sl, sv v.sh] 118)) := Bl_alloc hB _
  generalize (w2.alloc (.cells #[uv u.b.v, uv u.b.m, uv u.lo, uv u.hi, sv u.sl, sv u.sh, uv v.b.v, uv v.b.m, uv v.lo, uv v.hi, sv v.sl, sv v.sh] 118)) = w3 at *
  generalize w2.heap.size = gq at *
  obtain ⟨cp0, cp1, cp2, cp3, cp4, cp5, cp6, cp7, cp8, cp9, cp10, cp11⟩ := cells12 Bp
  have fp := Bp.frozen; have lp := Bp.lt
  obtain ⟨cr0, cr1, cr2, cr3, cr4, cr5, cr6, cr7, cr8, cr9, cr10, cr11⟩ := cells12 Br
  have fr := Br.frozen; have lr := Br.lt
  obtain ⟨cq0, cq1, cq2, cq3, cq4, cq5, cq6, cq7, cq8, cq9, cq10, cq11⟩ := cells12 Bq
  have fq := Bq.frozen; have lq := Bq.lt
  go_wp2_with fail
  refine (k_al _).mono ?_
  rintro e w4 ⟨rfl, hb⟩
  clear cp0 cp1 cp2 cp3 cp4 cp5 cp6 cp7 cp8 cp9 cp10 cp11 fp lp
  clear cr0 cr1 cr2 cr3 cr4 cr5 cr6 cr7 cr8 cr9 cr10 cr11 fr lr
  clear cq0 cq1 cq2 cq3 cq4 cq5 cq6 cq7 cq8 cq9 cq10 cq11 fq lq
  replace Bp := (Bp).next hb
  replace Br := (Br).next hb
  replace Bq := (Bq).next hb
  replace hB : Below w.heap.size w w4 := by repeat (first | exact hB | (refine Bl_set ?_ (by first | omega | (simp; omega)) _) | apply Bl_alloc | (refine Bl_trans ?_ hb))
  clear hb
  obtain ⟨cp0, cp1, cp2, cp3, cp4, cp5, cp6, cp7, cp8, cp9, cp10, cp11⟩ := cells12 Bp
  have fp := Bp.frozen; have lp := Bp.lt
  obtain ⟨cr0, cr1, cr2, cr3, cr4, cr5, cr6, cr7, cr8, cr9, cr10, cr11⟩ := cells12 Br
  have fr := Br.frozen; have lr := Br.lt
  obtain ⟨cq0, cq1, cq2, cq3, cq4, cq5, cq6, cq7, cq8, cq9, cq10, cq11⟩ := cells12 Bq
  have fq := Bq.frozen; have lq := Bq.lt
  go_wp2_with fail
  clear cp0 cp1 cp2 cp3 cp4 cp5 cp6 cp7 cp8 cp9 cp10 cp11; obtain ⟨cp0, cp1, cp2, cp3, cp4, cp5, cp6, cp7, cp8, cp9, cp10, cp11⟩ := lcells12 Bp
  clear cr0 cr1 cr2 cr3 cr4 cr5 cr6 cr7 cr8 cr9 cr10 cr11; obtain ⟨cr0, cr1, cr2, cr3, cr4, cr5, cr6, cr7, cr8, cr9, cr10, cr11⟩ := lcells12 Br
  clear cq0 cq1 cq2 cq3 cq4 cq5 cq6 cq7 cq8 cq9 cq10 cq11; obtain ⟨cq0, cq1, cq2, cq3, cq4, cq5, cq6, cq7, cq8, cq9, cq10, cq11⟩ := lcells12 Bq
  refine wp_region_mixL 8 (fun k => k == 6 || k == 7) (fun _ => #[]) (by kernel_rfl) (by kernel_rfl) (fun d _ _ _ _ h => by cases d <;> exact h) (no_alloc (by kernel_rfl)) ?_
  simp only [List.take_succ_cons, List.take_zero, List.drop_succ_cons, List.drop_zero]
  repeat (refine wpMixL_step (fun K hK => ?_); go_simp; first | (refine hK _ ?_; clear hK K) | (apply Exists.intro; refine ⟨fun g => ?_, hK _ ?_⟩; ((with_reducible refine Calls.mono (k_H g.w) ?_); exact fun _ _ h => h); clear hK K))
  refine wpMixL_nil ?_
  intro G w5 hgr hblk hdist
  have hb : Below w4.heap.size w4 w5 := hgr
  replace Bp := Bp.next hb
  replace Br := Br.next hb
  replace Bq := Bq.next hb
  clear cp0 cp1 cp2 cp3 cp4 cp5 cp6 cp7 cp8 cp9 cp10 cp11 fp lp
  clear cr0 cr1 cr2 cr3 cr4 cr5 cr6 cr7 cr8 cr9 cr10 cr11 fr lr
  clear cq0 cq1 cq2 cq3 cq4 cq5 cq6 cq7 cq8 cq9 cq10 cq11 fq lq
  replace hB : Below w.heap.size w w5 := Bl_trans hB hb
  simp only [putAll, isAlloc]
  clear hb hgr hblk hdist
  obtain ⟨cp0, cp1, cp2, cp3, cp4, cp5, cp6, cp7, cp8, cp9, cp10, cp11⟩ := cells12 Bp
  have fp := Bp.frozen; have lp := Bp.lt
  obtain ⟨cr0, cr1, cr2, cr3, cr4, cr5, cr6, cr7, cr8, cr9, cr10, cr11⟩ := cells12 Br
  have fr := Br.frozen; have lr := Br.lt
  obtain ⟨cq0, cq1, cq2, cq3, cq4, cq5, cq6, cq7, cq8, cq9, cq10, cq11⟩ := cells12 Bq
  have fq := Bq.frozen; have lq := Bq.lt
  go_wp2
  exact bodyPost_ret (v := .tuple #[pv2 u v, .bool true]) (by simp [results, Try.results63, go_sem, cr0, cr1, cr2, cr3, cr4, cr5, cr6, cr7, cr8, cr9, cr10, cr11, lr]) rfl ⟨by rw [hs]; first | done | rfl, by repeat (first | (with_reducible exact hB) | (with_reducible refine Bl_set ?_ (by first | omega | (simp; done) | (simp; omega)) _) | with_reducible apply Bl_alloc)⟩
set_option maxRecDepth 100000 in
set_option maxHeartbeats 3200000 in
theorem refP_al_false_true (a b u v : Rng) (op : Int) (l : Bool) (k_Q : ∀ w : World, Calls Try.prog 71 #[pv2 a b] w fun e w' => e = .returned (.tuple #[pv2 u v, .bool true]) ∧ Below w.heap.size w w') (k_al : ∀ w : World, Calls Try.prog 72 #[pv2 u v] w fun e w' => e = .returned (.tuple #[uv u.lo, uv v.lo, .bool true]) ∧ Below w.heap.size w w') (k_H : ∀ w : World, Calls Try.prog 36 #[.int .i64 op, .bool l, uv u.lo, uv v.lo] w fun e w' => e = .returned (.bool false) ∧ Below w.heap.size w w') (hs : PlainBranch.refineP op l (a, b) true = ((u, v), false)) (w : World) : Calls Try.prog 63 #[.int .i64 op, .bool l, pv2 a b, .bool true] w fun e w' => e = .returned (tv (PlainBranch.refineP op l (a, b) true)) ∧ Below w.heap.size w w' := by
  go_enter Try.func63, Try.ntmps63
  go_wp2_with fail
  obtain ⟨gp, hgp⟩ : ∃ g, g = w.heap.size := ⟨_, rfl⟩
  obtain ⟨gr, hgr⟩ : ∃ g, g = w.heap.size + 1 := ⟨_, rfl⟩
  have Bp : Blk ((w.alloc (.cells #[uv a.b.v, uv a.b.m, uv a.lo, uv a.hi, sv a.sl, sv a.sh, uv b.b.v, uv b.b.m, uv b.lo, uv b.hi, sv b.sl, sv b.sh] 118)).alloc (.cells #[.int .u64 0, .int .u64 0, .int .u64 0, .int .u64 0, .int .i64 0, .int .i64 0, .int .u64 0, .int .u64 0, .int .u64 0, .int .u64 0, .int .i64 0, .int .i64 0] 118)) (w.heap.size) 118 #[uv a.b.v, uv a.b.m, uv a.lo, uv a.hi, sv a.sl, sv a.sh, uv b.b.v, uv b.b.m, uv b.lo, uv b.hi, sv b.sl, sv b.sh] := ((Blk.new w 118 #[uv a.b.v, uv a.b.m, uv a.lo, uv a.hi, sv a.sl, sv a.sh, uv b.b.v, uv b.b.m, uv b.lo, uv b.hi, sv b.sl, sv b.sh])).alloc _
  have Br : Blk ((w.alloc (.cells #[uv a.b.v, uv a.b.m, uv a.lo, uv a.hi, sv a.sl, sv a.sh, uv b.b.v, uv b.b.m, uv b.lo, uv b.hi, sv b.sl, sv b.sh] 118)).alloc (.cells #[.int .u64 0, .int .u64 0, .int .u64 0, .int .u64 0, .int .i64 0, .int .i64 0, .int .u64 0, .int .u64 0, .int .u64 0, .int .u64 0, .int .i64 0, .int .i64 0] 118)) (w.heap.size + 1) 118 #[.int .u64 0, .int .u64 0, .int .u64 0, .int .u64 0, .int .i64 0, .int .i64 0, .int .u64 0, .int .u64 0, .int .u64 0, .int .u64 0, .int .i64 0, .int .i64 0] := (by simpa using Blk.new (w.alloc (.cells #[uv a.b.v, uv a.b.m, uv a.lo, uv a.hi, sv a.sl, sv a.sh, uv b.b.v, uv b.b.m, uv b.lo, uv b.hi, sv b.sl, sv b.sh] 118)) 118 #[.int .u64 0, .int .u64 0, .int .u64 0, .int .u64 0, .int .i64 0, .int .i64 0, .int .u64 0, .int .u64 0, .int .u64 0, .int .u64 0, .int .i64 0, .int .i64 0] : Blk _ (w.heap.size + 1) 118 #[.int .u64 0, .int .u64 0, .int .u64 0, .int .u64 0, .int .i64 0, .int .i64 0, .int .u64 0, .int .u64 0, .int .u64 0, .int .u64 0, .int .i64 0, .int .i64 0])
  have hB : Below w.heap.size w ((w.alloc (.cells #[uv a.b.v, uv a.b.m, uv a.lo, uv a.hi, sv a.sl, sv a.sh, uv b.b.v, uv b.b.m, uv b.lo, uv b.hi, sv b.sl, sv b.sh] 118)).alloc (.cells #[.int .u64 0, .int .u64 0, .int .u64 0, .int .u64 0, .int .i64 0, .int .i64 0, .int .u64 0, .int .u64 0, .int .u64 0, .int .u64 0, .int .i64 0, .int .i64 0] 118)) := (Bl_alloc (Bl_alloc (Bl_refl w) _) _)
  clear hgp
  clear gp
  clear hgr
  clear gr
  generalize ((w.alloc (.cells #[uv a.b.v, uv a.b.m, uv a.lo, uv a.hi, sv a.sl, sv a.sh, uv b.b.v, uv b.b.m, uv b.lo, uv b.hi, sv b.sl, sv b.sh] 118)).alloc (.cells #[.int .u64 0, .int .u64 0, .int .u64 0, .int .u64 0, .int .i64 0, .int .i64 0, .int .u64 0, .int .u64 0, .int .u64 0, .int .u64 0, .int .i64 0, .int .i64 0] 118)) = w1 at *
  obtain ⟨cp0, cp1, cp2, cp3, cp4, cp5, cp6, cp7, cp8, cp9, cp10, cp11⟩ := cells12 Bp
  have fp := Bp.frozen; have lp := Bp.lt
  obtain ⟨cr0, cr1, cr2, cr3, cr4, cr5, cr6, cr7, cr8, cr9, cr10, cr11⟩ := cells12 Br
  have fr := Br.frozen; have lr := Br.lt
  go_wp2_with fail
  refine (k_Q _).mono ?_
  rintro e w2 ⟨rfl, hb⟩
  clear cp0 cp1 cp2 cp3 cp4 cp5 cp6 cp7 cp8 cp9 cp10 cp11 fp lp
  clear cr0 cr1 cr2 cr3 cr4 cr5 cr6 cr7 cr8 cr9 cr10 cr11 fr lr
  replace Bp := (Bp).next hb
  replace Br := (Br).next hb
  replace hB : Below w.heap.size w w2 := by repeat (first | exact hB | (refine Bl_set ?_ (by first | omega | (simp; omega)) _) | apply Bl_alloc | (refine Bl_trans ?_ hb))
  clear hb
  obtain ⟨cp0, cp1, cp2, cp3, cp4, cp5, cp6, cp7, cp8, cp9, cp10, cp11⟩ := cells12 Bp
  have fp := Bp.frozen; have lp := Bp.lt
  obtain ⟨cr0, cr1, cr2, cr3, cr4, cr5, cr6, cr7, cr8, cr9, cr10, cr11⟩ := cells12 Br
  have fr := Br.frozen; have lr := Br.lt
  go_upto_region 2 with fail
  clear cp0 cp1 cp2 cp3 cp4 cp5 cp6 cp7 cp8 cp9 cp10 cp11 fp lp
  clear cr0 cr1 cr2 cr3 cr4 cr5 cr6 cr7 cr8 cr9 cr10 cr11 fr lr
  have Bq := Blk.new w2 118 #[uv u.b.v, uv u.b.m, uv u.lo, uv u.hi, sv u.sl, sv u.sh, uv v.b.v, uv v.b.m, uv v.lo, uv v.hi, sv v.sl, sv v.sh]
  have hgq := hB.size
  have hnpq := Nat.ne_of_lt Bp.lt; have hltpq := Bp.lt
  have hnrq := Nat.ne_of_lt Br.lt; have hltrq := Br.lt
  replace Bp : Blk (w2.alloc (.cells #[uv u.b.v, uv u.b.m, uv u.lo, uv u.hi, sv u.sl, sv u.sh, uv v.b.v, uv v.b.m, uv v.lo, uv v.hi, sv v.sl, sv v.sh] 118)) (w.heap.size) 118 #[uv a.b.v, uv a.b.m, uv a.lo, uv a.hi, sv a.sl, sv a.sh, uv b.b.v, uv b.b.m, uv b.lo, uv b.hi, sv b.sl, sv b.sh] := Bp.alloc _
  replace Br : Blk (w2.alloc (.cells #[uv u.b.v, uv u.b.m, uv u.lo, uv u.hi, sv u.sl, sv u.sh, uv v.b.v, uv v.b.m, uv v.lo, uv v.hi, sv v.sl, sv v.sh] 118)) (w.heap.size + 1) 118 #[.int .u64 0, .int .u64 0, .int .u64 0, .int .u64 0, .int .i64 0, .int .i64 0, .int .u64 0, .int .u64 0, .int .u64 0, .int .u64 0, .int .i64 0, .int .i64 0] := Br.alloc _
  replace hB : Below w.heap.size w (w2.alloc (.cells #[uv u.b.v, uv u.b.m, uv u.lo, uv u.hi, sv u.sl, sv u.sh, uv v.b.v, uv v.b.m, uv v.lo, uv v.hi, sv v.sl, sv v.sh] 118)) := Bl_alloc hB _
  generalize (w2.alloc (.cells #[uv u.b.v, uv u.b.m, uv u.lo, uv u.hi, sv u.sl, sv u.sh, uv v.b.v, uv v.b.m, uv v.lo, uv v.hi, sv v.sl, sv v.sh] 118)) = w3 at *
  generalize w2.heap.size = gq at *
  obtain ⟨cp0, cp1, cp2, cp3, cp4, cp5, cp6, cp7, cp8, cp9, cp10, cp11⟩ := cells12 Bp
  have fp := Bp.frozen; have lp := Bp.lt
  obtain ⟨cr0, cr1, cr2, cr3, cr4, cr5, cr6, cr7, cr8, cr9, cr10, cr11⟩ := cells12 Br
  have fr := Br.frozen; have lr := Br.lt
  obtain ⟨cq0, cq1, cq2, cq3, cq4, cq5, cq6, cq7, cq8, cq9, cq10, cq11⟩ := cells12 Bq
  have fq := Bq.frozen; have lq := Bq.lt
  go_wp2_with fail
  refine (k_al _).mono ?_
  rintro e w4 ⟨rfl, hb⟩
  clear cp0 cp1 cp2 cp3 cp4 cp5 cp6 cp7 cp8 cp9 cp10 cp11 fp lp
  clear cr0 cr1 cr2 cr3 cr4 cr5 cr6 cr7 cr8 cr9 cr10 cr11 fr lr
  clear cq0 cq1 cq2 cq3 cq4 cq5 cq6 cq7 cq8 cq9 cq10 cq11 fq lq
  replace Bp := (Bp).next hb
  replace Br := (Br).next hb
  replace Bq := (Bq).next hb
  replace hB : Below w.heap.size w w4 := by repeat (first | exact hB | (refine Bl_set ?_ (by first | omega | (simp; omega)) _) | apply Bl_alloc | (refine Bl_trans ?_ hb))
  clear hb
  obtain ⟨cp0, cp1, cp2, cp3, cp4, cp5, cp6, cp7, cp8, cp9, cp10, cp11⟩ := cells12 Bp
  have fp := Bp.frozen; have lp := Bp.lt
  obtain ⟨cr0, cr1, cr2, cr3, cr4, cr5, cr6, cr7, cr8, cr9, cr10, cr11⟩ := cells12 Br
  have fr := Br.frozen; have lr := Br.lt
  obtain ⟨cq0, cq1, cq2, cq3, cq4, cq5, cq6, cq7, cq8, cq9, cq10, cq11⟩ := cells12 Bq
  have fq := Bq.frozen; have lq := Bq.lt
  go_wp2_with fail
  clear cp0 cp1 cp2 cp3 cp4 cp5 cp6 cp7 cp8 cp9 cp10 cp11; obtain ⟨cp0, cp1, cp2, cp3, cp4, cp5, cp6, cp7, cp8, cp9, cp10, cp11⟩ := lcells12 Bp
  clear cr0 cr1 cr2 cr3 cr4 cr5 cr6 cr7 cr8 cr9 cr10 cr11; obtain ⟨cr0, cr1, cr2, cr3, cr4, cr5, cr6, cr7, cr8, cr9, cr10, cr11⟩ := lcells12 Br
  clear cq0 cq1 cq2 cq3 cq4 cq5 cq6 cq7 cq8 cq9 cq10 cq11; obtain ⟨cq0, cq1, cq2, cq3, cq4, cq5, cq6, cq7, cq8, cq9, cq10, cq11⟩ := lcells12 Bq
  refine wp_region_mixL 8 (fun k => k == 6 || k == 7) (fun _ => #[]) (by kernel_rfl) (by kernel_rfl) (fun d _ _ _ _ h => by cases d <;> exact h) (no_alloc (by kernel_rfl)) ?_
  simp only [List.take_succ_cons, List.take_zero, List.drop_succ_cons, List.drop_zero]
  repeat (refine wpMixL_step (fun K hK => ?_); go_simp; first | (refine hK _ ?_; clear hK K) | (apply Exists.intro; refine ⟨fun g => ?_, hK _ ?_⟩; ((with_reducible refine Calls.mono (k_H g.w) ?_); exact fun _ _ h => h); clear hK K))
  refine wpMixL_nil ?_
  intro G w5 hgr hblk hdist
  have hb : Below w4.heap.size w4 w5 := hgr
  replace Bp := Bp.next hb
  replace Br := Br.next hb
  replace Bq := Bq.next hb
  clear cp0 cp1 cp2 cp3 cp4 cp5 cp6 cp7 cp8 cp9 cp10 cp11 fp lp
  clear cr0 cr1 cr2 cr3 cr4 cr5 cr6 cr7 cr8 cr9 cr10 cr11 fr lr
  clear cq0 cq1 cq2 cq3 cq4 cq5 cq6 cq7 cq8 cq9 cq10 cq11 fq lq
  replace hB : Below w.heap.size w w5 := Bl_trans hB hb
  simp only [putAll, isAlloc]
  clear hb hgr hblk hdist
  obtain ⟨cp0, cp1, cp2, cp3, cp4, cp5, cp6, cp7, cp8, cp9, cp10, cp11⟩ := cells12 Bp
  have fp := Bp.frozen; have lp := Bp.lt
  obtain ⟨cr0, cr1, cr2, cr3, cr4, cr5, cr6, cr7, cr8, cr9, cr10, cr11⟩ := cells12 Br
  have fr := Br.frozen; have lr := Br.lt
  obtain ⟨cq0, cq1, cq2, cq3, cq4, cq5, cq6, cq7, cq8, cq9, cq10, cq11⟩ := cells12 Bq
  have fq := Bq.frozen; have lq := Bq.lt
  go_wp2
  exact bodyPost_ret (v := .tuple #[pv2 u v, .bool false]) (by simp [results, Try.results63, go_sem, cr0, cr1, cr2, cr3, cr4, cr5, cr6, cr7, cr8, cr9, cr10, cr11, lr]) rfl ⟨by rw [hs]; first | done | rfl, by repeat (first | (with_reducible exact hB) | (with_reducible refine Bl_set ?_ (by first | omega | (simp; done) | (simp; omega)) _) | with_reducible apply Bl_alloc)⟩
set_option maxRecDepth 100000 in
set_option maxHeartbeats 3200000 in
theorem refP_al_true_false (a b u v : Rng) (op : Int) (l : Bool) (k_Q : ∀ w : World, Calls Try.prog 71 #[pv2 a b] w fun e w' => e = .returned (.tuple #[pv2 u v, .bool true]) ∧ Below w.heap.size w w') (k_al : ∀ w : World, Calls Try.prog 72 #[pv2 u v] w fun e w' => e = .returned (.tuple #[uv u.lo, uv v.lo, .bool true]) ∧ Below w.heap.size w w') (k_H : ∀ w : World, Calls Try.prog 36 #[.int .i64 op, .bool l, uv u.lo, uv v.lo] w fun e w' => e = .returned (.bool true) ∧ Below w.heap.size w w') (hs : PlainBranch.refineP op l (a, b) false = ((u, v), false)) (w : World) : Calls Try.prog 63 #[.int .i64 op, .bool l, pv2 a b, .bool false] w fun e w' => e = .returned (tv (PlainBranch.refineP op l (a, b) false)) ∧ Below w.heap.size w w' := by
  go_enter Try.func63, Try.ntmps63
  go_wp2_with fail
  obtain ⟨gp, hgp⟩ : ∃ g, g = w.heap.size := ⟨_, rfl⟩
  obtain ⟨gr, hgr⟩ : ∃ g, g = w.heap.size + 1 := ⟨_, rfl⟩
  have Bp : Blk ((w.alloc (.cells #[uv a.b.v, uv a.b.m, uv a.lo, uv a.hi, sv a.sl, sv a.sh, uv b.b.v, uv b.b.m, uv b.lo, uv b.hi, sv b.sl, sv b.sh] 118)).alloc (.cells #[.int .u64 0, .int .u64 0, .int .u64 0, .int .u64 0, .int .i64 0, .int .i64 0, .int .u64 0, .int .u64 0, .int .u64 0, .int .u64 0, .int .i64 0, .int .i64 0] 118)) (w.heap.size) 118 #[uv a.b.v, uv a.b.m, uv a.lo, uv a.hi, sv a.sl, sv a.sh, uv b.b.v, uv b.b.m, uv b.lo, uv b.hi, sv b.sl, sv b.sh] := ((Blk.new w 118 #[uv a.b.v, uv a.b.m, uv a.lo, uv a.hi, sv a.sl, sv a.sh, uv b.b.v, uv b.b.m, uv b.lo, uv b.hi, sv b.sl, sv b.sh])).alloc _
  have Br : Blk ((w.alloc (.cells #[uv a.b.v, uv a.b.m, uv a.lo, uv a.hi, sv a.sl, sv a.sh, uv b.b.v, uv b.b.m, uv b.lo, uv b.hi, sv b.sl, sv b.sh] 118)).alloc (.cells #[.int .u64 0, .int .u64 0, .int .u64 0, .int .u64 0, .int .i64 0, .int .i64 0, .int .u64 0, .int .u64 0, .int .u64 0, .int .u64 0, .int .i64 0, .int .i64 0] 118)) (w.heap.size + 1) 118 #[.int .u64 0, .int .u64 0, .int .u64 0, .int .u64 0, .int .i64 0, .int .i64 0, .int .u64 0, .int .u64 0, .int .u64 0, .int .u64 0, .int .i64 0, .int .i64 0] := (by simpa using Blk.new (w.alloc (.cells #[uv a.b.v, uv a.b.m, uv a.lo, uv a.hi, sv a.sl, sv a.sh, uv b.b.v, uv b.b.m, uv b.lo, uv b.hi, sv b.sl, sv b.sh] 118)) 118 #[.int .u64 0, .int .u64 0, .int .u64 0, .int .u64 0, .int .i64 0, .int .i64 0, .int .u64 0, .int .u64 0, .int .u64 0, .int .u64 0, .int .i64 0, .int .i64 0] : Blk _ (w.heap.size + 1) 118 #[.int .u64 0, .int .u64 0, .int .u64 0, .int .u64 0, .int .i64 0, .int .i64 0, .int .u64 0, .int .u64 0, .int .u64 0, .int .u64 0, .int .i64 0, .int .i64 0])
  have hB : Below w.heap.size w ((w.alloc (.cells #[uv a.b.v, uv a.b.m, uv a.lo, uv a.hi, sv a.sl, sv a.sh, uv b.b.v, uv b.b.m, uv b.lo, uv b.hi, sv b.sl, sv b.sh] 118)).alloc (.cells #[.int .u64 0, .int .u64 0, .int .u64 0, .int .u64 0, .int .i64 0, .int .i64 0, .int .u64 0, .int .u64 0, .int .u64 0, .int .u64 0, .int .i64 0, .int .i64 0] 118)) := (Bl_alloc (Bl_alloc (Bl_refl w) _) _)
  clear hgp
  clear gp
  clear hgr
  clear gr
  generalize ((w.alloc (.cells #[uv a.b.v, uv a.b.m, uv a.lo, uv a.hi, sv a.sl, sv a.sh, uv b.b.v, uv b.b.m, uv b.lo, uv b.hi, sv b.sl, sv b.sh] 118)).alloc (.cells #[.int .u64 0, .int .u64 0, .int .u64 0, .int .u64 0, .int .i64 0, .int .i64 0, .int .u64 0, .int .u64 0, .int .u64 0, .int .u64 0, .int .i64 0, .int .i64 0] 118)) = w1 at *
  obtain ⟨cp0, cp1, cp2, cp3, cp4, cp5, cp6, cp7, cp8, cp9, cp10, cp11⟩ := cells12 Bp
  have fp := Bp.frozen; have lp := Bp.lt
  obtain ⟨cr0, cr1, cr2, cr3, cr4, cr5, cr6, cr7, cr8, cr9, cr10, cr11⟩ := cells12 Br
  have fr := Br.frozen; have lr := Br.lt
  go_wp2_with fail
  refine (k_Q _).mono ?_
  rintro e w2 ⟨rfl, hb⟩
  clear cp0 cp1 cp2 cp3 cp4 cp5 cp6 cp7 cp8 cp9 cp10 cp11 fp lp
  clear cr0 cr1 cr2 cr3 cr4 cr5 cr6 cr7 cr8 cr9 cr10 cr11 fr lr
  replace Bp := (Bp).next hb
  replace Br := (Br).next hb
  replace hB : Below w.heap.size w w2 := by repeat (first | exact hB | (refine Bl_set ?_ (by first | omega | (simp; omega)) _) | apply Bl_alloc | (refine Bl_trans ?_ hb))
  clear hb
  obtain ⟨cp0, cp1, cp2, cp3, cp4, cp5, cp6, cp7, cp8, cp9, cp10, cp11⟩ := cells12 Bp
  have fp := Bp.frozen; have lp := Bp.lt
  obtain ⟨cr0, cr1, cr2, cr3, cr4, cr5, cr6, cr7, cr8, cr9, cr10, cr11⟩ := cells12 Br
  have fr := Br.frozen; have lr := Br.lt
  go_upto_region 2 with fail
  clear cp0 cp1 cp2 cp3 cp4 cp5 cp6 cp7 cp8 cp9 cp10 cp11 fp lp
  clear cr0 cr1 cr2 cr3 cr4 cr5 cr6 cr7 cr8 cr9 cr10 cr11 fr lr
  have Bq := Blk.new w2 118 #[uv u.b.v, uv u.b.m, uv u.lo, uv u.hi, sv u.sl, sv u.sh, uv v.b.v, uv v.b.m, uv v.lo, uv v.hi, sv v.sl, sv v.sh]
  have hgq := hB.size
  have hnpq := Nat.ne_of_lt Bp.lt; have hltpq := Bp.lt
  have hnrq := Nat.ne_of_lt Br.lt; have hltrq := Br.lt
  replace Bp : Blk (w2.alloc (.cells #[uv u.b.v, uv u.b.m, uv u.lo, uv u.hi, sv u.sl, sv u.sh, uv v.b.v, uv v.b.m, uv v.lo, uv v.hi, sv v.sl, sv v.sh] 118)) (w.heap.size) 118 #[uv a.b.v, uv a.b.m, uv a.lo, uv a.hi, sv a.sl, sv a.sh, uv b.b.v, uv b.b.m, uv b.lo, uv b.hi, sv b.sl, sv b.sh] := Bp.alloc _
  replace Br : Blk (w2.alloc (.cells #[uv u.b.v, uv u.b.m, uv u.lo, uv u.hi, sv u.sl, sv u.sh, uv v.b.v, uv v.b.m, uv v.lo, uv v.hi, sv v.sl, sv v.sh] 118)) (w.heap.size + 1) 118 #[.int .u64 0, .int .u64 0, .int .u64 0, .int .u64 0, .int .i64 0, .int .i64 0, .int .u64 0, .int .u64 0, .int .u64 0, .int .u64 0, .int .i64 0, .int .i64 0] := Br.alloc _
  replace hB : Below w.heap.size w (w2.alloc (.cells #[uv u.b.v, uv u.b.m, uv u.lo, uv u.hi, sv u.sl, sv u.sh, uv v.b.v, uv v.b.m, uv v.lo, uv v.hi, sv v.sl, sv v.sh] 118)) := Bl_alloc hB _
  generalize (w2.alloc (.cells #[uv u.b.v, uv u.b.m, uv u.lo, uv u.hi, sv u.sl, sv u.sh, uv v.b.v, uv v.b.m, uv v.lo, uv v.hi, sv v.sl, sv v.sh] 118)) = w3 at *
  generalize w2.heap.size = gq at *
  obtain ⟨cp0, cp1, cp2, cp3, cp4, cp5, cp6, cp7, cp8, cp9, cp10, cp11⟩ := cells12 Bp
  have fp := Bp.frozen; have lp := Bp.lt
  obtain ⟨cr0, cr1, cr2, cr3, cr4, cr5, cr6, cr7, cr8, cr9, cr10, cr11⟩ := cells12 Br
  have fr := Br.frozen; have lr := Br.lt
  obtain ⟨cq0, cq1, cq2, cq3, cq4, cq5, cq6, cq7, cq8, cq9, cq10, cq11⟩ := cells12 Bq
  have fq := Bq.frozen; have lq := Bq.lt
  go_wp2_with fail
  refine (k_al _).mono ?_
  rintro e w4 ⟨rfl, hb⟩
  clear cp0 cp1 cp2 cp3 cp4 cp5 cp6 cp7 cp8 cp9 cp10 cp11 fp lp
  clear cr0 cr1 cr2 cr3 cr4 cr5 cr6 cr7 cr8 cr9 cr10 cr11 fr lr
  clear cq0 cq1 cq2 cq3 cq4 cq5 cq6 cq7 cq8 cq9 cq10 cq11 fq lq
  replace Bp := (Bp).next hb
  replace Br := (Br).next hb
  replace Bq := (Bq).next hb
  replace hB : Below w.heap.size w w4 := by repeat (first | exact hB | (refine Bl_set ?_ (by first | omega | (simp; omega)) _) | apply Bl_alloc | (refine Bl_trans ?_ hb))
  clear hb
  obtain ⟨cp0, cp1, cp2, cp3, cp4, cp5, cp6, cp7, cp8, cp9, cp10, cp11⟩ := cells12 Bp
  have fp := Bp.frozen; have lp := Bp.lt
  obtain ⟨cr0, cr1, cr2, cr3, cr4, cr5, cr6, cr7, cr8, cr9, cr10, cr11⟩ := cells12 Br
  have fr := Br.frozen; have lr := Br.lt
  obtain ⟨cq0, cq1, cq2, cq3, cq4, cq5, cq6, cq7, cq8, cq9, cq10, cq11⟩ := cells12 Bq
  have fq := Bq.frozen; have lq := Bq.lt
  go_wp2_with fail
  clear cp0 cp1 cp2 cp3 cp4 cp5 cp6 cp7 cp8 cp9 cp10 cp11; obtain ⟨cp0, cp1, cp2, cp3, cp4, cp5, cp6, cp7, cp8, cp9, cp10, cp11⟩ := lcells12 Bp
  clear cr0 cr1 cr2 cr3 cr4 cr5 cr6 cr7 cr8 cr9 cr10 cr11; obtain ⟨cr0, cr1, cr2, cr3, cr4, cr5, cr6, cr7, cr8, cr9, cr10, cr11⟩ := lcells12 Br
  clear cq0 cq1 cq2 cq3 cq4 cq5 cq6 cq7 cq8 cq9 cq10 cq11; obtain ⟨cq0, cq1, cq2, cq3, cq4, cq5, cq6, cq7, cq8, cq9, cq10, cq11⟩ := lcells12 Bq
  refine wp_region_mixL 8 (fun k => k == 6 || k == 7) (fun _ => #[]) (by kernel_rfl) (by kernel_rfl) (fun d _ _ _ _ h => by cases d <;> exact h) (no_alloc (by kernel_rfl)) ?_
  simp only [List.take_succ_cons, List.take_zero, List.drop_succ_cons, List.drop_zero]
  repeat (refine wpMixL_step (fun K hK => ?_); go_simp; first | (refine hK _ ?_; clear hK K) | (apply Exists.intro; refine ⟨fun g => ?_, hK _ ?_⟩; ((with_reducible refine Calls.mono (k_H g.w) ?_); exact fun _ _ h => h); clear hK K))
  refine wpMixL_nil ?_
  intro G w5 hgr hblk hdist
  have hb : Below w4.heap.size w4 w5 := hgr
  replace Bp := Bp.next hb
  replace Br := Br.next hb
  replace Bq := Bq.next hb
  clear cp0 cp1 cp2 cp3 cp4 cp5 cp6 cp7 cp8 cp9 cp10 cp11 fp lp
  clear cr0 cr1 cr2 cr3 cr4 cr5 cr6 cr7 cr8 cr9 cr10 cr11 fr lr
  clear cq0 cq1 cq2 cq3 cq4 cq5 cq6 cq7 cq8 cq9 cq10 cq11 fq lq
  replace hB : Below w.heap.size w w5 := Bl_trans hB hb
  simp only [putAll, isAlloc]
  clear hb hgr hblk hdist
  obtain ⟨cp0, cp1, cp2, cp3, cp4, cp5, cp6, cp7, cp8, cp9, cp10, cp11⟩ := cells12 Bp
  have fp := Bp.frozen; have lp := Bp.lt
  obtain ⟨cr0, cr1, cr2, cr3, cr4, cr5, cr6, cr7, cr8, cr9, cr10, cr11⟩ := cells12 Br
  have fr := Br.frozen; have lr := Br.lt
  obtain ⟨cq0, cq1, cq2, cq3, cq4, cq5, cq6, cq7, cq8, cq9, cq10, cq11⟩ := cells12 Bq
  have fq := Bq.frozen; have lq := Bq.lt
  go_wp2
  exact bodyPost_ret (v := .tuple #[pv2 u v, .bool false]) (by simp [results, Try.results63, go_sem, cr0, cr1, cr2, cr3, cr4, cr5, cr6, cr7, cr8, cr9, cr10, cr11, lr]) rfl ⟨by rw [hs]; first | done | rfl, by repeat (first | (with_reducible exact hB) | (with_reducible refine Bl_set ?_ (by first | omega | (simp; done) | (simp; omega)) _) | with_reducible apply Bl_alloc)⟩
set_option maxRecDepth 100000 in
set_option maxHeartbeats 3200000 in
theorem refP_al_true_true (a b u v : Rng) (op : Int) (l : Bool) (k_Q : ∀ w : World, Calls Try.prog 71 #[pv2 a b] w fun e w' => e = .returned (.tuple #[pv2 u v, .bool true]) ∧ Below w.heap.size w w') (k_al : ∀ w : World, Calls Try.prog 72 #[pv2 u v] w fun e w' => e = .returned (.tuple #[uv u.lo, uv v.lo, .bool true]) ∧ Below w.heap.size w w') (k_H : ∀ w : World, Calls Try.prog 36 #[.int .i64 op, .bool l, uv u.lo, uv v.lo] w fun e w' => e = .returned (.bool true) ∧ Below w.heap.size w w') (hs : PlainBranch.refineP op l (a, b) true = ((u, v), true)) (w : World) : Calls Try.prog 63 #[.int .i64 op, .bool l, pv2 a b, .bool true] w fun e w' => e = .returned (tv (PlainBranch.refineP op l (a, b) true)) ∧ Below w.heap.size w w' := by
  go_enter Try.func63, Try.ntmps63
  go_wp2_with fail
  obtain ⟨gp, hgp⟩ : ∃ g, g = w.heap.size := ⟨_, rfl⟩
  obtain ⟨gr, hgr⟩ : ∃ g, g = w.heap.size + 1 := ⟨_, rfl⟩
  have Bp : Blk ((w.alloc (.cells #[uv a.b.v, uv a.b.m, uv a.lo, uv a.hi, sv a.sl, sv a.sh, uv b.b.v, uv b.b.m, uv b.lo, uv b.hi, sv b.sl, sv b.sh] 118)).alloc (.cells #[.int .u64 0, .int .u64 0, .int .u64 0, .int .u64 0, .int .i64 0, .int .i64 0, .int .u64 0, .int .u64 0, .int .u64 0, .int .u64 0, .int .i64 0, .int .i64 0] 118)) (w.heap.size) 118 #[uv a.b.v, uv a.b.m, uv a.lo, uv a.hi, sv a.sl, sv a.sh, uv b.b.v, uv b.b.m, uv b.lo, uv b.hi, sv b.sl, sv b.sh] := ((Blk.new w 118 #[uv a.b.v, uv a.b.m, uv a.lo, uv a.hi, sv a.sl, sv a.sh, uv b.b.v, uv b.b.m, uv b.lo, uv b.hi, sv b.sl, sv b.sh])).alloc _
  have Br : Blk ((w.alloc (.cells #[uv a.b.v, uv a.b.m, uv a.lo, uv a.hi, sv a.sl, sv a.sh, uv b.b.v, uv b.b.m, uv b.lo, uv b.hi, sv b.sl, sv b.sh] 118)).alloc (.cells #[.int .u64 0, .int .u64 0, .int .u64 0, .int .u64 0, .int .i64 0, .int .i64 0, .int .u64 0, .int .u64 0, .int .u64 0, .int .u64 0, .int .i64 0, .int .i64 0] 118)) (w.heap.size + 1) 118 #[.int .u64 0, .int .u64 0, .int .u64 0, .int .u64 0, .int .i64 0, .int .i64 0, .int .u64 0, .int .u64 0, .int .u64 0, .int .u64 0, .int .i64 0, .int .i64 0] := (by simpa using Blk.new (w.alloc (.cells #[uv a.b.v, uv a.b.m, uv a.lo, uv a.hi, sv a.sl, sv a.sh, uv b.b.v, uv b.b.m, uv b.lo, uv b.hi, sv b.sl, sv b.sh] 118)) 118 #[.int .u64 0, .int .u64 0, .int .u64 0, .int .u64 0, .int .i64 0, .int .i64 0, .int .u64 0, .int .u64 0, .int .u64 0, .int .u64 0, .int .i64 0, .int .i64 0] : Blk _ (w.heap.size + 1) 118 #[.int .u64 0, .int .u64 0, .int .u64 0, .int .u64 0, .int .i64 0, .int .i64 0, .int .u64 0, .int .u64 0, .int .u64 0, .int .u64 0, .int .i64 0, .int .i64 0])
  have hB : Below w.heap.size w ((w.alloc (.cells #[uv a.b.v, uv a.b.m, uv a.lo, uv a.hi, sv a.sl, sv a.sh, uv b.b.v, uv b.b.m, uv b.lo, uv b.hi, sv b.sl, sv b.sh] 118)).alloc (.cells #[.int .u64 0, .int .u64 0, .int .u64 0, .int .u64 0, .int .i64 0, .int .i64 0, .int .u64 0, .int .u64 0, .int .u64 0, .int .u64 0, .int .i64 0, .int .i64 0] 118)) := (Bl_alloc (Bl_alloc (Bl_refl w) _) _)
  clear hgp
  clear gp
  clear hgr
  clear gr
  generalize ((w.alloc (.cells #[uv a.b.v, uv a.b.m, uv a.lo, uv a.hi, sv a.sl, sv a.sh, uv b.b.v, uv b.b.m, uv b.lo, uv b.hi, sv b.sl, sv b.sh] 118)).alloc (.cells #[.int .u64 0, .int .u64 0, .int .u64 0, .int .u64 0, .int .i64 0, .int .i64 0, .int .u64 0, .int .u64 0, .int .u64 0, .int .u64 0, .int .i64 0, .int .i64 0] 118)) = w1 at *
  obtain ⟨cp0, cp1, cp2, cp3, cp4, cp5, cp6, cp7, cp8, cp9, cp10, cp11⟩ := cells12 Bp
  have fp := Bp.frozen; have lp := Bp.lt
  obtain ⟨cr0, cr1, cr2, cr3, cr4, cr5, cr6, cr7, cr8, cr9, cr10, cr11⟩ := cells12 Br
  have fr := Br.frozen; have lr := Br.lt
  go_wp2_with fail
  refine (k_Q _).mono ?_
  rintro e w2 ⟨rfl, hb⟩
  clear cp0 cp1 cp2 cp3 cp4 cp5 cp6 cp7 cp8 cp9 cp10 cp11 fp lp
  clear cr0 cr1 cr2 cr3 cr4 cr5 cr6 cr7 cr8 cr9 cr10 cr11 fr lr
  replace Bp := (Bp).next hb
  replace Br := (Br).next hb
  replace hB : Below w.heap.size w w2 := by repeat (first | exact hB | (refine Bl_set ?_ (by first | omega | (simp; omega)) _) | apply Bl_alloc | (refine Bl_trans ?_ hb))
  clear hb
  obtain ⟨cp0, cp1, cp2, cp3, cp4, cp5, cp6, cp7, cp8, cp9, cp10, cp11⟩ := cells12 Bp
  have fp := Bp.frozen; have lp := Bp.lt
  obtain ⟨cr0, cr1, cr2, cr3, cr4, cr5, cr6, cr7, cr8, cr9, cr10, cr11⟩ := cells12 Br
  have fr := Br.frozen; have lr := Br.lt
  go_upto_region 2 with fail
  clear cp0 cp1 cp2 cp3 cp4 cp5 cp6 cp7 cp8 cp9 cp10 cp11 fp lp
  clear cr0 cr1 cr2 cr3 cr4 cr5 cr6 cr7 cr8 cr9 cr10 cr11 fr lr
  have Bq := Blk.new w2 118 #[uv u.b.v, uv u.b.m, uv u.lo, uv u.hi, sv u.sl, sv u.sh, uv v.b.v, uv v.b.m, uv v.lo, uv v.hi, sv v.sl, sv v.sh]
  have hgq := hB.size
  have hnpq := Nat.ne_of_lt Bp.lt; have hltpq := Bp.lt
  have hnrq := Nat.ne_of_lt Br.lt; have hltrq := Br.lt
  replace Bp : Blk (w2.alloc (.cells #[uv u.b.v, uv u.b.m, uv u.lo, uv u.hi, sv u.sl, sv u.sh, uv v.b.v, uv v.b.m, uv v.lo, uv v.hi, sv v.sl, sv v.sh] 118)) (w.heap.size) 118 #[uv a.b.v, uv a.b.m, uv a.lo, uv a.hi, sv a.sl, sv a.sh, uv b.b.v, uv b.b.m, uv b.lo, uv b.hi, sv b.sl, sv b.sh] := Bp.alloc _
  replace Br : Blk (w2.alloc (.cells #[uv u.b.v, uv u.b.m, uv u.lo, uv u.hi, sv u.sl, sv u.sh, uv v.b.v, uv v.b.m, uv v.lo, uv v.hi, sv v.sl, sv v.sh] 118)) (w.heap.size + 1) 118 #[.int .u64 0, .int .u64 0, .int .u64 0, .int .u64 0, .int .i64 0, .int .i64 0, .int .u64 0, .int .u64 0, .int .u64 0, .int .u64 0, .int .i64 0, .int .i64 0] := Br.alloc _
  replace hB : Below w.heap.size w (w2.alloc (.cells #[uv u.b.v, uv u.b.m, uv u.lo, uv u.hi, sv u.sl, sv u.sh, uv v.b.v, uv v.b.m, uv v.lo, uv v.hi, sv v.sl, sv v.sh] 118)) := Bl_alloc hB _
  generalize (w2.alloc (.cells #[uv u.b.v, uv u.b.m, uv u.lo, uv u.hi, sv u.sl, sv u.sh, uv v.b.v, uv v.b.m, uv v.lo, uv v.hi, sv v.sl, sv v.sh] 118)) = w3 at *
  generalize w2.heap.size = gq at *
  obtain ⟨cp0, cp1, cp2, cp3, cp4, cp5, cp6, cp7, cp8, cp9, cp10, cp11⟩ := cells12 Bp
  have fp := Bp.frozen; have lp := Bp.lt
  obtain ⟨cr0, cr1, cr2, cr3, cr4, cr5, cr6, cr7, cr8, cr9, cr10, cr11⟩ := cells12 Br
  have fr := Br.frozen; have lr := Br.lt
  obtain ⟨cq0, cq1, cq2, cq3, cq4, cq5, cq6, cq7, cq8, cq9, cq10, cq11⟩ := cells12 Bq
  have fq := Bq.frozen; have lq := Bq.lt
  go_wp2_with fail
  refine (k_al _).mono ?_
  rintro e w4 ⟨rfl, hb⟩
  clear cp0 cp1 cp2 cp3 cp4 cp5 cp6 cp7 cp8 cp9 cp10 cp11 fp lp
  clear cr0 cr1 cr2 cr3 cr4 cr5 cr6 cr7 cr8 cr9 cr10 cr11 fr lr
  clear cq0 cq1 cq2 cq3 cq4 cq5 cq6 cq7 cq8 cq9 cq10 cq11 fq lq
  replace Bp := (Bp).next hb
  replace Br := (Br).next hb
  replace Bq := (Bq).next hb
  replace hB : Below w.heap.size w w4 := by repeat (first | exact hB | (refine Bl_set ?_ (by first | omega | (simp; omega)) _) | apply Bl_alloc | (refine Bl_trans ?_ hb))
  clear hb
  obtain ⟨cp0, cp1, cp2, cp3, cp4, cp5, cp6, cp7, cp8, cp9, cp10, cp11⟩ := cells12 Bp
  have fp := Bp.frozen; have lp := Bp.lt
  obtain ⟨cr0, cr1, cr2, cr3, cr4, cr5, cr6, cr7, cr8, cr9, cr10, cr11⟩ := cells12 Br
  have fr := Br.frozen; have lr := Br.lt
  obtain ⟨cq0, cq1, cq2, cq3, cq4, cq5, cq6, cq7, cq8, cq9, cq10, cq11⟩ := cells12 Bq
  have fq := Bq.frozen; have lq := Bq.lt
  go_wp2_with fail
  clear cp0 cp1 cp2 cp3 cp4 cp5 cp6 cp7 cp8 cp9 cp10 cp11; obtain ⟨cp0, cp1, cp2, cp3, cp4, cp5, cp6, cp7, cp8, cp9, cp10, cp11⟩ := lcells12 Bp
  clear cr0 cr1 cr2 cr3 cr4 cr5 cr6 cr7 cr8 cr9 cr10 cr11; obtain ⟨cr0, cr1, cr2, cr3, cr4, cr5, cr6, cr7, cr8, cr9, cr10, cr11⟩ := lcells12 Br
  clear cq0 cq1 cq2 cq3 cq4 cq5 cq6 cq7 cq8 cq9 cq10 cq11; obtain ⟨cq0, cq1, cq2, cq3, cq4, cq5, cq6, cq7, cq8, cq9, cq10, cq11⟩ := lcells12 Bq
  refine wp_region_mixL 8 (fun k => k == 6 || k == 7) (fun _ => #[]) (by kernel_rfl) (by kernel_rfl) (fun d _ _ _ _ h => by cases d <;> exact h) (no_alloc (by kernel_rfl)) ?_
  simp only [List.take_succ_cons, List.take_zero, List.drop_succ_cons, List.drop_zero]
  repeat (refine wpMixL_step (fun K hK => ?_); go_simp; first | (refine hK _ ?_; clear hK K) | (apply Exists.intro; refine ⟨fun g => ?_, hK _ ?_⟩; ((with_reducible refine Calls.mono (k_H g.w) ?_); exact fun _ _ h => h); clear hK K))
  refine wpMixL_nil ?_
  intro G w5 hgr hblk hdist
  have hb : Below w4.heap.size w4 w5 := hgr
  replace Bp := Bp.next hb
  replace Br := Br.next hb
  replace Bq := Bq.next hb
  clear cp0 cp1 cp2 cp3 cp4 cp5 cp6 cp7 cp8 cp9 cp10 cp11 fp lp
  clear cr0 cr1 cr2 cr3 cr4 cr5 cr6 cr7 cr8 cr9 cr10 cr11 fr lr
  clear cq0 cq1 cq2 cq3 cq4 cq5 cq6 cq7 cq8 cq9 cq10 cq11 fq lq
  replace hB : Below w.heap.size w w5 := Bl_trans hB hb
  simp only [putAll, isAlloc]
  clear hb hgr hblk hdist
  obtain ⟨cp0, cp1, cp2, cp3, cp4, cp5, cp6, cp7, cp8, cp9, cp10, cp11⟩ := cells12 Bp
  have fp := Bp.frozen; have lp := Bp.lt
  obtain ⟨cr0, cr1, cr2, cr3, cr4, cr5, cr6, cr7, cr8, cr9, cr10, cr11⟩ := cells12 Br
  have fr := Br.frozen; have lr := Br.lt
  obtain ⟨cq0, cq1, cq2, cq3, cq4, cq5, cq6, cq7, cq8, cq9, cq10, cq11⟩ := cells12 Bq
  have fq := Bq.frozen; have lq := Bq.lt
  go_wp2
  exact bodyPost_ret (v := .tuple #[pv2 u v, .bool true]) (by simp [results, Try.results63, go_sem, cr0, cr1, cr2, cr3, cr4, cr5, cr6, cr7, cr8, cr9, cr10, cr11, lr]) rfl ⟨by rw [hs]; first | done | rfl, by repeat (first | (with_reducible exact hB) | (with_reducible refine Bl_set ?_ (by first | omega | (simp; done) | (simp; omega)) _) | with_reducible apply Bl_alloc)⟩
theorem refineP_c (op : Int) (l : Bool) (a b : Rng) (h : Bool) (w : World) : Calls Try.prog 63 #[.int .i64 op, .bool l, pv2 a b, .bool h] w fun e w' => e = .returned (tv (PlainBranch.refineP op l (a, b) h)) ∧ Below w.heap.size w w' := by
  have k_Q := psettle_c a b
  have hq : PlainBranch.refineP op l (a, b) h = if (PlainBranch.settleP (a, b)).2 = true then PlainBranch.refine2 op l (PlainBranch.settleP (a, b)).1 h else (PlainBranch.zero, false) := rfl
  generalize PlainBranch.settleP (a, b) = Q at k_Q hq
  obtain ⟨⟨u, v⟩, ok⟩ := Q
  cases ok
  · exact refP_no a b u v op l h k_Q (by rw [hq]; simp) w
  · replace hq : PlainBranch.refineP op l (a, b) h = PlainBranch.refine2 op l (u, v) h := by rw [hq]; simp
    unfold PlainBranch.refine2 at hq
    have k_al := aloneP_c u v
    cases al : PlainBranch.aloneP (u, v)
    · rw [al] at k_al hq
      rw [if_neg (by decide)] at hq
      cases l
      · have k_sh := short_c op u v
        cases q3 : PlainBranch.short op (u, v)
        · rw [q3] at k_sh
          exact refP_long a b u v op h k_Q k_al k_sh (by rw [hq]; simp [q3]) w
        · rw [q3] at k_sh
          replace hq := hq.trans (if_neg (fun h => by rw [q3] at h; exact absurd h.2 (by decide)))
          by_cases h4 : op = 4
          · subst h4
            cases h
            · exact refP_nob_false a b u v k_Q k_al k_sh _ (noBits_c u v) (by rw [hq]; simp) w
            · exact refP_com_false a b u v k_Q k_al k_sh (by rw [hq]; simp) w
          · have e4 : (op == 4) = false := by simpa using h4
            cases h
            · exact refP_whe_false_false a b u v op e4 k_Q k_al k_sh _ (opposite_c op) _ (where_c _ u v) (by rw [hq]; simp [h4]) w
            · exact refP_whe_false_true a b u v op e4 k_Q k_al k_sh _ (where_c op u v) (by rw [hq]; simp [h4]) w
      · replace hq := hq.trans (if_neg (fun h => absurd h.1 (by decide)))
        by_cases h4 : op = 4
        · subst h4
          cases h
          · exact refP_nob_true a b u v k_Q k_al _ (noBits_c u v) (by rw [hq]; simp) w
          · exact refP_com_true a b u v k_Q k_al (by rw [hq]; simp) w
        · have e4 : (op == 4) = false := by simpa using h4
          cases h
          · exact refP_whe_true_false a b u v op e4 k_Q k_al _ (opposite_c op) _ (where_c _ u v) (by rw [hq]; simp [h4]) w
          · exact refP_whe_true_true a b u v op e4 k_Q k_al _ (where_c op u v) (by rw [hq]; simp [h4]) w
    · rw [al] at k_al hq
      rw [if_pos rfl] at hq
      have k_H := holds_c op l u.lo v.lo
      cases H : PlainBranch.holds op l u.lo v.lo
      · have hH : PlainBranch.holds op l u.lo v.lo = false := H
        rw [H] at k_H
        cases h
        · exact refP_al_false_false a b u v op l k_Q k_al k_H (by rw [hq, hH]; rfl) w
        · exact refP_al_false_true a b u v op l k_Q k_al k_H (by rw [hq, hH]; rfl) w
      · have hH : PlainBranch.holds op l u.lo v.lo = true := H
        rw [H] at k_H
        cases h
        · exact refP_al_true_false a b u v op l k_Q k_al k_H (by rw [hq, hH]; rfl) w
        · exact refP_al_true_true a b u v op l k_Q k_al k_H (by rw [hq, hH]; rfl) w
end Go.Proofs.Ytmghpoagpiljhab
