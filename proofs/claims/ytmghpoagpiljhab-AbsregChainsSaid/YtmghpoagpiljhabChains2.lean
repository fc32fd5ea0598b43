/- AbsregChains' own walk: one of its ways. -/
import Derived.Test.YtmghpoagpiljhabChains
set_option linter.unusedSimpArgs false
set_option linter.unusedVariables false
namespace Go.Proofs.Ytmghpoagpiljhab
open Go.RowKit
open PlainTnum (N)
open PlainScalar (Rng)
open PlainAbs (Rg St zr zs upd Im pairS one)
set_option maxRecDepth 100000 in
set_option maxHeartbeats 8000000 in
theorem chains_2 (pv qv : Array Value) (hp : pv.size = 26) (hq : qv.size = 26) (RA RB RC RD : Rg) (S0 S1 T1 U1 S2 T2 U2 : St) (k_p : ∀ w : World, Calls Try.prog 30 #[.agg pv] w fun e w' => e = .returned (.tuple #[.agg #[.int .i64 RA.kind, uv RA.r.b.v, uv RA.r.b.m, uv RA.r.lo, uv RA.r.hi, sv RA.r.sl, sv RA.r.sh, .int .i64 RA.slot, .int .i64 RA.id, .int .i64 RA.low, .int .i64 RA.high], .agg #[.int .i64 RB.kind, uv RB.r.b.v, uv RB.r.b.m, uv RB.r.lo, uv RB.r.hi, sv RB.r.sl, sv RB.r.sh, .int .i64 RB.slot, .int .i64 RB.id, .int .i64 RB.low, .int .i64 RB.high]]) ∧ Below w.heap.size w w') (k_q : ∀ w : World, Calls Try.prog 30 #[.agg qv] w fun e w' => e = .returned (.tuple #[.agg #[.int .i64 RC.kind, uv RC.r.b.v, uv RC.r.b.m, uv RC.r.lo, uv RC.r.hi, sv RC.r.sl, sv RC.r.sh, .int .i64 RC.slot, .int .i64 RC.id, .int .i64 RC.low, .int .i64 RC.high], .agg #[.int .i64 RD.kind, uv RD.r.b.v, uv RD.r.b.m, uv RD.r.lo, uv RD.r.hi, sv RD.r.sl, sv RD.r.sh, .int .i64 RD.slot, .int .i64 RD.id, .int .i64 RD.low, .int .i64 RD.high]]) ∧ Below w.heap.size w w') (hst : ∀ w : World, Calls Try.prog 16 #[] w fun e w' => e = .returned (.agg (stv S0)) ∧ Below w.heap.size w w') (hS1 : stv S1 = setL (stv S0) 0 (gl RA)) (hT1 : stv T1 = setL (stv S0) 0 (gl RB)) (hU1 : stv U1 = setL (stv S0) 0 (gl RC)) (hS2 : stv S2 = setL (stv S1) 66 (gl RD)) (hT2 : stv T2 = setL (stv T1) 66 (gl RB)) (hU2 : stv U2 = setL (stv U1) 66 (gl RB)) (k_0 : ∀ w : World, Calls Try.prog 31 #[.agg (stv S2), .agg (stv T2)] w fun e w' => e = .returned (.bool true) ∧ Below w.heap.size w w') (k_1 : ∀ w : World, Calls Try.prog 31 #[.agg (stv T2), .agg (stv U2)] w fun e w' => e = .returned (.bool false) ∧ Below w.heap.size w w') (w : World) : Calls Try.prog 6 #[.agg pv, .agg qv] w fun e w' => e = .returned (.bool true) ∧ Below w.heap.size w w' := by
  have HS1 := Lib.hid hS1; clear hS1
  have HT1 := Lib.hid hT1; clear hT1
  have HU1 := Lib.hid hU1; clear hU1
  have HS2 := Lib.hid hS2; clear hS2
  have HT2 := Lib.hid hT2; clear hT2
  have HU2 := Lib.hid hU2; clear hU2
  have K0 := Lib.hid k_0; clear k_0
  have K1 := Lib.hid k_1; clear k_1
  have KQ := Lib.hid k_q; have KS := Lib.hid hst; clear k_q hst
  have Zp := Lib.hid hp; have Zq := Lib.hid hq; clear hp hq
  go_enter Try.func6, Try.ntmps6
  go_upto_region 1 with fail
  obtain ⟨gp, hgp⟩ : ∃ g, g = w.heap.size := ⟨_, rfl⟩
  obtain ⟨gq, hgq⟩ : ∃ g, g = w.heap.size + 1 := ⟨_, rfl⟩
  have Bp : Blk ((w.alloc (.cells (pv) 66)).alloc (.cells (qv) 66)) (w.heap.size) 66 (pv) := ((Blk.new w 66 (pv))).alloc _
  have Bq : Blk ((w.alloc (.cells (pv) 66)).alloc (.cells (qv) 66)) (w.heap.size + 1) 66 (qv) := (by simpa using Blk.new (w.alloc (.cells (pv) 66)) 66 (qv) : Blk _ (w.heap.size + 1) 66 (qv))
  have hB : Below w.heap.size w ((w.alloc (.cells (pv) 66)).alloc (.cells (qv) 66)) := (Bl_alloc (Bl_alloc (Bl_refl w) _) _)
  clear hgp
  clear gp
  clear hgq
  clear gq
  generalize ((w.alloc (.cells (pv) 66)).alloc (.cells (qv) 66)) = w1 at *
  have fp := Bp.frozen; have lp := Bp.lt
  have fq := Bq.frozen; have lq := Bq.lt
  go_wp2_with (refine wpList_load_whole rfl 66 (.tmp 2) rfl (w.heap.size) rfl 66 pv _ Bp Try.underlying66 rfl (size_pr Zp.out) ?_)
  refine (k_p _).mono ?_
  rintro e w2 ⟨rfl, hb⟩
  clear  fp lp
  clear  fq lq
  replace Bp := (Bp).next hb
  replace Bq := (Bq).next hb
  replace hB : Below w.heap.size w w2 := by repeat (first | exact hB | (refine Bl_set ?_ (by first | omega | (simp; omega)) _) | apply Bl_alloc | (refine Bl_trans ?_ hb))
  clear hb
  have fp := Bp.frozen; have lp := Bp.lt
  have fq := Bq.frozen; have lq := Bq.lt
  clear k_p
  have hga := hB.size
  have hnpa : w.heap.size ≠ w2.heap.size := by have := Bp.lt; omega
  have hnqa : w.heap.size + 1 ≠ w2.heap.size := by have := Bq.lt; omega
  have hgb : w.heap.size ≤ w2.heap.size + 1 := by have := hB.size; omega
  have hnpb : w.heap.size ≠ w2.heap.size + 1 := by have := Bp.lt; omega
  have hnqb : w.heap.size + 1 ≠ w2.heap.size + 1 := by have := Bq.lt; omega
  have hdab : w2.heap.size ≠ w2.heap.size + 1 := by omega
  go_wp2_with (refine wpList_store_whole rfl 29 (.tmp 5) (.tmp 15) rfl (w2.heap.size) (#[.int .i64 RA.kind, uv RA.r.b.v, uv RA.r.b.m, uv RA.r.lo, uv RA.r.hi, sv RA.r.sl, sv RA.r.sh, .int .i64 RA.slot, .int .i64 RA.id, .int .i64 RA.low, .int .i64 RA.high]) rfl rfl 29 (#[.int .i64 0, .int .u64 0, .int .u64 0, .int .u64 0, .int .u64 0, .int .i64 0, .int .i64 0, .int .i64 0, .int .i64 0, .int .i64 0, .int .i64 0]) ((Blk.new w2 29 (#[.int .i64 0, .int .u64 0, .int .u64 0, .int .u64 0, .int .u64 0, .int .i64 0, .int .i64 0, .int .i64 0, .int .i64 0, .int .i64 0, .int .i64 0])).alloc _) (size_re _ _ _ _ _ _ _ _ _ _ _) rfl (by simp [Value.oneCell']) ?_)
  clear  fp lp
  clear  fq lq
  intro w3 hS
  replace Bp := hS.far hnpa ((Bp.alloc _).alloc _)
  replace Bq := hS.far hnqa ((Bq.alloc _).alloc _)
  have Bb : Blk w3 (w2.heap.size + 1) 29 (#[.int .i64 0, .int .u64 0, .int .u64 0, .int .u64 0, .int .u64 0, .int .i64 0, .int .i64 0, .int .i64 0, .int .i64 0, .int .i64 0, .int .i64 0]) := hS.far hdab.symm (by simpa using Blk.new (w2.alloc (.cells (#[.int .i64 0, .int .u64 0, .int .u64 0, .int .u64 0, .int .u64 0, .int .i64 0, .int .i64 0, .int .i64 0, .int .i64 0, .int .i64 0, .int .i64 0]) 29)) 29 (#[.int .i64 0, .int .u64 0, .int .u64 0, .int .u64 0, .int .u64 0, .int .i64 0, .int .i64 0, .int .i64 0, .int .i64 0, .int .i64 0, .int .i64 0]) : Blk _ (w2.heap.size + 1) 29 (#[.int .i64 0, .int .u64 0, .int .u64 0, .int .u64 0, .int .u64 0, .int .i64 0, .int .i64 0, .int .i64 0, .int .i64 0, .int .i64 0, .int .i64 0]))
  have Ba : Blk w3 (w2.heap.size) 29 (#[.int .i64 RA.kind, uv RA.r.b.v, uv RA.r.b.m, uv RA.r.lo, uv RA.r.hi, sv RA.r.sl, sv RA.r.sh, .int .i64 RA.slot, .int .i64 RA.id, .int .i64 RA.low, .int .i64 RA.high]) := hS.blk
  replace hB := hS.bel (Bl_alloc (Bl_alloc hB _) _) hga
  clear hS
  generalize w2.heap.size + 1 = gb at *
  generalize w2.heap.size = ga at *
  have fp := Bp.frozen; have lp := Bp.lt
  have fq := Bq.frozen; have lq := Bq.lt
  have fa := Ba.frozen; have la := Ba.lt
  have fb := Bb.frozen; have lb := Bb.lt
  go_wp2_with (refine wpList_store_whole rfl 29 (.tmp 6) (.tmp 16) rfl (gb) (#[.int .i64 RB.kind, uv RB.r.b.v, uv RB.r.b.m, uv RB.r.lo, uv RB.r.hi, sv RB.r.sl, sv RB.r.sh, .int .i64 RB.slot, .int .i64 RB.id, .int .i64 RB.low, .int .i64 RB.high]) rfl rfl 29 (#[.int .i64 0, .int .u64 0, .int .u64 0, .int .u64 0, .int .u64 0, .int .i64 0, .int .i64 0, .int .i64 0, .int .i64 0, .int .i64 0, .int .i64 0]) Bb (size_re _ _ _ _ _ _ _ _ _ _ _) rfl (by simp [Value.oneCell']) ?_)
  intro w4 hS
  clear  fp lp
  clear  fq lq
  clear  fa la
  clear  fb lb
  replace Bp := hS.far (by first | (simp; done) | (simp; omega) | (simp [*]; done) | (simp only [ne_eq]; constructor <;> omega)) Bp
  replace Bq := hS.far (by first | (simp; done) | (simp; omega) | (simp [*]; done) | (simp only [ne_eq]; constructor <;> omega)) Bq
  replace Ba := hS.far (by first | (simp; done) | (simp; omega) | (simp [*]; done) | (simp only [ne_eq]; constructor <;> omega)) Ba
  replace Bb : Blk w4 (gb) 29 (#[.int .i64 RB.kind, uv RB.r.b.v, uv RB.r.b.m, uv RB.r.lo, uv RB.r.hi, sv RB.r.sl, sv RB.r.sh, .int .i64 RB.slot, .int .i64 RB.id, .int .i64 RB.low, .int .i64 RB.high]) := hS.blk
  replace hB := hS.bel hB (by first | omega | (simp; omega))
  clear hS
  have fp := Bp.frozen; have lp := Bp.lt
  have fq := Bq.frozen; have lq := Bq.lt
  have fa := Ba.frozen; have la := Ba.lt
  have fb := Bb.frozen; have lb := Bb.lt
  go_wp2_with (refine wpList_load_whole rfl 66 (.tmp 3) rfl (w.heap.size + 1) rfl 66 qv _ Bq Try.underlying66 rfl (size_pr Zq.out) ?_)
  have k_q := KQ.out; clear KQ
  refine (k_q _).mono ?_
  rintro e w5 ⟨rfl, hb⟩
  clear  fp lp
  clear  fq lq
  clear  fa la
  clear  fb lb
  replace Bp := (Bp).next hb
  replace Bq := (Bq).next hb
  replace Ba := (Ba).next hb
  replace Bb := (Bb).next hb
  replace hB : Below w.heap.size w w5 := by repeat (first | exact hB | (refine Bl_set ?_ (by first | omega | (simp; omega)) _) | apply Bl_alloc | (refine Bl_trans ?_ hb))
  clear hb
  have fp := Bp.frozen; have lp := Bp.lt
  have fq := Bq.frozen; have lq := Bq.lt
  have fa := Ba.frozen; have la := Ba.lt
  have fb := Bb.frozen; have lb := Bb.lt
  clear k_q
  have hgc := hB.size
  have hnpc : w.heap.size ≠ w5.heap.size := by have := Bp.lt; omega
  have hnqc : w.heap.size + 1 ≠ w5.heap.size := by have := Bq.lt; omega
  have hnac : ga ≠ w5.heap.size := by have := Ba.lt; omega
  have hnbc : gb ≠ w5.heap.size := by have := Bb.lt; omega
  have hgd : w.heap.size ≤ w5.heap.size + 1 := by have := hB.size; omega
  have hnpd : w.heap.size ≠ w5.heap.size + 1 := by have := Bp.lt; omega
  have hnqd : w.heap.size + 1 ≠ w5.heap.size + 1 := by have := Bq.lt; omega
  have hnad : ga ≠ w5.heap.size + 1 := by have := Ba.lt; omega
  have hnbd : gb ≠ w5.heap.size + 1 := by have := Bb.lt; omega
  have hdcd : w5.heap.size ≠ w5.heap.size + 1 := by omega
  go_wp2_with (refine wpList_store_whole rfl 29 (.tmp 7) (.tmp 20) rfl (w5.heap.size) (#[.int .i64 RC.kind, uv RC.r.b.v, uv RC.r.b.m, uv RC.r.lo, uv RC.r.hi, sv RC.r.sl, sv RC.r.sh, .int .i64 RC.slot, .int .i64 RC.id, .int .i64 RC.low, .int .i64 RC.high]) rfl rfl 29 (#[.int .i64 0, .int .u64 0, .int .u64 0, .int .u64 0, .int .u64 0, .int .i64 0, .int .i64 0, .int .i64 0, .int .i64 0, .int .i64 0, .int .i64 0]) ((Blk.new w5 29 (#[.int .i64 0, .int .u64 0, .int .u64 0, .int .u64 0, .int .u64 0, .int .i64 0, .int .i64 0, .int .i64 0, .int .i64 0, .int .i64 0, .int .i64 0])).alloc _) (size_re _ _ _ _ _ _ _ _ _ _ _) rfl (by simp [Value.oneCell']) ?_)
  clear  fp lp
  clear  fq lq
  clear  fa la
  clear  fb lb
  intro w6 hS
  replace Bp := hS.far hnpc ((Bp.alloc _).alloc _)
  replace Bq := hS.far hnqc ((Bq.alloc _).alloc _)
  replace Ba := hS.far hnac ((Ba.alloc _).alloc _)
  replace Bb := hS.far hnbc ((Bb.alloc _).alloc _)
  have Bd : Blk w6 (w5.heap.size + 1) 29 (#[.int .i64 0, .int .u64 0, .int .u64 0, .int .u64 0, .int .u64 0, .int .i64 0, .int .i64 0, .int .i64 0, .int .i64 0, .int .i64 0, .int .i64 0]) := hS.far hdcd.symm (by simpa using Blk.new (w5.alloc (.cells (#[.int .i64 0, .int .u64 0, .int .u64 0, .int .u64 0, .int .u64 0, .int .i64 0, .int .i64 0, .int .i64 0, .int .i64 0, .int .i64 0, .int .i64 0]) 29)) 29 (#[.int .i64 0, .int .u64 0, .int .u64 0, .int .u64 0, .int .u64 0, .int .i64 0, .int .i64 0, .int .i64 0, .int .i64 0, .int .i64 0, .int .i64 0]) : Blk _ (w5.heap.size + 1) 29 (#[.int .i64 0, .int .u64 0, .int .u64 0, .int .u64 0, .int .u64 0, .int .i64 0, .int .i64 0, .int .i64 0, .int .i64 0, .int .i64 0, .int .i64 0]))
  have Bc : Blk w6 (w5.heap.size) 29 (#[.int .i64 RC.kind, uv RC.r.b.v, uv RC.r.b.m, uv RC.r.lo, uv RC.r.hi, sv RC.r.sl, sv RC.r.sh, .int .i64 RC.slot, .int .i64 RC.id, .int .i64 RC.low, .int .i64 RC.high]) := hS.blk
  replace hB := hS.bel (Bl_alloc (Bl_alloc hB _) _) hgc
  clear hS
  generalize w5.heap.size + 1 = gd at *
  generalize w5.heap.size = gc at *
  have fp := Bp.frozen; have lp := Bp.lt
  have fq := Bq.frozen; have lq := Bq.lt
  have fa := Ba.frozen; have la := Ba.lt
  have fb := Bb.frozen; have lb := Bb.lt
  have fc := Bc.frozen; have lc := Bc.lt
  have fd := Bd.frozen; have ld := Bd.lt
  go_wp2_with (refine wpList_store_whole rfl 29 (.tmp 8) (.tmp 21) rfl (gd) (#[.int .i64 RD.kind, uv RD.r.b.v, uv RD.r.b.m, uv RD.r.lo, uv RD.r.hi, sv RD.r.sl, sv RD.r.sh, .int .i64 RD.slot, .int .i64 RD.id, .int .i64 RD.low, .int .i64 RD.high]) rfl rfl 29 (#[.int .i64 0, .int .u64 0, .int .u64 0, .int .u64 0, .int .u64 0, .int .i64 0, .int .i64 0, .int .i64 0, .int .i64 0, .int .i64 0, .int .i64 0]) Bd (size_re _ _ _ _ _ _ _ _ _ _ _) rfl (by simp [Value.oneCell']) ?_)
  intro w7 hS
  clear  fp lp
  clear  fq lq
  clear  fa la
  clear  fb lb
  clear  fc lc
  clear  fd ld
  replace Bp := hS.far (by first | (simp; done) | (simp; omega) | (simp [*]; done) | (simp only [ne_eq]; constructor <;> omega)) Bp
  replace Bq := hS.far (by first | (simp; done) | (simp; omega) | (simp [*]; done) | (simp only [ne_eq]; constructor <;> omega)) Bq
  replace Ba := hS.far (by first | (simp; done) | (simp; omega) | (simp [*]; done) | (simp only [ne_eq]; constructor <;> omega)) Ba
  replace Bb := hS.far (by first | (simp; done) | (simp; omega) | (simp [*]; done) | (simp only [ne_eq]; constructor <;> omega)) Bb
  replace Bc := hS.far (by first | (simp; done) | (simp; omega) | (simp [*]; done) | (simp only [ne_eq]; constructor <;> omega)) Bc
  replace Bd : Blk w7 (gd) 29 (#[.int .i64 RD.kind, uv RD.r.b.v, uv RD.r.b.m, uv RD.r.lo, uv RD.r.hi, sv RD.r.sl, sv RD.r.sh, .int .i64 RD.slot, .int .i64 RD.id, .int .i64 RD.low, .int .i64 RD.high]) := hS.blk
  replace hB := hS.bel hB (by first | omega | (simp; omega))
  clear hS
  have fp := Bp.frozen; have lp := Bp.lt
  have fq := Bq.frozen; have lq := Bq.lt
  have fa := Ba.frozen; have la := Ba.lt
  have fb := Bb.frozen; have lb := Bb.lt
  have fc := Bc.frozen; have lc := Bc.lt
  have fd := Bd.frozen; have ld := Bd.lt
  have hst := KS.out; clear KS
  go_wp2_with fail
  refine (hst _).mono ?_
  rintro e w8 ⟨rfl, hb⟩
  clear  fp lp
  clear  fq lq
  clear  fa la
  clear  fb lb
  clear  fc lc
  clear  fd ld
  replace Bp := (Bp).next hb
  replace Bq := (Bq).next hb
  replace Ba := (Ba).next hb
  replace Bb := (Bb).next hb
  replace Bc := (Bc).next hb
  replace Bd := (Bd).next hb
  replace hB : Below w.heap.size w w8 := by repeat (first | exact hB | (refine Bl_set ?_ (by first | omega | (simp; omega)) _) | apply Bl_alloc | (refine Bl_trans ?_ hb))
  clear hb
  have fp := Bp.frozen; have lp := Bp.lt
  have fq := Bq.frozen; have lq := Bq.lt
  have fa := Ba.frozen; have la := Ba.lt
  have fb := Bb.frozen; have lb := Bb.lt
  have fc := Bc.frozen; have lc := Bc.lt
  have fd := Bd.frozen; have ld := Bd.lt
  go_wp2_with fail
  refine (hst _).mono ?_
  rintro e w9 ⟨rfl, hb⟩
  clear  fp lp
  clear  fq lq
  clear  fa la
  clear  fb lb
  clear  fc lc
  clear  fd ld
  replace Bp := (Bp).next hb
  replace Bq := (Bq).next hb
  replace Ba := (Ba).next hb
  replace Bb := (Bb).next hb
  replace Bc := (Bc).next hb
  replace Bd := (Bd).next hb
  replace hB : Below w.heap.size w w9 := by repeat (first | exact hB | (refine Bl_set ?_ (by first | omega | (simp; omega)) _) | apply Bl_alloc | (refine Bl_trans ?_ hb))
  clear hb
  have fp := Bp.frozen; have lp := Bp.lt
  have fq := Bq.frozen; have lq := Bq.lt
  have fa := Ba.frozen; have la := Ba.lt
  have fb := Bb.frozen; have lb := Bb.lt
  have fc := Bc.frozen; have lc := Bc.lt
  have fd := Bd.frozen; have ld := Bd.lt
  go_wp2_with fail
  refine (hst _).mono ?_
  rintro e w10 ⟨rfl, hb⟩
  clear  fp lp
  clear  fq lq
  clear  fa la
  clear  fb lb
  clear  fc lc
  clear  fd ld
  replace Bp := (Bp).next hb
  replace Bq := (Bq).next hb
  replace Ba := (Ba).next hb
  replace Bb := (Bb).next hb
  replace Bc := (Bc).next hb
  replace Bd := (Bd).next hb
  replace hB : Below w.heap.size w w10 := by repeat (first | exact hB | (refine Bl_set ?_ (by first | omega | (simp; omega)) _) | apply Bl_alloc | (refine Bl_trans ?_ hb))
  clear hb
  have fp := Bp.frozen; have lp := Bp.lt
  have fq := Bq.frozen; have lq := Bq.lt
  have fa := Ba.frozen; have la := Ba.lt
  have fb := Bb.frozen; have lb := Bb.lt
  have fc := Bc.frozen; have lc := Bc.lt
  have fd := Bd.frozen; have ld := Bd.lt
  clear hst; have hz := zero_st
  have hgs := hB.size
  have hnps : w.heap.size ≠ w10.heap.size := by have := Bp.lt; omega
  have hnqs : w.heap.size + 1 ≠ w10.heap.size := by have := Bq.lt; omega
  have hnas : ga ≠ w10.heap.size := by have := Ba.lt; omega
  have hnbs : gb ≠ w10.heap.size := by have := Bb.lt; omega
  have hncs : gc ≠ w10.heap.size := by have := Bc.lt; omega
  have hnds : gd ≠ w10.heap.size := by have := Bd.lt; omega
  have hgt : w.heap.size ≤ w10.heap.size + 1 := by have := hB.size; omega
  have hnpt : w.heap.size ≠ w10.heap.size + 1 := by have := Bp.lt; omega
  have hnqt : w.heap.size + 1 ≠ w10.heap.size + 1 := by have := Bq.lt; omega
  have hnat : ga ≠ w10.heap.size + 1 := by have := Ba.lt; omega
  have hnbt : gb ≠ w10.heap.size + 1 := by have := Bb.lt; omega
  have hnct : gc ≠ w10.heap.size + 1 := by have := Bc.lt; omega
  have hndt : gd ≠ w10.heap.size + 1 := by have := Bd.lt; omega
  have hdst : w10.heap.size ≠ w10.heap.size + 1 := by omega
  have hgu : w.heap.size ≤ w10.heap.size + 1 + 1 := by have := hB.size; omega
  have hnpu : w.heap.size ≠ w10.heap.size + 1 + 1 := by have := Bp.lt; omega
  have hnqu : w.heap.size + 1 ≠ w10.heap.size + 1 + 1 := by have := Bq.lt; omega
  have hnau : ga ≠ w10.heap.size + 1 + 1 := by have := Ba.lt; omega
  have hnbu : gb ≠ w10.heap.size + 1 + 1 := by have := Bb.lt; omega
  have hncu : gc ≠ w10.heap.size + 1 + 1 := by have := Bc.lt; omega
  have hndu : gd ≠ w10.heap.size + 1 + 1 := by have := Bd.lt; omega
  have hdsu : w10.heap.size ≠ w10.heap.size + 1 + 1 := by omega
  have hdtu : w10.heap.size + 1 ≠ w10.heap.size + 1 + 1 := by omega
  go_wp2_with (refine wpList_store_whole rfl 34 (.tmp 9) (.tmp 22) rfl (w10.heap.size) (stv S0) rfl rfl 34 (stv zs) (((Blk.new w10 34 (stv zs)).alloc _).alloc _) (size_st S0) (by rw [stv_size, stv_size]) (stv_one S0) ?_)
  clear  fp lp
  clear  fq lq
  clear  fa la
  clear  fb lb
  clear  fc lc
  clear  fd ld
  intro w11 hS
  replace Bp := hS.far hnps (((Bp.alloc _).alloc _).alloc _)
  replace Bq := hS.far hnqs (((Bq.alloc _).alloc _).alloc _)
  replace Ba := hS.far hnas (((Ba.alloc _).alloc _).alloc _)
  replace Bb := hS.far hnbs (((Bb.alloc _).alloc _).alloc _)
  replace Bc := hS.far hncs (((Bc.alloc _).alloc _).alloc _)
  replace Bd := hS.far hnds (((Bd.alloc _).alloc _).alloc _)
  have Bt : Blk w11 (w10.heap.size + 1) 34 (stv zs) := hS.far hdst.symm ((by simpa using Blk.new (w10.alloc (.cells (stv zs) 34)) 34 (stv zs) : Blk _ (w10.heap.size + 1) 34 (stv zs)).alloc _)
  have Bu : Blk w11 (w10.heap.size + 1 + 1) 34 (stv zs) := hS.far hdsu.symm (by simpa using Blk.new ((w10.alloc (.cells (stv zs) 34)).alloc (.cells (stv zs) 34)) 34 (stv zs) : Blk _ (w10.heap.size + 1 + 1) 34 (stv zs))
  have Bs : Blk w11 (w10.heap.size) 34 (stv S0) := hS.blk
  replace hB := hS.bel (Bl_alloc (Bl_alloc (Bl_alloc hB _) _) _) hgs
  clear hS
  generalize w10.heap.size + 1 + 1 = gu at *
  generalize w10.heap.size + 1 = gt at *
  generalize w10.heap.size = gs at *
  have fp := Bp.frozen; have lp := Bp.lt
  have fq := Bq.frozen; have lq := Bq.lt
  have fa := Ba.frozen; have la := Ba.lt
  have fb := Bb.frozen; have lb := Bb.lt
  have fc := Bc.frozen; have lc := Bc.lt
  have fd := Bd.frozen; have ld := Bd.lt
  have fs := Bs.frozen; have ls := Bs.lt
  have ft := Bt.frozen; have lt := Bt.lt
  have fu := Bu.frozen; have lu := Bu.lt
  go_wp2_with (refine wpList_store_whole rfl 34 (.tmp 10) (.tmp 23) rfl (gt) (stv S0) rfl rfl 34 (stv zs) Bt (size_st S0) (by rw [stv_size, stv_size]) (stv_one S0) ?_)
  intro w12 hS
  clear  fp lp
  clear  fq lq
  clear  fa la
  clear  fb lb
  clear  fc lc
  clear  fd ld
  clear  fs ls
  clear  ft lt
  clear  fu lu
  replace Bp := hS.far (by first | (simp; done) | (simp; omega) | (simp [*]; done) | (simp only [ne_eq]; constructor <;> omega)) Bp
  replace Bq := hS.far (by first | (simp; done) | (simp; omega) | (simp [*]; done) | (simp only [ne_eq]; constructor <;> omega)) Bq
  replace Ba := hS.far (by first | (simp; done) | (simp; omega) | (simp [*]; done) | (simp only [ne_eq]; constructor <;> omega)) Ba
  replace Bb := hS.far (by first | (simp; done) | (simp; omega) | (simp [*]; done) | (simp only [ne_eq]; constructor <;> omega)) Bb
  replace Bc := hS.far (by first | (simp; done) | (simp; omega) | (simp [*]; done) | (simp only [ne_eq]; constructor <;> omega)) Bc
  replace Bd := hS.far (by first | (simp; done) | (simp; omega) | (simp [*]; done) | (simp only [ne_eq]; constructor <;> omega)) Bd
  replace Bs := hS.far (by first | (simp; done) | (simp; omega) | (simp [*]; done) | (simp only [ne_eq]; constructor <;> omega)) Bs
  replace Bt : Blk w12 (gt) 34 (stv S0) := hS.blk
  replace Bu := hS.far (by first | (simp; done) | (simp; omega) | (simp [*]; done) | (simp only [ne_eq]; constructor <;> omega)) Bu
  replace hB := hS.bel hB (by first | omega | (simp; omega))
  clear hS
  have fp := Bp.frozen; have lp := Bp.lt
  have fq := Bq.frozen; have lq := Bq.lt
  have fa := Ba.frozen; have la := Ba.lt
  have fb := Bb.frozen; have lb := Bb.lt
  have fc := Bc.frozen; have lc := Bc.lt
  have fd := Bd.frozen; have ld := Bd.lt
  have fs := Bs.frozen; have ls := Bs.lt
  have ft := Bt.frozen; have lt := Bt.lt
  have fu := Bu.frozen; have lu := Bu.lt
  go_wp2_with (refine wpList_store_whole rfl 34 (.tmp 11) (.tmp 24) rfl (gu) (stv S0) rfl rfl 34 (stv zs) Bu (size_st S0) (by rw [stv_size, stv_size]) (stv_one S0) ?_)
  intro w13 hS
  clear  fp lp
  clear  fq lq
  clear  fa la
  clear  fb lb
  clear  fc lc
  clear  fd ld
  clear  fs ls
  clear  ft lt
  clear  fu lu
  replace Bp := hS.far (by first | (simp; done) | (simp; omega) | (simp [*]; done) | (simp only [ne_eq]; constructor <;> omega)) Bp
  replace Bq := hS.far (by first | (simp; done) | (simp; omega) | (simp [*]; done) | (simp only [ne_eq]; constructor <;> omega)) Bq
  replace Ba := hS.far (by first | (simp; done) | (simp; omega) | (simp [*]; done) | (simp only [ne_eq]; constructor <;> omega)) Ba
  replace Bb := hS.far (by first | (simp; done) | (simp; omega) | (simp [*]; done) | (simp only [ne_eq]; constructor <;> omega)) Bb
  replace Bc := hS.far (by first | (simp; done) | (simp; omega) | (simp [*]; done) | (simp only [ne_eq]; constructor <;> omega)) Bc
  replace Bd := hS.far (by first | (simp; done) | (simp; omega) | (simp [*]; done) | (simp only [ne_eq]; constructor <;> omega)) Bd
  replace Bs := hS.far (by first | (simp; done) | (simp; omega) | (simp [*]; done) | (simp only [ne_eq]; constructor <;> omega)) Bs
  replace Bt := hS.far (by first | (simp; done) | (simp; omega) | (simp [*]; done) | (simp only [ne_eq]; constructor <;> omega)) Bt
  replace Bu : Blk w13 (gu) 34 (stv S0) := hS.blk
  replace hB := hS.bel hB (by first | omega | (simp; omega))
  clear hS
  have fp := Bp.frozen; have lp := Bp.lt
  have fq := Bq.frozen; have lq := Bq.lt
  have fa := Ba.frozen; have la := Ba.lt
  have fb := Bb.frozen; have lb := Bb.lt
  have fc := Bc.frozen; have lc := Bc.lt
  have fd := Bd.frozen; have ld := Bd.lt
  have fs := Bs.frozen; have ls := Bs.lt
  have ft := Bt.frozen; have lt := Bt.lt
  have fu := Bu.frozen; have lu := Bu.lt
  clear hz Zp Zq
  go_wp2_with fail
  clear  fp lp
  clear  fq lq
  clear  fa la
  clear  fb lb
  clear  fc lc
  clear  fd ld
  clear  fs ls
  clear  ft lt
  clear  fu lu
  obtain ⟨I, hI⟩ : ∃ I : World → Prop, ∀ wv, I wv ↔ (Below w.heap.size w wv ∧ Loose wv (gs) 34 (stv S0) (free2 0 ((#[.int .i64 RA.kind, uv RA.r.b.v, uv RA.r.b.m, uv RA.r.lo, uv RA.r.hi, sv RA.r.sl, sv RA.r.sh, .int .i64 RA.slot, .int .i64 RA.id, .int .i64 RA.low, .int .i64 RA.high] : Array Value)).toList.length 0 0) ∧ Loose wv (gt) 34 (stv S0) (free2 0 ((#[.int .i64 RB.kind, uv RB.r.b.v, uv RB.r.b.m, uv RB.r.lo, uv RB.r.hi, sv RB.r.sl, sv RB.r.sh, .int .i64 RB.slot, .int .i64 RB.id, .int .i64 RB.low, .int .i64 RB.high] : Array Value)).toList.length 0 0) ∧ Loose wv (gu) 34 (stv S0) (free2 0 ((#[.int .i64 RC.kind, uv RC.r.b.v, uv RC.r.b.m, uv RC.r.lo, uv RC.r.hi, sv RC.r.sl, sv RC.r.sh, .int .i64 RC.slot, .int .i64 RC.id, .int .i64 RC.low, .int .i64 RC.high] : Array Value)).toList.length 0 0) ∧ Blk wv (w.heap.size) 66 (pv) ∧ Blk wv (w.heap.size + 1) 66 (qv) ∧ Blk wv (ga) 29 (#[.int .i64 RA.kind, uv RA.r.b.v, uv RA.r.b.m, uv RA.r.lo, uv RA.r.hi, sv RA.r.sl, sv RA.r.sh, .int .i64 RA.slot, .int .i64 RA.id, .int .i64 RA.low, .int .i64 RA.high]) ∧ Blk wv (gb) 29 (#[.int .i64 RB.kind, uv RB.r.b.v, uv RB.r.b.m, uv RB.r.lo, uv RB.r.hi, sv RB.r.sl, sv RB.r.sh, .int .i64 RB.slot, .int .i64 RB.id, .int .i64 RB.low, .int .i64 RB.high]) ∧ Blk wv (gc) 29 (#[.int .i64 RC.kind, uv RC.r.b.v, uv RC.r.b.m, uv RC.r.lo, uv RC.r.hi, sv RC.r.sl, sv RC.r.sh, .int .i64 RC.slot, .int .i64 RC.id, .int .i64 RC.low, .int .i64 RC.high]) ∧ Blk wv (gd) 29 (#[.int .i64 RD.kind, uv RD.r.b.v, uv RD.r.b.m, uv RD.r.lo, uv RD.r.hi, sv RD.r.sl, sv RD.r.sh, .int .i64 RD.slot, .int .i64 RD.id, .int .i64 RD.low, .int .i64 RD.high])) := ⟨_, fun _ => Iff.rfl⟩
  obtain ⟨D, hD⟩ : ∃ D : Nat → World → Prop, ∀ k wv, D k wv ↔ ((k = 5 → Has wv (gs) 34 0 ((#[.int .i64 RA.kind, uv RA.r.b.v, uv RA.r.b.m, uv RA.r.lo, uv RA.r.hi, sv RA.r.sl, sv RA.r.sh, .int .i64 RA.slot, .int .i64 RA.id, .int .i64 RA.low, .int .i64 RA.high] : Array Value)).toList) ∧ (k = 8 → Has wv (gt) 34 0 ((#[.int .i64 RB.kind, uv RB.r.b.v, uv RB.r.b.m, uv RB.r.lo, uv RB.r.hi, sv RB.r.sl, sv RB.r.sh, .int .i64 RB.slot, .int .i64 RB.id, .int .i64 RB.low, .int .i64 RB.high] : Array Value)).toList) ∧ (k = 11 → Has wv (gu) 34 0 ((#[.int .i64 RC.kind, uv RC.r.b.v, uv RC.r.b.m, uv RC.r.lo, uv RC.r.hi, sv RC.r.sl, sv RC.r.sh, .int .i64 RC.slot, .int .i64 RC.id, .int .i64 RC.low, .int .i64 RC.high] : Array Value)).toList)) := ⟨_, fun _ _ => Iff.rfl⟩
  have hI0 : I w13 := (hI _).2 ⟨hB, Loose.of Bs _, Loose.of Bt _, Loose.of Bu _, Bp, Bq, Ba, Bb, Bc, Bd⟩
  have lp := Bp.lt; clear Bp
  have lq := Bq.lt; clear Bq
  have la := Ba.lt; clear Ba
  have lb := Bb.lt; clear Bb
  have lc := Bc.lt; clear Bc
  have ld := Bd.lt; clear Bd
  have ls := Bs.lt; clear Bs
  have lt := Bt.lt; clear Bt
  have lu := Bu.lt; clear Bu
  have iBp : ∀ g : In I, Blk g.w (w.heap.size) 66 (pv) := fun g => ((hI _).1 g.is).2.2.2.2.1
  have iBq : ∀ g : In I, Blk g.w (w.heap.size + 1) 66 (qv) := fun g => ((hI _).1 g.is).2.2.2.2.2.1
  have iBa : ∀ g : In I, Blk g.w (ga) 29 (#[.int .i64 RA.kind, uv RA.r.b.v, uv RA.r.b.m, uv RA.r.lo, uv RA.r.hi, sv RA.r.sl, sv RA.r.sh, .int .i64 RA.slot, .int .i64 RA.id, .int .i64 RA.low, .int .i64 RA.high]) := fun g => ((hI _).1 g.is).2.2.2.2.2.2.1
  have iBb : ∀ g : In I, Blk g.w (gb) 29 (#[.int .i64 RB.kind, uv RB.r.b.v, uv RB.r.b.m, uv RB.r.lo, uv RB.r.hi, sv RB.r.sl, sv RB.r.sh, .int .i64 RB.slot, .int .i64 RB.id, .int .i64 RB.low, .int .i64 RB.high]) := fun g => ((hI _).1 g.is).2.2.2.2.2.2.2.1
  have iBc : ∀ g : In I, Blk g.w (gc) 29 (#[.int .i64 RC.kind, uv RC.r.b.v, uv RC.r.b.m, uv RC.r.lo, uv RC.r.hi, sv RC.r.sl, sv RC.r.sh, .int .i64 RC.slot, .int .i64 RC.id, .int .i64 RC.low, .int .i64 RC.high]) := fun g => ((hI _).1 g.is).2.2.2.2.2.2.2.2.1
  have iBd : ∀ g : In I, Blk g.w (gd) 29 (#[.int .i64 RD.kind, uv RD.r.b.v, uv RD.r.b.m, uv RD.r.lo, uv RD.r.hi, sv RD.r.sl, sv RD.r.sh, .int .i64 RD.slot, .int .i64 RD.id, .int .i64 RD.low, .int .i64 RD.high]) := fun g => ((hI _).1 g.is).2.2.2.2.2.2.2.2.2
  have hIg : ∀ x y, Grows x y → I x → I y := fun x y hg hx => by
    obtain ⟨hb, hL0, hL1, hL2, m0, m1, m2, m3, m4, m5⟩ := (hI _).1 hx
    exact (hI _).2 ⟨Bl_trans hb hg, hL0.next hg, hL1.next hg, hL2.next hg, m0.next hg, m1.next hg, m2.next hg, m3.next hg, m4.next hg, m5.next hg⟩
  have hDg : ∀ k x y, Grows x y → D k x → D k y := fun k x y hg hx => by
    have d := (hD _ _).1 hx
    exact (hD _ _).2 ⟨fun e => (d.1 e).next hg, fun e => (d.2.1 e).next hg, fun e => (d.2.2 e).next hg⟩
  have hDt : ∀ k, (k == 5 || k == 8 || k == 11) = false → ∀ x, D k x := fun k hk x => (hD _ _).2 ⟨fun e => by subst e; simp at hk, fun e => by subst e; simp at hk, fun e => by subst e; simp at hk⟩
  have hS5 : ∀ (g : In I) {o : Oper} {ρ : Operand → Value}, o.op = .store 29 (.tmp 29) (.tmp 25) → ρ (.tmp 29) = .pointer (some ⟨gs, 0, none⟩) → ρ (.tmp 25) = .agg (#[.int .i64 RA.kind, uv RA.r.b.v, uv RA.r.b.m, uv RA.r.lo, uv RA.r.hi, sv RA.r.sl, sv RA.r.sh, .int .i64 RA.slot, .int .i64 RA.id, .int .i64 RA.low, .int .i64 RA.high] : Array Value) → ∃ w', (execOp ρ o).run Try.prog g.w = .ok .skip w' ∧ I w' ∧ D 5 w' ∧ ∀ j, D j g.w → D j w' := fun g o ρ ho hp hv => by
    obtain ⟨hb, hL0, hL1, hL2, m0, m1, m2, m3, m4, m5⟩ := (hI _).1 g.is
    obtain ⟨w', hrun, hL', hH, hkeep, hoth, hbel⟩ := run_store_loose 29 (.tmp 29) (.tmp 25) ho (gs) 0 34 (stv S0) (#[.int .i64 RA.kind, uv RA.r.b.v, uv RA.r.b.m, uv RA.r.lo, uv RA.r.hi, sv RA.r.sl, sv RA.r.sh, .int .i64 RA.slot, .int .i64 RA.id, .int .i64 RA.low, .int .i64 RA.high] : Array Value) _ hp hv hL0 (size_re _ _ _ _ _ _ _ _ _ _ _) (by rw [stv_size]; simp) (fun i h1 h2 => free2_l h1 (by simpa using h2)) (gl_one RA)
    refine ⟨w', hrun, (hI _).2 ⟨hbel _ _ hb (by first | omega | (simp; omega)), hL', hL1.same (hoth _ (by first | (simp; done) | (simp; omega) | (simp [*]; done) | (simp only [ne_eq]; constructor <;> omega))), hL2.same (hoth _ (by first | (simp; done) | (simp; omega) | (simp [*]; done) | (simp only [ne_eq]; constructor <;> omega))), (hoth _ (by first | (simp; done) | (simp; omega) | (simp [*]; done) | (simp only [ne_eq]; constructor <;> omega))).trans m0, (hoth _ (by first | (simp; done) | (simp; omega) | (simp [*]; done) | (simp only [ne_eq]; constructor <;> omega))).trans m1, (hoth _ (by first | (simp; done) | (simp; omega) | (simp [*]; done) | (simp only [ne_eq]; constructor <;> omega))).trans m2, (hoth _ (by first | (simp; done) | (simp; omega) | (simp [*]; done) | (simp only [ne_eq]; constructor <;> omega))).trans m3, (hoth _ (by first | (simp; done) | (simp; omega) | (simp [*]; done) | (simp only [ne_eq]; constructor <;> omega))).trans m4, (hoth _ (by first | (simp; done) | (simp; omega) | (simp [*]; done) | (simp only [ne_eq]; constructor <;> omega))).trans m5⟩, (hD _ _).2 ?_, fun j hj => (hD _ _).2 ?_⟩
    · exact ⟨fun _ => hH, fun e => absurd e (by decide), fun e => absurd e (by decide)⟩
    · have d := (hD _ _).1 hj; exact ⟨fun _ => hH, fun e => (d.2.1 e).same (hoth _ (by first | (simp; done) | (simp; omega) | (simp [*]; done) | (simp only [ne_eq]; constructor <;> omega))), fun e => (d.2.2 e).same (hoth _ (by first | (simp; done) | (simp; omega) | (simp [*]; done) | (simp only [ne_eq]; constructor <;> omega)))⟩
  have hS8 : ∀ (g : In I) {o : Oper} {ρ : Operand → Value}, o.op = .store 29 (.tmp 31) (.tmp 26) → ρ (.tmp 31) = .pointer (some ⟨gt, 0, none⟩) → ρ (.tmp 26) = .agg (#[.int .i64 RB.kind, uv RB.r.b.v, uv RB.r.b.m, uv RB.r.lo, uv RB.r.hi, sv RB.r.sl, sv RB.r.sh, .int .i64 RB.slot, .int .i64 RB.id, .int .i64 RB.low, .int .i64 RB.high] : Array Value) → ∃ w', (execOp ρ o).run Try.prog g.w = .ok .skip w' ∧ I w' ∧ D 8 w' ∧ ∀ j, D j g.w → D j w' := fun g o ρ ho hp hv => by
    obtain ⟨hb, hL0, hL1, hL2, m0, m1, m2, m3, m4, m5⟩ := (hI _).1 g.is
    obtain ⟨w', hrun, hL', hH, hkeep, hoth, hbel⟩ := run_store_loose 29 (.tmp 31) (.tmp 26) ho (gt) 0 34 (stv S0) (#[.int .i64 RB.kind, uv RB.r.b.v, uv RB.r.b.m, uv RB.r.lo, uv RB.r.hi, sv RB.r.sl, sv RB.r.sh, .int .i64 RB.slot, .int .i64 RB.id, .int .i64 RB.low, .int .i64 RB.high] : Array Value) _ hp hv hL1 (size_re _ _ _ _ _ _ _ _ _ _ _) (by rw [stv_size]; simp) (fun i h1 h2 => free2_l h1 (by simpa using h2)) (gl_one RB)
    refine ⟨w', hrun, (hI _).2 ⟨hbel _ _ hb (by first | omega | (simp; omega)), hL0.same (hoth _ (by first | (simp; done) | (simp; omega) | (simp [*]; done) | (simp only [ne_eq]; constructor <;> omega))), hL', hL2.same (hoth _ (by first | (simp; done) | (simp; omega) | (simp [*]; done) | (simp only [ne_eq]; constructor <;> omega))), (hoth _ (by first | (simp; done) | (simp; omega) | (simp [*]; done) | (simp only [ne_eq]; constructor <;> omega))).trans m0, (hoth _ (by first | (simp; done) | (simp; omega) | (simp [*]; done) | (simp only [ne_eq]; constructor <;> omega))).trans m1, (hoth _ (by first | (simp; done) | (simp; omega) | (simp [*]; done) | (simp only [ne_eq]; constructor <;> omega))).trans m2, (hoth _ (by first | (simp; done) | (simp; omega) | (simp [*]; done) | (simp only [ne_eq]; constructor <;> omega))).trans m3, (hoth _ (by first | (simp; done) | (simp; omega) | (simp [*]; done) | (simp only [ne_eq]; constructor <;> omega))).trans m4, (hoth _ (by first | (simp; done) | (simp; omega) | (simp [*]; done) | (simp only [ne_eq]; constructor <;> omega))).trans m5⟩, (hD _ _).2 ?_, fun j hj => (hD _ _).2 ?_⟩
    · exact ⟨fun e => absurd e (by decide), fun _ => hH, fun e => absurd e (by decide)⟩
    · have d := (hD _ _).1 hj; exact ⟨fun e => (d.1 e).same (hoth _ (by first | (simp; done) | (simp; omega) | (simp [*]; done) | (simp only [ne_eq]; constructor <;> omega))), fun _ => hH, fun e => (d.2.2 e).same (hoth _ (by first | (simp; done) | (simp; omega) | (simp [*]; done) | (simp only [ne_eq]; constructor <;> omega)))⟩
  have hS11 : ∀ (g : In I) {o : Oper} {ρ : Operand → Value}, o.op = .store 29 (.tmp 33) (.tmp 27) → ρ (.tmp 33) = .pointer (some ⟨gu, 0, none⟩) → ρ (.tmp 27) = .agg (#[.int .i64 RC.kind, uv RC.r.b.v, uv RC.r.b.m, uv RC.r.lo, uv RC.r.hi, sv RC.r.sl, sv RC.r.sh, .int .i64 RC.slot, .int .i64 RC.id, .int .i64 RC.low, .int .i64 RC.high] : Array Value) → ∃ w', (execOp ρ o).run Try.prog g.w = .ok .skip w' ∧ I w' ∧ D 11 w' ∧ ∀ j, D j g.w → D j w' := fun g o ρ ho hp hv => by
    obtain ⟨hb, hL0, hL1, hL2, m0, m1, m2, m3, m4, m5⟩ := (hI _).1 g.is
    obtain ⟨w', hrun, hL', hH, hkeep, hoth, hbel⟩ := run_store_loose 29 (.tmp 33) (.tmp 27) ho (gu) 0 34 (stv S0) (#[.int .i64 RC.kind, uv RC.r.b.v, uv RC.r.b.m, uv RC.r.lo, uv RC.r.hi, sv RC.r.sl, sv RC.r.sh, .int .i64 RC.slot, .int .i64 RC.id, .int .i64 RC.low, .int .i64 RC.high] : Array Value) _ hp hv hL2 (size_re _ _ _ _ _ _ _ _ _ _ _) (by rw [stv_size]; simp) (fun i h1 h2 => free2_l h1 (by simpa using h2)) (gl_one RC)
    refine ⟨w', hrun, (hI _).2 ⟨hbel _ _ hb (by first | omega | (simp; omega)), hL0.same (hoth _ (by first | (simp; done) | (simp; omega) | (simp [*]; done) | (simp only [ne_eq]; constructor <;> omega))), hL1.same (hoth _ (by first | (simp; done) | (simp; omega) | (simp [*]; done) | (simp only [ne_eq]; constructor <;> omega))), hL', (hoth _ (by first | (simp; done) | (simp; omega) | (simp [*]; done) | (simp only [ne_eq]; constructor <;> omega))).trans m0, (hoth _ (by first | (simp; done) | (simp; omega) | (simp [*]; done) | (simp only [ne_eq]; constructor <;> omega))).trans m1, (hoth _ (by first | (simp; done) | (simp; omega) | (simp [*]; done) | (simp only [ne_eq]; constructor <;> omega))).trans m2, (hoth _ (by first | (simp; done) | (simp; omega) | (simp [*]; done) | (simp only [ne_eq]; constructor <;> omega))).trans m3, (hoth _ (by first | (simp; done) | (simp; omega) | (simp [*]; done) | (simp only [ne_eq]; constructor <;> omega))).trans m4, (hoth _ (by first | (simp; done) | (simp; omega) | (simp [*]; done) | (simp only [ne_eq]; constructor <;> omega))).trans m5⟩, (hD _ _).2 ?_, fun j hj => (hD _ _).2 ?_⟩
    · exact ⟨fun e => absurd e (by decide), fun e => absurd e (by decide), fun _ => hH⟩
    · have d := (hD _ _).1 hj; exact ⟨fun e => (d.1 e).same (hoth _ (by first | (simp; done) | (simp; omega) | (simp [*]; done) | (simp only [ne_eq]; constructor <;> omega))), fun e => (d.2.1 e).same (hoth _ (by first | (simp; done) | (simp; omega) | (simp [*]; done) | (simp only [ne_eq]; constructor <;> omega))), fun _ => hH⟩
  refine wp_region_mixP I D (fun k => k == 5 || k == 8 || k == 11) (by kernel_rfl) (by kernel_rfl) (by kernel_rfl) hI0 hIg hDg hDt ?_
  have hne_I : Nonempty (In I) := ⟨⟨_, hI0⟩⟩
  clear hIg hDg hDt hI0
  repeat (first | (refine wpMixP_part rfl rfl 29 (.tmp 5) rfl (ga) 0 rfl 29 (#[.int .i64 RA.kind, uv RA.r.b.v, uv RA.r.b.m, uv RA.r.lo, uv RA.r.hi, sv RA.r.sl, sv RA.r.sh, .int .i64 RA.slot, .int .i64 RA.id, .int .i64 RA.low, .int .i64 RA.high]) (#[.int .i64 RA.kind, uv RA.r.b.v, uv RA.r.b.m, uv RA.r.lo, uv RA.r.hi, sv RA.r.sl, sv RA.r.sh, .int .i64 RA.slot, .int .i64 RA.id, .int .i64 RA.low, .int .i64 RA.high]) _ iBa Try.underlying29 rfl (size_re _ _ _ _ _ _ _ _ _ _ _) (part_self _) ?_) | (refine wpMixP_part rfl rfl 29 (.tmp 6) rfl (gb) 0 rfl 29 (#[.int .i64 RB.kind, uv RB.r.b.v, uv RB.r.b.m, uv RB.r.lo, uv RB.r.hi, sv RB.r.sl, sv RB.r.sh, .int .i64 RB.slot, .int .i64 RB.id, .int .i64 RB.low, .int .i64 RB.high]) (#[.int .i64 RB.kind, uv RB.r.b.v, uv RB.r.b.m, uv RB.r.lo, uv RB.r.hi, sv RB.r.sl, sv RB.r.sh, .int .i64 RB.slot, .int .i64 RB.id, .int .i64 RB.low, .int .i64 RB.high]) _ iBb Try.underlying29 rfl (size_re _ _ _ _ _ _ _ _ _ _ _) (part_self _) ?_) | (refine wpMixP_part rfl rfl 29 (.tmp 7) rfl (gc) 0 rfl 29 (#[.int .i64 RC.kind, uv RC.r.b.v, uv RC.r.b.m, uv RC.r.lo, uv RC.r.hi, sv RC.r.sl, sv RC.r.sh, .int .i64 RC.slot, .int .i64 RC.id, .int .i64 RC.low, .int .i64 RC.high]) (#[.int .i64 RC.kind, uv RC.r.b.v, uv RC.r.b.m, uv RC.r.lo, uv RC.r.hi, sv RC.r.sl, sv RC.r.sh, .int .i64 RC.slot, .int .i64 RC.id, .int .i64 RC.low, .int .i64 RC.high]) _ iBc Try.underlying29 rfl (size_re _ _ _ _ _ _ _ _ _ _ _) (part_self _) ?_) | ((with_reducible refine wpMixP_step (fun K hK => ?_)); go_simp; first | ((with_reducible refine hK _ ?_); clear hK K) | (rw [if_neg (by decide)]; (with_reducible refine hK _ ?_); clear hK K) | (refine ⟨⟨rfl, fun g => ?_⟩, hK _ ?_⟩; (exact hS5 g rfl rfl rfl); clear hK K) | (refine ⟨⟨rfl, fun g => ?_⟩, hK _ ?_⟩; (exact hS8 g rfl rfl rfl); clear hK K) | (refine ⟨⟨rfl, fun g => ?_⟩, hK _ ?_⟩; (exact hS11 g rfl rfl rfl); clear hK K)))
  refine wpMixP_nil ?_
  intro w14 hIw hDw
  clear hB hS5 hS8 hS11 iBp iBq iBa iBb iBc iBd
  obtain ⟨hB, hL0, hL1, hL2, Bp, Bq, Ba, Bb, Bc, Bd⟩ := (hI _).1 hIw
  have hBb := hL0.close1 (((hD _ _).1 (hDw 5 (by decide))).1 rfl) (by rw [stv_size]; simp)
  have Bs : Blk w14 (gs) 34 ((stv S1)) := by rw [HS1.out]; exact hBb
  clear hBb hL0
  have hBb := hL1.close1 (((hD _ _).1 (hDw 8 (by decide))).2.1 rfl) (by rw [stv_size]; simp)
  have Bt : Blk w14 (gt) 34 ((stv T1)) := by rw [HT1.out]; exact hBb
  clear hBb hL1
  have hBb := hL2.close1 (((hD _ _).1 (hDw 11 (by decide))).2.2 rfl) (by rw [stv_size]; simp)
  have Bu : Blk w14 (gu) 34 ((stv U1)) := by rw [HU1.out]; exact hBb
  clear hBb hL2
  clear hne_I hIw hDw hI hD I D lp lq la lb lc ld ls lt lu
  have fp := Bp.frozen; have lp := Bp.lt
  have fq := Bq.frozen; have lq := Bq.lt
  have fa := Ba.frozen; have la := Ba.lt
  have fb := Bb.frozen; have lb := Bb.lt
  have fc := Bc.frozen; have lc := Bc.lt
  have fd := Bd.frozen; have ld := Bd.lt
  have fs := Bs.frozen; have ls := Bs.lt
  have ft := Bt.frozen; have lt := Bt.lt
  have fu := Bu.frozen; have lu := Bu.lt
  go_wp2_with fail
  clear  fp lp
  clear  fq lq
  clear  fa la
  clear  fb lb
  clear  fc lc
  clear  fd ld
  clear  fs ls
  clear  ft lt
  clear  fu lu
  obtain ⟨I, hI⟩ : ∃ I : World → Prop, ∀ wv, I wv ↔ (Below w.heap.size w wv ∧ Loose wv (gs) 34 ((stv S1)) (free2 66 ((#[.int .i64 RD.kind, uv RD.r.b.v, uv RD.r.b.m, uv RD.r.lo, uv RD.r.hi, sv RD.r.sl, sv RD.r.sh, .int .i64 RD.slot, .int .i64 RD.id, .int .i64 RD.low, .int .i64 RD.high] : Array Value)).toList.length 0 0) ∧ Loose wv (gt) 34 ((stv T1)) (free2 66 ((#[.int .i64 RB.kind, uv RB.r.b.v, uv RB.r.b.m, uv RB.r.lo, uv RB.r.hi, sv RB.r.sl, sv RB.r.sh, .int .i64 RB.slot, .int .i64 RB.id, .int .i64 RB.low, .int .i64 RB.high] : Array Value)).toList.length 0 0) ∧ Loose wv (gu) 34 ((stv U1)) (free2 66 ((#[.int .i64 RB.kind, uv RB.r.b.v, uv RB.r.b.m, uv RB.r.lo, uv RB.r.hi, sv RB.r.sl, sv RB.r.sh, .int .i64 RB.slot, .int .i64 RB.id, .int .i64 RB.low, .int .i64 RB.high] : Array Value)).toList.length 0 0) ∧ Blk wv (w.heap.size) 66 (pv) ∧ Blk wv (w.heap.size + 1) 66 (qv) ∧ Blk wv (ga) 29 (#[.int .i64 RA.kind, uv RA.r.b.v, uv RA.r.b.m, uv RA.r.lo, uv RA.r.hi, sv RA.r.sl, sv RA.r.sh, .int .i64 RA.slot, .int .i64 RA.id, .int .i64 RA.low, .int .i64 RA.high]) ∧ Blk wv (gb) 29 (#[.int .i64 RB.kind, uv RB.r.b.v, uv RB.r.b.m, uv RB.r.lo, uv RB.r.hi, sv RB.r.sl, sv RB.r.sh, .int .i64 RB.slot, .int .i64 RB.id, .int .i64 RB.low, .int .i64 RB.high]) ∧ Blk wv (gc) 29 (#[.int .i64 RC.kind, uv RC.r.b.v, uv RC.r.b.m, uv RC.r.lo, uv RC.r.hi, sv RC.r.sl, sv RC.r.sh, .int .i64 RC.slot, .int .i64 RC.id, .int .i64 RC.low, .int .i64 RC.high]) ∧ Blk wv (gd) 29 (#[.int .i64 RD.kind, uv RD.r.b.v, uv RD.r.b.m, uv RD.r.lo, uv RD.r.hi, sv RD.r.sl, sv RD.r.sh, .int .i64 RD.slot, .int .i64 RD.id, .int .i64 RD.low, .int .i64 RD.high])) := ⟨_, fun _ => Iff.rfl⟩
  obtain ⟨D, hD⟩ : ∃ D : Nat → World → Prop, ∀ k wv, D k wv ↔ ((k = 5 → Has wv (gs) 34 66 ((#[.int .i64 RD.kind, uv RD.r.b.v, uv RD.r.b.m, uv RD.r.lo, uv RD.r.hi, sv RD.r.sl, sv RD.r.sh, .int .i64 RD.slot, .int .i64 RD.id, .int .i64 RD.low, .int .i64 RD.high] : Array Value)).toList) ∧ (k = 8 → Has wv (gt) 34 66 ((#[.int .i64 RB.kind, uv RB.r.b.v, uv RB.r.b.m, uv RB.r.lo, uv RB.r.hi, sv RB.r.sl, sv RB.r.sh, .int .i64 RB.slot, .int .i64 RB.id, .int .i64 RB.low, .int .i64 RB.high] : Array Value)).toList) ∧ (k = 11 → Has wv (gu) 34 66 ((#[.int .i64 RB.kind, uv RB.r.b.v, uv RB.r.b.m, uv RB.r.lo, uv RB.r.hi, sv RB.r.sl, sv RB.r.sh, .int .i64 RB.slot, .int .i64 RB.id, .int .i64 RB.low, .int .i64 RB.high] : Array Value)).toList)) := ⟨_, fun _ _ => Iff.rfl⟩
  have hI0 : I w14 := (hI _).2 ⟨hB, Loose.of Bs _, Loose.of Bt _, Loose.of Bu _, Bp, Bq, Ba, Bb, Bc, Bd⟩
  have lp := Bp.lt; clear Bp
  have lq := Bq.lt; clear Bq
  have la := Ba.lt; clear Ba
  have lb := Bb.lt; clear Bb
  have lc := Bc.lt; clear Bc
  have ld := Bd.lt; clear Bd
  have ls := Bs.lt; clear Bs
  have lt := Bt.lt; clear Bt
  have lu := Bu.lt; clear Bu
  have iBp : ∀ g : In I, Blk g.w (w.heap.size) 66 (pv) := fun g => ((hI _).1 g.is).2.2.2.2.1
  have iBq : ∀ g : In I, Blk g.w (w.heap.size + 1) 66 (qv) := fun g => ((hI _).1 g.is).2.2.2.2.2.1
  have iBa : ∀ g : In I, Blk g.w (ga) 29 (#[.int .i64 RA.kind, uv RA.r.b.v, uv RA.r.b.m, uv RA.r.lo, uv RA.r.hi, sv RA.r.sl, sv RA.r.sh, .int .i64 RA.slot, .int .i64 RA.id, .int .i64 RA.low, .int .i64 RA.high]) := fun g => ((hI _).1 g.is).2.2.2.2.2.2.1
  have iBb : ∀ g : In I, Blk g.w (gb) 29 (#[.int .i64 RB.kind, uv RB.r.b.v, uv RB.r.b.m, uv RB.r.lo, uv RB.r.hi, sv RB.r.sl, sv RB.r.sh, .int .i64 RB.slot, .int .i64 RB.id, .int .i64 RB.low, .int .i64 RB.high]) := fun g => ((hI _).1 g.is).2.2.2.2.2.2.2.1
  have iBc : ∀ g : In I, Blk g.w (gc) 29 (#[.int .i64 RC.kind, uv RC.r.b.v, uv RC.r.b.m, uv RC.r.lo, uv RC.r.hi, sv RC.r.sl, sv RC.r.sh, .int .i64 RC.slot, .int .i64 RC.id, .int .i64 RC.low, .int .i64 RC.high]) := fun g => ((hI _).1 g.is).2.2.2.2.2.2.2.2.1
  have iBd : ∀ g : In I, Blk g.w (gd) 29 (#[.int .i64 RD.kind, uv RD.r.b.v, uv RD.r.b.m, uv RD.r.lo, uv RD.r.hi, sv RD.r.sl, sv RD.r.sh, .int .i64 RD.slot, .int .i64 RD.id, .int .i64 RD.low, .int .i64 RD.high]) := fun g => ((hI _).1 g.is).2.2.2.2.2.2.2.2.2
  have hIg : ∀ x y, Grows x y → I x → I y := fun x y hg hx => by
    obtain ⟨hb, hL0, hL1, hL2, m0, m1, m2, m3, m4, m5⟩ := (hI _).1 hx
    exact (hI _).2 ⟨Bl_trans hb hg, hL0.next hg, hL1.next hg, hL2.next hg, m0.next hg, m1.next hg, m2.next hg, m3.next hg, m4.next hg, m5.next hg⟩
  have hDg : ∀ k x y, Grows x y → D k x → D k y := fun k x y hg hx => by
    have d := (hD _ _).1 hx
    exact (hD _ _).2 ⟨fun e => (d.1 e).next hg, fun e => (d.2.1 e).next hg, fun e => (d.2.2 e).next hg⟩
  have hDt : ∀ k, (k == 5 || k == 8 || k == 11) = false → ∀ x, D k x := fun k hk x => (hD _ _).2 ⟨fun e => by subst e; simp at hk, fun e => by subst e; simp at hk, fun e => by subst e; simp at hk⟩
  have hS5 : ∀ (g : In I) {o : Oper} {ρ : Operand → Value}, o.op = .store 29 (.tmp 38) (.tmp 34) → ρ (.tmp 38) = .pointer (some ⟨gs, 66, none⟩) → ρ (.tmp 34) = .agg (#[.int .i64 RD.kind, uv RD.r.b.v, uv RD.r.b.m, uv RD.r.lo, uv RD.r.hi, sv RD.r.sl, sv RD.r.sh, .int .i64 RD.slot, .int .i64 RD.id, .int .i64 RD.low, .int .i64 RD.high] : Array Value) → ∃ w', (execOp ρ o).run Try.prog g.w = .ok .skip w' ∧ I w' ∧ D 5 w' ∧ ∀ j, D j g.w → D j w' := fun g o ρ ho hp hv => by
    obtain ⟨hb, hL0, hL1, hL2, m0, m1, m2, m3, m4, m5⟩ := (hI _).1 g.is
    obtain ⟨w', hrun, hL', hH, hkeep, hoth, hbel⟩ := run_store_loose 29 (.tmp 38) (.tmp 34) ho (gs) 66 34 ((stv S1)) (#[.int .i64 RD.kind, uv RD.r.b.v, uv RD.r.b.m, uv RD.r.lo, uv RD.r.hi, sv RD.r.sl, sv RD.r.sh, .int .i64 RD.slot, .int .i64 RD.id, .int .i64 RD.low, .int .i64 RD.high] : Array Value) _ hp hv hL0 (size_re _ _ _ _ _ _ _ _ _ _ _) (by rw [stv_size]; simp) (fun i h1 h2 => free2_l h1 (by simpa using h2)) (gl_one RD)
    refine ⟨w', hrun, (hI _).2 ⟨hbel _ _ hb (by first | omega | (simp; omega)), hL', hL1.same (hoth _ (by first | (simp; done) | (simp; omega) | (simp [*]; done) | (simp only [ne_eq]; constructor <;> omega))), hL2.same (hoth _ (by first | (simp; done) | (simp; omega) | (simp [*]; done) | (simp only [ne_eq]; constructor <;> omega))), (hoth _ (by first | (simp; done) | (simp; omega) | (simp [*]; done) | (simp only [ne_eq]; constructor <;> omega))).trans m0, (hoth _ (by first | (simp; done) | (simp; omega) | (simp [*]; done) | (simp only [ne_eq]; constructor <;> omega))).trans m1, (hoth _ (by first | (simp; done) | (simp; omega) | (simp [*]; done) | (simp only [ne_eq]; constructor <;> omega))).trans m2, (hoth _ (by first | (simp; done) | (simp; omega) | (simp [*]; done) | (simp only [ne_eq]; constructor <;> omega))).trans m3, (hoth _ (by first | (simp; done) | (simp; omega) | (simp [*]; done) | (simp only [ne_eq]; constructor <;> omega))).trans m4, (hoth _ (by first | (simp; done) | (simp; omega) | (simp [*]; done) | (simp only [ne_eq]; constructor <;> omega))).trans m5⟩, (hD _ _).2 ?_, fun j hj => (hD _ _).2 ?_⟩
    · exact ⟨fun _ => hH, fun e => absurd e (by decide), fun e => absurd e (by decide)⟩
    · have d := (hD _ _).1 hj; exact ⟨fun _ => hH, fun e => (d.2.1 e).same (hoth _ (by first | (simp; done) | (simp; omega) | (simp [*]; done) | (simp only [ne_eq]; constructor <;> omega))), fun e => (d.2.2 e).same (hoth _ (by first | (simp; done) | (simp; omega) | (simp [*]; done) | (simp only [ne_eq]; constructor <;> omega)))⟩
  have hS8 : ∀ (g : In I) {o : Oper} {ρ : Operand → Value}, o.op = .store 29 (.tmp 40) (.tmp 35) → ρ (.tmp 40) = .pointer (some ⟨gt, 66, none⟩) → ρ (.tmp 35) = .agg (#[.int .i64 RB.kind, uv RB.r.b.v, uv RB.r.b.m, uv RB.r.lo, uv RB.r.hi, sv RB.r.sl, sv RB.r.sh, .int .i64 RB.slot, .int .i64 RB.id, .int .i64 RB.low, .int .i64 RB.high] : Array Value) → ∃ w', (execOp ρ o).run Try.prog g.w = .ok .skip w' ∧ I w' ∧ D 8 w' ∧ ∀ j, D j g.w → D j w' := fun g o ρ ho hp hv => by
    obtain ⟨hb, hL0, hL1, hL2, m0, m1, m2, m3, m4, m5⟩ := (hI _).1 g.is
    obtain ⟨w', hrun, hL', hH, hkeep, hoth, hbel⟩ := run_store_loose 29 (.tmp 40) (.tmp 35) ho (gt) 66 34 ((stv T1)) (#[.int .i64 RB.kind, uv RB.r.b.v, uv RB.r.b.m, uv RB.r.lo, uv RB.r.hi, sv RB.r.sl, sv RB.r.sh, .int .i64 RB.slot, .int .i64 RB.id, .int .i64 RB.low, .int .i64 RB.high] : Array Value) _ hp hv hL1 (size_re _ _ _ _ _ _ _ _ _ _ _) (by rw [stv_size]; simp) (fun i h1 h2 => free2_l h1 (by simpa using h2)) (gl_one RB)
    refine ⟨w', hrun, (hI _).2 ⟨hbel _ _ hb (by first | omega | (simp; omega)), hL0.same (hoth _ (by first | (simp; done) | (simp; omega) | (simp [*]; done) | (simp only [ne_eq]; constructor <;> omega))), hL', hL2.same (hoth _ (by first | (simp; done) | (simp; omega) | (simp [*]; done) | (simp only [ne_eq]; constructor <;> omega))), (hoth _ (by first | (simp; done) | (simp; omega) | (simp [*]; done) | (simp only [ne_eq]; constructor <;> omega))).trans m0, (hoth _ (by first | (simp; done) | (simp; omega) | (simp [*]; done) | (simp only [ne_eq]; constructor <;> omega))).trans m1, (hoth _ (by first | (simp; done) | (simp; omega) | (simp [*]; done) | (simp only [ne_eq]; constructor <;> omega))).trans m2, (hoth _ (by first | (simp; done) | (simp; omega) | (simp [*]; done) | (simp only [ne_eq]; constructor <;> omega))).trans m3, (hoth _ (by first | (simp; done) | (simp; omega) | (simp [*]; done) | (simp only [ne_eq]; constructor <;> omega))).trans m4, (hoth _ (by first | (simp; done) | (simp; omega) | (simp [*]; done) | (simp only [ne_eq]; constructor <;> omega))).trans m5⟩, (hD _ _).2 ?_, fun j hj => (hD _ _).2 ?_⟩
    · exact ⟨fun e => absurd e (by decide), fun _ => hH, fun e => absurd e (by decide)⟩
    · have d := (hD _ _).1 hj; exact ⟨fun e => (d.1 e).same (hoth _ (by first | (simp; done) | (simp; omega) | (simp [*]; done) | (simp only [ne_eq]; constructor <;> omega))), fun _ => hH, fun e => (d.2.2 e).same (hoth _ (by first | (simp; done) | (simp; omega) | (simp [*]; done) | (simp only [ne_eq]; constructor <;> omega)))⟩
  have hS11 : ∀ (g : In I) {o : Oper} {ρ : Operand → Value}, o.op = .store 29 (.tmp 42) (.tmp 36) → ρ (.tmp 42) = .pointer (some ⟨gu, 66, none⟩) → ρ (.tmp 36) = .agg (#[.int .i64 RB.kind, uv RB.r.b.v, uv RB.r.b.m, uv RB.r.lo, uv RB.r.hi, sv RB.r.sl, sv RB.r.sh, .int .i64 RB.slot, .int .i64 RB.id, .int .i64 RB.low, .int .i64 RB.high] : Array Value) → ∃ w', (execOp ρ o).run Try.prog g.w = .ok .skip w' ∧ I w' ∧ D 11 w' ∧ ∀ j, D j g.w → D j w' := fun g o ρ ho hp hv => by
    obtain ⟨hb, hL0, hL1, hL2, m0, m1, m2, m3, m4, m5⟩ := (hI _).1 g.is
    obtain ⟨w', hrun, hL', hH, hkeep, hoth, hbel⟩ := run_store_loose 29 (.tmp 42) (.tmp 36) ho (gu) 66 34 ((stv U1)) (#[.int .i64 RB.kind, uv RB.r.b.v, uv RB.r.b.m, uv RB.r.lo, uv RB.r.hi, sv RB.r.sl, sv RB.r.sh, .int .i64 RB.slot, .int .i64 RB.id, .int .i64 RB.low, .int .i64 RB.high] : Array Value) _ hp hv hL2 (size_re _ _ _ _ _ _ _ _ _ _ _) (by rw [stv_size]; simp) (fun i h1 h2 => free2_l h1 (by simpa using h2)) (gl_one RB)
    refine ⟨w', hrun, (hI _).2 ⟨hbel _ _ hb (by first | omega | (simp; omega)), hL0.same (hoth _ (by first | (simp; done) | (simp; omega) | (simp [*]; done) | (simp only [ne_eq]; constructor <;> omega))), hL1.same (hoth _ (by first | (simp; done) | (simp; omega) | (simp [*]; done) | (simp only [ne_eq]; constructor <;> omega))), hL', (hoth _ (by first | (simp; done) | (simp; omega) | (simp [*]; done) | (simp only [ne_eq]; constructor <;> omega))).trans m0, (hoth _ (by first | (simp; done) | (simp; omega) | (simp [*]; done) | (simp only [ne_eq]; constructor <;> omega))).trans m1, (hoth _ (by first | (simp; done) | (simp; omega) | (simp [*]; done) | (simp only [ne_eq]; constructor <;> omega))).trans m2, (hoth _ (by first | (simp; done) | (simp; omega) | (simp [*]; done) | (simp only [ne_eq]; constructor <;> omega))).trans m3, (hoth _ (by first | (simp; done) | (simp; omega) | (simp [*]; done) | (simp only [ne_eq]; constructor <;> omega))).trans m4, (hoth _ (by first | (simp; done) | (simp; omega) | (simp [*]; done) | (simp only [ne_eq]; constructor <;> omega))).trans m5⟩, (hD _ _).2 ?_, fun j hj => (hD _ _).2 ?_⟩
    · exact ⟨fun e => absurd e (by decide), fun e => absurd e (by decide), fun _ => hH⟩
    · have d := (hD _ _).1 hj; exact ⟨fun e => (d.1 e).same (hoth _ (by first | (simp; done) | (simp; omega) | (simp [*]; done) | (simp only [ne_eq]; constructor <;> omega))), fun e => (d.2.1 e).same (hoth _ (by first | (simp; done) | (simp; omega) | (simp [*]; done) | (simp only [ne_eq]; constructor <;> omega))), fun _ => hH⟩
  refine wp_region_mixP I D (fun k => k == 5 || k == 8 || k == 11) (by kernel_rfl) (by kernel_rfl) (by kernel_rfl) hI0 hIg hDg hDt ?_
  have hne_I : Nonempty (In I) := ⟨⟨_, hI0⟩⟩
  clear hIg hDg hDt hI0
  repeat (first | (refine wpMixP_part rfl rfl 29 (.tmp 8) rfl (gd) 0 rfl 29 (#[.int .i64 RD.kind, uv RD.r.b.v, uv RD.r.b.m, uv RD.r.lo, uv RD.r.hi, sv RD.r.sl, sv RD.r.sh, .int .i64 RD.slot, .int .i64 RD.id, .int .i64 RD.low, .int .i64 RD.high]) (#[.int .i64 RD.kind, uv RD.r.b.v, uv RD.r.b.m, uv RD.r.lo, uv RD.r.hi, sv RD.r.sl, sv RD.r.sh, .int .i64 RD.slot, .int .i64 RD.id, .int .i64 RD.low, .int .i64 RD.high]) _ iBd Try.underlying29 rfl (size_re _ _ _ _ _ _ _ _ _ _ _) (part_self _) ?_) | (refine wpMixP_part rfl rfl 29 (.tmp 6) rfl (gb) 0 rfl 29 (#[.int .i64 RB.kind, uv RB.r.b.v, uv RB.r.b.m, uv RB.r.lo, uv RB.r.hi, sv RB.r.sl, sv RB.r.sh, .int .i64 RB.slot, .int .i64 RB.id, .int .i64 RB.low, .int .i64 RB.high]) (#[.int .i64 RB.kind, uv RB.r.b.v, uv RB.r.b.m, uv RB.r.lo, uv RB.r.hi, sv RB.r.sl, sv RB.r.sh, .int .i64 RB.slot, .int .i64 RB.id, .int .i64 RB.low, .int .i64 RB.high]) _ iBb Try.underlying29 rfl (size_re _ _ _ _ _ _ _ _ _ _ _) (part_self _) ?_) | (refine wpMixP_part rfl rfl 29 (.tmp 6) rfl (gb) 0 rfl 29 (#[.int .i64 RB.kind, uv RB.r.b.v, uv RB.r.b.m, uv RB.r.lo, uv RB.r.hi, sv RB.r.sl, sv RB.r.sh, .int .i64 RB.slot, .int .i64 RB.id, .int .i64 RB.low, .int .i64 RB.high]) (#[.int .i64 RB.kind, uv RB.r.b.v, uv RB.r.b.m, uv RB.r.lo, uv RB.r.hi, sv RB.r.sl, sv RB.r.sh, .int .i64 RB.slot, .int .i64 RB.id, .int .i64 RB.low, .int .i64 RB.high]) _ iBb Try.underlying29 rfl (size_re _ _ _ _ _ _ _ _ _ _ _) (part_self _) ?_) | ((with_reducible refine wpMixP_step (fun K hK => ?_)); go_simp; first | ((with_reducible refine hK _ ?_); clear hK K) | (rw [if_neg (by decide)]; (with_reducible refine hK _ ?_); clear hK K) | (refine ⟨⟨rfl, fun g => ?_⟩, hK _ ?_⟩; (exact hS5 g rfl rfl rfl); clear hK K) | (refine ⟨⟨rfl, fun g => ?_⟩, hK _ ?_⟩; (exact hS8 g rfl rfl rfl); clear hK K) | (refine ⟨⟨rfl, fun g => ?_⟩, hK _ ?_⟩; (exact hS11 g rfl rfl rfl); clear hK K)))
  refine wpMixP_nil ?_
  intro w15 hIw hDw
  clear hB hS5 hS8 hS11 iBp iBq iBa iBb iBc iBd
  obtain ⟨hB, hL0, hL1, hL2, Bp, Bq, Ba, Bb, Bc, Bd⟩ := (hI _).1 hIw
  have hBb := hL0.close1 (((hD _ _).1 (hDw 5 (by decide))).1 rfl) (by rw [stv_size]; simp)
  have Bs : Blk w15 (gs) 34 ((stv S2)) := by rw [HS2.out]; exact hBb
  clear hBb hL0
  have hBb := hL1.close1 (((hD _ _).1 (hDw 8 (by decide))).2.1 rfl) (by rw [stv_size]; simp)
  have Bt : Blk w15 (gt) 34 ((stv T2)) := by rw [HT2.out]; exact hBb
  clear hBb hL1
  have hBb := hL2.close1 (((hD _ _).1 (hDw 11 (by decide))).2.2 rfl) (by rw [stv_size]; simp)
  have Bu : Blk w15 (gu) 34 ((stv U2)) := by rw [HU2.out]; exact hBb
  clear hBb hL2
  clear hne_I hIw hDw hI hD I D lp lq la lb lc ld ls lt lu
  have fp := Bp.frozen; have lp := Bp.lt
  have fq := Bq.frozen; have lq := Bq.lt
  have fa := Ba.frozen; have la := Ba.lt
  have fb := Bb.frozen; have lb := Bb.lt
  have fc := Bc.frozen; have lc := Bc.lt
  have fd := Bd.frozen; have ld := Bd.lt
  have fs := Bs.frozen; have ls := Bs.lt
  have ft := Bt.frozen; have lt := Bt.lt
  have fu := Bu.frozen; have lu := Bu.lt
  clear HS1 HT1 HU1 HS2 HT2 HU2
  have hsv := saves_c
  go_wp2_with fail
  refine (hsv _).mono ?_
  rintro e w16 ⟨rfl, hb⟩
  clear  fp lp
  clear  fq lq
  clear  fa la
  clear  fb lb
  clear  fc lc
  clear  fd ld
  clear  fs ls
  clear  ft lt
  clear  fu lu
  replace Bp := (Bp).next hb
  replace Bq := (Bq).next hb
  replace Ba := (Ba).next hb
  replace Bb := (Bb).next hb
  replace Bc := (Bc).next hb
  replace Bd := (Bd).next hb
  replace Bs := (Bs).next hb
  replace Bt := (Bt).next hb
  replace Bu := (Bu).next hb
  replace hB : Below w.heap.size w w16 := by repeat (first | exact hB | (refine Bl_set ?_ (by first | omega | (simp; omega)) _) | apply Bl_alloc | (refine Bl_trans ?_ hb))
  clear hb
  have fp := Bp.frozen; have lp := Bp.lt
  have fq := Bq.frozen; have lq := Bq.lt
  have fa := Ba.frozen; have la := Ba.lt
  have fb := Bb.frozen; have lb := Bb.lt
  have fc := Bc.frozen; have lc := Bc.lt
  have fd := Bd.frozen; have ld := Bd.lt
  have fs := Bs.frozen; have ls := Bs.lt
  have ft := Bt.frozen; have lt := Bt.lt
  have fu := Bu.frozen; have lu := Bu.lt
  clear hsv
  go_wp2_with fail
  refine wp_load_row 34 (.tmp 9) rfl (gs) rfl 34 (stv S2) (0, 0) _ Bs Try.underlying34 rfl (size_st S2) ?_
  go_wp2_with fail
  refine wp_load_row 34 (.tmp 10) rfl (gt) rfl 34 (stv T2) (0, 0) _ Bt Try.underlying34 rfl (size_st T2) ?_
  have k_0 := K0.out; clear K0
  go_wp2_with fail
  refine (k_0 _).mono ?_
  rintro e w17 ⟨rfl, hb⟩
  clear  fp lp
  clear  fq lq
  clear  fa la
  clear  fb lb
  clear  fc lc
  clear  fd ld
  clear  fs ls
  clear  ft lt
  clear  fu lu
  replace Bp := (Bp).next hb
  replace Bq := (Bq).next hb
  replace Ba := (Ba).next hb
  replace Bb := (Bb).next hb
  replace Bc := (Bc).next hb
  replace Bd := (Bd).next hb
  replace Bs := (Bs).next hb
  replace Bt := (Bt).next hb
  replace Bu := (Bu).next hb
  replace hB : Below w.heap.size w w17 := by repeat (first | exact hB | (refine Bl_set ?_ (by first | omega | (simp; omega)) _) | apply Bl_alloc | (refine Bl_trans ?_ hb))
  clear hb
  have fp := Bp.frozen; have lp := Bp.lt
  have fq := Bq.frozen; have lq := Bq.lt
  have fa := Ba.frozen; have la := Ba.lt
  have fb := Bb.frozen; have lb := Bb.lt
  have fc := Bc.frozen; have lc := Bc.lt
  have fd := Bd.frozen; have ld := Bd.lt
  have fs := Bs.frozen; have ls := Bs.lt
  have ft := Bt.frozen; have lt := Bt.lt
  have fu := Bu.frozen; have lu := Bu.lt
  clear k_0
  go_wp2_with fail
  refine wp_load_row 34 (.tmp 10) rfl (gt) rfl 34 (stv T2) (0, 0) _ Bt Try.underlying34 rfl (size_st T2) ?_
  go_wp2_with fail
  refine wp_load_row 34 (.tmp 11) rfl (gu) rfl 34 (stv U2) (0, 0) _ Bu Try.underlying34 rfl (size_st U2) ?_
  have k_1 := K1.out; clear K1
  go_wp2_with fail
  refine (k_1 _).mono ?_
  rintro e w18 ⟨rfl, hb⟩
  clear  fp lp
  clear  fq lq
  clear  fa la
  clear  fb lb
  clear  fc lc
  clear  fd ld
  clear  fs ls
  clear  ft lt
  clear  fu lu
  replace Bp := (Bp).next hb
  replace Bq := (Bq).next hb
  replace Ba := (Ba).next hb
  replace Bb := (Bb).next hb
  replace Bc := (Bc).next hb
  replace Bd := (Bd).next hb
  replace Bs := (Bs).next hb
  replace Bt := (Bt).next hb
  replace Bu := (Bu).next hb
  replace hB : Below w.heap.size w w18 := by repeat (first | exact hB | (refine Bl_set ?_ (by first | omega | (simp; omega)) _) | apply Bl_alloc | (refine Bl_trans ?_ hb))
  clear hb
  have fp := Bp.frozen; have lp := Bp.lt
  have fq := Bq.frozen; have lq := Bq.lt
  have fa := Ba.frozen; have la := Ba.lt
  have fb := Bb.frozen; have lb := Bb.lt
  have fc := Bc.frozen; have lc := Bc.lt
  have fd := Bd.frozen; have ld := Bd.lt
  have fs := Bs.frozen; have ls := Bs.lt
  have ft := Bt.frozen; have lt := Bt.lt
  have fu := Bu.frozen; have lu := Bu.lt
  clear k_1
  go_wp2
  go_ret
  exact ⟨rfl, by repeat (first | exact hB | (refine Bl_set ?_ (by first | omega | (simp; omega)) _) | apply Bl_alloc)⟩
end Go.Proofs.Ytmghpoagpiljhab
