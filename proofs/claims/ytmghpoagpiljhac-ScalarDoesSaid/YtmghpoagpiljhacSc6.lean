/- The walks of package scalar, sixth part: quotient, and what an operation makes of two numbers. -/
import Derived.Test.YtmghpoagpiljhacSc4
set_option linter.unusedSimpArgs false
namespace Go.Proofs.Ytmghpoagpiljhac
open Go.RowKit
open PlainTnum (N)
open PlainScalar (Rng)
theorem T_div (x y : W) : T (x / y) = T x / T y := by unfold T; rw [BitVec.toNat_udiv]; exact Int.natCast_ediv _ _
theorem T_mod (x y : W) : T (x % y) = T x % T y := by unfold T; rw [BitVec.toNat_umod]; exact Int.natCast_emod _ _
@[go_sem] theorem u_quo (x y : W) : IntKind.u64.wrap ((T x).tdiv (T y)) = T (x / y) := by
  have e : (T x).tdiv (T y) = T (x / y) := by rw [T_div, Int.tdiv_eq_ediv_of_nonneg (T_lo x)]
  rw [e, wrap_u, ofInt_T]
@[go_sem] theorem u_rem (x y : W) : (T x).tmod (T y) = T (x % y) := by rw [T_mod, Int.tmod_eq_emod_of_nonneg (T_lo x)]
@[go_sem] theorem u_rem' (x y : W) : IntKind.u64.wrap ((T x).tmod (T y)) = T (x % y) := by rw [u_rem, wrap_u, ofInt_T]
theorem T_pos (x : W) : (0 < T x) = (0 < x.toNat) := by unfold T; exact propext Int.natCast_pos
set_option maxRecDepth 100000 in
set_option maxHeartbeats 3200000 in
theorem squot_c (op : Int) (a b : Rng) (w : World) : Calls Try.prog 45 #[.int .i64 op, rv a, rv b] w fun e w' => e = .returned (rv (PlainScalar.quotient op a b)) ∧ Below w.heap.size w w' := by
  cases q1 : decide (0 < T b.lo)
  · have p1 : ¬ 0 < b.lo.toNat := by have := of_decide_eq_false q1; rwa [T_pos] at this
    by_cases h3 : op = 3
    · have hs : PlainScalar.quotient op a b = PlainScalar.between 0#64 a.hi := by unfold PlainScalar.quotient; rw [if_neg (fun h => p1 h.2.1), if_pos h3]
      go_enter Try.func45, Try.ntmps45
      go_wp2_with fail
      obtain ⟨ga, hga⟩ : ∃ g, g = w.heap.size := ⟨_, rfl⟩
      obtain ⟨gb, hgb⟩ : ∃ g, g = w.heap.size + 1 := ⟨_, rfl⟩
      obtain ⟨gr, hgr⟩ : ∃ g, g = w.heap.size + 1 + 1 := ⟨_, rfl⟩
      have Ba : Blk (((w.alloc (.cells #[uv a.b.v, uv a.b.m, uv a.lo, uv a.hi, sv a.sl, sv a.sh] 39)).alloc (.cells #[uv b.b.v, uv b.b.m, uv b.lo, uv b.hi, sv b.sl, sv b.sh] 39)).alloc (.cells #[.int .u64 0, .int .u64 0, .int .u64 0, .int .u64 0, .int .i64 0, .int .i64 0] 39)) (w.heap.size) 39 #[uv a.b.v, uv a.b.m, uv a.lo, uv a.hi, sv a.sl, sv a.sh] := (((Blk.new w 39 #[uv a.b.v, uv a.b.m, uv a.lo, uv a.hi, sv a.sl, sv a.sh])).alloc _).alloc _
      have Bb : Blk (((w.alloc (.cells #[uv a.b.v, uv a.b.m, uv a.lo, uv a.hi, sv a.sl, sv a.sh] 39)).alloc (.cells #[uv b.b.v, uv b.b.m, uv b.lo, uv b.hi, sv b.sl, sv b.sh] 39)).alloc (.cells #[.int .u64 0, .int .u64 0, .int .u64 0, .int .u64 0, .int .i64 0, .int .i64 0] 39)) (w.heap.size + 1) 39 #[uv b.b.v, uv b.b.m, uv b.lo, uv b.hi, sv b.sl, sv b.sh] := ((by simpa using Blk.new (w.alloc (.cells #[uv a.b.v, uv a.b.m, uv a.lo, uv a.hi, sv a.sl, sv a.sh] 39)) 39 #[uv b.b.v, uv b.b.m, uv b.lo, uv b.hi, sv b.sl, sv b.sh] : Blk _ (w.heap.size + 1) 39 #[uv b.b.v, uv b.b.m, uv b.lo, uv b.hi, sv b.sl, sv b.sh])).alloc _
      have Br : Blk (((w.alloc (.cells #[uv a.b.v, uv a.b.m, uv a.lo, uv a.hi, sv a.sl, sv a.sh] 39)).alloc (.cells #[uv b.b.v, uv b.b.m, uv b.lo, uv b.hi, sv b.sl, sv b.sh] 39)).alloc (.cells #[.int .u64 0, .int .u64 0, .int .u64 0, .int .u64 0, .int .i64 0, .int .i64 0] 39)) (w.heap.size + 1 + 1) 39 #[.int .u64 0, .int .u64 0, .int .u64 0, .int .u64 0, .int .i64 0, .int .i64 0] := (by simpa using Blk.new ((w.alloc (.cells #[uv a.b.v, uv a.b.m, uv a.lo, uv a.hi, sv a.sl, sv a.sh] 39)).alloc (.cells #[uv b.b.v, uv b.b.m, uv b.lo, uv b.hi, sv b.sl, sv b.sh] 39)) 39 #[.int .u64 0, .int .u64 0, .int .u64 0, .int .u64 0, .int .i64 0, .int .i64 0] : Blk _ (w.heap.size + 1 + 1) 39 #[.int .u64 0, .int .u64 0, .int .u64 0, .int .u64 0, .int .i64 0, .int .i64 0])
      have hB : Below w.heap.size w (((w.alloc (.cells #[uv a.b.v, uv a.b.m, uv a.lo, uv a.hi, sv a.sl, sv a.sh] 39)).alloc (.cells #[uv b.b.v, uv b.b.m, uv b.lo, uv b.hi, sv b.sl, sv b.sh] 39)).alloc (.cells #[.int .u64 0, .int .u64 0, .int .u64 0, .int .u64 0, .int .i64 0, .int .i64 0] 39)) := (Bl_alloc (Bl_alloc (Bl_alloc (Bl_refl w) _) _) _)
      clear hga
      clear ga
      clear hgb
      clear gb
      clear hgr
      clear gr
      generalize (((w.alloc (.cells #[uv a.b.v, uv a.b.m, uv a.lo, uv a.hi, sv a.sl, sv a.sh] 39)).alloc (.cells #[uv b.b.v, uv b.b.m, uv b.lo, uv b.hi, sv b.sl, sv b.sh] 39)).alloc (.cells #[.int .u64 0, .int .u64 0, .int .u64 0, .int .u64 0, .int .i64 0, .int .i64 0] 39)) = w1 at *
      have ca0 : w1.cell? ⟨w.heap.size, 0, none⟩ = some (uv a.b.v) := Ba.cell 0
      have ca1 : w1.cell? ⟨w.heap.size, 1, none⟩ = some (uv a.b.m) := Ba.cell 1
      have ca2 : w1.cell? ⟨w.heap.size, 2, none⟩ = some (uv a.lo) := Ba.cell 2
      have ca3 : w1.cell? ⟨w.heap.size, 3, none⟩ = some (uv a.hi) := Ba.cell 3
      have ca4 : w1.cell? ⟨w.heap.size, 4, none⟩ = some (sv a.sl) := Ba.cell 4
      have ca5 : w1.cell? ⟨w.heap.size, 5, none⟩ = some (sv a.sh) := Ba.cell 5
      have fa := Ba.frozen
      have la := Ba.lt
      have cb0 : w1.cell? ⟨w.heap.size + 1, 0, none⟩ = some (uv b.b.v) := Bb.cell 0
      have cb1 : w1.cell? ⟨w.heap.size + 1, 1, none⟩ = some (uv b.b.m) := Bb.cell 1
      have cb2 : w1.cell? ⟨w.heap.size + 1, 2, none⟩ = some (uv b.lo) := Bb.cell 2
      have cb3 : w1.cell? ⟨w.heap.size + 1, 3, none⟩ = some (uv b.hi) := Bb.cell 3
      have cb4 : w1.cell? ⟨w.heap.size + 1, 4, none⟩ = some (sv b.sl) := Bb.cell 4
      have cb5 : w1.cell? ⟨w.heap.size + 1, 5, none⟩ = some (sv b.sh) := Bb.cell 5
      have fb := Bb.frozen
      have lb := Bb.lt
      have cr0 : w1.cell? ⟨w.heap.size + 1 + 1, 0, none⟩ = some (.int .u64 0) := Br.cell 0
      have cr1 : w1.cell? ⟨w.heap.size + 1 + 1, 1, none⟩ = some (.int .u64 0) := Br.cell 1
      have cr2 : w1.cell? ⟨w.heap.size + 1 + 1, 2, none⟩ = some (.int .u64 0) := Br.cell 2
      have cr3 : w1.cell? ⟨w.heap.size + 1 + 1, 3, none⟩ = some (.int .u64 0) := Br.cell 3
      have cr4 : w1.cell? ⟨w.heap.size + 1 + 1, 4, none⟩ = some (.int .i64 0) := Br.cell 4
      have cr5 : w1.cell? ⟨w.heap.size + 1 + 1, 5, none⟩ = some (.int .i64 0) := Br.cell 5
      have fr := Br.frozen
      have lr := Br.lt
      subst h3
      go_wp2_with fail
      refine (between_c 0#64 a.hi _).mono ?_
      rintro e w2 ⟨rfl, hb⟩
      clear ca0 ca1 ca2 ca3 ca4 ca5 fa la
      clear cb0 cb1 cb2 cb3 cb4 cb5 fb lb
      clear cr0 cr1 cr2 cr3 cr4 cr5 fr lr
      replace Ba := (Ba).next hb
      replace Bb := (Bb).next hb
      replace Br := (Br).next hb
      replace hB : Below w.heap.size w w2 := by repeat (first | exact hB | (refine Bl_set ?_ (by first | omega | (simp; omega)) _) | apply Bl_alloc | (refine Bl_trans ?_ hb))
      clear hb
      have ca0 : w2.cell? ⟨w.heap.size, 0, none⟩ = some (uv a.b.v) := Ba.cell 0
      have ca1 : w2.cell? ⟨w.heap.size, 1, none⟩ = some (uv a.b.m) := Ba.cell 1
      have ca2 : w2.cell? ⟨w.heap.size, 2, none⟩ = some (uv a.lo) := Ba.cell 2
      have ca3 : w2.cell? ⟨w.heap.size, 3, none⟩ = some (uv a.hi) := Ba.cell 3
      have ca4 : w2.cell? ⟨w.heap.size, 4, none⟩ = some (sv a.sl) := Ba.cell 4
      have ca5 : w2.cell? ⟨w.heap.size, 5, none⟩ = some (sv a.sh) := Ba.cell 5
      have fa := Ba.frozen
      have la := Ba.lt
      have cb0 : w2.cell? ⟨w.heap.size + 1, 0, none⟩ = some (uv b.b.v) := Bb.cell 0
      have cb1 : w2.cell? ⟨w.heap.size + 1, 1, none⟩ = some (uv b.b.m) := Bb.cell 1
      have cb2 : w2.cell? ⟨w.heap.size + 1, 2, none⟩ = some (uv b.lo) := Bb.cell 2
      have cb3 : w2.cell? ⟨w.heap.size + 1, 3, none⟩ = some (uv b.hi) := Bb.cell 3
      have cb4 : w2.cell? ⟨w.heap.size + 1, 4, none⟩ = some (sv b.sl) := Bb.cell 4
      have cb5 : w2.cell? ⟨w.heap.size + 1, 5, none⟩ = some (sv b.sh) := Bb.cell 5
      have fb := Bb.frozen
      have lb := Bb.lt
      have cr0 : w2.cell? ⟨w.heap.size + 1 + 1, 0, none⟩ = some (.int .u64 0) := Br.cell 0
      have cr1 : w2.cell? ⟨w.heap.size + 1 + 1, 1, none⟩ = some (.int .u64 0) := Br.cell 1
      have cr2 : w2.cell? ⟨w.heap.size + 1 + 1, 2, none⟩ = some (.int .u64 0) := Br.cell 2
      have cr3 : w2.cell? ⟨w.heap.size + 1 + 1, 3, none⟩ = some (.int .u64 0) := Br.cell 3
      have cr4 : w2.cell? ⟨w.heap.size + 1 + 1, 4, none⟩ = some (.int .i64 0) := Br.cell 4
      have cr5 : w2.cell? ⟨w.heap.size + 1 + 1, 5, none⟩ = some (.int .i64 0) := Br.cell 5
      have fr := Br.frozen
      have lr := Br.lt
      go_wp2
      exact bodyPost_ret (v := rv (PlainScalar.between 0#64 a.hi)) (by simp [results, Try.results45, go_sem, cr0, cr1, cr2, cr3, cr4, cr5, lr]) rfl ⟨by rw [hs], by repeat (first | (with_reducible exact hB) | (with_reducible refine Bl_set ?_ (by first | omega | (simp; done) | (simp; omega)) _) | with_reducible apply Bl_alloc)⟩
    · have e3 : (op == 3) = false := by simpa using h3
      have hs : PlainScalar.quotient op a b = PlainScalar.between 0#64 a.hi := by unfold PlainScalar.quotient; rw [if_neg (fun h => h3 h.1), if_neg h3, if_neg p1]
      go_enter Try.func45, Try.ntmps45
      go_wp2_with fail
      obtain ⟨ga, hga⟩ : ∃ g, g = w.heap.size := ⟨_, rfl⟩
      obtain ⟨gb, hgb⟩ : ∃ g, g = w.heap.size + 1 := ⟨_, rfl⟩
      obtain ⟨gr, hgr⟩ : ∃ g, g = w.heap.size + 1 + 1 := ⟨_, rfl⟩
      have Ba : Blk (((w.alloc (.cells #[uv a.b.v, uv a.b.m, uv a.lo, uv a.hi, sv a.sl, sv a.sh] 39)).alloc (.cells #[uv b.b.v, uv b.b.m, uv b.lo, uv b.hi, sv b.sl, sv b.sh] 39)).alloc (.cells #[.int .u64 0, .int .u64 0, .int .u64 0, .int .u64 0, .int .i64 0, .int .i64 0] 39)) (w.heap.size) 39 #[uv a.b.v, uv a.b.m, uv a.lo, uv a.hi, sv a.sl, sv a.sh] := (((Blk.new w 39 #[uv a.b.v, uv a.b.m, uv a.lo, uv a.hi, sv a.sl, sv a.sh])).alloc _).alloc _
      have Bb : Blk (((w.alloc (.cells #[uv a.b.v, uv a.b.m, uv a.lo, uv a.hi, sv a.sl, sv a.sh] 39)).alloc (.cells #[uv b.b.v, uv b.b.m, uv b.lo, uv b.hi, sv b.sl, sv b.sh] 39)).alloc (.cells #[.int .u64 0, .int .u64 0, .int .u64 0, .int .u64 0, .int .i64 0, .int .i64 0] 39)) (w.heap.size + 1) 39 #[uv b.b.v, uv b.b.m, uv b.lo, uv b.hi, sv b.sl, sv b.sh] := ((by simpa using Blk.new (w.alloc (.cells #[uv a.b.v, uv a.b.m, uv a.lo, uv a.hi, sv a.sl, sv a.sh] 39)) 39 #[uv b.b.v, uv b.b.m, uv b.lo, uv b.hi, sv b.sl, sv b.sh] : Blk _ (w.heap.size + 1) 39 #[uv b.b.v, uv b.b.m, uv b.lo, uv b.hi, sv b.sl, sv b.sh])).alloc _
      have Br : Blk (((w.alloc (.cells #[uv a.b.v, uv a.b.m, uv a.lo, uv a.hi, sv a.sl, sv a.sh] 39)).alloc (.cells #[uv b.b.v, uv b.b.m, uv b.lo, uv b.hi, sv b.sl, sv b.sh] 39)).alloc (.cells #[.int .u64 0, .int .u64 0, .int .u64 0, .int .u64 0, .int .i64 0, .int .i64 0] 39)) (w.heap.size + 1 + 1) 39 #[.int .u64 0, .int .u64 0, .int .u64 0, .int .u64 0, .int .i64 0, .int .i64 0] := (by simpa using Blk.new ((w.alloc (.cells #[uv a.b.v, uv a.b.m, uv a.lo, uv a.hi, sv a.sl, sv a.sh] 39)).alloc (.cells #[uv b.b.v, uv b.b.m, uv b.lo, uv b.hi, sv b.sl, sv b.sh] 39)) 39 #[.int .u64 0, .int .u64 0, .int .u64 0, .int .u64 0, .int .i64 0, .int .i64 0] : Blk _ (w.heap.size + 1 + 1) 39 #[.int .u64 0, .int .u64 0, .int .u64 0, .int .u64 0, .int .i64 0, .int .i64 0])
      have hB : Below w.heap.size w (((w.alloc (.cells #[uv a.b.v, uv a.b.m, uv a.lo, uv a.hi, sv a.sl, sv a.sh] 39)).alloc (.cells #[uv b.b.v, uv b.b.m, uv b.lo, uv b.hi, sv b.sl, sv b.sh] 39)).alloc (.cells #[.int .u64 0, .int .u64 0, .int .u64 0, .int .u64 0, .int .i64 0, .int .i64 0] 39)) := (Bl_alloc (Bl_alloc (Bl_alloc (Bl_refl w) _) _) _)
      clear hga
      clear ga
      clear hgb
      clear gb
      clear hgr
      clear gr
      generalize (((w.alloc (.cells #[uv a.b.v, uv a.b.m, uv a.lo, uv a.hi, sv a.sl, sv a.sh] 39)).alloc (.cells #[uv b.b.v, uv b.b.m, uv b.lo, uv b.hi, sv b.sl, sv b.sh] 39)).alloc (.cells #[.int .u64 0, .int .u64 0, .int .u64 0, .int .u64 0, .int .i64 0, .int .i64 0] 39)) = w1 at *
      have ca0 : w1.cell? ⟨w.heap.size, 0, none⟩ = some (uv a.b.v) := Ba.cell 0
      have ca1 : w1.cell? ⟨w.heap.size, 1, none⟩ = some (uv a.b.m) := Ba.cell 1
      have ca2 : w1.cell? ⟨w.heap.size, 2, none⟩ = some (uv a.lo) := Ba.cell 2
      have ca3 : w1.cell? ⟨w.heap.size, 3, none⟩ = some (uv a.hi) := Ba.cell 3
      have ca4 : w1.cell? ⟨w.heap.size, 4, none⟩ = some (sv a.sl) := Ba.cell 4
      have ca5 : w1.cell? ⟨w.heap.size, 5, none⟩ = some (sv a.sh) := Ba.cell 5
      have fa := Ba.frozen
      have la := Ba.lt
      have cb0 : w1.cell? ⟨w.heap.size + 1, 0, none⟩ = some (uv b.b.v) := Bb.cell 0
      have cb1 : w1.cell? ⟨w.heap.size + 1, 1, none⟩ = some (uv b.b.m) := Bb.cell 1
      have cb2 : w1.cell? ⟨w.heap.size + 1, 2, none⟩ = some (uv b.lo) := Bb.cell 2
      have cb3 : w1.cell? ⟨w.heap.size + 1, 3, none⟩ = some (uv b.hi) := Bb.cell 3
      have cb4 : w1.cell? ⟨w.heap.size + 1, 4, none⟩ = some (sv b.sl) := Bb.cell 4
      have cb5 : w1.cell? ⟨w.heap.size + 1, 5, none⟩ = some (sv b.sh) := Bb.cell 5
      have fb := Bb.frozen
      have lb := Bb.lt
      have cr0 : w1.cell? ⟨w.heap.size + 1 + 1, 0, none⟩ = some (.int .u64 0) := Br.cell 0
      have cr1 : w1.cell? ⟨w.heap.size + 1 + 1, 1, none⟩ = some (.int .u64 0) := Br.cell 1
      have cr2 : w1.cell? ⟨w.heap.size + 1 + 1, 2, none⟩ = some (.int .u64 0) := Br.cell 2
      have cr3 : w1.cell? ⟨w.heap.size + 1 + 1, 3, none⟩ = some (.int .u64 0) := Br.cell 3
      have cr4 : w1.cell? ⟨w.heap.size + 1 + 1, 4, none⟩ = some (.int .i64 0) := Br.cell 4
      have cr5 : w1.cell? ⟨w.heap.size + 1 + 1, 5, none⟩ = some (.int .i64 0) := Br.cell 5
      have fr := Br.frozen
      have lr := Br.lt
      go_wp2_with fail
      refine (between_c 0#64 a.hi _).mono ?_
      rintro e w2 ⟨rfl, hb⟩
      clear ca0 ca1 ca2 ca3 ca4 ca5 fa la
      clear cb0 cb1 cb2 cb3 cb4 cb5 fb lb
      clear cr0 cr1 cr2 cr3 cr4 cr5 fr lr
      replace Ba := (Ba).next hb
      replace Bb := (Bb).next hb
      replace Br := (Br).next hb
      replace hB : Below w.heap.size w w2 := by repeat (first | exact hB | (refine Bl_set ?_ (by first | omega | (simp; omega)) _) | apply Bl_alloc | (refine Bl_trans ?_ hb))
      clear hb
      have ca0 : w2.cell? ⟨w.heap.size, 0, none⟩ = some (uv a.b.v) := Ba.cell 0
      have ca1 : w2.cell? ⟨w.heap.size, 1, none⟩ = some (uv a.b.m) := Ba.cell 1
      have ca2 : w2.cell? ⟨w.heap.size, 2, none⟩ = some (uv a.lo) := Ba.cell 2
      have ca3 : w2.cell? ⟨w.heap.size, 3, none⟩ = some (uv a.hi) := Ba.cell 3
      have ca4 : w2.cell? ⟨w.heap.size, 4, none⟩ = some (sv a.sl) := Ba.cell 4
      have ca5 : w2.cell? ⟨w.heap.size, 5, none⟩ = some (sv a.sh) := Ba.cell 5
      have fa := Ba.frozen
      have la := Ba.lt
      have cb0 : w2.cell? ⟨w.heap.size + 1, 0, none⟩ = some (uv b.b.v) := Bb.cell 0
      have cb1 : w2.cell? ⟨w.heap.size + 1, 1, none⟩ = some (uv b.b.m) := Bb.cell 1
      have cb2 : w2.cell? ⟨w.heap.size + 1, 2, none⟩ = some (uv b.lo) := Bb.cell 2
      have cb3 : w2.cell? ⟨w.heap.size + 1, 3, none⟩ = some (uv b.hi) := Bb.cell 3
      have cb4 : w2.cell? ⟨w.heap.size + 1, 4, none⟩ = some (sv b.sl) := Bb.cell 4
      have cb5 : w2.cell? ⟨w.heap.size + 1, 5, none⟩ = some (sv b.sh) := Bb.cell 5
      have fb := Bb.frozen
      have lb := Bb.lt
      have cr0 : w2.cell? ⟨w.heap.size + 1 + 1, 0, none⟩ = some (.int .u64 0) := Br.cell 0
      have cr1 : w2.cell? ⟨w.heap.size + 1 + 1, 1, none⟩ = some (.int .u64 0) := Br.cell 1
      have cr2 : w2.cell? ⟨w.heap.size + 1 + 1, 2, none⟩ = some (.int .u64 0) := Br.cell 2
      have cr3 : w2.cell? ⟨w.heap.size + 1 + 1, 3, none⟩ = some (.int .u64 0) := Br.cell 3
      have cr4 : w2.cell? ⟨w.heap.size + 1 + 1, 4, none⟩ = some (.int .i64 0) := Br.cell 4
      have cr5 : w2.cell? ⟨w.heap.size + 1 + 1, 5, none⟩ = some (.int .i64 0) := Br.cell 5
      have fr := Br.frozen
      have lr := Br.lt
      go_wp2
      exact bodyPost_ret (v := rv (PlainScalar.between 0#64 a.hi)) (by simp [results, Try.results45, go_sem, cr0, cr1, cr2, cr3, cr4, cr5, lr]) rfl ⟨by rw [hs], by repeat (first | (with_reducible exact hB) | (with_reducible refine Bl_set ?_ (by first | omega | (simp; done) | (simp; omega)) _) | with_reducible apply Bl_alloc)⟩
  · have p1 : 0 < b.lo.toNat := by have := of_decide_eq_true q1; rwa [T_pos] at this
    by_cases h3 : op = 3
    · cases q2 : decide (T b.lo ≤ T b.hi)
      · have p2 : ¬ b.lo.toNat ≤ b.hi.toNat := by have := of_decide_eq_false q2; rwa [T_le] at this
        have hs : PlainScalar.quotient op a b = PlainScalar.between 0#64 a.hi := by unfold PlainScalar.quotient; rw [if_neg (fun h => p2 h.2.2), if_pos h3]
        go_enter Try.func45, Try.ntmps45
        go_wp2_with fail
        obtain ⟨ga, hga⟩ : ∃ g, g = w.heap.size := ⟨_, rfl⟩
        obtain ⟨gb, hgb⟩ : ∃ g, g = w.heap.size + 1 := ⟨_, rfl⟩
        obtain ⟨gr, hgr⟩ : ∃ g, g = w.heap.size + 1 + 1 := ⟨_, rfl⟩
        have Ba : Blk (((w.alloc (.cells #[uv a.b.v, uv a.b.m, uv a.lo, uv a.hi, sv a.sl, sv a.sh] 39)).alloc (.cells #[uv b.b.v, uv b.b.m, uv b.lo, uv b.hi, sv b.sl, sv b.sh] 39)).alloc (.cells #[.int .u64 0, .int .u64 0, .int .u64 0, .int .u64 0, .int .i64 0, .int .i64 0] 39)) (w.heap.size) 39 #[uv a.b.v, uv a.b.m, uv a.lo, uv a.hi, sv a.sl, sv a.sh] := (((Blk.new w 39 #[uv a.b.v, uv a.b.m, uv a.lo, uv a.hi, sv a.sl, sv a.sh])).alloc _).alloc _
        have Bb : Blk (((w.alloc (.cells #[uv a.b.v, uv a.b.m, uv a.lo, uv a.hi, sv a.sl, sv a.sh] 39)).alloc (.cells #[uv b.b.v, uv b.b.m, uv b.lo, uv b.hi, sv b.sl, sv b.sh] 39)).alloc (.cells #[.int .u64 0, .int .u64 0, .int .u64 0, .int .u64 0, .int .i64 0, .int .i64 0] 39)) (w.heap.size + 1) 39 #[uv b.b.v, uv b.b.m, uv b.lo, uv b.hi, sv b.sl, sv b.sh] := ((by simpa using Blk.new (w.alloc (.cells #[uv a.b.v, uv a.b.m, uv a.lo, uv a.hi, sv a.sl, sv a.sh] 39)) 39 #[uv b.b.v, uv b.b.m, uv b.lo, uv b.hi, sv b.sl, sv b.sh] : Blk _ (w.heap.size + 1) 39 #[uv b.b.v, uv b.b.m, uv b.lo, uv b.hi, sv b.sl, sv b.sh])).alloc _
        have Br : Blk (((w.alloc (.cells #[uv a.b.v, uv a.b.m, uv a.lo, uv a.hi, sv a.sl, sv a.sh] 39)).alloc (.cells #[uv b.b.v, uv b.b.m, uv b.lo, uv b.hi, sv b.sl, sv b.sh] 39)).alloc (.cells #[.int .u64 0, .int .u64 0, .int .u64 0, .int .u64 0, .int .i64 0, .int .i64 0] 39)) (w.heap.size + 1 + 1) 39 #[.int .u64 0, .int .u64 0, .int .u64 0, .int .u64 0, .int .i64 0, .int .i64 0] := (by simpa using Blk.new ((w.alloc (.cells #[uv a.b.v, uv a.b.m, uv a.lo, uv a.hi, sv a.sl, sv a.sh] 39)).alloc (.cells #[uv b.b.v, uv b.b.m, uv b.lo, uv b.hi, sv b.sl, sv b.sh] 39)) 39 #[.int .u64 0, .int .u64 0, .int .u64 0, .int .u64 0, .int .i64 0, .int .i64 0] : Blk _ (w.heap.size + 1 + 1) 39 #[.int .u64 0, .int .u64 0, .int .u64 0, .int .u64 0, .int .i64 0, .int .i64 0])
        have hB : Below w.heap.size w (((w.alloc (.cells #[uv a.b.v, uv a.b.m, uv a.lo, uv a.hi, sv a.sl, sv a.sh] 39)).alloc (.cells #[uv b.b.v, uv b.b.m, uv b.lo, uv b.hi, sv b.sl, sv b.sh] 39)).alloc (.cells #[.int .u64 0, .int .u64 0, .int .u64 0, .int .u64 0, .int .i64 0, .int .i64 0] 39)) := (Bl_alloc (Bl_alloc (Bl_alloc (Bl_refl w) _) _) _)
        clear hga
        clear ga
        clear hgb
        clear gb
        clear hgr
        clear gr
        generalize (((w.alloc (.cells #[uv a.b.v, uv a.b.m, uv a.lo, uv a.hi, sv a.sl, sv a.sh] 39)).alloc (.cells #[uv b.b.v, uv b.b.m, uv b.lo, uv b.hi, sv b.sl, sv b.sh] 39)).alloc (.cells #[.int .u64 0, .int .u64 0, .int .u64 0, .int .u64 0, .int .i64 0, .int .i64 0] 39)) = w1 at *
        have ca0 : w1.cell? ⟨w.heap.size, 0, none⟩ = some (uv a.b.v) := Ba.cell 0
        have ca1 : w1.cell? ⟨w.heap.size, 1, none⟩ = some (uv a.b.m) := Ba.cell 1
        have ca2 : w1.cell? ⟨w.heap.size, 2, none⟩ = some (uv a.lo) := Ba.cell 2
        have ca3 : w1.cell? ⟨w.heap.size, 3, none⟩ = some (uv a.hi) := Ba.cell 3
        have ca4 : w1.cell? ⟨w.heap.size, 4, none⟩ = some (sv a.sl) := Ba.cell 4
        have ca5 : w1.cell? ⟨w.heap.size, 5, none⟩ = some (sv a.sh) := Ba.cell 5
        have fa := Ba.frozen
        have la := Ba.lt
        have cb0 : w1.cell? ⟨w.heap.size + 1, 0, none⟩ = some (uv b.b.v) := Bb.cell 0
        have cb1 : w1.cell? ⟨w.heap.size + 1, 1, none⟩ = some (uv b.b.m) := Bb.cell 1
        have cb2 : w1.cell? ⟨w.heap.size + 1, 2, none⟩ = some (uv b.lo) := Bb.cell 2
        have cb3 : w1.cell? ⟨w.heap.size + 1, 3, none⟩ = some (uv b.hi) := Bb.cell 3
        have cb4 : w1.cell? ⟨w.heap.size + 1, 4, none⟩ = some (sv b.sl) := Bb.cell 4
        have cb5 : w1.cell? ⟨w.heap.size + 1, 5, none⟩ = some (sv b.sh) := Bb.cell 5
        have fb := Bb.frozen
        have lb := Bb.lt
        have cr0 : w1.cell? ⟨w.heap.size + 1 + 1, 0, none⟩ = some (.int .u64 0) := Br.cell 0
        have cr1 : w1.cell? ⟨w.heap.size + 1 + 1, 1, none⟩ = some (.int .u64 0) := Br.cell 1
        have cr2 : w1.cell? ⟨w.heap.size + 1 + 1, 2, none⟩ = some (.int .u64 0) := Br.cell 2
        have cr3 : w1.cell? ⟨w.heap.size + 1 + 1, 3, none⟩ = some (.int .u64 0) := Br.cell 3
        have cr4 : w1.cell? ⟨w.heap.size + 1 + 1, 4, none⟩ = some (.int .i64 0) := Br.cell 4
        have cr5 : w1.cell? ⟨w.heap.size + 1 + 1, 5, none⟩ = some (.int .i64 0) := Br.cell 5
        have fr := Br.frozen
        have lr := Br.lt
        subst h3
        go_wp2_with fail
        refine (between_c 0#64 a.hi _).mono ?_
        rintro e w2 ⟨rfl, hb⟩
        clear ca0 ca1 ca2 ca3 ca4 ca5 fa la
        clear cb0 cb1 cb2 cb3 cb4 cb5 fb lb
        clear cr0 cr1 cr2 cr3 cr4 cr5 fr lr
        replace Ba := (Ba).next hb
        replace Bb := (Bb).next hb
        replace Br := (Br).next hb
        replace hB : Below w.heap.size w w2 := by repeat (first | exact hB | (refine Bl_set ?_ (by first | omega | (simp; omega)) _) | apply Bl_alloc | (refine Bl_trans ?_ hb))
        clear hb
        have ca0 : w2.cell? ⟨w.heap.size, 0, none⟩ = some (uv a.b.v) := Ba.cell 0
        have ca1 : w2.cell? ⟨w.heap.size, 1, none⟩ = some (uv a.b.m) := Ba.cell 1
        have ca2 : w2.cell? ⟨w.heap.size, 2, none⟩ = some (uv a.lo) := Ba.cell 2
        have ca3 : w2.cell? ⟨w.heap.size, 3, none⟩ = some (uv a.hi) := Ba.cell 3
        have ca4 : w2.cell? ⟨w.heap.size, 4, none⟩ = some (sv a.sl) := Ba.cell 4
        have ca5 : w2.cell? ⟨w.heap.size, 5, none⟩ = some (sv a.sh) := Ba.cell 5
        have fa := Ba.frozen
        have la := Ba.lt
        have cb0 : w2.cell? ⟨w.heap.size + 1, 0, none⟩ = some (uv b.b.v) := Bb.cell 0
        have cb1 : w2.cell? ⟨w.heap.size + 1, 1, none⟩ = some (uv b.b.m) := Bb.cell 1
        have cb2 : w2.cell? ⟨w.heap.size + 1, 2, none⟩ = some (uv b.lo) := Bb.cell 2
        have cb3 : w2.cell? ⟨w.heap.size + 1, 3, none⟩ = some (uv b.hi) := Bb.cell 3
        have cb4 : w2.cell? ⟨w.heap.size + 1, 4, none⟩ = some (sv b.sl) := Bb.cell 4
        have cb5 : w2.cell? ⟨w.heap.size + 1, 5, none⟩ = some (sv b.sh) := Bb.cell 5
        have fb := Bb.frozen
        have lb := Bb.lt
        have cr0 : w2.cell? ⟨w.heap.size + 1 + 1, 0, none⟩ = some (.int .u64 0) := Br.cell 0
        have cr1 : w2.cell? ⟨w.heap.size + 1 + 1, 1, none⟩ = some (.int .u64 0) := Br.cell 1
        have cr2 : w2.cell? ⟨w.heap.size + 1 + 1, 2, none⟩ = some (.int .u64 0) := Br.cell 2
        have cr3 : w2.cell? ⟨w.heap.size + 1 + 1, 3, none⟩ = some (.int .u64 0) := Br.cell 3
        have cr4 : w2.cell? ⟨w.heap.size + 1 + 1, 4, none⟩ = some (.int .i64 0) := Br.cell 4
        have cr5 : w2.cell? ⟨w.heap.size + 1 + 1, 5, none⟩ = some (.int .i64 0) := Br.cell 5
        have fr := Br.frozen
        have lr := Br.lt
        go_wp2
        exact bodyPost_ret (v := rv (PlainScalar.between 0#64 a.hi)) (by simp [results, Try.results45, go_sem, cr0, cr1, cr2, cr3, cr4, cr5, lr]) rfl ⟨by rw [hs], by repeat (first | (with_reducible exact hB) | (with_reducible refine Bl_set ?_ (by first | omega | (simp; done) | (simp; omega)) _) | with_reducible apply Bl_alloc)⟩
      · have p2 : b.lo.toNat ≤ b.hi.toNat := by have := of_decide_eq_true q2; rwa [T_le] at this
        have z1 : ¬ T b.lo = 0 := fun h => by unfold T at h; omega
        have z2 : ¬ T b.hi = 0 := fun h => by unfold T at h; omega
        have hs : PlainScalar.quotient op a b = PlainScalar.between (a.lo / b.hi) (a.hi / b.lo) := by unfold PlainScalar.quotient; rw [if_pos ⟨h3, p1, p2⟩]
        go_enter Try.func45, Try.ntmps45
        go_wp2_with fail
        obtain ⟨ga, hga⟩ : ∃ g, g = w.heap.size := ⟨_, rfl⟩
        obtain ⟨gb, hgb⟩ : ∃ g, g = w.heap.size + 1 := ⟨_, rfl⟩
        obtain ⟨gr, hgr⟩ : ∃ g, g = w.heap.size + 1 + 1 := ⟨_, rfl⟩
        have Ba : Blk (((w.alloc (.cells #[uv a.b.v, uv a.b.m, uv a.lo, uv a.hi, sv a.sl, sv a.sh] 39)).alloc (.cells #[uv b.b.v, uv b.b.m, uv b.lo, uv b.hi, sv b.sl, sv b.sh] 39)).alloc (.cells #[.int .u64 0, .int .u64 0, .int .u64 0, .int .u64 0, .int .i64 0, .int .i64 0] 39)) (w.heap.size) 39 #[uv a.b.v, uv a.b.m, uv a.lo, uv a.hi, sv a.sl, sv a.sh] := (((Blk.new w 39 #[uv a.b.v, uv a.b.m, uv a.lo, uv a.hi, sv a.sl, sv a.sh])).alloc _).alloc _
        have Bb : Blk (((w.alloc (.cells #[uv a.b.v, uv a.b.m, uv a.lo, uv a.hi, sv a.sl, sv a.sh] 39)).alloc (.cells #[uv b.b.v, uv b.b.m, uv b.lo, uv b.hi, sv b.sl, sv b.sh] 39)).alloc (.cells #[.int .u64 0, .int .u64 0, .int .u64 0, .int .u64 0, .int .i64 0, .int .i64 0] 39)) (w.heap.size + 1) 39 #[uv b.b.v, uv b.b.m, uv b.lo, uv b.hi, sv b.sl, sv b.sh] := ((by simpa using Blk.new (w.alloc (.cells #[uv a.b.v, uv a.b.m, uv a.lo, uv a.hi, sv a.sl, sv a.sh] 39)) 39 #[uv b.b.v, uv b.b.m, uv b.lo, uv b.hi, sv b.sl, sv b.sh] : Blk _ (w.heap.size + 1) 39 #[uv b.b.v, uv b.b.m, uv b.lo, uv b.hi, sv b.sl, sv b.sh])).alloc _
        have Br : Blk (((w.alloc (.cells #[uv a.b.v, uv a.b.m, uv a.lo, uv a.hi, sv a.sl, sv a.sh] 39)).alloc (.cells #[uv b.b.v, uv b.b.m, uv b.lo, uv b.hi, sv b.sl, sv b.sh] 39)).alloc (.cells #[.int .u64 0, .int .u64 0, .int .u64 0, .int .u64 0, .int .i64 0, .int .i64 0] 39)) (w.heap.size + 1 + 1) 39 #[.int .u64 0, .int .u64 0, .int .u64 0, .int .u64 0, .int .i64 0, .int .i64 0] := (by simpa using Blk.new ((w.alloc (.cells #[uv a.b.v, uv a.b.m, uv a.lo, uv a.hi, sv a.sl, sv a.sh] 39)).alloc (.cells #[uv b.b.v, uv b.b.m, uv b.lo, uv b.hi, sv b.sl, sv b.sh] 39)) 39 #[.int .u64 0, .int .u64 0, .int .u64 0, .int .u64 0, .int .i64 0, .int .i64 0] : Blk _ (w.heap.size + 1 + 1) 39 #[.int .u64 0, .int .u64 0, .int .u64 0, .int .u64 0, .int .i64 0, .int .i64 0])
        have hB : Below w.heap.size w (((w.alloc (.cells #[uv a.b.v, uv a.b.m, uv a.lo, uv a.hi, sv a.sl, sv a.sh] 39)).alloc (.cells #[uv b.b.v, uv b.b.m, uv b.lo, uv b.hi, sv b.sl, sv b.sh] 39)).alloc (.cells #[.int .u64 0, .int .u64 0, .int .u64 0, .int .u64 0, .int .i64 0, .int .i64 0] 39)) := (Bl_alloc (Bl_alloc (Bl_alloc (Bl_refl w) _) _) _)
        clear hga
        clear ga
        clear hgb
        clear gb
        clear hgr
        clear gr
        generalize (((w.alloc (.cells #[uv a.b.v, uv a.b.m, uv a.lo, uv a.hi, sv a.sl, sv a.sh] 39)).alloc (.cells #[uv b.b.v, uv b.b.m, uv b.lo, uv b.hi, sv b.sl, sv b.sh] 39)).alloc (.cells #[.int .u64 0, .int .u64 0, .int .u64 0, .int .u64 0, .int .i64 0, .int .i64 0] 39)) = w1 at *
        have ca0 : w1.cell? ⟨w.heap.size, 0, none⟩ = some (uv a.b.v) := Ba.cell 0
        have ca1 : w1.cell? ⟨w.heap.size, 1, none⟩ = some (uv a.b.m) := Ba.cell 1
        have ca2 : w1.cell? ⟨w.heap.size, 2, none⟩ = some (uv a.lo) := Ba.cell 2
        have ca3 : w1.cell? ⟨w.heap.size, 3, none⟩ = some (uv a.hi) := Ba.cell 3
        have ca4 : w1.cell? ⟨w.heap.size, 4, none⟩ = some (sv a.sl) := Ba.cell 4
        have ca5 : w1.cell? ⟨w.heap.size, 5, none⟩ = some (sv a.sh) := Ba.cell 5
        have fa := Ba.frozen
        have la := Ba.lt
        have cb0 : w1.cell? ⟨w.heap.size + 1, 0, none⟩ = some (uv b.b.v) := Bb.cell 0
        have cb1 : w1.cell? ⟨w.heap.size + 1, 1, none⟩ = some (uv b.b.m) := Bb.cell 1
        have cb2 : w1.cell? ⟨w.heap.size + 1, 2, none⟩ = some (uv b.lo) := Bb.cell 2
        have cb3 : w1.cell? ⟨w.heap.size + 1, 3, none⟩ = some (uv b.hi) := Bb.cell 3
        have cb4 : w1.cell? ⟨w.heap.size + 1, 4, none⟩ = some (sv b.sl) := Bb.cell 4
        have cb5 : w1.cell? ⟨w.heap.size + 1, 5, none⟩ = some (sv b.sh) := Bb.cell 5
        have fb := Bb.frozen
        have lb := Bb.lt
        have cr0 : w1.cell? ⟨w.heap.size + 1 + 1, 0, none⟩ = some (.int .u64 0) := Br.cell 0
        have cr1 : w1.cell? ⟨w.heap.size + 1 + 1, 1, none⟩ = some (.int .u64 0) := Br.cell 1
        have cr2 : w1.cell? ⟨w.heap.size + 1 + 1, 2, none⟩ = some (.int .u64 0) := Br.cell 2
        have cr3 : w1.cell? ⟨w.heap.size + 1 + 1, 3, none⟩ = some (.int .u64 0) := Br.cell 3
        have cr4 : w1.cell? ⟨w.heap.size + 1 + 1, 4, none⟩ = some (.int .i64 0) := Br.cell 4
        have cr5 : w1.cell? ⟨w.heap.size + 1 + 1, 5, none⟩ = some (.int .i64 0) := Br.cell 5
        have fr := Br.frozen
        have lr := Br.lt
        subst h3
        go_wp2_with fail
        replace ca0 : ∀ g : Later w1, g.w.cell? ⟨w.heap.size, 0, none⟩ = some (uv a.b.v) := fun g => g.cell (Ba.cell 0)
        replace ca1 : ∀ g : Later w1, g.w.cell? ⟨w.heap.size, 1, none⟩ = some (uv a.b.m) := fun g => g.cell (Ba.cell 1)
        replace ca2 : ∀ g : Later w1, g.w.cell? ⟨w.heap.size, 2, none⟩ = some (uv a.lo) := fun g => g.cell (Ba.cell 2)
        replace ca3 : ∀ g : Later w1, g.w.cell? ⟨w.heap.size, 3, none⟩ = some (uv a.hi) := fun g => g.cell (Ba.cell 3)
        replace ca4 : ∀ g : Later w1, g.w.cell? ⟨w.heap.size, 4, none⟩ = some (sv a.sl) := fun g => g.cell (Ba.cell 4)
        replace ca5 : ∀ g : Later w1, g.w.cell? ⟨w.heap.size, 5, none⟩ = some (sv a.sh) := fun g => g.cell (Ba.cell 5)
        replace cb0 : ∀ g : Later w1, g.w.cell? ⟨w.heap.size + 1, 0, none⟩ = some (uv b.b.v) := fun g => g.cell (Bb.cell 0)
        replace cb1 : ∀ g : Later w1, g.w.cell? ⟨w.heap.size + 1, 1, none⟩ = some (uv b.b.m) := fun g => g.cell (Bb.cell 1)
        replace cb2 : ∀ g : Later w1, g.w.cell? ⟨w.heap.size + 1, 2, none⟩ = some (uv b.lo) := fun g => g.cell (Bb.cell 2)
        replace cb3 : ∀ g : Later w1, g.w.cell? ⟨w.heap.size + 1, 3, none⟩ = some (uv b.hi) := fun g => g.cell (Bb.cell 3)
        replace cb4 : ∀ g : Later w1, g.w.cell? ⟨w.heap.size + 1, 4, none⟩ = some (sv b.sl) := fun g => g.cell (Bb.cell 4)
        replace cb5 : ∀ g : Later w1, g.w.cell? ⟨w.heap.size + 1, 5, none⟩ = some (sv b.sh) := fun g => g.cell (Bb.cell 5)
        replace cr0 : ∀ g : Later w1, g.w.cell? ⟨w.heap.size + 1 + 1, 0, none⟩ = some (.int .u64 0) := fun g => g.cell (Br.cell 0)
        replace cr1 : ∀ g : Later w1, g.w.cell? ⟨w.heap.size + 1 + 1, 1, none⟩ = some (.int .u64 0) := fun g => g.cell (Br.cell 1)
        replace cr2 : ∀ g : Later w1, g.w.cell? ⟨w.heap.size + 1 + 1, 2, none⟩ = some (.int .u64 0) := fun g => g.cell (Br.cell 2)
        replace cr3 : ∀ g : Later w1, g.w.cell? ⟨w.heap.size + 1 + 1, 3, none⟩ = some (.int .u64 0) := fun g => g.cell (Br.cell 3)
        replace cr4 : ∀ g : Later w1, g.w.cell? ⟨w.heap.size + 1 + 1, 4, none⟩ = some (.int .i64 0) := fun g => g.cell (Br.cell 4)
        replace cr5 : ∀ g : Later w1, g.w.cell? ⟨w.heap.size + 1 + 1, 5, none⟩ = some (.int .i64 0) := fun g => g.cell (Br.cell 5)
        refine wp_region_mix 11 (fun _ => #[]) (by kernel_rfl) (by kernel_rfl) (no_alloc (by kernel_rfl)) ?_
        simp only [List.take_succ_cons, List.take_zero, List.drop_succ_cons, List.drop_zero]
        repeat (refine wpMix_step (fun K hK => ?_); go_simp; first | (refine hK _ ?_; clear hK K) | (refine ⟨_, fun g => between_c (a.lo / b.hi) (a.hi / b.lo) g.w, hK _ ?_⟩; clear hK K))
        refine wpMix_nil ?_
        intro G w2 hgr hblk hdist
        have hb : Below w1.heap.size w1 w2 := hgr
        replace Ba := Ba.next hb
        replace Bb := Bb.next hb
        replace Br := Br.next hb
        clear ca0 ca1 ca2 ca3 ca4 ca5 fa la
        clear cb0 cb1 cb2 cb3 cb4 cb5 fb lb
        clear cr0 cr1 cr2 cr3 cr4 cr5 fr lr
        replace hB : Below w.heap.size w w2 := Bl_trans hB hb
        simp only [putAll, isAlloc]
        clear hb hgr hblk hdist
        have ca0 : w2.cell? ⟨w.heap.size, 0, none⟩ = some (uv a.b.v) := Ba.cell 0
        have ca1 : w2.cell? ⟨w.heap.size, 1, none⟩ = some (uv a.b.m) := Ba.cell 1
        have ca2 : w2.cell? ⟨w.heap.size, 2, none⟩ = some (uv a.lo) := Ba.cell 2
        have ca3 : w2.cell? ⟨w.heap.size, 3, none⟩ = some (uv a.hi) := Ba.cell 3
        have ca4 : w2.cell? ⟨w.heap.size, 4, none⟩ = some (sv a.sl) := Ba.cell 4
        have ca5 : w2.cell? ⟨w.heap.size, 5, none⟩ = some (sv a.sh) := Ba.cell 5
        have fa := Ba.frozen
        have la := Ba.lt
        have cb0 : w2.cell? ⟨w.heap.size + 1, 0, none⟩ = some (uv b.b.v) := Bb.cell 0
        have cb1 : w2.cell? ⟨w.heap.size + 1, 1, none⟩ = some (uv b.b.m) := Bb.cell 1
        have cb2 : w2.cell? ⟨w.heap.size + 1, 2, none⟩ = some (uv b.lo) := Bb.cell 2
        have cb3 : w2.cell? ⟨w.heap.size + 1, 3, none⟩ = some (uv b.hi) := Bb.cell 3
        have cb4 : w2.cell? ⟨w.heap.size + 1, 4, none⟩ = some (sv b.sl) := Bb.cell 4
        have cb5 : w2.cell? ⟨w.heap.size + 1, 5, none⟩ = some (sv b.sh) := Bb.cell 5
        have fb := Bb.frozen
        have lb := Bb.lt
        have cr0 : w2.cell? ⟨w.heap.size + 1 + 1, 0, none⟩ = some (.int .u64 0) := Br.cell 0
        have cr1 : w2.cell? ⟨w.heap.size + 1 + 1, 1, none⟩ = some (.int .u64 0) := Br.cell 1
        have cr2 : w2.cell? ⟨w.heap.size + 1 + 1, 2, none⟩ = some (.int .u64 0) := Br.cell 2
        have cr3 : w2.cell? ⟨w.heap.size + 1 + 1, 3, none⟩ = some (.int .u64 0) := Br.cell 3
        have cr4 : w2.cell? ⟨w.heap.size + 1 + 1, 4, none⟩ = some (.int .i64 0) := Br.cell 4
        have cr5 : w2.cell? ⟨w.heap.size + 1 + 1, 5, none⟩ = some (.int .i64 0) := Br.cell 5
        have fr := Br.frozen
        have lr := Br.lt
        go_wp2
        exact bodyPost_ret (v := rv (PlainScalar.between (a.lo / b.hi) (a.hi / b.lo))) (by simp [results, Try.results45, go_sem, cr0, cr1, cr2, cr3, cr4, cr5, lr]) rfl ⟨by rw [hs], by repeat (first | (with_reducible exact hB) | (with_reducible refine Bl_set ?_ (by first | omega | (simp; done) | (simp; omega)) _) | with_reducible apply Bl_alloc)⟩
    · have e3 : (op == 3) = false := by simpa using h3
      have hs : PlainScalar.quotient op a b = PlainScalar.between 0#64 (PlainScalar.minU a.hi (b.hi - 1#64)) := by unfold PlainScalar.quotient; rw [if_neg (fun h => h3 h.1), if_neg h3, if_pos p1]
      go_enter Try.func45, Try.ntmps45
      go_wp2_with fail
      obtain ⟨ga, hga⟩ : ∃ g, g = w.heap.size := ⟨_, rfl⟩
      obtain ⟨gb, hgb⟩ : ∃ g, g = w.heap.size + 1 := ⟨_, rfl⟩
      obtain ⟨gr, hgr⟩ : ∃ g, g = w.heap.size + 1 + 1 := ⟨_, rfl⟩
      have Ba : Blk (((w.alloc (.cells #[uv a.b.v, uv a.b.m, uv a.lo, uv a.hi, sv a.sl, sv a.sh] 39)).alloc (.cells #[uv b.b.v, uv b.b.m, uv b.lo, uv b.hi, sv b.sl, sv b.sh] 39)).alloc (.cells #[.int .u64 0, .int .u64 0, .int .u64 0, .int .u64 0, .int .i64 0, .int .i64 0] 39)) (w.heap.size) 39 #[uv a.b.v, uv a.b.m, uv a.lo, uv a.hi, sv a.sl, sv a.sh] := (((Blk.new w 39 #[uv a.b.v, uv a.b.m, uv a.lo, uv a.hi, sv a.sl, sv a.sh])).alloc _).alloc _
      have Bb : Blk (((w.alloc (.cells #[uv a.b.v, uv a.b.m, uv a.lo, uv a.hi, sv a.sl, sv a.sh] 39)).alloc (.cells #[uv b.b.v, uv b.b.m, uv b.lo, uv b.hi, sv b.sl, sv b.sh] 39)).alloc (.cells #[.int .u64 0, .int .u64 0, .int .u64 0, .int .u64 0, .int .i64 0, .int .i64 0] 39)) (w.heap.size + 1) 39 #[uv b.b.v, uv b.b.m, uv b.lo, uv b.hi, sv b.sl, sv b.sh] := ((by simpa using Blk.new (w.alloc (.cells #[uv a.b.v, uv a.b.m, uv a.lo, uv a.hi, sv a.sl, sv a.sh] 39)) 39 #[uv b.b.v, uv b.b.m, uv b.lo, uv b.hi, sv b.sl, sv b.sh] : Blk _ (w.heap.size + 1) 39 #[uv b.b.v, uv b.b.m, uv b.lo, uv b.hi, sv b.sl, sv b.sh])).alloc _
      have Br : Blk (((w.alloc (.cells #[uv a.b.v, uv a.b.m, uv a.lo, uv a.hi, sv a.sl, sv a.sh] 39)).alloc (.cells #[uv b.b.v, uv b.b.m, uv b.lo, uv b.hi, sv b.sl, sv b.sh] 39)).alloc (.cells #[.int .u64 0, .int .u64 0, .int .u64 0, .int .u64 0, .int .i64 0, .int .i64 0] 39)) (w.heap.size + 1 + 1) 39 #[.int .u64 0, .int .u64 0, .int .u64 0, .int .u64 0, .int .i64 0, .int .i64 0] := (by simpa using Blk.new ((w.alloc (.cells #[uv a.b.v, uv a.b.m, uv a.lo, uv a.hi, sv a.sl, sv a.sh] 39)).alloc (.cells #[uv b.b.v, uv b.b.m, uv b.lo, uv b.hi, sv b.sl, sv b.sh] 39)) 39 #[.int .u64 0, .int .u64 0, .int .u64 0, .int .u64 0, .int .i64 0, .int .i64 0] : Blk _ (w.heap.size + 1 + 1) 39 #[.int .u64 0, .int .u64 0, .int .u64 0, .int .u64 0, .int .i64 0, .int .i64 0])
      have hB : Below w.heap.size w (((w.alloc (.cells #[uv a.b.v, uv a.b.m, uv a.lo, uv a.hi, sv a.sl, sv a.sh] 39)).alloc (.cells #[uv b.b.v, uv b.b.m, uv b.lo, uv b.hi, sv b.sl, sv b.sh] 39)).alloc (.cells #[.int .u64 0, .int .u64 0, .int .u64 0, .int .u64 0, .int .i64 0, .int .i64 0] 39)) := (Bl_alloc (Bl_alloc (Bl_alloc (Bl_refl w) _) _) _)
      clear hga
      clear ga
      clear hgb
      clear gb
      clear hgr
      clear gr
      generalize (((w.alloc (.cells #[uv a.b.v, uv a.b.m, uv a.lo, uv a.hi, sv a.sl, sv a.sh] 39)).alloc (.cells #[uv b.b.v, uv b.b.m, uv b.lo, uv b.hi, sv b.sl, sv b.sh] 39)).alloc (.cells #[.int .u64 0, .int .u64 0, .int .u64 0, .int .u64 0, .int .i64 0, .int .i64 0] 39)) = w1 at *
      have ca0 : w1.cell? ⟨w.heap.size, 0, none⟩ = some (uv a.b.v) := Ba.cell 0
      have ca1 : w1.cell? ⟨w.heap.size, 1, none⟩ = some (uv a.b.m) := Ba.cell 1
      have ca2 : w1.cell? ⟨w.heap.size, 2, none⟩ = some (uv a.lo) := Ba.cell 2
      have ca3 : w1.cell? ⟨w.heap.size, 3, none⟩ = some (uv a.hi) := Ba.cell 3
      have ca4 : w1.cell? ⟨w.heap.size, 4, none⟩ = some (sv a.sl) := Ba.cell 4
      have ca5 : w1.cell? ⟨w.heap.size, 5, none⟩ = some (sv a.sh) := Ba.cell 5
      have fa := Ba.frozen
      have la := Ba.lt
      have cb0 : w1.cell? ⟨w.heap.size + 1, 0, none⟩ = some (uv b.b.v) := Bb.cell 0
      have cb1 : w1.cell? ⟨w.heap.size + 1, 1, none⟩ = some (uv b.b.m) := Bb.cell 1
      have cb2 : w1.cell? ⟨w.heap.size + 1, 2, none⟩ = some (uv b.lo) := Bb.cell 2
      have cb3 : w1.cell? ⟨w.heap.size + 1, 3, none⟩ = some (uv b.hi) := Bb.cell 3
      have cb4 : w1.cell? ⟨w.heap.size + 1, 4, none⟩ = some (sv b.sl) := Bb.cell 4
      have cb5 : w1.cell? ⟨w.heap.size + 1, 5, none⟩ = some (sv b.sh) := Bb.cell 5
      have fb := Bb.frozen
      have lb := Bb.lt
      have cr0 : w1.cell? ⟨w.heap.size + 1 + 1, 0, none⟩ = some (.int .u64 0) := Br.cell 0
      have cr1 : w1.cell? ⟨w.heap.size + 1 + 1, 1, none⟩ = some (.int .u64 0) := Br.cell 1
      have cr2 : w1.cell? ⟨w.heap.size + 1 + 1, 2, none⟩ = some (.int .u64 0) := Br.cell 2
      have cr3 : w1.cell? ⟨w.heap.size + 1 + 1, 3, none⟩ = some (.int .u64 0) := Br.cell 3
      have cr4 : w1.cell? ⟨w.heap.size + 1 + 1, 4, none⟩ = some (.int .i64 0) := Br.cell 4
      have cr5 : w1.cell? ⟨w.heap.size + 1 + 1, 5, none⟩ = some (.int .i64 0) := Br.cell 5
      have fr := Br.frozen
      have lr := Br.lt
      go_wp2_with fail
      refine (between_c 0#64 (PlainScalar.minU a.hi (b.hi - 1#64)) _).mono ?_
      rintro e w2 ⟨rfl, hb⟩
      clear ca0 ca1 ca2 ca3 ca4 ca5 fa la
      clear cb0 cb1 cb2 cb3 cb4 cb5 fb lb
      clear cr0 cr1 cr2 cr3 cr4 cr5 fr lr
      replace Ba := (Ba).next hb
      replace Bb := (Bb).next hb
      replace Br := (Br).next hb
      replace hB : Below w.heap.size w w2 := by repeat (first | exact hB | (refine Bl_set ?_ (by first | omega | (simp; omega)) _) | apply Bl_alloc | (refine Bl_trans ?_ hb))
      clear hb
      have ca0 : w2.cell? ⟨w.heap.size, 0, none⟩ = some (uv a.b.v) := Ba.cell 0
      have ca1 : w2.cell? ⟨w.heap.size, 1, none⟩ = some (uv a.b.m) := Ba.cell 1
      have ca2 : w2.cell? ⟨w.heap.size, 2, none⟩ = some (uv a.lo) := Ba.cell 2
      have ca3 : w2.cell? ⟨w.heap.size, 3, none⟩ = some (uv a.hi) := Ba.cell 3
      have ca4 : w2.cell? ⟨w.heap.size, 4, none⟩ = some (sv a.sl) := Ba.cell 4
      have ca5 : w2.cell? ⟨w.heap.size, 5, none⟩ = some (sv a.sh) := Ba.cell 5
      have fa := Ba.frozen
      have la := Ba.lt
      have cb0 : w2.cell? ⟨w.heap.size + 1, 0, none⟩ = some (uv b.b.v) := Bb.cell 0
      have cb1 : w2.cell? ⟨w.heap.size + 1, 1, none⟩ = some (uv b.b.m) := Bb.cell 1
      have cb2 : w2.cell? ⟨w.heap.size + 1, 2, none⟩ = some (uv b.lo) := Bb.cell 2
      have cb3 : w2.cell? ⟨w.heap.size + 1, 3, none⟩ = some (uv b.hi) := Bb.cell 3
      have cb4 : w2.cell? ⟨w.heap.size + 1, 4, none⟩ = some (sv b.sl) := Bb.cell 4
      have cb5 : w2.cell? ⟨w.heap.size + 1, 5, none⟩ = some (sv b.sh) := Bb.cell 5
      have fb := Bb.frozen
      have lb := Bb.lt
      have cr0 : w2.cell? ⟨w.heap.size + 1 + 1, 0, none⟩ = some (.int .u64 0) := Br.cell 0
      have cr1 : w2.cell? ⟨w.heap.size + 1 + 1, 1, none⟩ = some (.int .u64 0) := Br.cell 1
      have cr2 : w2.cell? ⟨w.heap.size + 1 + 1, 2, none⟩ = some (.int .u64 0) := Br.cell 2
      have cr3 : w2.cell? ⟨w.heap.size + 1 + 1, 3, none⟩ = some (.int .u64 0) := Br.cell 3
      have cr4 : w2.cell? ⟨w.heap.size + 1 + 1, 4, none⟩ = some (.int .i64 0) := Br.cell 4
      have cr5 : w2.cell? ⟨w.heap.size + 1 + 1, 5, none⟩ = some (.int .i64 0) := Br.cell 5
      have fr := Br.frozen
      have lr := Br.lt
      go_wp2
      exact bodyPost_ret (v := rv (PlainScalar.between 0#64 (PlainScalar.minU a.hi (b.hi - 1#64)))) (by simp [results, Try.results45, go_sem, cr0, cr1, cr2, cr3, cr4, cr5, lr]) rfl ⟨by rw [hs], by repeat (first | (with_reducible exact hB) | (with_reducible refine Bl_set ?_ (by first | omega | (simp; done) | (simp; omega)) _) | with_reducible apply Bl_alloc)⟩
set_option maxHeartbeats 3200000 in
theorem splain_c (op : Int) (x y : W) (w : World) : Calls Try.prog 40 #[.int .i64 op, uv x, uv y] w fun e w' => e = .returned (uv (PlainScalar.plain op x y)) ∧ Below w.heap.size w w' := by
  by_cases h0 : op = 0
  · subst h0
    go_enter Try.func40, Try.ntmps40
    go_wp2
    go_ret
    exact ⟨by rw [show PlainScalar.plain 0 x y = x + y by rfl]; rfl, (by repeat (first | exact Bl_refl _ | apply Bl_alloc | apply Bl_drew | apply Bl_drewN | (refine Bl_set ?_ (by first | omega | (simp; done) | (simp; omega)) _) | (refine Bl_trans ?_ (by assumption))))⟩
  by_cases h1 : op = 1
  · subst h1
    go_enter Try.func40, Try.ntmps40
    go_wp2
    go_ret
    exact ⟨by rw [show PlainScalar.plain 1 x y = x - y by rfl]; rfl, (by repeat (first | exact Bl_refl _ | apply Bl_alloc | apply Bl_drew | apply Bl_drewN | (refine Bl_set ?_ (by first | omega | (simp; done) | (simp; omega)) _) | (refine Bl_trans ?_ (by assumption))))⟩
  by_cases h2 : op = 2
  · subst h2
    go_enter Try.func40, Try.ntmps40
    go_wp2
    go_ret
    exact ⟨by rw [show PlainScalar.plain 2 x y = x * y by rfl]; rfl, (by repeat (first | exact Bl_refl _ | apply Bl_alloc | apply Bl_drew | apply Bl_drewN | (refine Bl_set ?_ (by first | omega | (simp; done) | (simp; omega)) _) | (refine Bl_trans ?_ (by assumption))))⟩
  by_cases h4 : op = 4
  · subst h4
    go_enter Try.func40, Try.ntmps40
    go_wp2
    go_ret
    exact ⟨by rw [show PlainScalar.plain 4 x y = x ||| y by rfl]; rfl, (by repeat (first | exact Bl_refl _ | apply Bl_alloc | apply Bl_drew | apply Bl_drewN | (refine Bl_set ?_ (by first | omega | (simp; done) | (simp; omega)) _) | (refine Bl_trans ?_ (by assumption))))⟩
  by_cases h5 : op = 5
  · subst h5
    go_enter Try.func40, Try.ntmps40
    go_wp2
    go_ret
    exact ⟨by rw [show PlainScalar.plain 5 x y = x &&& y by rfl]; rfl, (by repeat (first | exact Bl_refl _ | apply Bl_alloc | apply Bl_drew | apply Bl_drewN | (refine Bl_set ?_ (by first | omega | (simp; done) | (simp; omega)) _) | (refine Bl_trans ?_ (by assumption))))⟩
  by_cases h8 : op = 8
  · subst h8
    go_enter Try.func40, Try.ntmps40
    go_wp2
    go_ret
    exact ⟨by rw [show PlainScalar.plain 8 x y = -x by rfl]; rfl, (by repeat (first | exact Bl_refl _ | apply Bl_alloc | apply Bl_drew | apply Bl_drewN | (refine Bl_set ?_ (by first | omega | (simp; done) | (simp; omega)) _) | (refine Bl_trans ?_ (by assumption))))⟩
  by_cases h10 : op = 10
  · subst h10
    go_enter Try.func40, Try.ntmps40
    go_wp2
    go_ret
    exact ⟨by rw [show PlainScalar.plain 10 x y = x ^^^ y by rfl]; rfl, (by repeat (first | exact Bl_refl _ | apply Bl_alloc | apply Bl_drew | apply Bl_drewN | (refine Bl_set ?_ (by first | omega | (simp; done) | (simp; omega)) _) | (refine Bl_trans ?_ (by assumption))))⟩
  by_cases h11 : op = 11
  · subst h11
    go_enter Try.func40, Try.ntmps40
    go_wp2
    go_ret
    exact ⟨by rw [show PlainScalar.plain 11 x y = y by rfl]; rfl, (by repeat (first | exact Bl_refl _ | apply Bl_alloc | apply Bl_drew | apply Bl_drewN | (refine Bl_set ?_ (by first | omega | (simp; done) | (simp; omega)) _) | (refine Bl_trans ?_ (by assumption))))⟩
  by_cases hy : y = 0#64
  · have hz : T y = 0 := by rw [hy]; rfl
    by_cases h3 : op = 3
    · subst h3
      go_enter Try.func40, Try.ntmps40
      go_wp2
      go_ret
      exact ⟨by rw [show PlainScalar.plain 3 x y = 0#64 by unfold PlainScalar.plain; simp [hy]]; rfl, (by repeat (first | exact Bl_refl _ | apply Bl_alloc | apply Bl_drew | apply Bl_drewN | (refine Bl_set ?_ (by first | omega | (simp; done) | (simp; omega)) _) | (refine Bl_trans ?_ (by assumption))))⟩
    by_cases h9 : op = 9
    · subst h9
      go_enter Try.func40, Try.ntmps40
      go_wp2
      go_ret
      exact ⟨by rw [show PlainScalar.plain 9 x y = x by unfold PlainScalar.plain; simp [hy]]; rfl, (by repeat (first | exact Bl_refl _ | apply Bl_alloc | apply Bl_drew | apply Bl_drewN | (refine Bl_set ?_ (by first | omega | (simp; done) | (simp; omega)) _) | (refine Bl_trans ?_ (by assumption))))⟩
    have e0 : (op == 0) = false := by simpa using h0
    have e1 : (op == 1) = false := by simpa using h1
    have e2 : (op == 2) = false := by simpa using h2
    have e4 : (op == 4) = false := by simpa using h4
    have e5 : (op == 5) = false := by simpa using h5
    have e8 : (op == 8) = false := by simpa using h8
    have e10 : (op == 10) = false := by simpa using h10
    have e11 : (op == 11) = false := by simpa using h11
    have e3 : (op == 3) = false := by simpa using h3
    have e9 : (op == 9) = false := by simpa using h9
    go_enter Try.func40, Try.ntmps40
    go_wp2
    go_ret
    exact ⟨by rw [show PlainScalar.plain op x y = 0#64 by unfold PlainScalar.plain; simp only [h0, h1, h2, h4, h5, h8, h10, h11, h3, h9, if_false]]; rfl, (by repeat (first | exact Bl_refl _ | apply Bl_alloc | apply Bl_drew | apply Bl_drewN | (refine Bl_set ?_ (by first | omega | (simp; done) | (simp; omega)) _) | (refine Bl_trans ?_ (by assumption))))⟩
  · have hz : ¬ T y = 0 := fun h => hy (T_inj h)
    by_cases h3 : op = 3
    · subst h3
      go_enter Try.func40, Try.ntmps40
      go_wp2
      go_ret
      exact ⟨by rw [show PlainScalar.plain 3 x y = x / y by unfold PlainScalar.plain; simp [hy]]; rfl, (by repeat (first | exact Bl_refl _ | apply Bl_alloc | apply Bl_drew | apply Bl_drewN | (refine Bl_set ?_ (by first | omega | (simp; done) | (simp; omega)) _) | (refine Bl_trans ?_ (by assumption))))⟩
    by_cases h9 : op = 9
    · subst h9
      go_enter Try.func40, Try.ntmps40
      go_wp2
      go_ret
      exact ⟨by rw [show PlainScalar.plain 9 x y = x % y by unfold PlainScalar.plain; simp [hy]]; rfl, (by repeat (first | exact Bl_refl _ | apply Bl_alloc | apply Bl_drew | apply Bl_drewN | (refine Bl_set ?_ (by first | omega | (simp; done) | (simp; omega)) _) | (refine Bl_trans ?_ (by assumption))))⟩
    have e0 : (op == 0) = false := by simpa using h0
    have e1 : (op == 1) = false := by simpa using h1
    have e2 : (op == 2) = false := by simpa using h2
    have e4 : (op == 4) = false := by simpa using h4
    have e5 : (op == 5) = false := by simpa using h5
    have e8 : (op == 8) = false := by simpa using h8
    have e10 : (op == 10) = false := by simpa using h10
    have e11 : (op == 11) = false := by simpa using h11
    have e3 : (op == 3) = false := by simpa using h3
    have e9 : (op == 9) = false := by simpa using h9
    go_enter Try.func40, Try.ntmps40
    go_wp2
    go_ret
    exact ⟨by rw [show PlainScalar.plain op x y = 0#64 by unfold PlainScalar.plain; simp only [h0, h1, h2, h4, h5, h8, h10, h11, h3, h9, if_false]]; rfl, (by repeat (first | exact Bl_refl _ | apply Bl_alloc | apply Bl_drew | apply Bl_drewN | (refine Bl_set ?_ (by first | omega | (simp; done) | (simp; omega)) _) | (refine Bl_trans ?_ (by assumption))))⟩
@[go_sem] theorem S_sar (x : W) (k : Nat) : S x / 2 ^ k = S (x.sshiftRight k) := by
  unfold S; rw [BitVec.toInt_sshiftRight, Int.shiftRight_eq_div_pow]; rfl
@[go_sem] theorem i32_of_u (x : W) : wrap32 (T x) = S ((x.setWidth 32).signExtend 64) := by
  unfold S T
  rw [BitVec.toInt_signExtend_of_le (by decide), BitVec.toInt_eq_toNat_cond, BitVec.toNat_setWidth]
  unfold wrap32
  have := x.isLt
  split <;> omega
theorem u_rem64 (x : W) : (T x).tmod 64 = ((x.toNat % 64 : Nat) : Int) := by rw [Int.tmod_eq_emod_of_nonneg (T_lo x)]; unfold T; omega
theorem u_rem32 (x : W) : (T x).tmod 32 = ((x.toNat % 32 : Nat) : Int) := by rw [Int.tmod_eq_emod_of_nonneg (T_lo x)]; unfold T; omega
set_option maxHeartbeats 3200000 in
theorem sshift_c (op : Int) (l : Bool) (x y : W) (w : World) : Calls Try.prog 39 #[.int .i64 op, .bool l, uv x, uv y] w fun e w' => e = .returned (uv (PlainScalar.shift op l x y)) ∧ Below w.heap.size w w' := by
  cases l
  · have r64 := u_rem64 y
    have r32 := u_rem32 y
    by_cases h6 : op = 6
    · subst h6
      go_enter Try.func39, Try.ntmps39
      go_wp2
      go_ret
      exact ⟨by rw [show PlainScalar.shift 6 false x y = x <<< (y.toNat % 32) by rfl]; rfl, (by repeat (first | exact Bl_refl _ | apply Bl_alloc | apply Bl_drew | apply Bl_drewN | (refine Bl_set ?_ (by first | omega | (simp; done) | (simp; omega)) _) | (refine Bl_trans ?_ (by assumption))))⟩
    by_cases h7 : op = 7
    · subst h7
      go_enter Try.func39, Try.ntmps39
      go_wp2
      go_ret
      exact ⟨by rw [show PlainScalar.shift 7 false x y = x >>> (y.toNat % 32) by rfl]; rfl, (by repeat (first | exact Bl_refl _ | apply Bl_alloc | apply Bl_drew | apply Bl_drewN | (refine Bl_set ?_ (by first | omega | (simp; done) | (simp; omega)) _) | (refine Bl_trans ?_ (by assumption))))⟩
    have e6 : (op == 6) = false := by simpa using h6
    have e7 : (op == 7) = false := by simpa using h7
    have hs : PlainScalar.shift op false x y = PlainScalar.sar32 x (y.toNat % 32) := by unfold PlainScalar.shift; simp only [h6, h7, if_false, if_true, Bool.false_eq_true]; rfl
    go_enter Try.func39, Try.ntmps39
    go_wp2
    go_ret
    exact ⟨by rw [hs]; rfl, (by repeat (first | exact Bl_refl _ | apply Bl_alloc | apply Bl_drew | apply Bl_drewN | (refine Bl_set ?_ (by first | omega | (simp; done) | (simp; omega)) _) | (refine Bl_trans ?_ (by assumption))))⟩
  · have r64 := u_rem64 y
    have r32 := u_rem32 y
    by_cases h6 : op = 6
    · subst h6
      go_enter Try.func39, Try.ntmps39
      go_wp2
      go_ret
      exact ⟨by rw [show PlainScalar.shift 6 true x y = x <<< (y.toNat % 64) by rfl]; rfl, (by repeat (first | exact Bl_refl _ | apply Bl_alloc | apply Bl_drew | apply Bl_drewN | (refine Bl_set ?_ (by first | omega | (simp; done) | (simp; omega)) _) | (refine Bl_trans ?_ (by assumption))))⟩
    by_cases h7 : op = 7
    · subst h7
      go_enter Try.func39, Try.ntmps39
      go_wp2
      go_ret
      exact ⟨by rw [show PlainScalar.shift 7 true x y = x >>> (y.toNat % 64) by rfl]; rfl, (by repeat (first | exact Bl_refl _ | apply Bl_alloc | apply Bl_drew | apply Bl_drewN | (refine Bl_set ?_ (by first | omega | (simp; done) | (simp; omega)) _) | (refine Bl_trans ?_ (by assumption))))⟩
    have e6 : (op == 6) = false := by simpa using h6
    have e7 : (op == 7) = false := by simpa using h7
    have hs : PlainScalar.shift op true x y = x.sshiftRight (y.toNat % 64) := by unfold PlainScalar.shift; simp only [h6, h7, if_false, if_true, Bool.false_eq_true]; rfl
    go_enter Try.func39, Try.ntmps39
    go_wp2
    go_ret
    exact ⟨by rw [hs]; rfl, (by repeat (first | exact Bl_refl _ | apply Bl_alloc | apply Bl_drew | apply Bl_drewN | (refine Bl_set ?_ (by first | omega | (simp; done) | (simp; omega)) _) | (refine Bl_trans ?_ (by assumption))))⟩
end Go.Proofs.Ytmghpoagpiljhac
