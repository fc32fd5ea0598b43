/- The walks of package scalar, fifth part: sum, difference, product. -/
import Derived.Test.YtmghpoagpiljhacSc4
import Derived.Test.YtmghpoagpiljhacMixS
import Derived.Test.YtmghpoagpiljhacMul
import Derived.Laws.Externs
set_option linter.unusedSimpArgs false
namespace Go.Proofs.Ytmghpoagpiljhac
open Go.RowKit
open PlainTnum (N)
open PlainScalar (Rng)
theorem add64_run (x y : W) (w : World) : (callFunc 52 #[uv x, uv y, .int .u64 0]).run Try.prog w = .ok (.value (.tuple #[uv (x + y), .int .u64 (((x.toNat + y.toNat) / 18446744073709551616 : Nat) : Int)])) w := by
  have hx : T x < 18446744073709551616 := by have := x.isLt; unfold T; omega
  have hy : T y < 18446744073709551616 := by have := y.isLt; unfold T; omega
  unfold uv
  rw [run_callFunc_extern Try.func52 (by kernel_rfl) (by kernel_rfl) (by kernel_rfl) (e := add64Entry) (by kernel_rfl), run_add64 (T x) (T y) 0 (by unfold T; omega) (by unfold T; omega) (by decide) (by decide)]
  simp only [Result.andThen]
  have e1 : T (x + y) = (T x + T y) % 18446744073709551616 := by unfold T; rw [BitVec.toNat_add]; omega
  rw [e1]
  unfold T
  congr 5 <;> omega
theorem mul64_no (x y : W) (h : x.toNat * y.toNat < 18446744073709551616) (w : World) : Calls Try.prog 55 #[uv x, uv y] w fun e w' => e = .returned (.tuple #[.int .u64 0, uv (x * y)]) ∧ w = w' := by
  have := mul64_c x y w
  rw [Nat.div_eq_of_lt h] at this
  exact this
theorem mul64_yes (x y : W) (h : ¬ x.toNat * y.toNat < 18446744073709551616) : (T (BitVec.ofNat 64 (x.toNat * y.toNat / 18446744073709551616)) == 0) = false := by
  rw [T_beq0]
  have hl := Nat.mul_lt_mul'' x.isLt y.isLt
  have h1 : x.toNat * y.toNat / 18446744073709551616 < 18446744073709551616 := (Nat.div_lt_iff_lt_mul (by decide)).2 hl
  have h2 : 0 < x.toNat * y.toNat / 18446744073709551616 := Nat.div_pos (by omega) (by decide)
  have : BitVec.ofNat 64 (x.toNat * y.toNat / 18446744073709551616) ≠ 0#64 := fun e => by
    have := congrArg BitVec.toNat e
    rw [BitVec.toNat_ofNat, Nat.mod_eq_of_lt h1] at this
    simp at this
    omega
  simpa using this
set_option maxRecDepth 100000 in
set_option maxHeartbeats 3200000 in
theorem sdiff_c (a b : Rng) (w : World) : Calls Try.prog 42 #[rv a, rv b] w fun e w' => e = .returned (rv (PlainScalar.difference a b)) ∧ Below w.heap.size w w' := by
  cases q : decide (b.hi.toNat ≤ a.lo.toNat)
  · have hs : PlainScalar.difference a b = PlainScalar.settled ⟨(PlainTnum.sub a.b b.b), PlainScalar.any.lo, PlainScalar.any.hi, PlainScalar.any.sl, PlainScalar.any.sh⟩ := by unfold PlainScalar.difference; rw [if_neg (show ¬ _ from of_decide_eq_false q)]
    go_enter Try.func42, Try.ntmps42
    go_wp2_with fail
    obtain ⟨ga, hga⟩ : ∃ g, g = w.heap.size := ⟨_, rfl⟩
    obtain ⟨gb, hgb⟩ : ∃ g, g = w.heap.size + 1 := ⟨_, rfl⟩
    obtain ⟨gr, hgr⟩ : ∃ g, g = w.heap.size + 1 + 1 := ⟨_, rfl⟩
    have Ba : Blk (((w.alloc (.cells #[uv a.b.v, uv a.b.m, uv a.lo, uv a.hi, sv a.sl, sv a.sh] 39)).alloc (.cells #[uv b.b.v, uv b.b.m, uv b.lo, uv b.hi, sv b.sl, sv b.sh] 39)).alloc (.cells #[.int .u64 0, .int .u64 0, .int .u64 0, .int .u64 0, .int .i64 0, .int .i64 0] 39)) (w.heap.size) 39 #[uv a.b.v, uv a.b.m, uv a.lo, uv a.hi, sv a.sl, sv a.sh] := (((Blk.new w 39 #[uv a.b.v, uv a.b.m, uv a.lo, uv a.hi, sv a.sl, sv a.sh])).alloc _).alloc _
    have Bb : Blk (((w.alloc (.cells #[uv a.b.v, uv a.b.m, uv a.lo, uv a.hi, sv a.sl, sv a.sh] 39)).alloc (.cells #[uv b.b.v, uv b.b.m, uv b.lo, uv b.hi, sv b.sl, sv b.sh] 39)).alloc (.cells #[.int .u64 0, .int .u64 0, .int .u64 0, .int .u64 0, .int .i64 0, .int .i64 0] 39)) (w.heap.size + 1) 39 #[uv b.b.v, uv b.b.m, uv b.lo, uv b.hi, sv b.sl, sv b.sh] := ((by simpa using Blk.new (w.alloc (.cells #[uv a.b.v, uv a.b.m, uv a.lo, uv a.hi, sv a.sl, sv a.sh] 39)) 39 #[uv b.b.v, uv b.b.m, uv b.lo, uv b.hi, sv b.sl, sv b.sh] : Blk _ (w.heap.size + 1) 39 #[uv b.b.v, uv b.b.m, uv b.lo, uv b.hi, sv b.sl, sv b.sh])).alloc _
    have Br : Blk (((w.alloc (.cells #[uv a.b.v, uv a.b.m, uv a.lo, uv a.hi, sv a.sl, sv a.sh] 39)).alloc (.cells #[uv b.b.v, uv b.b.m, uv b.lo, uv b.hi, sv b.sl, sv b.sh] 39)).alloc (.cells #[.int .u64 0, .int .u64 0, .int .u64 0, .int .u64 0, .int .i64 0, .int .i64 0] 39)) (w.heap.size + 1 + 1) 39 #[.int .u64 0, .int .u64 0, .int .u64 0, .int .u64 0, .int .i64 0, .int .i64 0] := (by simpa using Blk.new ((w.alloc (.cells #[uv a.b.v, uv a.b.m, uv a.lo, uv a.hi, sv a.sl, sv a.sh] 39)).alloc (.cells #[uv b.b.v, uv b.b.m, uv b.lo, uv b.hi, sv b.sl, sv b.sh] 39)) 39 #[.int .u64 0, .int .u64 0, .int .u64 0, .int .u64 0, .int .i64 0, .int .i64 0] : Blk _ (w.heap.size + 1 + 1) 39 #[.int .u64 0, .int .u64 0, .int .u64 0, .int .u64 0, .int .i64 0, .int .i64 0])
    have hB : Below w.heap.size w (((w.alloc (.cells #[uv a.b.v, uv a.b.m, uv a.lo, uv a.hi, sv a.sl, sv a.sh] 39)).alloc (.cells #[uv b.b.v, uv b.b.m, uv b.lo, uv b.hi, sv b.sl, sv b.sh] 39)).alloc (.cells #[.int .u64 0, .int .u64 0, .int .u64 0, .int .u64 0, .int .i64 0, .int .i64 0] 39)) := (Bl_alloc (Bl_alloc (Bl_alloc (Bl_refl w) _) _) _)
    clear hga
    clear ga
    clear hgb
    clear gb
    clear hgr
    clear gr
    generalize (((w.alloc (.cells #[uv a.b.v, uv a.b.m, uv a.lo, uv a.hi, sv a.sl, sv a.sh] 39)).alloc (.cells #[uv b.b.v, uv b.b.m, uv b.lo, uv b.hi, sv b.sl, sv b.sh] 39)).alloc (.cells #[.int .u64 0, .int .u64 0, .int .u64 0, .int .u64 0, .int .i64 0, .int .i64 0] 39)) = w1 at *
    have ca0 : w1.cell? ⟨w.heap.size, 0, none⟩ = some (uv a.b.v) := Ba.cell 0
    have ca1 : w1.cell? ⟨w.heap.size, 1, none⟩ = some (uv a.b.m) := Ba.cell 1
    have ca2 : w1.cell? ⟨w.heap.size, 2, none⟩ = some (uv a.lo) := Ba.cell 2
    have ca3 : w1.cell? ⟨w.heap.size, 3, none⟩ = some (uv a.hi) := Ba.cell 3
    have ca4 : w1.cell? ⟨w.heap.size, 4, none⟩ = some (sv a.sl) := Ba.cell 4
    have ca5 : w1.cell? ⟨w.heap.size, 5, none⟩ = some (sv a.sh) := Ba.cell 5
    have fa := Ba.frozen
    have la := Ba.lt
    have cb0 : w1.cell? ⟨w.heap.size + 1, 0, none⟩ = some (uv b.b.v) := Bb.cell 0
    have cb1 : w1.cell? ⟨w.heap.size + 1, 1, none⟩ = some (uv b.b.m) := Bb.cell 1
    have cb2 : w1.cell? ⟨w.heap.size + 1, 2, none⟩ = some (uv b.lo) := Bb.cell 2
    have cb3 : w1.cell? ⟨w.heap.size + 1, 3, none⟩ = some (uv b.hi) := Bb.cell 3
    have cb4 : w1.cell? ⟨w.heap.size + 1, 4, none⟩ = some (sv b.sl) := Bb.cell 4
    have cb5 : w1.cell? ⟨w.heap.size + 1, 5, none⟩ = some (sv b.sh) := Bb.cell 5
    have fb := Bb.frozen
    have lb := Bb.lt
    have cr0 : w1.cell? ⟨w.heap.size + 1 + 1, 0, none⟩ = some (.int .u64 0) := Br.cell 0
    have cr1 : w1.cell? ⟨w.heap.size + 1 + 1, 1, none⟩ = some (.int .u64 0) := Br.cell 1
    have cr2 : w1.cell? ⟨w.heap.size + 1 + 1, 2, none⟩ = some (.int .u64 0) := Br.cell 2
    have cr3 : w1.cell? ⟨w.heap.size + 1 + 1, 3, none⟩ = some (.int .u64 0) := Br.cell 3
    have cr4 : w1.cell? ⟨w.heap.size + 1 + 1, 4, none⟩ = some (.int .i64 0) := Br.cell 4
    have cr5 : w1.cell? ⟨w.heap.size + 1 + 1, 5, none⟩ = some (.int .i64 0) := Br.cell 5
    have fr := Br.frozen
    have lr := Br.lt
    go_wp2_with fail
    refine (sany_c _).mono ?_
    rintro e w2 ⟨rfl, hb⟩
    clear ca0 ca1 ca2 ca3 ca4 ca5 fa la
    clear cb0 cb1 cb2 cb3 cb4 cb5 fb lb
    clear cr0 cr1 cr2 cr3 cr4 cr5 fr lr
    replace Ba := (Ba).next hb
    replace Bb := (Bb).next hb
    replace Br := (Br).next hb
    replace hB : Below w.heap.size w w2 := by repeat (first | exact hB | (refine Bl_set ?_ (by first | omega | (simp; omega)) _) | apply Bl_alloc | (refine Bl_trans ?_ hb))
    clear hb
    have ca0 : w2.cell? ⟨w.heap.size, 0, none⟩ = some (uv a.b.v) := Ba.cell 0
    have ca1 : w2.cell? ⟨w.heap.size, 1, none⟩ = some (uv a.b.m) := Ba.cell 1
    have ca2 : w2.cell? ⟨w.heap.size, 2, none⟩ = some (uv a.lo) := Ba.cell 2
    have ca3 : w2.cell? ⟨w.heap.size, 3, none⟩ = some (uv a.hi) := Ba.cell 3
    have ca4 : w2.cell? ⟨w.heap.size, 4, none⟩ = some (sv a.sl) := Ba.cell 4
    have ca5 : w2.cell? ⟨w.heap.size, 5, none⟩ = some (sv a.sh) := Ba.cell 5
    have fa := Ba.frozen
    have la := Ba.lt
    have cb0 : w2.cell? ⟨w.heap.size + 1, 0, none⟩ = some (uv b.b.v) := Bb.cell 0
    have cb1 : w2.cell? ⟨w.heap.size + 1, 1, none⟩ = some (uv b.b.m) := Bb.cell 1
    have cb2 : w2.cell? ⟨w.heap.size + 1, 2, none⟩ = some (uv b.lo) := Bb.cell 2
    have cb3 : w2.cell? ⟨w.heap.size + 1, 3, none⟩ = some (uv b.hi) := Bb.cell 3
    have cb4 : w2.cell? ⟨w.heap.size + 1, 4, none⟩ = some (sv b.sl) := Bb.cell 4
    have cb5 : w2.cell? ⟨w.heap.size + 1, 5, none⟩ = some (sv b.sh) := Bb.cell 5
    have fb := Bb.frozen
    have lb := Bb.lt
    have cr0 : w2.cell? ⟨w.heap.size + 1 + 1, 0, none⟩ = some (.int .u64 0) := Br.cell 0
    have cr1 : w2.cell? ⟨w.heap.size + 1 + 1, 1, none⟩ = some (.int .u64 0) := Br.cell 1
    have cr2 : w2.cell? ⟨w.heap.size + 1 + 1, 2, none⟩ = some (.int .u64 0) := Br.cell 2
    have cr3 : w2.cell? ⟨w.heap.size + 1 + 1, 3, none⟩ = some (.int .u64 0) := Br.cell 3
    have cr4 : w2.cell? ⟨w.heap.size + 1 + 1, 4, none⟩ = some (.int .i64 0) := Br.cell 4
    have cr5 : w2.cell? ⟨w.heap.size + 1 + 1, 5, none⟩ = some (.int .i64 0) := Br.cell 5
    have fr := Br.frozen
    have lr := Br.lt
    go_upto_region 2 with fail
    clear ca0 ca1 ca2 ca3 ca4 ca5 fa la
    clear cb0 cb1 cb2 cb3 cb4 cb5 fb lb
    clear cr0 cr1 cr2 cr3 cr4 cr5 fr lr
    have Bo := Blk.new w2 39 #[uv PlainScalar.any.b.v, uv PlainScalar.any.b.m, uv PlainScalar.any.lo, uv PlainScalar.any.hi, sv PlainScalar.any.sl, sv PlainScalar.any.sh]
    have hgo := hB.size
    have hnao := Nat.ne_of_lt Ba.lt; have hltao := Ba.lt
    have hnbo := Nat.ne_of_lt Bb.lt; have hltbo := Bb.lt
    have hnro := Nat.ne_of_lt Br.lt; have hltro := Br.lt
    replace Ba : Blk (w2.alloc (.cells #[uv PlainScalar.any.b.v, uv PlainScalar.any.b.m, uv PlainScalar.any.lo, uv PlainScalar.any.hi, sv PlainScalar.any.sl, sv PlainScalar.any.sh] 39)) (w.heap.size) 39 #[uv a.b.v, uv a.b.m, uv a.lo, uv a.hi, sv a.sl, sv a.sh] := Ba.alloc _
    replace Bb : Blk (w2.alloc (.cells #[uv PlainScalar.any.b.v, uv PlainScalar.any.b.m, uv PlainScalar.any.lo, uv PlainScalar.any.hi, sv PlainScalar.any.sl, sv PlainScalar.any.sh] 39)) (w.heap.size + 1) 39 #[uv b.b.v, uv b.b.m, uv b.lo, uv b.hi, sv b.sl, sv b.sh] := Bb.alloc _
    replace Br : Blk (w2.alloc (.cells #[uv PlainScalar.any.b.v, uv PlainScalar.any.b.m, uv PlainScalar.any.lo, uv PlainScalar.any.hi, sv PlainScalar.any.sl, sv PlainScalar.any.sh] 39)) (w.heap.size + 1 + 1) 39 #[.int .u64 0, .int .u64 0, .int .u64 0, .int .u64 0, .int .i64 0, .int .i64 0] := Br.alloc _
    replace hB : Below w.heap.size w (w2.alloc (.cells #[uv PlainScalar.any.b.v, uv PlainScalar.any.b.m, uv PlainScalar.any.lo, uv PlainScalar.any.hi, sv PlainScalar.any.sl, sv PlainScalar.any.sh] 39)) := Bl_alloc hB _
    generalize (w2.alloc (.cells #[uv PlainScalar.any.b.v, uv PlainScalar.any.b.m, uv PlainScalar.any.lo, uv PlainScalar.any.hi, sv PlainScalar.any.sl, sv PlainScalar.any.sh] 39)) = w3 at *
    generalize w2.heap.size = go at *
    have ca0 : w3.cell? ⟨w.heap.size, 0, none⟩ = some (uv a.b.v) := Ba.cell 0
    have ca1 : w3.cell? ⟨w.heap.size, 1, none⟩ = some (uv a.b.m) := Ba.cell 1
    have ca2 : w3.cell? ⟨w.heap.size, 2, none⟩ = some (uv a.lo) := Ba.cell 2
    have ca3 : w3.cell? ⟨w.heap.size, 3, none⟩ = some (uv a.hi) := Ba.cell 3
    have ca4 : w3.cell? ⟨w.heap.size, 4, none⟩ = some (sv a.sl) := Ba.cell 4
    have ca5 : w3.cell? ⟨w.heap.size, 5, none⟩ = some (sv a.sh) := Ba.cell 5
    have fa := Ba.frozen
    have la := Ba.lt
    have cb0 : w3.cell? ⟨w.heap.size + 1, 0, none⟩ = some (uv b.b.v) := Bb.cell 0
    have cb1 : w3.cell? ⟨w.heap.size + 1, 1, none⟩ = some (uv b.b.m) := Bb.cell 1
    have cb2 : w3.cell? ⟨w.heap.size + 1, 2, none⟩ = some (uv b.lo) := Bb.cell 2
    have cb3 : w3.cell? ⟨w.heap.size + 1, 3, none⟩ = some (uv b.hi) := Bb.cell 3
    have cb4 : w3.cell? ⟨w.heap.size + 1, 4, none⟩ = some (sv b.sl) := Bb.cell 4
    have cb5 : w3.cell? ⟨w.heap.size + 1, 5, none⟩ = some (sv b.sh) := Bb.cell 5
    have fb := Bb.frozen
    have lb := Bb.lt
    have cr0 : w3.cell? ⟨w.heap.size + 1 + 1, 0, none⟩ = some (.int .u64 0) := Br.cell 0
    have cr1 : w3.cell? ⟨w.heap.size + 1 + 1, 1, none⟩ = some (.int .u64 0) := Br.cell 1
    have cr2 : w3.cell? ⟨w.heap.size + 1 + 1, 2, none⟩ = some (.int .u64 0) := Br.cell 2
    have cr3 : w3.cell? ⟨w.heap.size + 1 + 1, 3, none⟩ = some (.int .u64 0) := Br.cell 3
    have cr4 : w3.cell? ⟨w.heap.size + 1 + 1, 4, none⟩ = some (.int .i64 0) := Br.cell 4
    have cr5 : w3.cell? ⟨w.heap.size + 1 + 1, 5, none⟩ = some (.int .i64 0) := Br.cell 5
    have fr := Br.frozen
    have lr := Br.lt
    have co0 : w3.cell? ⟨go, 0, none⟩ = some (uv PlainScalar.any.b.v) := Bo.cell 0
    have co1 : w3.cell? ⟨go, 1, none⟩ = some (uv PlainScalar.any.b.m) := Bo.cell 1
    have co2 : w3.cell? ⟨go, 2, none⟩ = some (uv PlainScalar.any.lo) := Bo.cell 2
    have co3 : w3.cell? ⟨go, 3, none⟩ = some (uv PlainScalar.any.hi) := Bo.cell 3
    have co4 : w3.cell? ⟨go, 4, none⟩ = some (sv PlainScalar.any.sl) := Bo.cell 4
    have co5 : w3.cell? ⟨go, 5, none⟩ = some (sv PlainScalar.any.sh) := Bo.cell 5
    have fo := Bo.frozen
    have lo := Bo.lt
    go_wp2_with fail
    refine (sub_c _ _ _).mono ?_
    rintro e w4 ⟨rfl, hb⟩
    clear ca0 ca1 ca2 ca3 ca4 ca5 fa la
    clear cb0 cb1 cb2 cb3 cb4 cb5 fb lb
    clear cr0 cr1 cr2 cr3 cr4 cr5 fr lr
    clear co0 co1 co2 co3 co4 co5 fo lo
    replace Ba := (Ba).next hb
    replace Bb := (Bb).next hb
    replace Br := (Br).next hb
    replace Bo := (Bo).next hb
    replace hB : Below w.heap.size w w4 := by repeat (first | exact hB | (refine Bl_set ?_ (by first | omega | (simp; omega)) _) | apply Bl_alloc | (refine Bl_trans ?_ hb))
    clear hb
    have ca0 : w4.cell? ⟨w.heap.size, 0, none⟩ = some (uv a.b.v) := Ba.cell 0
    have ca1 : w4.cell? ⟨w.heap.size, 1, none⟩ = some (uv a.b.m) := Ba.cell 1
    have ca2 : w4.cell? ⟨w.heap.size, 2, none⟩ = some (uv a.lo) := Ba.cell 2
    have ca3 : w4.cell? ⟨w.heap.size, 3, none⟩ = some (uv a.hi) := Ba.cell 3
    have ca4 : w4.cell? ⟨w.heap.size, 4, none⟩ = some (sv a.sl) := Ba.cell 4
    have ca5 : w4.cell? ⟨w.heap.size, 5, none⟩ = some (sv a.sh) := Ba.cell 5
    have fa := Ba.frozen
    have la := Ba.lt
    have cb0 : w4.cell? ⟨w.heap.size + 1, 0, none⟩ = some (uv b.b.v) := Bb.cell 0
    have cb1 : w4.cell? ⟨w.heap.size + 1, 1, none⟩ = some (uv b.b.m) := Bb.cell 1
    have cb2 : w4.cell? ⟨w.heap.size + 1, 2, none⟩ = some (uv b.lo) := Bb.cell 2
    have cb3 : w4.cell? ⟨w.heap.size + 1, 3, none⟩ = some (uv b.hi) := Bb.cell 3
    have cb4 : w4.cell? ⟨w.heap.size + 1, 4, none⟩ = some (sv b.sl) := Bb.cell 4
    have cb5 : w4.cell? ⟨w.heap.size + 1, 5, none⟩ = some (sv b.sh) := Bb.cell 5
    have fb := Bb.frozen
    have lb := Bb.lt
    have cr0 : w4.cell? ⟨w.heap.size + 1 + 1, 0, none⟩ = some (.int .u64 0) := Br.cell 0
    have cr1 : w4.cell? ⟨w.heap.size + 1 + 1, 1, none⟩ = some (.int .u64 0) := Br.cell 1
    have cr2 : w4.cell? ⟨w.heap.size + 1 + 1, 2, none⟩ = some (.int .u64 0) := Br.cell 2
    have cr3 : w4.cell? ⟨w.heap.size + 1 + 1, 3, none⟩ = some (.int .u64 0) := Br.cell 3
    have cr4 : w4.cell? ⟨w.heap.size + 1 + 1, 4, none⟩ = some (.int .i64 0) := Br.cell 4
    have cr5 : w4.cell? ⟨w.heap.size + 1 + 1, 5, none⟩ = some (.int .i64 0) := Br.cell 5
    have fr := Br.frozen
    have lr := Br.lt
    have co0 : w4.cell? ⟨go, 0, none⟩ = some (uv PlainScalar.any.b.v) := Bo.cell 0
    have co1 : w4.cell? ⟨go, 1, none⟩ = some (uv PlainScalar.any.b.m) := Bo.cell 1
    have co2 : w4.cell? ⟨go, 2, none⟩ = some (uv PlainScalar.any.lo) := Bo.cell 2
    have co3 : w4.cell? ⟨go, 3, none⟩ = some (uv PlainScalar.any.hi) := Bo.cell 3
    have co4 : w4.cell? ⟨go, 4, none⟩ = some (sv PlainScalar.any.sl) := Bo.cell 4
    have co5 : w4.cell? ⟨go, 5, none⟩ = some (sv PlainScalar.any.sh) := Bo.cell 5
    have fo := Bo.frozen
    have lo := Bo.lt
    go_upto_region 3 with fail
    clear ca0 ca1 ca2 ca3 ca4 ca5 fa la
    clear cb0 cb1 cb2 cb3 cb4 cb5 fb lb
    clear cr0 cr1 cr2 cr3 cr4 cr5 fr lr
    clear co0 co1 co2 co3 co4 co5 fo lo
    replace Ba : Blk (w4.setCell ⟨go, 0, none⟩ (uv (PlainTnum.sub a.b b.b).v)) (w.heap.size) 39 #[uv a.b.v, uv a.b.m, uv a.lo, uv a.hi, sv a.sl, sv a.sh] := (Ba.far (by first | (simp; done) | (simp; omega) | (simp [*]; done) | (simp only [ne_eq]; constructor <;> omega)) _)
    replace Bb : Blk (w4.setCell ⟨go, 0, none⟩ (uv (PlainTnum.sub a.b b.b).v)) (w.heap.size + 1) 39 #[uv b.b.v, uv b.b.m, uv b.lo, uv b.hi, sv b.sl, sv b.sh] := (Bb.far (by first | (simp; done) | (simp; omega) | (simp [*]; done) | (simp only [ne_eq]; constructor <;> omega)) _)
    replace Br : Blk (w4.setCell ⟨go, 0, none⟩ (uv (PlainTnum.sub a.b b.b).v)) (w.heap.size + 1 + 1) 39 #[.int .u64 0, .int .u64 0, .int .u64 0, .int .u64 0, .int .i64 0, .int .i64 0] := (Br.far (by first | (simp; done) | (simp; omega) | (simp [*]; done) | (simp only [ne_eq]; constructor <;> omega)) _)
    replace Bo : Blk (w4.setCell ⟨go, 0, none⟩ (uv (PlainTnum.sub a.b b.b).v)) (go) 39 #[uv (PlainTnum.sub a.b b.b).v, uv PlainScalar.any.b.m, uv PlainScalar.any.lo, uv PlainScalar.any.hi, sv PlainScalar.any.sl, sv PlainScalar.any.sh] := Bo.set_ 0 _
    replace hB : Below w.heap.size w (w4.setCell ⟨go, 0, none⟩ (uv (PlainTnum.sub a.b b.b).v)) := (Bl_set hB (by first | omega | (simp; done) | (simp; omega)) _)
    replace Ba : Blk ((w4.setCell ⟨go, 0, none⟩ (uv (PlainTnum.sub a.b b.b).v)).setCell ⟨go, 1, none⟩ (uv (PlainTnum.sub a.b b.b).m)) (w.heap.size) 39 #[uv a.b.v, uv a.b.m, uv a.lo, uv a.hi, sv a.sl, sv a.sh] := (Ba.far (by first | (simp; done) | (simp; omega) | (simp [*]; done) | (simp only [ne_eq]; constructor <;> omega)) _)
    replace Bb : Blk ((w4.setCell ⟨go, 0, none⟩ (uv (PlainTnum.sub a.b b.b).v)).setCell ⟨go, 1, none⟩ (uv (PlainTnum.sub a.b b.b).m)) (w.heap.size + 1) 39 #[uv b.b.v, uv b.b.m, uv b.lo, uv b.hi, sv b.sl, sv b.sh] := (Bb.far (by first | (simp; done) | (simp; omega) | (simp [*]; done) | (simp only [ne_eq]; constructor <;> omega)) _)
    replace Br : Blk ((w4.setCell ⟨go, 0, none⟩ (uv (PlainTnum.sub a.b b.b).v)).setCell ⟨go, 1, none⟩ (uv (PlainTnum.sub a.b b.b).m)) (w.heap.size + 1 + 1) 39 #[.int .u64 0, .int .u64 0, .int .u64 0, .int .u64 0, .int .i64 0, .int .i64 0] := (Br.far (by first | (simp; done) | (simp; omega) | (simp [*]; done) | (simp only [ne_eq]; constructor <;> omega)) _)
    replace Bo : Blk ((w4.setCell ⟨go, 0, none⟩ (uv (PlainTnum.sub a.b b.b).v)).setCell ⟨go, 1, none⟩ (uv (PlainTnum.sub a.b b.b).m)) (go) 39 #[uv (PlainTnum.sub a.b b.b).v, uv (PlainTnum.sub a.b b.b).m, uv PlainScalar.any.lo, uv PlainScalar.any.hi, sv PlainScalar.any.sl, sv PlainScalar.any.sh] := Bo.set_ 1 _
    replace hB : Below w.heap.size w ((w4.setCell ⟨go, 0, none⟩ (uv (PlainTnum.sub a.b b.b).v)).setCell ⟨go, 1, none⟩ (uv (PlainTnum.sub a.b b.b).m)) := (Bl_set hB (by first | omega | (simp; done) | (simp; omega)) _)
    generalize ((w4.setCell ⟨go, 0, none⟩ (uv (PlainTnum.sub a.b b.b).v)).setCell ⟨go, 1, none⟩ (uv (PlainTnum.sub a.b b.b).m)) = w5 at *
    have ca0 : w5.cell? ⟨w.heap.size, 0, none⟩ = some (uv a.b.v) := Ba.cell 0
    have ca1 : w5.cell? ⟨w.heap.size, 1, none⟩ = some (uv a.b.m) := Ba.cell 1
    have ca2 : w5.cell? ⟨w.heap.size, 2, none⟩ = some (uv a.lo) := Ba.cell 2
    have ca3 : w5.cell? ⟨w.heap.size, 3, none⟩ = some (uv a.hi) := Ba.cell 3
    have ca4 : w5.cell? ⟨w.heap.size, 4, none⟩ = some (sv a.sl) := Ba.cell 4
    have ca5 : w5.cell? ⟨w.heap.size, 5, none⟩ = some (sv a.sh) := Ba.cell 5
    have fa := Ba.frozen
    have la := Ba.lt
    have cb0 : w5.cell? ⟨w.heap.size + 1, 0, none⟩ = some (uv b.b.v) := Bb.cell 0
    have cb1 : w5.cell? ⟨w.heap.size + 1, 1, none⟩ = some (uv b.b.m) := Bb.cell 1
    have cb2 : w5.cell? ⟨w.heap.size + 1, 2, none⟩ = some (uv b.lo) := Bb.cell 2
    have cb3 : w5.cell? ⟨w.heap.size + 1, 3, none⟩ = some (uv b.hi) := Bb.cell 3
    have cb4 : w5.cell? ⟨w.heap.size + 1, 4, none⟩ = some (sv b.sl) := Bb.cell 4
    have cb5 : w5.cell? ⟨w.heap.size + 1, 5, none⟩ = some (sv b.sh) := Bb.cell 5
    have fb := Bb.frozen
    have lb := Bb.lt
    have cr0 : w5.cell? ⟨w.heap.size + 1 + 1, 0, none⟩ = some (.int .u64 0) := Br.cell 0
    have cr1 : w5.cell? ⟨w.heap.size + 1 + 1, 1, none⟩ = some (.int .u64 0) := Br.cell 1
    have cr2 : w5.cell? ⟨w.heap.size + 1 + 1, 2, none⟩ = some (.int .u64 0) := Br.cell 2
    have cr3 : w5.cell? ⟨w.heap.size + 1 + 1, 3, none⟩ = some (.int .u64 0) := Br.cell 3
    have cr4 : w5.cell? ⟨w.heap.size + 1 + 1, 4, none⟩ = some (.int .i64 0) := Br.cell 4
    have cr5 : w5.cell? ⟨w.heap.size + 1 + 1, 5, none⟩ = some (.int .i64 0) := Br.cell 5
    have fr := Br.frozen
    have lr := Br.lt
    have co0 : w5.cell? ⟨go, 0, none⟩ = some (uv (PlainTnum.sub a.b b.b).v) := Bo.cell 0
    have co1 : w5.cell? ⟨go, 1, none⟩ = some (uv (PlainTnum.sub a.b b.b).m) := Bo.cell 1
    have co2 : w5.cell? ⟨go, 2, none⟩ = some (uv PlainScalar.any.lo) := Bo.cell 2
    have co3 : w5.cell? ⟨go, 3, none⟩ = some (uv PlainScalar.any.hi) := Bo.cell 3
    have co4 : w5.cell? ⟨go, 4, none⟩ = some (sv PlainScalar.any.sl) := Bo.cell 4
    have co5 : w5.cell? ⟨go, 5, none⟩ = some (sv PlainScalar.any.sh) := Bo.cell 5
    have fo := Bo.frozen
    have lo := Bo.lt
    have qq : decide (T b.hi ≤ T a.lo) = false := by rw [← q]; exact decide_eq_decide.2 (by rw [T_le])
    go_wp2_with fail
    refine (settled_c (⟨(PlainTnum.sub a.b b.b), PlainScalar.any.lo, PlainScalar.any.hi, PlainScalar.any.sl, PlainScalar.any.sh⟩ : Rng) _).mono ?_
    rintro e w6 ⟨rfl, hb⟩
    clear ca0 ca1 ca2 ca3 ca4 ca5 fa la
    clear cb0 cb1 cb2 cb3 cb4 cb5 fb lb
    clear cr0 cr1 cr2 cr3 cr4 cr5 fr lr
    clear co0 co1 co2 co3 co4 co5 fo lo
    replace Ba := (Ba).next hb
    replace Bb := (Bb).next hb
    replace Br := (Br).next hb
    replace Bo := (Bo).next hb
    replace hB : Below w.heap.size w w6 := by repeat (first | exact hB | (refine Bl_set ?_ (by first | omega | (simp; omega)) _) | apply Bl_alloc | (refine Bl_trans ?_ hb))
    clear hb
    have ca0 : w6.cell? ⟨w.heap.size, 0, none⟩ = some (uv a.b.v) := Ba.cell 0
    have ca1 : w6.cell? ⟨w.heap.size, 1, none⟩ = some (uv a.b.m) := Ba.cell 1
    have ca2 : w6.cell? ⟨w.heap.size, 2, none⟩ = some (uv a.lo) := Ba.cell 2
    have ca3 : w6.cell? ⟨w.heap.size, 3, none⟩ = some (uv a.hi) := Ba.cell 3
    have ca4 : w6.cell? ⟨w.heap.size, 4, none⟩ = some (sv a.sl) := Ba.cell 4
    have ca5 : w6.cell? ⟨w.heap.size, 5, none⟩ = some (sv a.sh) := Ba.cell 5
    have fa := Ba.frozen
    have la := Ba.lt
    have cb0 : w6.cell? ⟨w.heap.size + 1, 0, none⟩ = some (uv b.b.v) := Bb.cell 0
    have cb1 : w6.cell? ⟨w.heap.size + 1, 1, none⟩ = some (uv b.b.m) := Bb.cell 1
    have cb2 : w6.cell? ⟨w.heap.size + 1, 2, none⟩ = some (uv b.lo) := Bb.cell 2
    have cb3 : w6.cell? ⟨w.heap.size + 1, 3, none⟩ = some (uv b.hi) := Bb.cell 3
    have cb4 : w6.cell? ⟨w.heap.size + 1, 4, none⟩ = some (sv b.sl) := Bb.cell 4
    have cb5 : w6.cell? ⟨w.heap.size + 1, 5, none⟩ = some (sv b.sh) := Bb.cell 5
    have fb := Bb.frozen
    have lb := Bb.lt
    have cr0 : w6.cell? ⟨w.heap.size + 1 + 1, 0, none⟩ = some (.int .u64 0) := Br.cell 0
    have cr1 : w6.cell? ⟨w.heap.size + 1 + 1, 1, none⟩ = some (.int .u64 0) := Br.cell 1
    have cr2 : w6.cell? ⟨w.heap.size + 1 + 1, 2, none⟩ = some (.int .u64 0) := Br.cell 2
    have cr3 : w6.cell? ⟨w.heap.size + 1 + 1, 3, none⟩ = some (.int .u64 0) := Br.cell 3
    have cr4 : w6.cell? ⟨w.heap.size + 1 + 1, 4, none⟩ = some (.int .i64 0) := Br.cell 4
    have cr5 : w6.cell? ⟨w.heap.size + 1 + 1, 5, none⟩ = some (.int .i64 0) := Br.cell 5
    have fr := Br.frozen
    have lr := Br.lt
    have co0 : w6.cell? ⟨go, 0, none⟩ = some (uv (PlainTnum.sub a.b b.b).v) := Bo.cell 0
    have co1 : w6.cell? ⟨go, 1, none⟩ = some (uv (PlainTnum.sub a.b b.b).m) := Bo.cell 1
    have co2 : w6.cell? ⟨go, 2, none⟩ = some (uv PlainScalar.any.lo) := Bo.cell 2
    have co3 : w6.cell? ⟨go, 3, none⟩ = some (uv PlainScalar.any.hi) := Bo.cell 3
    have co4 : w6.cell? ⟨go, 4, none⟩ = some (sv PlainScalar.any.sl) := Bo.cell 4
    have co5 : w6.cell? ⟨go, 5, none⟩ = some (sv PlainScalar.any.sh) := Bo.cell 5
    have fo := Bo.frozen
    have lo := Bo.lt
    go_wp2
    exact bodyPost_ret (v := rv (PlainScalar.settled ⟨(PlainTnum.sub a.b b.b), PlainScalar.any.lo, PlainScalar.any.hi, PlainScalar.any.sl, PlainScalar.any.sh⟩)) (by simp [results, Try.results42, go_sem, cr0, cr1, cr2, cr3, cr4, cr5, lr]) rfl ⟨by rw [hs], by repeat (first | (with_reducible exact hB) | (with_reducible refine Bl_set ?_ (by first | omega | (simp; done) | (simp; omega)) _) | with_reducible apply Bl_alloc)⟩
  · have hs : PlainScalar.difference a b = PlainScalar.settled ⟨(PlainTnum.sub a.b b.b), (a.lo - b.hi), (a.hi - b.lo), PlainScalar.any.sl, PlainScalar.any.sh⟩ := by unfold PlainScalar.difference; rw [if_pos (show _ from of_decide_eq_true q)]
    go_enter Try.func42, Try.ntmps42
    go_wp2_with fail
    obtain ⟨ga, hga⟩ : ∃ g, g = w.heap.size := ⟨_, rfl⟩
    obtain ⟨gb, hgb⟩ : ∃ g, g = w.heap.size + 1 := ⟨_, rfl⟩
    obtain ⟨gr, hgr⟩ : ∃ g, g = w.heap.size + 1 + 1 := ⟨_, rfl⟩
    have Ba : Blk (((w.alloc (.cells #[uv a.b.v, uv a.b.m, uv a.lo, uv a.hi, sv a.sl, sv a.sh] 39)).alloc (.cells #[uv b.b.v, uv b.b.m, uv b.lo, uv b.hi, sv b.sl, sv b.sh] 39)).alloc (.cells #[.int .u64 0, .int .u64 0, .int .u64 0, .int .u64 0, .int .i64 0, .int .i64 0] 39)) (w.heap.size) 39 #[uv a.b.v, uv a.b.m, uv a.lo, uv a.hi, sv a.sl, sv a.sh] := (((Blk.new w 39 #[uv a.b.v, uv a.b.m, uv a.lo, uv a.hi, sv a.sl, sv a.sh])).alloc _).alloc _
    have Bb : Blk (((w.alloc (.cells #[uv a.b.v, uv a.b.m, uv a.lo, uv a.hi, sv a.sl, sv a.sh] 39)).alloc (.cells #[uv b.b.v, uv b.b.m, uv b.lo, uv b.hi, sv b.sl, sv b.sh] 39)).alloc (.cells #[.int .u64 0, .int .u64 0, .int .u64 0, .int .u64 0, .int .i64 0, .int .i64 0] 39)) (w.heap.size + 1) 39 #[uv b.b.v, uv b.b.m, uv b.lo, uv b.hi, sv b.sl, sv b.sh] := ((by simpa using Blk.new (w.alloc (.cells #[uv a.b.v, uv a.b.m, uv a.lo, uv a.hi, sv a.sl, sv a.sh] 39)) 39 #[uv b.b.v, uv b.b.m, uv b.lo, uv b.hi, sv b.sl, sv b.sh] : Blk _ (w.heap.size + 1) 39 #[uv b.b.v, uv b.b.m, uv b.lo, uv b.hi, sv b.sl, sv b.sh])).alloc _
    have Br : Blk (((w.alloc (.cells #[uv a.b.v, uv a.b.m, uv a.lo, uv a.hi, sv a.sl, sv a.sh] 39)).alloc (.cells #[uv b.b.v, uv b.b.m, uv b.lo, uv b.hi, sv b.sl, sv b.sh] 39)).alloc (.cells #[.int .u64 0, .int .u64 0, .int .u64 0, .int .u64 0, .int .i64 0, .int .i64 0] 39)) (w.heap.size + 1 + 1) 39 #[.int .u64 0, .int .u64 0, .int .u64 0, .int .u64 0, .int .i64 0, .int .i64 0] := (by simpa using Blk.new ((w.alloc (.cells #[uv a.b.v, uv a.b.m, uv a.lo, uv a.hi, sv a.sl, sv a.sh] 39)).alloc (.cells #[uv b.b.v, uv b.b.m, uv b.lo, uv b.hi, sv b.sl, sv b.sh] 39)) 39 #[.int .u64 0, .int .u64 0, .int .u64 0, .int .u64 0, .int .i64 0, .int .i64 0] : Blk _ (w.heap.size + 1 + 1) 39 #[.int .u64 0, .int .u64 0, .int .u64 0, .int .u64 0, .int .i64 0, .int .i64 0])
    have hB : Below w.heap.size w (((w.alloc (.cells #[uv a.b.v, uv a.b.m, uv a.lo, uv a.hi, sv a.sl, sv a.sh] 39)).alloc (.cells #[uv b.b.v, uv b.b.m, uv b.lo, uv b.hi, sv b.sl, sv b.sh] 39)).alloc (.cells #[.int .u64 0, .int .u64 0, .int .u64 0, .int .u64 0, .int .i64 0, .int .i64 0] 39)) := (Bl_alloc (Bl_alloc (Bl_alloc (Bl_refl w) _) _) _)
    clear hga
    clear ga
    clear hgb
    clear gb
    clear hgr
    clear gr
    generalize (((w.alloc (.cells #[uv a.b.v, uv a.b.m, uv a.lo, uv a.hi, sv a.sl, sv a.sh] 39)).alloc (.cells #[uv b.b.v, uv b.b.m, uv b.lo, uv b.hi, sv b.sl, sv b.sh] 39)).alloc (.cells #[.int .u64 0, .int .u64 0, .int .u64 0, .int .u64 0, .int .i64 0, .int .i64 0] 39)) = w1 at *
    have ca0 : w1.cell? ⟨w.heap.size, 0, none⟩ = some (uv a.b.v) := Ba.cell 0
    have ca1 : w1.cell? ⟨w.heap.size, 1, none⟩ = some (uv a.b.m) := Ba.cell 1
    have ca2 : w1.cell? ⟨w.heap.size, 2, none⟩ = some (uv a.lo) := Ba.cell 2
    have ca3 : w1.cell? ⟨w.heap.size, 3, none⟩ = some (uv a.hi) := Ba.cell 3
    have ca4 : w1.cell? ⟨w.heap.size, 4, none⟩ = some (sv a.sl) := Ba.cell 4
    have ca5 : w1.cell? ⟨w.heap.size, 5, none⟩ = some (sv a.sh) := Ba.cell 5
    have fa := Ba.frozen
    have la := Ba.lt
    have cb0 : w1.cell? ⟨w.heap.size + 1, 0, none⟩ = some (uv b.b.v) := Bb.cell 0
    have cb1 : w1.cell? ⟨w.heap.size + 1, 1, none⟩ = some (uv b.b.m) := Bb.cell 1
    have cb2 : w1.cell? ⟨w.heap.size + 1, 2, none⟩ = some (uv b.lo) := Bb.cell 2
    have cb3 : w1.cell? ⟨w.heap.size + 1, 3, none⟩ = some (uv b.hi) := Bb.cell 3
    have cb4 : w1.cell? ⟨w.heap.size + 1, 4, none⟩ = some (sv b.sl) := Bb.cell 4
    have cb5 : w1.cell? ⟨w.heap.size + 1, 5, none⟩ = some (sv b.sh) := Bb.cell 5
    have fb := Bb.frozen
    have lb := Bb.lt
    have cr0 : w1.cell? ⟨w.heap.size + 1 + 1, 0, none⟩ = some (.int .u64 0) := Br.cell 0
    have cr1 : w1.cell? ⟨w.heap.size + 1 + 1, 1, none⟩ = some (.int .u64 0) := Br.cell 1
    have cr2 : w1.cell? ⟨w.heap.size + 1 + 1, 2, none⟩ = some (.int .u64 0) := Br.cell 2
    have cr3 : w1.cell? ⟨w.heap.size + 1 + 1, 3, none⟩ = some (.int .u64 0) := Br.cell 3
    have cr4 : w1.cell? ⟨w.heap.size + 1 + 1, 4, none⟩ = some (.int .i64 0) := Br.cell 4
    have cr5 : w1.cell? ⟨w.heap.size + 1 + 1, 5, none⟩ = some (.int .i64 0) := Br.cell 5
    have fr := Br.frozen
    have lr := Br.lt
    go_wp2_with fail
    refine (sany_c _).mono ?_
    rintro e w2 ⟨rfl, hb⟩
    clear ca0 ca1 ca2 ca3 ca4 ca5 fa la
    clear cb0 cb1 cb2 cb3 cb4 cb5 fb lb
    clear cr0 cr1 cr2 cr3 cr4 cr5 fr lr
    replace Ba := (Ba).next hb
    replace Bb := (Bb).next hb
    replace Br := (Br).next hb
    replace hB : Below w.heap.size w w2 := by repeat (first | exact hB | (refine Bl_set ?_ (by first | omega | (simp; omega)) _) | apply Bl_alloc | (refine Bl_trans ?_ hb))
    clear hb
    have ca0 : w2.cell? ⟨w.heap.size, 0, none⟩ = some (uv a.b.v) := Ba.cell 0
    have ca1 : w2.cell? ⟨w.heap.size, 1, none⟩ = some (uv a.b.m) := Ba.cell 1
    have ca2 : w2.cell? ⟨w.heap.size, 2, none⟩ = some (uv a.lo) := Ba.cell 2
    have ca3 : w2.cell? ⟨w.heap.size, 3, none⟩ = some (uv a.hi) := Ba.cell 3
    have ca4 : w2.cell? ⟨w.heap.size, 4, none⟩ = some (sv a.sl) := Ba.cell 4
    have ca5 : w2.cell? ⟨w.heap.size, 5, none⟩ = some (sv a.sh) := Ba.cell 5
    have fa := Ba.frozen
    have la := Ba.lt
    have cb0 : w2.cell? ⟨w.heap.size + 1, 0, none⟩ = some (uv b.b.v) := Bb.cell 0
    have cb1 : w2.cell? ⟨w.heap.size + 1, 1, none⟩ = some (uv b.b.m) := Bb.cell 1
    have cb2 : w2.cell? ⟨w.heap.size + 1, 2, none⟩ = some (uv b.lo) := Bb.cell 2
    have cb3 : w2.cell? ⟨w.heap.size + 1, 3, none⟩ = some (uv b.hi) := Bb.cell 3
    have cb4 : w2.cell? ⟨w.heap.size + 1, 4, none⟩ = some (sv b.sl) := Bb.cell 4
    have cb5 : w2.cell? ⟨w.heap.size + 1, 5, none⟩ = some (sv b.sh) := Bb.cell 5
    have fb := Bb.frozen
    have lb := Bb.lt
    have cr0 : w2.cell? ⟨w.heap.size + 1 + 1, 0, none⟩ = some (.int .u64 0) := Br.cell 0
    have cr1 : w2.cell? ⟨w.heap.size + 1 + 1, 1, none⟩ = some (.int .u64 0) := Br.cell 1
    have cr2 : w2.cell? ⟨w.heap.size + 1 + 1, 2, none⟩ = some (.int .u64 0) := Br.cell 2
    have cr3 : w2.cell? ⟨w.heap.size + 1 + 1, 3, none⟩ = some (.int .u64 0) := Br.cell 3
    have cr4 : w2.cell? ⟨w.heap.size + 1 + 1, 4, none⟩ = some (.int .i64 0) := Br.cell 4
    have cr5 : w2.cell? ⟨w.heap.size + 1 + 1, 5, none⟩ = some (.int .i64 0) := Br.cell 5
    have fr := Br.frozen
    have lr := Br.lt
    go_upto_region 2 with fail
    clear ca0 ca1 ca2 ca3 ca4 ca5 fa la
    clear cb0 cb1 cb2 cb3 cb4 cb5 fb lb
    clear cr0 cr1 cr2 cr3 cr4 cr5 fr lr
    have Bo := Blk.new w2 39 #[uv PlainScalar.any.b.v, uv PlainScalar.any.b.m, uv PlainScalar.any.lo, uv PlainScalar.any.hi, sv PlainScalar.any.sl, sv PlainScalar.any.sh]
    have hgo := hB.size
    have hnao := Nat.ne_of_lt Ba.lt; have hltao := Ba.lt
    have hnbo := Nat.ne_of_lt Bb.lt; have hltbo := Bb.lt
    have hnro := Nat.ne_of_lt Br.lt; have hltro := Br.lt
    replace Ba : Blk (w2.alloc (.cells #[uv PlainScalar.any.b.v, uv PlainScalar.any.b.m, uv PlainScalar.any.lo, uv PlainScalar.any.hi, sv PlainScalar.any.sl, sv PlainScalar.any.sh] 39)) (w.heap.size) 39 #[uv a.b.v, uv a.b.m, uv a.lo, uv a.hi, sv a.sl, sv a.sh] := Ba.alloc _
    replace Bb : Blk (w2.alloc (.cells #[uv PlainScalar.any.b.v, uv PlainScalar.any.b.m, uv PlainScalar.any.lo, uv PlainScalar.any.hi, sv PlainScalar.any.sl, sv PlainScalar.any.sh] 39)) (w.heap.size + 1) 39 #[uv b.b.v, uv b.b.m, uv b.lo, uv b.hi, sv b.sl, sv b.sh] := Bb.alloc _
    replace Br : Blk (w2.alloc (.cells #[uv PlainScalar.any.b.v, uv PlainScalar.any.b.m, uv PlainScalar.any.lo, uv PlainScalar.any.hi, sv PlainScalar.any.sl, sv PlainScalar.any.sh] 39)) (w.heap.size + 1 + 1) 39 #[.int .u64 0, .int .u64 0, .int .u64 0, .int .u64 0, .int .i64 0, .int .i64 0] := Br.alloc _
    replace hB : Below w.heap.size w (w2.alloc (.cells #[uv PlainScalar.any.b.v, uv PlainScalar.any.b.m, uv PlainScalar.any.lo, uv PlainScalar.any.hi, sv PlainScalar.any.sl, sv PlainScalar.any.sh] 39)) := Bl_alloc hB _
    generalize (w2.alloc (.cells #[uv PlainScalar.any.b.v, uv PlainScalar.any.b.m, uv PlainScalar.any.lo, uv PlainScalar.any.hi, sv PlainScalar.any.sl, sv PlainScalar.any.sh] 39)) = w3 at *
    generalize w2.heap.size = go at *
    have ca0 : w3.cell? ⟨w.heap.size, 0, none⟩ = some (uv a.b.v) := Ba.cell 0
    have ca1 : w3.cell? ⟨w.heap.size, 1, none⟩ = some (uv a.b.m) := Ba.cell 1
    have ca2 : w3.cell? ⟨w.heap.size, 2, none⟩ = some (uv a.lo) := Ba.cell 2
    have ca3 : w3.cell? ⟨w.heap.size, 3, none⟩ = some (uv a.hi) := Ba.cell 3
    have ca4 : w3.cell? ⟨w.heap.size, 4, none⟩ = some (sv a.sl) := Ba.cell 4
    have ca5 : w3.cell? ⟨w.heap.size, 5, none⟩ = some (sv a.sh) := Ba.cell 5
    have fa := Ba.frozen
    have la := Ba.lt
    have cb0 : w3.cell? ⟨w.heap.size + 1, 0, none⟩ = some (uv b.b.v) := Bb.cell 0
    have cb1 : w3.cell? ⟨w.heap.size + 1, 1, none⟩ = some (uv b.b.m) := Bb.cell 1
    have cb2 : w3.cell? ⟨w.heap.size + 1, 2, none⟩ = some (uv b.lo) := Bb.cell 2
    have cb3 : w3.cell? ⟨w.heap.size + 1, 3, none⟩ = some (uv b.hi) := Bb.cell 3
    have cb4 : w3.cell? ⟨w.heap.size + 1, 4, none⟩ = some (sv b.sl) := Bb.cell 4
    have cb5 : w3.cell? ⟨w.heap.size + 1, 5, none⟩ = some (sv b.sh) := Bb.cell 5
    have fb := Bb.frozen
    have lb := Bb.lt
    have cr0 : w3.cell? ⟨w.heap.size + 1 + 1, 0, none⟩ = some (.int .u64 0) := Br.cell 0
    have cr1 : w3.cell? ⟨w.heap.size + 1 + 1, 1, none⟩ = some (.int .u64 0) := Br.cell 1
    have cr2 : w3.cell? ⟨w.heap.size + 1 + 1, 2, none⟩ = some (.int .u64 0) := Br.cell 2
    have cr3 : w3.cell? ⟨w.heap.size + 1 + 1, 3, none⟩ = some (.int .u64 0) := Br.cell 3
    have cr4 : w3.cell? ⟨w.heap.size + 1 + 1, 4, none⟩ = some (.int .i64 0) := Br.cell 4
    have cr5 : w3.cell? ⟨w.heap.size + 1 + 1, 5, none⟩ = some (.int .i64 0) := Br.cell 5
    have fr := Br.frozen
    have lr := Br.lt
    have co0 : w3.cell? ⟨go, 0, none⟩ = some (uv PlainScalar.any.b.v) := Bo.cell 0
    have co1 : w3.cell? ⟨go, 1, none⟩ = some (uv PlainScalar.any.b.m) := Bo.cell 1
    have co2 : w3.cell? ⟨go, 2, none⟩ = some (uv PlainScalar.any.lo) := Bo.cell 2
    have co3 : w3.cell? ⟨go, 3, none⟩ = some (uv PlainScalar.any.hi) := Bo.cell 3
    have co4 : w3.cell? ⟨go, 4, none⟩ = some (sv PlainScalar.any.sl) := Bo.cell 4
    have co5 : w3.cell? ⟨go, 5, none⟩ = some (sv PlainScalar.any.sh) := Bo.cell 5
    have fo := Bo.frozen
    have lo := Bo.lt
    go_wp2_with fail
    refine (sub_c _ _ _).mono ?_
    rintro e w4 ⟨rfl, hb⟩
    clear ca0 ca1 ca2 ca3 ca4 ca5 fa la
    clear cb0 cb1 cb2 cb3 cb4 cb5 fb lb
    clear cr0 cr1 cr2 cr3 cr4 cr5 fr lr
    clear co0 co1 co2 co3 co4 co5 fo lo
    replace Ba := (Ba).next hb
    replace Bb := (Bb).next hb
    replace Br := (Br).next hb
    replace Bo := (Bo).next hb
    replace hB : Below w.heap.size w w4 := by repeat (first | exact hB | (refine Bl_set ?_ (by first | omega | (simp; omega)) _) | apply Bl_alloc | (refine Bl_trans ?_ hb))
    clear hb
    have ca0 : w4.cell? ⟨w.heap.size, 0, none⟩ = some (uv a.b.v) := Ba.cell 0
    have ca1 : w4.cell? ⟨w.heap.size, 1, none⟩ = some (uv a.b.m) := Ba.cell 1
    have ca2 : w4.cell? ⟨w.heap.size, 2, none⟩ = some (uv a.lo) := Ba.cell 2
    have ca3 : w4.cell? ⟨w.heap.size, 3, none⟩ = some (uv a.hi) := Ba.cell 3
    have ca4 : w4.cell? ⟨w.heap.size, 4, none⟩ = some (sv a.sl) := Ba.cell 4
    have ca5 : w4.cell? ⟨w.heap.size, 5, none⟩ = some (sv a.sh) := Ba.cell 5
    have fa := Ba.frozen
    have la := Ba.lt
    have cb0 : w4.cell? ⟨w.heap.size + 1, 0, none⟩ = some (uv b.b.v) := Bb.cell 0
    have cb1 : w4.cell? ⟨w.heap.size + 1, 1, none⟩ = some (uv b.b.m) := Bb.cell 1
    have cb2 : w4.cell? ⟨w.heap.size + 1, 2, none⟩ = some (uv b.lo) := Bb.cell 2
    have cb3 : w4.cell? ⟨w.heap.size + 1, 3, none⟩ = some (uv b.hi) := Bb.cell 3
    have cb4 : w4.cell? ⟨w.heap.size + 1, 4, none⟩ = some (sv b.sl) := Bb.cell 4
    have cb5 : w4.cell? ⟨w.heap.size + 1, 5, none⟩ = some (sv b.sh) := Bb.cell 5
    have fb := Bb.frozen
    have lb := Bb.lt
    have cr0 : w4.cell? ⟨w.heap.size + 1 + 1, 0, none⟩ = some (.int .u64 0) := Br.cell 0
    have cr1 : w4.cell? ⟨w.heap.size + 1 + 1, 1, none⟩ = some (.int .u64 0) := Br.cell 1
    have cr2 : w4.cell? ⟨w.heap.size + 1 + 1, 2, none⟩ = some (.int .u64 0) := Br.cell 2
    have cr3 : w4.cell? ⟨w.heap.size + 1 + 1, 3, none⟩ = some (.int .u64 0) := Br.cell 3
    have cr4 : w4.cell? ⟨w.heap.size + 1 + 1, 4, none⟩ = some (.int .i64 0) := Br.cell 4
    have cr5 : w4.cell? ⟨w.heap.size + 1 + 1, 5, none⟩ = some (.int .i64 0) := Br.cell 5
    have fr := Br.frozen
    have lr := Br.lt
    have co0 : w4.cell? ⟨go, 0, none⟩ = some (uv PlainScalar.any.b.v) := Bo.cell 0
    have co1 : w4.cell? ⟨go, 1, none⟩ = some (uv PlainScalar.any.b.m) := Bo.cell 1
    have co2 : w4.cell? ⟨go, 2, none⟩ = some (uv PlainScalar.any.lo) := Bo.cell 2
    have co3 : w4.cell? ⟨go, 3, none⟩ = some (uv PlainScalar.any.hi) := Bo.cell 3
    have co4 : w4.cell? ⟨go, 4, none⟩ = some (sv PlainScalar.any.sl) := Bo.cell 4
    have co5 : w4.cell? ⟨go, 5, none⟩ = some (sv PlainScalar.any.sh) := Bo.cell 5
    have fo := Bo.frozen
    have lo := Bo.lt
    go_upto_region 3 with fail
    clear ca0 ca1 ca2 ca3 ca4 ca5 fa la
    clear cb0 cb1 cb2 cb3 cb4 cb5 fb lb
    clear cr0 cr1 cr2 cr3 cr4 cr5 fr lr
    clear co0 co1 co2 co3 co4 co5 fo lo
    replace Ba : Blk (w4.setCell ⟨go, 0, none⟩ (uv (PlainTnum.sub a.b b.b).v)) (w.heap.size) 39 #[uv a.b.v, uv a.b.m, uv a.lo, uv a.hi, sv a.sl, sv a.sh] := (Ba.far (by first | (simp; done) | (simp; omega) | (simp [*]; done) | (simp only [ne_eq]; constructor <;> omega)) _)
    replace Bb : Blk (w4.setCell ⟨go, 0, none⟩ (uv (PlainTnum.sub a.b b.b).v)) (w.heap.size + 1) 39 #[uv b.b.v, uv b.b.m, uv b.lo, uv b.hi, sv b.sl, sv b.sh] := (Bb.far (by first | (simp; done) | (simp; omega) | (simp [*]; done) | (simp only [ne_eq]; constructor <;> omega)) _)
    replace Br : Blk (w4.setCell ⟨go, 0, none⟩ (uv (PlainTnum.sub a.b b.b).v)) (w.heap.size + 1 + 1) 39 #[.int .u64 0, .int .u64 0, .int .u64 0, .int .u64 0, .int .i64 0, .int .i64 0] := (Br.far (by first | (simp; done) | (simp; omega) | (simp [*]; done) | (simp only [ne_eq]; constructor <;> omega)) _)
    replace Bo : Blk (w4.setCell ⟨go, 0, none⟩ (uv (PlainTnum.sub a.b b.b).v)) (go) 39 #[uv (PlainTnum.sub a.b b.b).v, uv PlainScalar.any.b.m, uv PlainScalar.any.lo, uv PlainScalar.any.hi, sv PlainScalar.any.sl, sv PlainScalar.any.sh] := Bo.set_ 0 _
    replace hB : Below w.heap.size w (w4.setCell ⟨go, 0, none⟩ (uv (PlainTnum.sub a.b b.b).v)) := (Bl_set hB (by first | omega | (simp; done) | (simp; omega)) _)
    replace Ba : Blk ((w4.setCell ⟨go, 0, none⟩ (uv (PlainTnum.sub a.b b.b).v)).setCell ⟨go, 1, none⟩ (uv (PlainTnum.sub a.b b.b).m)) (w.heap.size) 39 #[uv a.b.v, uv a.b.m, uv a.lo, uv a.hi, sv a.sl, sv a.sh] := (Ba.far (by first | (simp; done) | (simp; omega) | (simp [*]; done) | (simp only [ne_eq]; constructor <;> omega)) _)
    replace Bb : Blk ((w4.setCell ⟨go, 0, none⟩ (uv (PlainTnum.sub a.b b.b).v)).setCell ⟨go, 1, none⟩ (uv (PlainTnum.sub a.b b.b).m)) (w.heap.size + 1) 39 #[uv b.b.v, uv b.b.m, uv b.lo, uv b.hi, sv b.sl, sv b.sh] := (Bb.far (by first | (simp; done) | (simp; omega) | (simp [*]; done) | (simp only [ne_eq]; constructor <;> omega)) _)
    replace Br : Blk ((w4.setCell ⟨go, 0, none⟩ (uv (PlainTnum.sub a.b b.b).v)).setCell ⟨go, 1, none⟩ (uv (PlainTnum.sub a.b b.b).m)) (w.heap.size + 1 + 1) 39 #[.int .u64 0, .int .u64 0, .int .u64 0, .int .u64 0, .int .i64 0, .int .i64 0] := (Br.far (by first | (simp; done) | (simp; omega) | (simp [*]; done) | (simp only [ne_eq]; constructor <;> omega)) _)
    replace Bo : Blk ((w4.setCell ⟨go, 0, none⟩ (uv (PlainTnum.sub a.b b.b).v)).setCell ⟨go, 1, none⟩ (uv (PlainTnum.sub a.b b.b).m)) (go) 39 #[uv (PlainTnum.sub a.b b.b).v, uv (PlainTnum.sub a.b b.b).m, uv PlainScalar.any.lo, uv PlainScalar.any.hi, sv PlainScalar.any.sl, sv PlainScalar.any.sh] := Bo.set_ 1 _
    replace hB : Below w.heap.size w ((w4.setCell ⟨go, 0, none⟩ (uv (PlainTnum.sub a.b b.b).v)).setCell ⟨go, 1, none⟩ (uv (PlainTnum.sub a.b b.b).m)) := (Bl_set hB (by first | omega | (simp; done) | (simp; omega)) _)
    generalize ((w4.setCell ⟨go, 0, none⟩ (uv (PlainTnum.sub a.b b.b).v)).setCell ⟨go, 1, none⟩ (uv (PlainTnum.sub a.b b.b).m)) = w5 at *
    have ca0 : w5.cell? ⟨w.heap.size, 0, none⟩ = some (uv a.b.v) := Ba.cell 0
    have ca1 : w5.cell? ⟨w.heap.size, 1, none⟩ = some (uv a.b.m) := Ba.cell 1
    have ca2 : w5.cell? ⟨w.heap.size, 2, none⟩ = some (uv a.lo) := Ba.cell 2
    have ca3 : w5.cell? ⟨w.heap.size, 3, none⟩ = some (uv a.hi) := Ba.cell 3
    have ca4 : w5.cell? ⟨w.heap.size, 4, none⟩ = some (sv a.sl) := Ba.cell 4
    have ca5 : w5.cell? ⟨w.heap.size, 5, none⟩ = some (sv a.sh) := Ba.cell 5
    have fa := Ba.frozen
    have la := Ba.lt
    have cb0 : w5.cell? ⟨w.heap.size + 1, 0, none⟩ = some (uv b.b.v) := Bb.cell 0
    have cb1 : w5.cell? ⟨w.heap.size + 1, 1, none⟩ = some (uv b.b.m) := Bb.cell 1
    have cb2 : w5.cell? ⟨w.heap.size + 1, 2, none⟩ = some (uv b.lo) := Bb.cell 2
    have cb3 : w5.cell? ⟨w.heap.size + 1, 3, none⟩ = some (uv b.hi) := Bb.cell 3
    have cb4 : w5.cell? ⟨w.heap.size + 1, 4, none⟩ = some (sv b.sl) := Bb.cell 4
    have cb5 : w5.cell? ⟨w.heap.size + 1, 5, none⟩ = some (sv b.sh) := Bb.cell 5
    have fb := Bb.frozen
    have lb := Bb.lt
    have cr0 : w5.cell? ⟨w.heap.size + 1 + 1, 0, none⟩ = some (.int .u64 0) := Br.cell 0
    have cr1 : w5.cell? ⟨w.heap.size + 1 + 1, 1, none⟩ = some (.int .u64 0) := Br.cell 1
    have cr2 : w5.cell? ⟨w.heap.size + 1 + 1, 2, none⟩ = some (.int .u64 0) := Br.cell 2
    have cr3 : w5.cell? ⟨w.heap.size + 1 + 1, 3, none⟩ = some (.int .u64 0) := Br.cell 3
    have cr4 : w5.cell? ⟨w.heap.size + 1 + 1, 4, none⟩ = some (.int .i64 0) := Br.cell 4
    have cr5 : w5.cell? ⟨w.heap.size + 1 + 1, 5, none⟩ = some (.int .i64 0) := Br.cell 5
    have fr := Br.frozen
    have lr := Br.lt
    have co0 : w5.cell? ⟨go, 0, none⟩ = some (uv (PlainTnum.sub a.b b.b).v) := Bo.cell 0
    have co1 : w5.cell? ⟨go, 1, none⟩ = some (uv (PlainTnum.sub a.b b.b).m) := Bo.cell 1
    have co2 : w5.cell? ⟨go, 2, none⟩ = some (uv PlainScalar.any.lo) := Bo.cell 2
    have co3 : w5.cell? ⟨go, 3, none⟩ = some (uv PlainScalar.any.hi) := Bo.cell 3
    have co4 : w5.cell? ⟨go, 4, none⟩ = some (sv PlainScalar.any.sl) := Bo.cell 4
    have co5 : w5.cell? ⟨go, 5, none⟩ = some (sv PlainScalar.any.sh) := Bo.cell 5
    have fo := Bo.frozen
    have lo := Bo.lt
    have qq : decide (T b.hi ≤ T a.lo) = true := by rw [← q]; exact decide_eq_decide.2 (by rw [T_le])
    go_wp2_with fail
    replace ca0 : ∀ g : Later w5, g.w.cell? ⟨w.heap.size, 0, none⟩ = some (uv a.b.v) := fun g => g.cell (Ba.cell 0)
    replace ca1 : ∀ g : Later w5, g.w.cell? ⟨w.heap.size, 1, none⟩ = some (uv a.b.m) := fun g => g.cell (Ba.cell 1)
    replace ca2 : ∀ g : Later w5, g.w.cell? ⟨w.heap.size, 2, none⟩ = some (uv a.lo) := fun g => g.cell (Ba.cell 2)
    replace ca3 : ∀ g : Later w5, g.w.cell? ⟨w.heap.size, 3, none⟩ = some (uv a.hi) := fun g => g.cell (Ba.cell 3)
    replace ca4 : ∀ g : Later w5, g.w.cell? ⟨w.heap.size, 4, none⟩ = some (sv a.sl) := fun g => g.cell (Ba.cell 4)
    replace ca5 : ∀ g : Later w5, g.w.cell? ⟨w.heap.size, 5, none⟩ = some (sv a.sh) := fun g => g.cell (Ba.cell 5)
    replace cb0 : ∀ g : Later w5, g.w.cell? ⟨w.heap.size + 1, 0, none⟩ = some (uv b.b.v) := fun g => g.cell (Bb.cell 0)
    replace cb1 : ∀ g : Later w5, g.w.cell? ⟨w.heap.size + 1, 1, none⟩ = some (uv b.b.m) := fun g => g.cell (Bb.cell 1)
    replace cb2 : ∀ g : Later w5, g.w.cell? ⟨w.heap.size + 1, 2, none⟩ = some (uv b.lo) := fun g => g.cell (Bb.cell 2)
    replace cb3 : ∀ g : Later w5, g.w.cell? ⟨w.heap.size + 1, 3, none⟩ = some (uv b.hi) := fun g => g.cell (Bb.cell 3)
    replace cb4 : ∀ g : Later w5, g.w.cell? ⟨w.heap.size + 1, 4, none⟩ = some (sv b.sl) := fun g => g.cell (Bb.cell 4)
    replace cb5 : ∀ g : Later w5, g.w.cell? ⟨w.heap.size + 1, 5, none⟩ = some (sv b.sh) := fun g => g.cell (Bb.cell 5)
    replace cr0 : ∀ g : Later w5, g.w.cell? ⟨w.heap.size + 1 + 1, 0, none⟩ = some (.int .u64 0) := fun g => g.cell (Br.cell 0)
    replace cr1 : ∀ g : Later w5, g.w.cell? ⟨w.heap.size + 1 + 1, 1, none⟩ = some (.int .u64 0) := fun g => g.cell (Br.cell 1)
    replace cr2 : ∀ g : Later w5, g.w.cell? ⟨w.heap.size + 1 + 1, 2, none⟩ = some (.int .u64 0) := fun g => g.cell (Br.cell 2)
    replace cr3 : ∀ g : Later w5, g.w.cell? ⟨w.heap.size + 1 + 1, 3, none⟩ = some (.int .u64 0) := fun g => g.cell (Br.cell 3)
    replace cr4 : ∀ g : Later w5, g.w.cell? ⟨w.heap.size + 1 + 1, 4, none⟩ = some (.int .i64 0) := fun g => g.cell (Br.cell 4)
    replace cr5 : ∀ g : Later w5, g.w.cell? ⟨w.heap.size + 1 + 1, 5, none⟩ = some (.int .i64 0) := fun g => g.cell (Br.cell 5)
    replace co0 : ∀ g : Later w5, g.w.cell? ⟨go, 0, none⟩ = some (uv (PlainTnum.sub a.b b.b).v) := fun g => g.cell (Bo.cell 0)
    replace co1 : ∀ g : Later w5, g.w.cell? ⟨go, 1, none⟩ = some (uv (PlainTnum.sub a.b b.b).m) := fun g => g.cell (Bo.cell 1)
    replace co2 : ∀ g : Later w5, g.w.cell? ⟨go, 2, none⟩ = some (uv PlainScalar.any.lo) := fun g => g.cell (Bo.cell 2)
    replace co3 : ∀ g : Later w5, g.w.cell? ⟨go, 3, none⟩ = some (uv PlainScalar.any.hi) := fun g => g.cell (Bo.cell 3)
    replace co4 : ∀ g : Later w5, g.w.cell? ⟨go, 4, none⟩ = some (sv PlainScalar.any.sl) := fun g => g.cell (Bo.cell 4)
    replace co5 : ∀ g : Later w5, g.w.cell? ⟨go, 5, none⟩ = some (sv PlainScalar.any.sh) := fun g => g.cell (Bo.cell 5)
    obtain ⟨S, hS⟩ : ∃ S : World → Prop, ∀ x, S x ↔ (x.cell? ⟨w.heap.size, 2, none⟩ = some (uv a.lo) ∧ x.cell? ⟨w.heap.size, 3, none⟩ = some (uv a.hi) ∧ x.cell? ⟨w.heap.size + 1, 2, none⟩ = some (uv b.lo) ∧ x.cell? ⟨w.heap.size + 1, 3, none⟩ = some (uv b.hi)) := ⟨_, fun _ => Iff.rfl⟩
    have u0 : ∀ g : Under S, g.w.cell? ⟨w.heap.size, 2, none⟩ = some (uv a.lo) := fun g => ((hS _).1 g.is).1
    have u1 : ∀ g : Under S, g.w.cell? ⟨w.heap.size, 3, none⟩ = some (uv a.hi) := fun g => ((hS _).1 g.is).2.1
    have u2 : ∀ g : Under S, g.w.cell? ⟨w.heap.size + 1, 2, none⟩ = some (uv b.lo) := fun g => ((hS _).1 g.is).2.2.1
    have u3 : ∀ g : Under S, g.w.cell? ⟨w.heap.size + 1, 3, none⟩ = some (uv b.hi) := fun g => ((hS _).1 g.is).2.2.2
    refine wp_region_mixS 11 (fun k => k == 5 || k == 6 || k == 7 || k == 8 || k == 9) (fun _ => #[]) S rfl (by kernel_rfl) (by kernel_rfl) (no_alloc (by kernel_rfl)) ?_
    simp only [List.take_succ_cons, List.take_zero, List.drop_succ_cons, List.drop_zero]
    repeat (refine wpMixS_step (fun K hK => ?_); go_simp; first | (refine hK _ ?_; clear hK K))
    refine wpMixS_nil ?_
    intro G w6 hgr hblk hdist
    have hb : Below w5.heap.size w5 w6 := hgr
    replace Ba := Ba.next hb
    replace Bb := Bb.next hb
    replace Br := Br.next hb
    replace Bo := Bo.next hb
    clear ca0 ca1 ca2 ca3 ca4 ca5 fa la
    clear cb0 cb1 cb2 cb3 cb4 cb5 fb lb
    clear cr0 cr1 cr2 cr3 cr4 cr5 fr lr
    clear co0 co1 co2 co3 co4 co5 fo lo
    clear u0 u1 u2 u3
    replace hB : Below w.heap.size w w6 := Bl_trans hB hb
    simp only [putAll, isAlloc]
    clear hb hgr hblk hdist
    have ca0 : w6.cell? ⟨w.heap.size, 0, none⟩ = some (uv a.b.v) := Ba.cell 0
    have ca1 : w6.cell? ⟨w.heap.size, 1, none⟩ = some (uv a.b.m) := Ba.cell 1
    have ca2 : w6.cell? ⟨w.heap.size, 2, none⟩ = some (uv a.lo) := Ba.cell 2
    have ca3 : w6.cell? ⟨w.heap.size, 3, none⟩ = some (uv a.hi) := Ba.cell 3
    have ca4 : w6.cell? ⟨w.heap.size, 4, none⟩ = some (sv a.sl) := Ba.cell 4
    have ca5 : w6.cell? ⟨w.heap.size, 5, none⟩ = some (sv a.sh) := Ba.cell 5
    have fa := Ba.frozen
    have la := Ba.lt
    have cb0 : w6.cell? ⟨w.heap.size + 1, 0, none⟩ = some (uv b.b.v) := Bb.cell 0
    have cb1 : w6.cell? ⟨w.heap.size + 1, 1, none⟩ = some (uv b.b.m) := Bb.cell 1
    have cb2 : w6.cell? ⟨w.heap.size + 1, 2, none⟩ = some (uv b.lo) := Bb.cell 2
    have cb3 : w6.cell? ⟨w.heap.size + 1, 3, none⟩ = some (uv b.hi) := Bb.cell 3
    have cb4 : w6.cell? ⟨w.heap.size + 1, 4, none⟩ = some (sv b.sl) := Bb.cell 4
    have cb5 : w6.cell? ⟨w.heap.size + 1, 5, none⟩ = some (sv b.sh) := Bb.cell 5
    have fb := Bb.frozen
    have lb := Bb.lt
    have cr0 : w6.cell? ⟨w.heap.size + 1 + 1, 0, none⟩ = some (.int .u64 0) := Br.cell 0
    have cr1 : w6.cell? ⟨w.heap.size + 1 + 1, 1, none⟩ = some (.int .u64 0) := Br.cell 1
    have cr2 : w6.cell? ⟨w.heap.size + 1 + 1, 2, none⟩ = some (.int .u64 0) := Br.cell 2
    have cr3 : w6.cell? ⟨w.heap.size + 1 + 1, 3, none⟩ = some (.int .u64 0) := Br.cell 3
    have cr4 : w6.cell? ⟨w.heap.size + 1 + 1, 4, none⟩ = some (.int .i64 0) := Br.cell 4
    have cr5 : w6.cell? ⟨w.heap.size + 1 + 1, 5, none⟩ = some (.int .i64 0) := Br.cell 5
    have fr := Br.frozen
    have lr := Br.lt
    have co0 : w6.cell? ⟨go, 0, none⟩ = some (uv (PlainTnum.sub a.b b.b).v) := Bo.cell 0
    have co1 : w6.cell? ⟨go, 1, none⟩ = some (uv (PlainTnum.sub a.b b.b).m) := Bo.cell 1
    have co2 : w6.cell? ⟨go, 2, none⟩ = some (uv PlainScalar.any.lo) := Bo.cell 2
    have co3 : w6.cell? ⟨go, 3, none⟩ = some (uv PlainScalar.any.hi) := Bo.cell 3
    have co4 : w6.cell? ⟨go, 4, none⟩ = some (sv PlainScalar.any.sl) := Bo.cell 4
    have co5 : w6.cell? ⟨go, 5, none⟩ = some (sv PlainScalar.any.sh) := Bo.cell 5
    have fo := Bo.frozen
    have lo := Bo.lt
    go_wp2_with fail
    refine ⟨by first | trivial | rfl, ?_, ?_⟩
    · refine (hS _).2 ?_; exact ⟨(Ba.far (by first | (simp; done) | (simp; omega) | (simp [*]; done) | (simp only [ne_eq]; constructor <;> omega)) _).cell 2, (Ba.far (by first | (simp; done) | (simp; omega) | (simp [*]; done) | (simp only [ne_eq]; constructor <;> omega)) _).cell 3, (Bb.far (by first | (simp; done) | (simp; omega) | (simp [*]; done) | (simp only [ne_eq]; constructor <;> omega)) _).cell 2, (Bb.far (by first | (simp; done) | (simp; omega) | (simp [*]; done) | (simp only [ne_eq]; constructor <;> omega)) _).cell 3⟩
    clear hS S
    clear ca0 ca1 ca2 ca3 ca4 ca5 fa la
    clear cb0 cb1 cb2 cb3 cb4 cb5 fb lb
    clear cr0 cr1 cr2 cr3 cr4 cr5 fr lr
    clear co0 co1 co2 co3 co4 co5 fo lo
    replace Ba : Blk (w6.setCell ⟨go, 2, none⟩ (uv (a.lo - b.hi))) (w.heap.size) 39 #[uv a.b.v, uv a.b.m, uv a.lo, uv a.hi, sv a.sl, sv a.sh] := (Ba.far (by first | (simp; done) | (simp; omega) | (simp [*]; done) | (simp only [ne_eq]; constructor <;> omega)) _)
    replace Bb : Blk (w6.setCell ⟨go, 2, none⟩ (uv (a.lo - b.hi))) (w.heap.size + 1) 39 #[uv b.b.v, uv b.b.m, uv b.lo, uv b.hi, sv b.sl, sv b.sh] := (Bb.far (by first | (simp; done) | (simp; omega) | (simp [*]; done) | (simp only [ne_eq]; constructor <;> omega)) _)
    replace Br : Blk (w6.setCell ⟨go, 2, none⟩ (uv (a.lo - b.hi))) (w.heap.size + 1 + 1) 39 #[.int .u64 0, .int .u64 0, .int .u64 0, .int .u64 0, .int .i64 0, .int .i64 0] := (Br.far (by first | (simp; done) | (simp; omega) | (simp [*]; done) | (simp only [ne_eq]; constructor <;> omega)) _)
    replace Bo : Blk (w6.setCell ⟨go, 2, none⟩ (uv (a.lo - b.hi))) (go) 39 #[uv (PlainTnum.sub a.b b.b).v, uv (PlainTnum.sub a.b b.b).m, uv (a.lo - b.hi), uv PlainScalar.any.hi, sv PlainScalar.any.sl, sv PlainScalar.any.sh] := Bo.set_ 2 _
    replace hB : Below w.heap.size w (w6.setCell ⟨go, 2, none⟩ (uv (a.lo - b.hi))) := (Bl_set hB (by first | omega | (simp; done) | (simp; omega)) _)
    generalize (w6.setCell ⟨go, 2, none⟩ (uv (a.lo - b.hi))) = w7 at *
    have ca0 : w7.cell? ⟨w.heap.size, 0, none⟩ = some (uv a.b.v) := Ba.cell 0
    have ca1 : w7.cell? ⟨w.heap.size, 1, none⟩ = some (uv a.b.m) := Ba.cell 1
    have ca2 : w7.cell? ⟨w.heap.size, 2, none⟩ = some (uv a.lo) := Ba.cell 2
    have ca3 : w7.cell? ⟨w.heap.size, 3, none⟩ = some (uv a.hi) := Ba.cell 3
    have ca4 : w7.cell? ⟨w.heap.size, 4, none⟩ = some (sv a.sl) := Ba.cell 4
    have ca5 : w7.cell? ⟨w.heap.size, 5, none⟩ = some (sv a.sh) := Ba.cell 5
    have fa := Ba.frozen
    have la := Ba.lt
    have cb0 : w7.cell? ⟨w.heap.size + 1, 0, none⟩ = some (uv b.b.v) := Bb.cell 0
    have cb1 : w7.cell? ⟨w.heap.size + 1, 1, none⟩ = some (uv b.b.m) := Bb.cell 1
    have cb2 : w7.cell? ⟨w.heap.size + 1, 2, none⟩ = some (uv b.lo) := Bb.cell 2
    have cb3 : w7.cell? ⟨w.heap.size + 1, 3, none⟩ = some (uv b.hi) := Bb.cell 3
    have cb4 : w7.cell? ⟨w.heap.size + 1, 4, none⟩ = some (sv b.sl) := Bb.cell 4
    have cb5 : w7.cell? ⟨w.heap.size + 1, 5, none⟩ = some (sv b.sh) := Bb.cell 5
    have fb := Bb.frozen
    have lb := Bb.lt
    have cr0 : w7.cell? ⟨w.heap.size + 1 + 1, 0, none⟩ = some (.int .u64 0) := Br.cell 0
    have cr1 : w7.cell? ⟨w.heap.size + 1 + 1, 1, none⟩ = some (.int .u64 0) := Br.cell 1
    have cr2 : w7.cell? ⟨w.heap.size + 1 + 1, 2, none⟩ = some (.int .u64 0) := Br.cell 2
    have cr3 : w7.cell? ⟨w.heap.size + 1 + 1, 3, none⟩ = some (.int .u64 0) := Br.cell 3
    have cr4 : w7.cell? ⟨w.heap.size + 1 + 1, 4, none⟩ = some (.int .i64 0) := Br.cell 4
    have cr5 : w7.cell? ⟨w.heap.size + 1 + 1, 5, none⟩ = some (.int .i64 0) := Br.cell 5
    have fr := Br.frozen
    have lr := Br.lt
    have co0 : w7.cell? ⟨go, 0, none⟩ = some (uv (PlainTnum.sub a.b b.b).v) := Bo.cell 0
    have co1 : w7.cell? ⟨go, 1, none⟩ = some (uv (PlainTnum.sub a.b b.b).m) := Bo.cell 1
    have co2 : w7.cell? ⟨go, 2, none⟩ = some (uv (a.lo - b.hi)) := Bo.cell 2
    have co3 : w7.cell? ⟨go, 3, none⟩ = some (uv PlainScalar.any.hi) := Bo.cell 3
    have co4 : w7.cell? ⟨go, 4, none⟩ = some (sv PlainScalar.any.sl) := Bo.cell 4
    have co5 : w7.cell? ⟨go, 5, none⟩ = some (sv PlainScalar.any.sh) := Bo.cell 5
    have fo := Bo.frozen
    have lo := Bo.lt
    go_upto_region 5 with fail
    clear ca0 ca1 ca2 ca3 ca4 ca5 fa la
    clear cb0 cb1 cb2 cb3 cb4 cb5 fb lb
    clear cr0 cr1 cr2 cr3 cr4 cr5 fr lr
    clear co0 co1 co2 co3 co4 co5 fo lo
    replace Ba : Blk (w7.setCell ⟨go, 3, none⟩ (uv (a.hi - b.lo))) (w.heap.size) 39 #[uv a.b.v, uv a.b.m, uv a.lo, uv a.hi, sv a.sl, sv a.sh] := (Ba.far (by first | (simp; done) | (simp; omega) | (simp [*]; done) | (simp only [ne_eq]; constructor <;> omega)) _)
    replace Bb : Blk (w7.setCell ⟨go, 3, none⟩ (uv (a.hi - b.lo))) (w.heap.size + 1) 39 #[uv b.b.v, uv b.b.m, uv b.lo, uv b.hi, sv b.sl, sv b.sh] := (Bb.far (by first | (simp; done) | (simp; omega) | (simp [*]; done) | (simp only [ne_eq]; constructor <;> omega)) _)
    replace Br : Blk (w7.setCell ⟨go, 3, none⟩ (uv (a.hi - b.lo))) (w.heap.size + 1 + 1) 39 #[.int .u64 0, .int .u64 0, .int .u64 0, .int .u64 0, .int .i64 0, .int .i64 0] := (Br.far (by first | (simp; done) | (simp; omega) | (simp [*]; done) | (simp only [ne_eq]; constructor <;> omega)) _)
    replace Bo : Blk (w7.setCell ⟨go, 3, none⟩ (uv (a.hi - b.lo))) (go) 39 #[uv (PlainTnum.sub a.b b.b).v, uv (PlainTnum.sub a.b b.b).m, uv (a.lo - b.hi), uv (a.hi - b.lo), sv PlainScalar.any.sl, sv PlainScalar.any.sh] := Bo.set_ 3 _
    replace hB : Below w.heap.size w (w7.setCell ⟨go, 3, none⟩ (uv (a.hi - b.lo))) := (Bl_set hB (by first | omega | (simp; done) | (simp; omega)) _)
    generalize (w7.setCell ⟨go, 3, none⟩ (uv (a.hi - b.lo))) = w8 at *
    have ca0 : w8.cell? ⟨w.heap.size, 0, none⟩ = some (uv a.b.v) := Ba.cell 0
    have ca1 : w8.cell? ⟨w.heap.size, 1, none⟩ = some (uv a.b.m) := Ba.cell 1
    have ca2 : w8.cell? ⟨w.heap.size, 2, none⟩ = some (uv a.lo) := Ba.cell 2
    have ca3 : w8.cell? ⟨w.heap.size, 3, none⟩ = some (uv a.hi) := Ba.cell 3
    have ca4 : w8.cell? ⟨w.heap.size, 4, none⟩ = some (sv a.sl) := Ba.cell 4
    have ca5 : w8.cell? ⟨w.heap.size, 5, none⟩ = some (sv a.sh) := Ba.cell 5
    have fa := Ba.frozen
    have la := Ba.lt
    have cb0 : w8.cell? ⟨w.heap.size + 1, 0, none⟩ = some (uv b.b.v) := Bb.cell 0
    have cb1 : w8.cell? ⟨w.heap.size + 1, 1, none⟩ = some (uv b.b.m) := Bb.cell 1
    have cb2 : w8.cell? ⟨w.heap.size + 1, 2, none⟩ = some (uv b.lo) := Bb.cell 2
    have cb3 : w8.cell? ⟨w.heap.size + 1, 3, none⟩ = some (uv b.hi) := Bb.cell 3
    have cb4 : w8.cell? ⟨w.heap.size + 1, 4, none⟩ = some (sv b.sl) := Bb.cell 4
    have cb5 : w8.cell? ⟨w.heap.size + 1, 5, none⟩ = some (sv b.sh) := Bb.cell 5
    have fb := Bb.frozen
    have lb := Bb.lt
    have cr0 : w8.cell? ⟨w.heap.size + 1 + 1, 0, none⟩ = some (.int .u64 0) := Br.cell 0
    have cr1 : w8.cell? ⟨w.heap.size + 1 + 1, 1, none⟩ = some (.int .u64 0) := Br.cell 1
    have cr2 : w8.cell? ⟨w.heap.size + 1 + 1, 2, none⟩ = some (.int .u64 0) := Br.cell 2
    have cr3 : w8.cell? ⟨w.heap.size + 1 + 1, 3, none⟩ = some (.int .u64 0) := Br.cell 3
    have cr4 : w8.cell? ⟨w.heap.size + 1 + 1, 4, none⟩ = some (.int .i64 0) := Br.cell 4
    have cr5 : w8.cell? ⟨w.heap.size + 1 + 1, 5, none⟩ = some (.int .i64 0) := Br.cell 5
    have fr := Br.frozen
    have lr := Br.lt
    have co0 : w8.cell? ⟨go, 0, none⟩ = some (uv (PlainTnum.sub a.b b.b).v) := Bo.cell 0
    have co1 : w8.cell? ⟨go, 1, none⟩ = some (uv (PlainTnum.sub a.b b.b).m) := Bo.cell 1
    have co2 : w8.cell? ⟨go, 2, none⟩ = some (uv (a.lo - b.hi)) := Bo.cell 2
    have co3 : w8.cell? ⟨go, 3, none⟩ = some (uv (a.hi - b.lo)) := Bo.cell 3
    have co4 : w8.cell? ⟨go, 4, none⟩ = some (sv PlainScalar.any.sl) := Bo.cell 4
    have co5 : w8.cell? ⟨go, 5, none⟩ = some (sv PlainScalar.any.sh) := Bo.cell 5
    have fo := Bo.frozen
    have lo := Bo.lt
    go_wp2_with fail
    refine (settled_c (⟨(PlainTnum.sub a.b b.b), (a.lo - b.hi), (a.hi - b.lo), PlainScalar.any.sl, PlainScalar.any.sh⟩ : Rng) _).mono ?_
    rintro e w9 ⟨rfl, hb⟩
    clear ca0 ca1 ca2 ca3 ca4 ca5 fa la
    clear cb0 cb1 cb2 cb3 cb4 cb5 fb lb
    clear cr0 cr1 cr2 cr3 cr4 cr5 fr lr
    clear co0 co1 co2 co3 co4 co5 fo lo
    replace Ba := (Ba).next hb
    replace Bb := (Bb).next hb
    replace Br := (Br).next hb
    replace Bo := (Bo).next hb
    replace hB : Below w.heap.size w w9 := by repeat (first | exact hB | (refine Bl_set ?_ (by first | omega | (simp; omega)) _) | apply Bl_alloc | (refine Bl_trans ?_ hb))
    clear hb
    have ca0 : w9.cell? ⟨w.heap.size, 0, none⟩ = some (uv a.b.v) := Ba.cell 0
    have ca1 : w9.cell? ⟨w.heap.size, 1, none⟩ = some (uv a.b.m) := Ba.cell 1
    have ca2 : w9.cell? ⟨w.heap.size, 2, none⟩ = some (uv a.lo) := Ba.cell 2
    have ca3 : w9.cell? ⟨w.heap.size, 3, none⟩ = some (uv a.hi) := Ba.cell 3
    have ca4 : w9.cell? ⟨w.heap.size, 4, none⟩ = some (sv a.sl) := Ba.cell 4
    have ca5 : w9.cell? ⟨w.heap.size, 5, none⟩ = some (sv a.sh) := Ba.cell 5
    have fa := Ba.frozen
    have la := Ba.lt
    have cb0 : w9.cell? ⟨w.heap.size + 1, 0, none⟩ = some (uv b.b.v) := Bb.cell 0
    have cb1 : w9.cell? ⟨w.heap.size + 1, 1, none⟩ = some (uv b.b.m) := Bb.cell 1
    have cb2 : w9.cell? ⟨w.heap.size + 1, 2, none⟩ = some (uv b.lo) := Bb.cell 2
    have cb3 : w9.cell? ⟨w.heap.size + 1, 3, none⟩ = some (uv b.hi) := Bb.cell 3
    have cb4 : w9.cell? ⟨w.heap.size + 1, 4, none⟩ = some (sv b.sl) := Bb.cell 4
    have cb5 : w9.cell? ⟨w.heap.size + 1, 5, none⟩ = some (sv b.sh) := Bb.cell 5
    have fb := Bb.frozen
    have lb := Bb.lt
    have cr0 : w9.cell? ⟨w.heap.size + 1 + 1, 0, none⟩ = some (.int .u64 0) := Br.cell 0
    have cr1 : w9.cell? ⟨w.heap.size + 1 + 1, 1, none⟩ = some (.int .u64 0) := Br.cell 1
    have cr2 : w9.cell? ⟨w.heap.size + 1 + 1, 2, none⟩ = some (.int .u64 0) := Br.cell 2
    have cr3 : w9.cell? ⟨w.heap.size + 1 + 1, 3, none⟩ = some (.int .u64 0) := Br.cell 3
    have cr4 : w9.cell? ⟨w.heap.size + 1 + 1, 4, none⟩ = some (.int .i64 0) := Br.cell 4
    have cr5 : w9.cell? ⟨w.heap.size + 1 + 1, 5, none⟩ = some (.int .i64 0) := Br.cell 5
    have fr := Br.frozen
    have lr := Br.lt
    have co0 : w9.cell? ⟨go, 0, none⟩ = some (uv (PlainTnum.sub a.b b.b).v) := Bo.cell 0
    have co1 : w9.cell? ⟨go, 1, none⟩ = some (uv (PlainTnum.sub a.b b.b).m) := Bo.cell 1
    have co2 : w9.cell? ⟨go, 2, none⟩ = some (uv (a.lo - b.hi)) := Bo.cell 2
    have co3 : w9.cell? ⟨go, 3, none⟩ = some (uv (a.hi - b.lo)) := Bo.cell 3
    have co4 : w9.cell? ⟨go, 4, none⟩ = some (sv PlainScalar.any.sl) := Bo.cell 4
    have co5 : w9.cell? ⟨go, 5, none⟩ = some (sv PlainScalar.any.sh) := Bo.cell 5
    have fo := Bo.frozen
    have lo := Bo.lt
    go_wp2
    exact bodyPost_ret (v := rv (PlainScalar.settled ⟨(PlainTnum.sub a.b b.b), (a.lo - b.hi), (a.hi - b.lo), PlainScalar.any.sl, PlainScalar.any.sh⟩)) (by simp [results, Try.results42, go_sem, cr0, cr1, cr2, cr3, cr4, cr5, lr]) rfl ⟨by rw [hs], by repeat (first | (with_reducible exact hB) | (with_reducible refine Bl_set ?_ (by first | omega | (simp; done) | (simp; omega)) _) | with_reducible apply Bl_alloc)⟩
set_option maxRecDepth 100000 in
set_option maxHeartbeats 3200000 in
theorem sprod_c (a b : Rng) (w : World) : Calls Try.prog 43 #[rv a, rv b] w fun e w' => e = .returned (rv (PlainScalar.product a b)) ∧ Below w.heap.size w w' := by
  cases q : decide (a.hi.toNat * b.hi.toNat < 18446744073709551616)
  · have hs : PlainScalar.product a b = PlainScalar.settled ⟨(PlainTnum.mul a.b b.b), PlainScalar.any.lo, PlainScalar.any.hi, PlainScalar.any.sl, PlainScalar.any.sh⟩ := by unfold PlainScalar.product; rw [if_neg (show ¬ _ from of_decide_eq_false q)]
    go_enter Try.func43, Try.ntmps43
    go_wp2_with fail
    obtain ⟨ga, hga⟩ : ∃ g, g = w.heap.size := ⟨_, rfl⟩
    obtain ⟨gb, hgb⟩ : ∃ g, g = w.heap.size + 1 := ⟨_, rfl⟩
    obtain ⟨gr, hgr⟩ : ∃ g, g = w.heap.size + 1 + 1 := ⟨_, rfl⟩
    have Ba : Blk (((w.alloc (.cells #[uv a.b.v, uv a.b.m, uv a.lo, uv a.hi, sv a.sl, sv a.sh] 39)).alloc (.cells #[uv b.b.v, uv b.b.m, uv b.lo, uv b.hi, sv b.sl, sv b.sh] 39)).alloc (.cells #[.int .u64 0, .int .u64 0, .int .u64 0, .int .u64 0, .int .i64 0, .int .i64 0] 39)) (w.heap.size) 39 #[uv a.b.v, uv a.b.m, uv a.lo, uv a.hi, sv a.sl, sv a.sh] := (((Blk.new w 39 #[uv a.b.v, uv a.b.m, uv a.lo, uv a.hi, sv a.sl, sv a.sh])).alloc _).alloc _
    have Bb : Blk (((w.alloc (.cells #[uv a.b.v, uv a.b.m, uv a.lo, uv a.hi, sv a.sl, sv a.sh] 39)).alloc (.cells #[uv b.b.v, uv b.b.m, uv b.lo, uv b.hi, sv b.sl, sv b.sh] 39)).alloc (.cells #[.int .u64 0, .int .u64 0, .int .u64 0, .int .u64 0, .int .i64 0, .int .i64 0] 39)) (w.heap.size + 1) 39 #[uv b.b.v, uv b.b.m, uv b.lo, uv b.hi, sv b.sl, sv b.sh] := ((by simpa using Blk.new (w.alloc (.cells #[uv a.b.v, uv a.b.m, uv a.lo, uv a.hi, sv a.sl, sv a.sh] 39)) 39 #[uv b.b.v, uv b.b.m, uv b.lo, uv b.hi, sv b.sl, sv b.sh] : Blk _ (w.heap.size + 1) 39 #[uv b.b.v, uv b.b.m, uv b.lo, uv b.hi, sv b.sl, sv b.sh])).alloc _
    have Br : Blk (((w.alloc (.cells #[uv a.b.v, uv a.b.m, uv a.lo, uv a.hi, sv a.sl, sv a.sh] 39)).alloc (.cells #[uv b.b.v, uv b.b.m, uv b.lo, uv b.hi, sv b.sl, sv b.sh] 39)).alloc (.cells #[.int .u64 0, .int .u64 0, .int .u64 0, .int .u64 0, .int .i64 0, .int .i64 0] 39)) (w.heap.size + 1 + 1) 39 #[.int .u64 0, .int .u64 0, .int .u64 0, .int .u64 0, .int .i64 0, .int .i64 0] := (by simpa using Blk.new ((w.alloc (.cells #[uv a.b.v, uv a.b.m, uv a.lo, uv a.hi, sv a.sl, sv a.sh] 39)).alloc (.cells #[uv b.b.v, uv b.b.m, uv b.lo, uv b.hi, sv b.sl, sv b.sh] 39)) 39 #[.int .u64 0, .int .u64 0, .int .u64 0, .int .u64 0, .int .i64 0, .int .i64 0] : Blk _ (w.heap.size + 1 + 1) 39 #[.int .u64 0, .int .u64 0, .int .u64 0, .int .u64 0, .int .i64 0, .int .i64 0])
    have hB : Below w.heap.size w (((w.alloc (.cells #[uv a.b.v, uv a.b.m, uv a.lo, uv a.hi, sv a.sl, sv a.sh] 39)).alloc (.cells #[uv b.b.v, uv b.b.m, uv b.lo, uv b.hi, sv b.sl, sv b.sh] 39)).alloc (.cells #[.int .u64 0, .int .u64 0, .int .u64 0, .int .u64 0, .int .i64 0, .int .i64 0] 39)) := (Bl_alloc (Bl_alloc (Bl_alloc (Bl_refl w) _) _) _)
    clear hga
    clear ga
    clear hgb
    clear gb
    clear hgr
    clear gr
    generalize (((w.alloc (.cells #[uv a.b.v, uv a.b.m, uv a.lo, uv a.hi, sv a.sl, sv a.sh] 39)).alloc (.cells #[uv b.b.v, uv b.b.m, uv b.lo, uv b.hi, sv b.sl, sv b.sh] 39)).alloc (.cells #[.int .u64 0, .int .u64 0, .int .u64 0, .int .u64 0, .int .i64 0, .int .i64 0] 39)) = w1 at *
    have ca0 : w1.cell? ⟨w.heap.size, 0, none⟩ = some (uv a.b.v) := Ba.cell 0
    have ca1 : w1.cell? ⟨w.heap.size, 1, none⟩ = some (uv a.b.m) := Ba.cell 1
    have ca2 : w1.cell? ⟨w.heap.size, 2, none⟩ = some (uv a.lo) := Ba.cell 2
    have ca3 : w1.cell? ⟨w.heap.size, 3, none⟩ = some (uv a.hi) := Ba.cell 3
    have ca4 : w1.cell? ⟨w.heap.size, 4, none⟩ = some (sv a.sl) := Ba.cell 4
    have ca5 : w1.cell? ⟨w.heap.size, 5, none⟩ = some (sv a.sh) := Ba.cell 5
    have fa := Ba.frozen
    have la := Ba.lt
    have cb0 : w1.cell? ⟨w.heap.size + 1, 0, none⟩ = some (uv b.b.v) := Bb.cell 0
    have cb1 : w1.cell? ⟨w.heap.size + 1, 1, none⟩ = some (uv b.b.m) := Bb.cell 1
    have cb2 : w1.cell? ⟨w.heap.size + 1, 2, none⟩ = some (uv b.lo) := Bb.cell 2
    have cb3 : w1.cell? ⟨w.heap.size + 1, 3, none⟩ = some (uv b.hi) := Bb.cell 3
    have cb4 : w1.cell? ⟨w.heap.size + 1, 4, none⟩ = some (sv b.sl) := Bb.cell 4
    have cb5 : w1.cell? ⟨w.heap.size + 1, 5, none⟩ = some (sv b.sh) := Bb.cell 5
    have fb := Bb.frozen
    have lb := Bb.lt
    have cr0 : w1.cell? ⟨w.heap.size + 1 + 1, 0, none⟩ = some (.int .u64 0) := Br.cell 0
    have cr1 : w1.cell? ⟨w.heap.size + 1 + 1, 1, none⟩ = some (.int .u64 0) := Br.cell 1
    have cr2 : w1.cell? ⟨w.heap.size + 1 + 1, 2, none⟩ = some (.int .u64 0) := Br.cell 2
    have cr3 : w1.cell? ⟨w.heap.size + 1 + 1, 3, none⟩ = some (.int .u64 0) := Br.cell 3
    have cr4 : w1.cell? ⟨w.heap.size + 1 + 1, 4, none⟩ = some (.int .i64 0) := Br.cell 4
    have cr5 : w1.cell? ⟨w.heap.size + 1 + 1, 5, none⟩ = some (.int .i64 0) := Br.cell 5
    have fr := Br.frozen
    have lr := Br.lt
    go_wp2_with fail
    refine (sany_c _).mono ?_
    rintro e w2 ⟨rfl, hb⟩
    clear ca0 ca1 ca2 ca3 ca4 ca5 fa la
    clear cb0 cb1 cb2 cb3 cb4 cb5 fb lb
    clear cr0 cr1 cr2 cr3 cr4 cr5 fr lr
    replace Ba := (Ba).next hb
    replace Bb := (Bb).next hb
    replace Br := (Br).next hb
    replace hB : Below w.heap.size w w2 := by repeat (first | exact hB | (refine Bl_set ?_ (by first | omega | (simp; omega)) _) | apply Bl_alloc | (refine Bl_trans ?_ hb))
    clear hb
    have ca0 : w2.cell? ⟨w.heap.size, 0, none⟩ = some (uv a.b.v) := Ba.cell 0
    have ca1 : w2.cell? ⟨w.heap.size, 1, none⟩ = some (uv a.b.m) := Ba.cell 1
    have ca2 : w2.cell? ⟨w.heap.size, 2, none⟩ = some (uv a.lo) := Ba.cell 2
    have ca3 : w2.cell? ⟨w.heap.size, 3, none⟩ = some (uv a.hi) := Ba.cell 3
    have ca4 : w2.cell? ⟨w.heap.size, 4, none⟩ = some (sv a.sl) := Ba.cell 4
    have ca5 : w2.cell? ⟨w.heap.size, 5, none⟩ = some (sv a.sh) := Ba.cell 5
    have fa := Ba.frozen
    have la := Ba.lt
    have cb0 : w2.cell? ⟨w.heap.size + 1, 0, none⟩ = some (uv b.b.v) := Bb.cell 0
    have cb1 : w2.cell? ⟨w.heap.size + 1, 1, none⟩ = some (uv b.b.m) := Bb.cell 1
    have cb2 : w2.cell? ⟨w.heap.size + 1, 2, none⟩ = some (uv b.lo) := Bb.cell 2
    have cb3 : w2.cell? ⟨w.heap.size + 1, 3, none⟩ = some (uv b.hi) := Bb.cell 3
    have cb4 : w2.cell? ⟨w.heap.size + 1, 4, none⟩ = some (sv b.sl) := Bb.cell 4
    have cb5 : w2.cell? ⟨w.heap.size + 1, 5, none⟩ = some (sv b.sh) := Bb.cell 5
    have fb := Bb.frozen
    have lb := Bb.lt
    have cr0 : w2.cell? ⟨w.heap.size + 1 + 1, 0, none⟩ = some (.int .u64 0) := Br.cell 0
    have cr1 : w2.cell? ⟨w.heap.size + 1 + 1, 1, none⟩ = some (.int .u64 0) := Br.cell 1
    have cr2 : w2.cell? ⟨w.heap.size + 1 + 1, 2, none⟩ = some (.int .u64 0) := Br.cell 2
    have cr3 : w2.cell? ⟨w.heap.size + 1 + 1, 3, none⟩ = some (.int .u64 0) := Br.cell 3
    have cr4 : w2.cell? ⟨w.heap.size + 1 + 1, 4, none⟩ = some (.int .i64 0) := Br.cell 4
    have cr5 : w2.cell? ⟨w.heap.size + 1 + 1, 5, none⟩ = some (.int .i64 0) := Br.cell 5
    have fr := Br.frozen
    have lr := Br.lt
    go_upto_region 2 with fail
    clear ca0 ca1 ca2 ca3 ca4 ca5 fa la
    clear cb0 cb1 cb2 cb3 cb4 cb5 fb lb
    clear cr0 cr1 cr2 cr3 cr4 cr5 fr lr
    have Bo := Blk.new w2 39 #[uv PlainScalar.any.b.v, uv PlainScalar.any.b.m, uv PlainScalar.any.lo, uv PlainScalar.any.hi, sv PlainScalar.any.sl, sv PlainScalar.any.sh]
    have hgo := hB.size
    have hnao := Nat.ne_of_lt Ba.lt; have hltao := Ba.lt
    have hnbo := Nat.ne_of_lt Bb.lt; have hltbo := Bb.lt
    have hnro := Nat.ne_of_lt Br.lt; have hltro := Br.lt
    replace Ba : Blk (w2.alloc (.cells #[uv PlainScalar.any.b.v, uv PlainScalar.any.b.m, uv PlainScalar.any.lo, uv PlainScalar.any.hi, sv PlainScalar.any.sl, sv PlainScalar.any.sh] 39)) (w.heap.size) 39 #[uv a.b.v, uv a.b.m, uv a.lo, uv a.hi, sv a.sl, sv a.sh] := Ba.alloc _
    replace Bb : Blk (w2.alloc (.cells #[uv PlainScalar.any.b.v, uv PlainScalar.any.b.m, uv PlainScalar.any.lo, uv PlainScalar.any.hi, sv PlainScalar.any.sl, sv PlainScalar.any.sh] 39)) (w.heap.size + 1) 39 #[uv b.b.v, uv b.b.m, uv b.lo, uv b.hi, sv b.sl, sv b.sh] := Bb.alloc _
    replace Br : Blk (w2.alloc (.cells #[uv PlainScalar.any.b.v, uv PlainScalar.any.b.m, uv PlainScalar.any.lo, uv PlainScalar.any.hi, sv PlainScalar.any.sl, sv PlainScalar.any.sh] 39)) (w.heap.size + 1 + 1) 39 #[.int .u64 0, .int .u64 0, .int .u64 0, .int .u64 0, .int .i64 0, .int .i64 0] := Br.alloc _
    replace hB : Below w.heap.size w (w2.alloc (.cells #[uv PlainScalar.any.b.v, uv PlainScalar.any.b.m, uv PlainScalar.any.lo, uv PlainScalar.any.hi, sv PlainScalar.any.sl, sv PlainScalar.any.sh] 39)) := Bl_alloc hB _
    generalize (w2.alloc (.cells #[uv PlainScalar.any.b.v, uv PlainScalar.any.b.m, uv PlainScalar.any.lo, uv PlainScalar.any.hi, sv PlainScalar.any.sl, sv PlainScalar.any.sh] 39)) = w3 at *
    generalize w2.heap.size = go at *
    have ca0 : w3.cell? ⟨w.heap.size, 0, none⟩ = some (uv a.b.v) := Ba.cell 0
    have ca1 : w3.cell? ⟨w.heap.size, 1, none⟩ = some (uv a.b.m) := Ba.cell 1
    have ca2 : w3.cell? ⟨w.heap.size, 2, none⟩ = some (uv a.lo) := Ba.cell 2
    have ca3 : w3.cell? ⟨w.heap.size, 3, none⟩ = some (uv a.hi) := Ba.cell 3
    have ca4 : w3.cell? ⟨w.heap.size, 4, none⟩ = some (sv a.sl) := Ba.cell 4
    have ca5 : w3.cell? ⟨w.heap.size, 5, none⟩ = some (sv a.sh) := Ba.cell 5
    have fa := Ba.frozen
    have la := Ba.lt
    have cb0 : w3.cell? ⟨w.heap.size + 1, 0, none⟩ = some (uv b.b.v) := Bb.cell 0
    have cb1 : w3.cell? ⟨w.heap.size + 1, 1, none⟩ = some (uv b.b.m) := Bb.cell 1
    have cb2 : w3.cell? ⟨w.heap.size + 1, 2, none⟩ = some (uv b.lo) := Bb.cell 2
    have cb3 : w3.cell? ⟨w.heap.size + 1, 3, none⟩ = some (uv b.hi) := Bb.cell 3
    have cb4 : w3.cell? ⟨w.heap.size + 1, 4, none⟩ = some (sv b.sl) := Bb.cell 4
    have cb5 : w3.cell? ⟨w.heap.size + 1, 5, none⟩ = some (sv b.sh) := Bb.cell 5
    have fb := Bb.frozen
    have lb := Bb.lt
    have cr0 : w3.cell? ⟨w.heap.size + 1 + 1, 0, none⟩ = some (.int .u64 0) := Br.cell 0
    have cr1 : w3.cell? ⟨w.heap.size + 1 + 1, 1, none⟩ = some (.int .u64 0) := Br.cell 1
    have cr2 : w3.cell? ⟨w.heap.size + 1 + 1, 2, none⟩ = some (.int .u64 0) := Br.cell 2
    have cr3 : w3.cell? ⟨w.heap.size + 1 + 1, 3, none⟩ = some (.int .u64 0) := Br.cell 3
    have cr4 : w3.cell? ⟨w.heap.size + 1 + 1, 4, none⟩ = some (.int .i64 0) := Br.cell 4
    have cr5 : w3.cell? ⟨w.heap.size + 1 + 1, 5, none⟩ = some (.int .i64 0) := Br.cell 5
    have fr := Br.frozen
    have lr := Br.lt
    have co0 : w3.cell? ⟨go, 0, none⟩ = some (uv PlainScalar.any.b.v) := Bo.cell 0
    have co1 : w3.cell? ⟨go, 1, none⟩ = some (uv PlainScalar.any.b.m) := Bo.cell 1
    have co2 : w3.cell? ⟨go, 2, none⟩ = some (uv PlainScalar.any.lo) := Bo.cell 2
    have co3 : w3.cell? ⟨go, 3, none⟩ = some (uv PlainScalar.any.hi) := Bo.cell 3
    have co4 : w3.cell? ⟨go, 4, none⟩ = some (sv PlainScalar.any.sl) := Bo.cell 4
    have co5 : w3.cell? ⟨go, 5, none⟩ = some (sv PlainScalar.any.sh) := Bo.cell 5
    have fo := Bo.frozen
    have lo := Bo.lt
    go_wp2_with fail
    refine (mul_c _ _ _).mono ?_
    rintro e w4 ⟨rfl, hb⟩
    clear ca0 ca1 ca2 ca3 ca4 ca5 fa la
    clear cb0 cb1 cb2 cb3 cb4 cb5 fb lb
    clear cr0 cr1 cr2 cr3 cr4 cr5 fr lr
    clear co0 co1 co2 co3 co4 co5 fo lo
    replace Ba := (Ba).next hb
    replace Bb := (Bb).next hb
    replace Br := (Br).next hb
    replace Bo := (Bo).next hb
    replace hB : Below w.heap.size w w4 := by repeat (first | exact hB | (refine Bl_set ?_ (by first | omega | (simp; omega)) _) | apply Bl_alloc | (refine Bl_trans ?_ hb))
    clear hb
    have ca0 : w4.cell? ⟨w.heap.size, 0, none⟩ = some (uv a.b.v) := Ba.cell 0
    have ca1 : w4.cell? ⟨w.heap.size, 1, none⟩ = some (uv a.b.m) := Ba.cell 1
    have ca2 : w4.cell? ⟨w.heap.size, 2, none⟩ = some (uv a.lo) := Ba.cell 2
    have ca3 : w4.cell? ⟨w.heap.size, 3, none⟩ = some (uv a.hi) := Ba.cell 3
    have ca4 : w4.cell? ⟨w.heap.size, 4, none⟩ = some (sv a.sl) := Ba.cell 4
    have ca5 : w4.cell? ⟨w.heap.size, 5, none⟩ = some (sv a.sh) := Ba.cell 5
    have fa := Ba.frozen
    have la := Ba.lt
    have cb0 : w4.cell? ⟨w.heap.size + 1, 0, none⟩ = some (uv b.b.v) := Bb.cell 0
    have cb1 : w4.cell? ⟨w.heap.size + 1, 1, none⟩ = some (uv b.b.m) := Bb.cell 1
    have cb2 : w4.cell? ⟨w.heap.size + 1, 2, none⟩ = some (uv b.lo) := Bb.cell 2
    have cb3 : w4.cell? ⟨w.heap.size + 1, 3, none⟩ = some (uv b.hi) := Bb.cell 3
    have cb4 : w4.cell? ⟨w.heap.size + 1, 4, none⟩ = some (sv b.sl) := Bb.cell 4
    have cb5 : w4.cell? ⟨w.heap.size + 1, 5, none⟩ = some (sv b.sh) := Bb.cell 5
    have fb := Bb.frozen
    have lb := Bb.lt
    have cr0 : w4.cell? ⟨w.heap.size + 1 + 1, 0, none⟩ = some (.int .u64 0) := Br.cell 0
    have cr1 : w4.cell? ⟨w.heap.size + 1 + 1, 1, none⟩ = some (.int .u64 0) := Br.cell 1
    have cr2 : w4.cell? ⟨w.heap.size + 1 + 1, 2, none⟩ = some (.int .u64 0) := Br.cell 2
    have cr3 : w4.cell? ⟨w.heap.size + 1 + 1, 3, none⟩ = some (.int .u64 0) := Br.cell 3
    have cr4 : w4.cell? ⟨w.heap.size + 1 + 1, 4, none⟩ = some (.int .i64 0) := Br.cell 4
    have cr5 : w4.cell? ⟨w.heap.size + 1 + 1, 5, none⟩ = some (.int .i64 0) := Br.cell 5
    have fr := Br.frozen
    have lr := Br.lt
    have co0 : w4.cell? ⟨go, 0, none⟩ = some (uv PlainScalar.any.b.v) := Bo.cell 0
    have co1 : w4.cell? ⟨go, 1, none⟩ = some (uv PlainScalar.any.b.m) := Bo.cell 1
    have co2 : w4.cell? ⟨go, 2, none⟩ = some (uv PlainScalar.any.lo) := Bo.cell 2
    have co3 : w4.cell? ⟨go, 3, none⟩ = some (uv PlainScalar.any.hi) := Bo.cell 3
    have co4 : w4.cell? ⟨go, 4, none⟩ = some (sv PlainScalar.any.sl) := Bo.cell 4
    have co5 : w4.cell? ⟨go, 5, none⟩ = some (sv PlainScalar.any.sh) := Bo.cell 5
    have fo := Bo.frozen
    have lo := Bo.lt
    go_upto_region 3 with fail
    clear ca0 ca1 ca2 ca3 ca4 ca5 fa la
    clear cb0 cb1 cb2 cb3 cb4 cb5 fb lb
    clear cr0 cr1 cr2 cr3 cr4 cr5 fr lr
    clear co0 co1 co2 co3 co4 co5 fo lo
    replace Ba : Blk (w4.setCell ⟨go, 0, none⟩ (uv (PlainTnum.mul a.b b.b).v)) (w.heap.size) 39 #[uv a.b.v, uv a.b.m, uv a.lo, uv a.hi, sv a.sl, sv a.sh] := (Ba.far (by first | (simp; done) | (simp; omega) | (simp [*]; done) | (simp only [ne_eq]; constructor <;> omega)) _)
    replace Bb : Blk (w4.setCell ⟨go, 0, none⟩ (uv (PlainTnum.mul a.b b.b).v)) (w.heap.size + 1) 39 #[uv b.b.v, uv b.b.m, uv b.lo, uv b.hi, sv b.sl, sv b.sh] := (Bb.far (by first | (simp; done) | (simp; omega) | (simp [*]; done) | (simp only [ne_eq]; constructor <;> omega)) _)
    replace Br : Blk (w4.setCell ⟨go, 0, none⟩ (uv (PlainTnum.mul a.b b.b).v)) (w.heap.size + 1 + 1) 39 #[.int .u64 0, .int .u64 0, .int .u64 0, .int .u64 0, .int .i64 0, .int .i64 0] := (Br.far (by first | (simp; done) | (simp; omega) | (simp [*]; done) | (simp only [ne_eq]; constructor <;> omega)) _)
    replace Bo : Blk (w4.setCell ⟨go, 0, none⟩ (uv (PlainTnum.mul a.b b.b).v)) (go) 39 #[uv (PlainTnum.mul a.b b.b).v, uv PlainScalar.any.b.m, uv PlainScalar.any.lo, uv PlainScalar.any.hi, sv PlainScalar.any.sl, sv PlainScalar.any.sh] := Bo.set_ 0 _
    replace hB : Below w.heap.size w (w4.setCell ⟨go, 0, none⟩ (uv (PlainTnum.mul a.b b.b).v)) := (Bl_set hB (by first | omega | (simp; done) | (simp; omega)) _)
    replace Ba : Blk ((w4.setCell ⟨go, 0, none⟩ (uv (PlainTnum.mul a.b b.b).v)).setCell ⟨go, 1, none⟩ (uv (PlainTnum.mul a.b b.b).m)) (w.heap.size) 39 #[uv a.b.v, uv a.b.m, uv a.lo, uv a.hi, sv a.sl, sv a.sh] := (Ba.far (by first | (simp; done) | (simp; omega) | (simp [*]; done) | (simp only [ne_eq]; constructor <;> omega)) _)
    replace Bb : Blk ((w4.setCell ⟨go, 0, none⟩ (uv (PlainTnum.mul a.b b.b).v)).setCell ⟨go, 1, none⟩ (uv (PlainTnum.mul a.b b.b).m)) (w.heap.size + 1) 39 #[uv b.b.v, uv b.b.m, uv b.lo, uv b.hi, sv b.sl, sv b.sh] := (Bb.far (by first | (simp; done) | (simp; omega) | (simp [*]; done) | (simp only [ne_eq]; constructor <;> omega)) _)
    replace Br : Blk ((w4.setCell ⟨go, 0, none⟩ (uv (PlainTnum.mul a.b b.b).v)).setCell ⟨go, 1, none⟩ (uv (PlainTnum.mul a.b b.b).m)) (w.heap.size + 1 + 1) 39 #[.int .u64 0, .int .u64 0, .int .u64 0, .int .u64 0, .int .i64 0, .int .i64 0] := (Br.far (by first | (simp; done) | (simp; omega) | (simp [*]; done) | (simp only [ne_eq]; constructor <;> omega)) _)
    replace Bo : Blk ((w4.setCell ⟨go, 0, none⟩ (uv (PlainTnum.mul a.b b.b).v)).setCell ⟨go, 1, none⟩ (uv (PlainTnum.mul a.b b.b).m)) (go) 39 #[uv (PlainTnum.mul a.b b.b).v, uv (PlainTnum.mul a.b b.b).m, uv PlainScalar.any.lo, uv PlainScalar.any.hi, sv PlainScalar.any.sl, sv PlainScalar.any.sh] := Bo.set_ 1 _
    replace hB : Below w.heap.size w ((w4.setCell ⟨go, 0, none⟩ (uv (PlainTnum.mul a.b b.b).v)).setCell ⟨go, 1, none⟩ (uv (PlainTnum.mul a.b b.b).m)) := (Bl_set hB (by first | omega | (simp; done) | (simp; omega)) _)
    generalize ((w4.setCell ⟨go, 0, none⟩ (uv (PlainTnum.mul a.b b.b).v)).setCell ⟨go, 1, none⟩ (uv (PlainTnum.mul a.b b.b).m)) = w5 at *
    have ca0 : w5.cell? ⟨w.heap.size, 0, none⟩ = some (uv a.b.v) := Ba.cell 0
    have ca1 : w5.cell? ⟨w.heap.size, 1, none⟩ = some (uv a.b.m) := Ba.cell 1
    have ca2 : w5.cell? ⟨w.heap.size, 2, none⟩ = some (uv a.lo) := Ba.cell 2
    have ca3 : w5.cell? ⟨w.heap.size, 3, none⟩ = some (uv a.hi) := Ba.cell 3
    have ca4 : w5.cell? ⟨w.heap.size, 4, none⟩ = some (sv a.sl) := Ba.cell 4
    have ca5 : w5.cell? ⟨w.heap.size, 5, none⟩ = some (sv a.sh) := Ba.cell 5
    have fa := Ba.frozen
    have la := Ba.lt
    have cb0 : w5.cell? ⟨w.heap.size + 1, 0, none⟩ = some (uv b.b.v) := Bb.cell 0
    have cb1 : w5.cell? ⟨w.heap.size + 1, 1, none⟩ = some (uv b.b.m) := Bb.cell 1
    have cb2 : w5.cell? ⟨w.heap.size + 1, 2, none⟩ = some (uv b.lo) := Bb.cell 2
    have cb3 : w5.cell? ⟨w.heap.size + 1, 3, none⟩ = some (uv b.hi) := Bb.cell 3
    have cb4 : w5.cell? ⟨w.heap.size + 1, 4, none⟩ = some (sv b.sl) := Bb.cell 4
    have cb5 : w5.cell? ⟨w.heap.size + 1, 5, none⟩ = some (sv b.sh) := Bb.cell 5
    have fb := Bb.frozen
    have lb := Bb.lt
    have cr0 : w5.cell? ⟨w.heap.size + 1 + 1, 0, none⟩ = some (.int .u64 0) := Br.cell 0
    have cr1 : w5.cell? ⟨w.heap.size + 1 + 1, 1, none⟩ = some (.int .u64 0) := Br.cell 1
    have cr2 : w5.cell? ⟨w.heap.size + 1 + 1, 2, none⟩ = some (.int .u64 0) := Br.cell 2
    have cr3 : w5.cell? ⟨w.heap.size + 1 + 1, 3, none⟩ = some (.int .u64 0) := Br.cell 3
    have cr4 : w5.cell? ⟨w.heap.size + 1 + 1, 4, none⟩ = some (.int .i64 0) := Br.cell 4
    have cr5 : w5.cell? ⟨w.heap.size + 1 + 1, 5, none⟩ = some (.int .i64 0) := Br.cell 5
    have fr := Br.frozen
    have lr := Br.lt
    have co0 : w5.cell? ⟨go, 0, none⟩ = some (uv (PlainTnum.mul a.b b.b).v) := Bo.cell 0
    have co1 : w5.cell? ⟨go, 1, none⟩ = some (uv (PlainTnum.mul a.b b.b).m) := Bo.cell 1
    have co2 : w5.cell? ⟨go, 2, none⟩ = some (uv PlainScalar.any.lo) := Bo.cell 2
    have co3 : w5.cell? ⟨go, 3, none⟩ = some (uv PlainScalar.any.hi) := Bo.cell 3
    have co4 : w5.cell? ⟨go, 4, none⟩ = some (sv PlainScalar.any.sl) := Bo.cell 4
    have co5 : w5.cell? ⟨go, 5, none⟩ = some (sv PlainScalar.any.sh) := Bo.cell 5
    have fo := Bo.frozen
    have lo := Bo.lt
    have qq := mul64_yes _ _ (of_decide_eq_false q)
    go_wp2_with fail
    refine (mul64_c _ _ _).mono ?_
    rintro e w' ⟨rfl, rfl⟩
    go_wp2_with fail
    refine (settled_c (⟨(PlainTnum.mul a.b b.b), PlainScalar.any.lo, PlainScalar.any.hi, PlainScalar.any.sl, PlainScalar.any.sh⟩ : Rng) _).mono ?_
    rintro e w6 ⟨rfl, hb⟩
    clear ca0 ca1 ca2 ca3 ca4 ca5 fa la
    clear cb0 cb1 cb2 cb3 cb4 cb5 fb lb
    clear cr0 cr1 cr2 cr3 cr4 cr5 fr lr
    clear co0 co1 co2 co3 co4 co5 fo lo
    replace Ba := (Ba).next hb
    replace Bb := (Bb).next hb
    replace Br := (Br).next hb
    replace Bo := (Bo).next hb
    replace hB : Below w.heap.size w w6 := by repeat (first | exact hB | (refine Bl_set ?_ (by first | omega | (simp; omega)) _) | apply Bl_alloc | (refine Bl_trans ?_ hb))
    clear hb
    have ca0 : w6.cell? ⟨w.heap.size, 0, none⟩ = some (uv a.b.v) := Ba.cell 0
    have ca1 : w6.cell? ⟨w.heap.size, 1, none⟩ = some (uv a.b.m) := Ba.cell 1
    have ca2 : w6.cell? ⟨w.heap.size, 2, none⟩ = some (uv a.lo) := Ba.cell 2
    have ca3 : w6.cell? ⟨w.heap.size, 3, none⟩ = some (uv a.hi) := Ba.cell 3
    have ca4 : w6.cell? ⟨w.heap.size, 4, none⟩ = some (sv a.sl) := Ba.cell 4
    have ca5 : w6.cell? ⟨w.heap.size, 5, none⟩ = some (sv a.sh) := Ba.cell 5
    have fa := Ba.frozen
    have la := Ba.lt
    have cb0 : w6.cell? ⟨w.heap.size + 1, 0, none⟩ = some (uv b.b.v) := Bb.cell 0
    have cb1 : w6.cell? ⟨w.heap.size + 1, 1, none⟩ = some (uv b.b.m) := Bb.cell 1
    have cb2 : w6.cell? ⟨w.heap.size + 1, 2, none⟩ = some (uv b.lo) := Bb.cell 2
    have cb3 : w6.cell? ⟨w.heap.size + 1, 3, none⟩ = some (uv b.hi) := Bb.cell 3
    have cb4 : w6.cell? ⟨w.heap.size + 1, 4, none⟩ = some (sv b.sl) := Bb.cell 4
    have cb5 : w6.cell? ⟨w.heap.size + 1, 5, none⟩ = some (sv b.sh) := Bb.cell 5
    have fb := Bb.frozen
    have lb := Bb.lt
    have cr0 : w6.cell? ⟨w.heap.size + 1 + 1, 0, none⟩ = some (.int .u64 0) := Br.cell 0
    have cr1 : w6.cell? ⟨w.heap.size + 1 + 1, 1, none⟩ = some (.int .u64 0) := Br.cell 1
    have cr2 : w6.cell? ⟨w.heap.size + 1 + 1, 2, none⟩ = some (.int .u64 0) := Br.cell 2
    have cr3 : w6.cell? ⟨w.heap.size + 1 + 1, 3, none⟩ = some (.int .u64 0) := Br.cell 3
    have cr4 : w6.cell? ⟨w.heap.size + 1 + 1, 4, none⟩ = some (.int .i64 0) := Br.cell 4
    have cr5 : w6.cell? ⟨w.heap.size + 1 + 1, 5, none⟩ = some (.int .i64 0) := Br.cell 5
    have fr := Br.frozen
    have lr := Br.lt
    have co0 : w6.cell? ⟨go, 0, none⟩ = some (uv (PlainTnum.mul a.b b.b).v) := Bo.cell 0
    have co1 : w6.cell? ⟨go, 1, none⟩ = some (uv (PlainTnum.mul a.b b.b).m) := Bo.cell 1
    have co2 : w6.cell? ⟨go, 2, none⟩ = some (uv PlainScalar.any.lo) := Bo.cell 2
    have co3 : w6.cell? ⟨go, 3, none⟩ = some (uv PlainScalar.any.hi) := Bo.cell 3
    have co4 : w6.cell? ⟨go, 4, none⟩ = some (sv PlainScalar.any.sl) := Bo.cell 4
    have co5 : w6.cell? ⟨go, 5, none⟩ = some (sv PlainScalar.any.sh) := Bo.cell 5
    have fo := Bo.frozen
    have lo := Bo.lt
    go_wp2
    exact bodyPost_ret (v := rv (PlainScalar.settled ⟨(PlainTnum.mul a.b b.b), PlainScalar.any.lo, PlainScalar.any.hi, PlainScalar.any.sl, PlainScalar.any.sh⟩)) (by simp [results, Try.results43, go_sem, cr0, cr1, cr2, cr3, cr4, cr5, lr]) rfl ⟨by rw [hs], by repeat (first | (with_reducible exact hB) | (with_reducible refine Bl_set ?_ (by first | omega | (simp; done) | (simp; omega)) _) | with_reducible apply Bl_alloc)⟩
  · have hs : PlainScalar.product a b = PlainScalar.settled ⟨(PlainTnum.mul a.b b.b), (a.lo * b.lo), (a.hi * b.hi), PlainScalar.any.sl, PlainScalar.any.sh⟩ := by unfold PlainScalar.product; rw [if_pos (show _ from of_decide_eq_true q)]
    go_enter Try.func43, Try.ntmps43
    go_wp2_with fail
    obtain ⟨ga, hga⟩ : ∃ g, g = w.heap.size := ⟨_, rfl⟩
    obtain ⟨gb, hgb⟩ : ∃ g, g = w.heap.size + 1 := ⟨_, rfl⟩
    obtain ⟨gr, hgr⟩ : ∃ g, g = w.heap.size + 1 + 1 := ⟨_, rfl⟩
    have Ba : Blk (((w.alloc (.cells #[uv a.b.v, uv a.b.m, uv a.lo, uv a.hi, sv a.sl, sv a.sh] 39)).alloc (.cells #[uv b.b.v, uv b.b.m, uv b.lo, uv b.hi, sv b.sl, sv b.sh] 39)).alloc (.cells #[.int .u64 0, .int .u64 0, .int .u64 0, .int .u64 0, .int .i64 0, .int .i64 0] 39)) (w.heap.size) 39 #[uv a.b.v, uv a.b.m, uv a.lo, uv a.hi, sv a.sl, sv a.sh] := (((Blk.new w 39 #[uv a.b.v, uv a.b.m, uv a.lo, uv a.hi, sv a.sl, sv a.sh])).alloc _).alloc _
    have Bb : Blk (((w.alloc (.cells #[uv a.b.v, uv a.b.m, uv a.lo, uv a.hi, sv a.sl, sv a.sh] 39)).alloc (.cells #[uv b.b.v, uv b.b.m, uv b.lo, uv b.hi, sv b.sl, sv b.sh] 39)).alloc (.cells #[.int .u64 0, .int .u64 0, .int .u64 0, .int .u64 0, .int .i64 0, .int .i64 0] 39)) (w.heap.size + 1) 39 #[uv b.b.v, uv b.b.m, uv b.lo, uv b.hi, sv b.sl, sv b.sh] := ((by simpa using Blk.new (w.alloc (.cells #[uv a.b.v, uv a.b.m, uv a.lo, uv a.hi, sv a.sl, sv a.sh] 39)) 39 #[uv b.b.v, uv b.b.m, uv b.lo, uv b.hi, sv b.sl, sv b.sh] : Blk _ (w.heap.size + 1) 39 #[uv b.b.v, uv b.b.m, uv b.lo, uv b.hi, sv b.sl, sv b.sh])).alloc _
    have Br : Blk (((w.alloc (.cells #[uv a.b.v, uv a.b.m, uv a.lo, uv a.hi, sv a.sl, sv a.sh] 39)).alloc (.cells #[uv b.b.v, uv b.b.m, uv b.lo, uv b.hi, sv b.sl, sv b.sh] 39)).alloc (.cells #[.int .u64 0, .int .u64 0, .int .u64 0, .int .u64 0, .int .i64 0, .int .i64 0] 39)) (w.heap.size + 1 + 1) 39 #[.int .u64 0, .int .u64 0, .int .u64 0, .int .u64 0, .int .i64 0, .int .i64 0] := (by simpa using Blk.new ((w.alloc (.cells #[uv a.b.v, uv a.b.m, uv a.lo, uv a.hi, sv a.sl, sv a.sh] 39)).alloc (.cells #[uv b.b.v, uv b.b.m, uv b.lo, uv b.hi, sv b.sl, sv b.sh] 39)) 39 #[.int .u64 0, .int .u64 0, .int .u64 0, .int .u64 0, .int .i64 0, .int .i64 0] : Blk _ (w.heap.size + 1 + 1) 39 #[.int .u64 0, .int .u64 0, .int .u64 0, .int .u64 0, .int .i64 0, .int .i64 0])
    have hB : Below w.heap.size w (((w.alloc (.cells #[uv a.b.v, uv a.b.m, uv a.lo, uv a.hi, sv a.sl, sv a.sh] 39)).alloc (.cells #[uv b.b.v, uv b.b.m, uv b.lo, uv b.hi, sv b.sl, sv b.sh] 39)).alloc (.cells #[.int .u64 0, .int .u64 0, .int .u64 0, .int .u64 0, .int .i64 0, .int .i64 0] 39)) := (Bl_alloc (Bl_alloc (Bl_alloc (Bl_refl w) _) _) _)
    clear hga
    clear ga
    clear hgb
    clear gb
    clear hgr
    clear gr
    generalize (((w.alloc (.cells #[uv a.b.v, uv a.b.m, uv a.lo, uv a.hi, sv a.sl, sv a.sh] 39)).alloc (.cells #[uv b.b.v, uv b.b.m, uv b.lo, uv b.hi, sv b.sl, sv b.sh] 39)).alloc (.cells #[.int .u64 0, .int .u64 0, .int .u64 0, .int .u64 0, .int .i64 0, .int .i64 0] 39)) = w1 at *
    have ca0 : w1.cell? ⟨w.heap.size, 0, none⟩ = some (uv a.b.v) := Ba.cell 0
    have ca1 : w1.cell? ⟨w.heap.size, 1, none⟩ = some (uv a.b.m) := Ba.cell 1
    have ca2 : w1.cell? ⟨w.heap.size, 2, none⟩ = some (uv a.lo) := Ba.cell 2
    have ca3 : w1.cell? ⟨w.heap.size, 3, none⟩ = some (uv a.hi) := Ba.cell 3
    have ca4 : w1.cell? ⟨w.heap.size, 4, none⟩ = some (sv a.sl) := Ba.cell 4
    have ca5 : w1.cell? ⟨w.heap.size, 5, none⟩ = some (sv a.sh) := Ba.cell 5
    have fa := Ba.frozen
    have la := Ba.lt
    have cb0 : w1.cell? ⟨w.heap.size + 1, 0, none⟩ = some (uv b.b.v) := Bb.cell 0
    have cb1 : w1.cell? ⟨w.heap.size + 1, 1, none⟩ = some (uv b.b.m) := Bb.cell 1
    have cb2 : w1.cell? ⟨w.heap.size + 1, 2, none⟩ = some (uv b.lo) := Bb.cell 2
    have cb3 : w1.cell? ⟨w.heap.size + 1, 3, none⟩ = some (uv b.hi) := Bb.cell 3
    have cb4 : w1.cell? ⟨w.heap.size + 1, 4, none⟩ = some (sv b.sl) := Bb.cell 4
    have cb5 : w1.cell? ⟨w.heap.size + 1, 5, none⟩ = some (sv b.sh) := Bb.cell 5
    have fb := Bb.frozen
    have lb := Bb.lt
    have cr0 : w1.cell? ⟨w.heap.size + 1 + 1, 0, none⟩ = some (.int .u64 0) := Br.cell 0
    have cr1 : w1.cell? ⟨w.heap.size + 1 + 1, 1, none⟩ = some (.int .u64 0) := Br.cell 1
    have cr2 : w1.cell? ⟨w.heap.size + 1 + 1, 2, none⟩ = some (.int .u64 0) := Br.cell 2
    have cr3 : w1.cell? ⟨w.heap.size + 1 + 1, 3, none⟩ = some (.int .u64 0) := Br.cell 3
    have cr4 : w1.cell? ⟨w.heap.size + 1 + 1, 4, none⟩ = some (.int .i64 0) := Br.cell 4
    have cr5 : w1.cell? ⟨w.heap.size + 1 + 1, 5, none⟩ = some (.int .i64 0) := Br.cell 5
    have fr := Br.frozen
    have lr := Br.lt
    go_wp2_with fail
    refine (sany_c _).mono ?_
    rintro e w2 ⟨rfl, hb⟩
    clear ca0 ca1 ca2 ca3 ca4 ca5 fa la
    clear cb0 cb1 cb2 cb3 cb4 cb5 fb lb
    clear cr0 cr1 cr2 cr3 cr4 cr5 fr lr
    replace Ba := (Ba).next hb
    replace Bb := (Bb).next hb
    replace Br := (Br).next hb
    replace hB : Below w.heap.size w w2 := by repeat (first | exact hB | (refine Bl_set ?_ (by first | omega | (simp; omega)) _) | apply Bl_alloc | (refine Bl_trans ?_ hb))
    clear hb
    have ca0 : w2.cell? ⟨w.heap.size, 0, none⟩ = some (uv a.b.v) := Ba.cell 0
    have ca1 : w2.cell? ⟨w.heap.size, 1, none⟩ = some (uv a.b.m) := Ba.cell 1
    have ca2 : w2.cell? ⟨w.heap.size, 2, none⟩ = some (uv a.lo) := Ba.cell 2
    have ca3 : w2.cell? ⟨w.heap.size, 3, none⟩ = some (uv a.hi) := Ba.cell 3
    have ca4 : w2.cell? ⟨w.heap.size, 4, none⟩ = some (sv a.sl) := Ba.cell 4
    have ca5 : w2.cell? ⟨w.heap.size, 5, none⟩ = some (sv a.sh) := Ba.cell 5
    have fa := Ba.frozen
    have la := Ba.lt
    have cb0 : w2.cell? ⟨w.heap.size + 1, 0, none⟩ = some (uv b.b.v) := Bb.cell 0
    have cb1 : w2.cell? ⟨w.heap.size + 1, 1, none⟩ = some (uv b.b.m) := Bb.cell 1
    have cb2 : w2.cell? ⟨w.heap.size + 1, 2, none⟩ = some (uv b.lo) := Bb.cell 2
    have cb3 : w2.cell? ⟨w.heap.size + 1, 3, none⟩ = some (uv b.hi) := Bb.cell 3
    have cb4 : w2.cell? ⟨w.heap.size + 1, 4, none⟩ = some (sv b.sl) := Bb.cell 4
    have cb5 : w2.cell? ⟨w.heap.size + 1, 5, none⟩ = some (sv b.sh) := Bb.cell 5
    have fb := Bb.frozen
    have lb := Bb.lt
    have cr0 : w2.cell? ⟨w.heap.size + 1 + 1, 0, none⟩ = some (.int .u64 0) := Br.cell 0
    have cr1 : w2.cell? ⟨w.heap.size + 1 + 1, 1, none⟩ = some (.int .u64 0) := Br.cell 1
    have cr2 : w2.cell? ⟨w.heap.size + 1 + 1, 2, none⟩ = some (.int .u64 0) := Br.cell 2
    have cr3 : w2.cell? ⟨w.heap.size + 1 + 1, 3, none⟩ = some (.int .u64 0) := Br.cell 3
    have cr4 : w2.cell? ⟨w.heap.size + 1 + 1, 4, none⟩ = some (.int .i64 0) := Br.cell 4
    have cr5 : w2.cell? ⟨w.heap.size + 1 + 1, 5, none⟩ = some (.int .i64 0) := Br.cell 5
    have fr := Br.frozen
    have lr := Br.lt
    go_upto_region 2 with fail
    clear ca0 ca1 ca2 ca3 ca4 ca5 fa la
    clear cb0 cb1 cb2 cb3 cb4 cb5 fb lb
    clear cr0 cr1 cr2 cr3 cr4 cr5 fr lr
    have Bo := Blk.new w2 39 #[uv PlainScalar.any.b.v, uv PlainScalar.any.b.m, uv PlainScalar.any.lo, uv PlainScalar.any.hi, sv PlainScalar.any.sl, sv PlainScalar.any.sh]
    have hgo := hB.size
    have hnao := Nat.ne_of_lt Ba.lt; have hltao := Ba.lt
    have hnbo := Nat.ne_of_lt Bb.lt; have hltbo := Bb.lt
    have hnro := Nat.ne_of_lt Br.lt; have hltro := Br.lt
    replace Ba : Blk (w2.alloc (.cells #[uv PlainScalar.any.b.v, uv PlainScalar.any.b.m, uv PlainScalar.any.lo, uv PlainScalar.any.hi, sv PlainScalar.any.sl, sv PlainScalar.any.sh] 39)) (w.heap.size) 39 #[uv a.b.v, uv a.b.m, uv a.lo, uv a.hi, sv a.sl, sv a.sh] := Ba.alloc _
    replace Bb : Blk (w2.alloc (.cells #[uv PlainScalar.any.b.v, uv PlainScalar.any.b.m, uv PlainScalar.any.lo, uv PlainScalar.any.hi, sv PlainScalar.any.sl, sv PlainScalar.any.sh] 39)) (w.heap.size + 1) 39 #[uv b.b.v, uv b.b.m, uv b.lo, uv b.hi, sv b.sl, sv b.sh] := Bb.alloc _
    replace Br : Blk (w2.alloc (.cells #[uv PlainScalar.any.b.v, uv PlainScalar.any.b.m, uv PlainScalar.any.lo, uv PlainScalar.any.hi, sv PlainScalar.any.sl, sv PlainScalar.any.sh] 39)) (w.heap.size + 1 + 1) 39 #[.int .u64 0, .int .u64 0, .int .u64 0, .int .u64 0, .int .i64 0, .int .i64 0] := Br.alloc _
    replace hB : Below w.heap.size w (w2.alloc (.cells #[uv PlainScalar.any.b.v, uv PlainScalar.any.b.m, uv PlainScalar.any.lo, uv PlainScalar.any.hi, sv PlainScalar.any.sl, sv PlainScalar.any.sh] 39)) := Bl_alloc hB _
    generalize (w2.alloc (.cells #[uv PlainScalar.any.b.v, uv PlainScalar.any.b.m, uv PlainScalar.any.lo, uv PlainScalar.any.hi, sv PlainScalar.any.sl, sv PlainScalar.any.sh] 39)) = w3 at *
    generalize w2.heap.size = go at *
    have ca0 : w3.cell? ⟨w.heap.size, 0, none⟩ = some (uv a.b.v) := Ba.cell 0
    have ca1 : w3.cell? ⟨w.heap.size, 1, none⟩ = some (uv a.b.m) := Ba.cell 1
    have ca2 : w3.cell? ⟨w.heap.size, 2, none⟩ = some (uv a.lo) := Ba.cell 2
    have ca3 : w3.cell? ⟨w.heap.size, 3, none⟩ = some (uv a.hi) := Ba.cell 3
    have ca4 : w3.cell? ⟨w.heap.size, 4, none⟩ = some (sv a.sl) := Ba.cell 4
    have ca5 : w3.cell? ⟨w.heap.size, 5, none⟩ = some (sv a.sh) := Ba.cell 5
    have fa := Ba.frozen
    have la := Ba.lt
    have cb0 : w3.cell? ⟨w.heap.size + 1, 0, none⟩ = some (uv b.b.v) := Bb.cell 0
    have cb1 : w3.cell? ⟨w.heap.size + 1, 1, none⟩ = some (uv b.b.m) := Bb.cell 1
    have cb2 : w3.cell? ⟨w.heap.size + 1, 2, none⟩ = some (uv b.lo) := Bb.cell 2
    have cb3 : w3.cell? ⟨w.heap.size + 1, 3, none⟩ = some (uv b.hi) := Bb.cell 3
    have cb4 : w3.cell? ⟨w.heap.size + 1, 4, none⟩ = some (sv b.sl) := Bb.cell 4
    have cb5 : w3.cell? ⟨w.heap.size + 1, 5, none⟩ = some (sv b.sh) := Bb.cell 5
    have fb := Bb.frozen
    have lb := Bb.lt
    have cr0 : w3.cell? ⟨w.heap.size + 1 + 1, 0, none⟩ = some (.int .u64 0) := Br.cell 0
    have cr1 : w3.cell? ⟨w.heap.size + 1 + 1, 1, none⟩ = some (.int .u64 0) := Br.cell 1
    have cr2 : w3.cell? ⟨w.heap.size + 1 + 1, 2, none⟩ = some (.int .u64 0) := Br.cell 2
    have cr3 : w3.cell? ⟨w.heap.size + 1 + 1, 3, none⟩ = some (.int .u64 0) := Br.cell 3
    have cr4 : w3.cell? ⟨w.heap.size + 1 + 1, 4, none⟩ = some (.int .i64 0) := Br.cell 4
    have cr5 : w3.cell? ⟨w.heap.size + 1 + 1, 5, none⟩ = some (.int .i64 0) := Br.cell 5
    have fr := Br.frozen
    have lr := Br.lt
    have co0 : w3.cell? ⟨go, 0, none⟩ = some (uv PlainScalar.any.b.v) := Bo.cell 0
    have co1 : w3.cell? ⟨go, 1, none⟩ = some (uv PlainScalar.any.b.m) := Bo.cell 1
    have co2 : w3.cell? ⟨go, 2, none⟩ = some (uv PlainScalar.any.lo) := Bo.cell 2
    have co3 : w3.cell? ⟨go, 3, none⟩ = some (uv PlainScalar.any.hi) := Bo.cell 3
    have co4 : w3.cell? ⟨go, 4, none⟩ = some (sv PlainScalar.any.sl) := Bo.cell 4
    have co5 : w3.cell? ⟨go, 5, none⟩ = some (sv PlainScalar.any.sh) := Bo.cell 5
    have fo := Bo.frozen
    have lo := Bo.lt
    go_wp2_with fail
    refine (mul_c _ _ _).mono ?_
    rintro e w4 ⟨rfl, hb⟩
    clear ca0 ca1 ca2 ca3 ca4 ca5 fa la
    clear cb0 cb1 cb2 cb3 cb4 cb5 fb lb
    clear cr0 cr1 cr2 cr3 cr4 cr5 fr lr
    clear co0 co1 co2 co3 co4 co5 fo lo
    replace Ba := (Ba).next hb
    replace Bb := (Bb).next hb
    replace Br := (Br).next hb
    replace Bo := (Bo).next hb
    replace hB : Below w.heap.size w w4 := by repeat (first | exact hB | (refine Bl_set ?_ (by first | omega | (simp; omega)) _) | apply Bl_alloc | (refine Bl_trans ?_ hb))
    clear hb
    have ca0 : w4.cell? ⟨w.heap.size, 0, none⟩ = some (uv a.b.v) := Ba.cell 0
    have ca1 : w4.cell? ⟨w.heap.size, 1, none⟩ = some (uv a.b.m) := Ba.cell 1
    have ca2 : w4.cell? ⟨w.heap.size, 2, none⟩ = some (uv a.lo) := Ba.cell 2
    have ca3 : w4.cell? ⟨w.heap.size, 3, none⟩ = some (uv a.hi) := Ba.cell 3
    have ca4 : w4.cell? ⟨w.heap.size, 4, none⟩ = some (sv a.sl) := Ba.cell 4
    have ca5 : w4.cell? ⟨w.heap.size, 5, none⟩ = some (sv a.sh) := Ba.cell 5
    have fa := Ba.frozen
    have la := Ba.lt
    have cb0 : w4.cell? ⟨w.heap.size + 1, 0, none⟩ = some (uv b.b.v) := Bb.cell 0
    have cb1 : w4.cell? ⟨w.heap.size + 1, 1, none⟩ = some (uv b.b.m) := Bb.cell 1
    have cb2 : w4.cell? ⟨w.heap.size + 1, 2, none⟩ = some (uv b.lo) := Bb.cell 2
    have cb3 : w4.cell? ⟨w.heap.size + 1, 3, none⟩ = some (uv b.hi) := Bb.cell 3
    have cb4 : w4.cell? ⟨w.heap.size + 1, 4, none⟩ = some (sv b.sl) := Bb.cell 4
    have cb5 : w4.cell? ⟨w.heap.size + 1, 5, none⟩ = some (sv b.sh) := Bb.cell 5
    have fb := Bb.frozen
    have lb := Bb.lt
    have cr0 : w4.cell? ⟨w.heap.size + 1 + 1, 0, none⟩ = some (.int .u64 0) := Br.cell 0
    have cr1 : w4.cell? ⟨w.heap.size + 1 + 1, 1, none⟩ = some (.int .u64 0) := Br.cell 1
    have cr2 : w4.cell? ⟨w.heap.size + 1 + 1, 2, none⟩ = some (.int .u64 0) := Br.cell 2
    have cr3 : w4.cell? ⟨w.heap.size + 1 + 1, 3, none⟩ = some (.int .u64 0) := Br.cell 3
    have cr4 : w4.cell? ⟨w.heap.size + 1 + 1, 4, none⟩ = some (.int .i64 0) := Br.cell 4
    have cr5 : w4.cell? ⟨w.heap.size + 1 + 1, 5, none⟩ = some (.int .i64 0) := Br.cell 5
    have fr := Br.frozen
    have lr := Br.lt
    have co0 : w4.cell? ⟨go, 0, none⟩ = some (uv PlainScalar.any.b.v) := Bo.cell 0
    have co1 : w4.cell? ⟨go, 1, none⟩ = some (uv PlainScalar.any.b.m) := Bo.cell 1
    have co2 : w4.cell? ⟨go, 2, none⟩ = some (uv PlainScalar.any.lo) := Bo.cell 2
    have co3 : w4.cell? ⟨go, 3, none⟩ = some (uv PlainScalar.any.hi) := Bo.cell 3
    have co4 : w4.cell? ⟨go, 4, none⟩ = some (sv PlainScalar.any.sl) := Bo.cell 4
    have co5 : w4.cell? ⟨go, 5, none⟩ = some (sv PlainScalar.any.sh) := Bo.cell 5
    have fo := Bo.frozen
    have lo := Bo.lt
    go_upto_region 3 with fail
    clear ca0 ca1 ca2 ca3 ca4 ca5 fa la
    clear cb0 cb1 cb2 cb3 cb4 cb5 fb lb
    clear cr0 cr1 cr2 cr3 cr4 cr5 fr lr
    clear co0 co1 co2 co3 co4 co5 fo lo
    replace Ba : Blk (w4.setCell ⟨go, 0, none⟩ (uv (PlainTnum.mul a.b b.b).v)) (w.heap.size) 39 #[uv a.b.v, uv a.b.m, uv a.lo, uv a.hi, sv a.sl, sv a.sh] := (Ba.far (by first | (simp; done) | (simp; omega) | (simp [*]; done) | (simp only [ne_eq]; constructor <;> omega)) _)
    replace Bb : Blk (w4.setCell ⟨go, 0, none⟩ (uv (PlainTnum.mul a.b b.b).v)) (w.heap.size + 1) 39 #[uv b.b.v, uv b.b.m, uv b.lo, uv b.hi, sv b.sl, sv b.sh] := (Bb.far (by first | (simp; done) | (simp; omega) | (simp [*]; done) | (simp only [ne_eq]; constructor <;> omega)) _)
    replace Br : Blk (w4.setCell ⟨go, 0, none⟩ (uv (PlainTnum.mul a.b b.b).v)) (w.heap.size + 1 + 1) 39 #[.int .u64 0, .int .u64 0, .int .u64 0, .int .u64 0, .int .i64 0, .int .i64 0] := (Br.far (by first | (simp; done) | (simp; omega) | (simp [*]; done) | (simp only [ne_eq]; constructor <;> omega)) _)
    replace Bo : Blk (w4.setCell ⟨go, 0, none⟩ (uv (PlainTnum.mul a.b b.b).v)) (go) 39 #[uv (PlainTnum.mul a.b b.b).v, uv PlainScalar.any.b.m, uv PlainScalar.any.lo, uv PlainScalar.any.hi, sv PlainScalar.any.sl, sv PlainScalar.any.sh] := Bo.set_ 0 _
    replace hB : Below w.heap.size w (w4.setCell ⟨go, 0, none⟩ (uv (PlainTnum.mul a.b b.b).v)) := (Bl_set hB (by first | omega | (simp; done) | (simp; omega)) _)
    replace Ba : Blk ((w4.setCell ⟨go, 0, none⟩ (uv (PlainTnum.mul a.b b.b).v)).setCell ⟨go, 1, none⟩ (uv (PlainTnum.mul a.b b.b).m)) (w.heap.size) 39 #[uv a.b.v, uv a.b.m, uv a.lo, uv a.hi, sv a.sl, sv a.sh] := (Ba.far (by first | (simp; done) | (simp; omega) | (simp [*]; done) | (simp only [ne_eq]; constructor <;> omega)) _)
    replace Bb : Blk ((w4.setCell ⟨go, 0, none⟩ (uv (PlainTnum.mul a.b b.b).v)).setCell ⟨go, 1, none⟩ (uv (PlainTnum.mul a.b b.b).m)) (w.heap.size + 1) 39 #[uv b.b.v, uv b.b.m, uv b.lo, uv b.hi, sv b.sl, sv b.sh] := (Bb.far (by first | (simp; done) | (simp; omega) | (simp [*]; done) | (simp only [ne_eq]; constructor <;> omega)) _)
    replace Br : Blk ((w4.setCell ⟨go, 0, none⟩ (uv (PlainTnum.mul a.b b.b).v)).setCell ⟨go, 1, none⟩ (uv (PlainTnum.mul a.b b.b).m)) (w.heap.size + 1 + 1) 39 #[.int .u64 0, .int .u64 0, .int .u64 0, .int .u64 0, .int .i64 0, .int .i64 0] := (Br.far (by first | (simp; done) | (simp; omega) | (simp [*]; done) | (simp only [ne_eq]; constructor <;> omega)) _)
    replace Bo : Blk ((w4.setCell ⟨go, 0, none⟩ (uv (PlainTnum.mul a.b b.b).v)).setCell ⟨go, 1, none⟩ (uv (PlainTnum.mul a.b b.b).m)) (go) 39 #[uv (PlainTnum.mul a.b b.b).v, uv (PlainTnum.mul a.b b.b).m, uv PlainScalar.any.lo, uv PlainScalar.any.hi, sv PlainScalar.any.sl, sv PlainScalar.any.sh] := Bo.set_ 1 _
    replace hB : Below w.heap.size w ((w4.setCell ⟨go, 0, none⟩ (uv (PlainTnum.mul a.b b.b).v)).setCell ⟨go, 1, none⟩ (uv (PlainTnum.mul a.b b.b).m)) := (Bl_set hB (by first | omega | (simp; done) | (simp; omega)) _)
    generalize ((w4.setCell ⟨go, 0, none⟩ (uv (PlainTnum.mul a.b b.b).v)).setCell ⟨go, 1, none⟩ (uv (PlainTnum.mul a.b b.b).m)) = w5 at *
    have ca0 : w5.cell? ⟨w.heap.size, 0, none⟩ = some (uv a.b.v) := Ba.cell 0
    have ca1 : w5.cell? ⟨w.heap.size, 1, none⟩ = some (uv a.b.m) := Ba.cell 1
    have ca2 : w5.cell? ⟨w.heap.size, 2, none⟩ = some (uv a.lo) := Ba.cell 2
    have ca3 : w5.cell? ⟨w.heap.size, 3, none⟩ = some (uv a.hi) := Ba.cell 3
    have ca4 : w5.cell? ⟨w.heap.size, 4, none⟩ = some (sv a.sl) := Ba.cell 4
    have ca5 : w5.cell? ⟨w.heap.size, 5, none⟩ = some (sv a.sh) := Ba.cell 5
    have fa := Ba.frozen
    have la := Ba.lt
    have cb0 : w5.cell? ⟨w.heap.size + 1, 0, none⟩ = some (uv b.b.v) := Bb.cell 0
    have cb1 : w5.cell? ⟨w.heap.size + 1, 1, none⟩ = some (uv b.b.m) := Bb.cell 1
    have cb2 : w5.cell? ⟨w.heap.size + 1, 2, none⟩ = some (uv b.lo) := Bb.cell 2
    have cb3 : w5.cell? ⟨w.heap.size + 1, 3, none⟩ = some (uv b.hi) := Bb.cell 3
    have cb4 : w5.cell? ⟨w.heap.size + 1, 4, none⟩ = some (sv b.sl) := Bb.cell 4
    have cb5 : w5.cell? ⟨w.heap.size + 1, 5, none⟩ = some (sv b.sh) := Bb.cell 5
    have fb := Bb.frozen
    have lb := Bb.lt
    have cr0 : w5.cell? ⟨w.heap.size + 1 + 1, 0, none⟩ = some (.int .u64 0) := Br.cell 0
    have cr1 : w5.cell? ⟨w.heap.size + 1 + 1, 1, none⟩ = some (.int .u64 0) := Br.cell 1
    have cr2 : w5.cell? ⟨w.heap.size + 1 + 1, 2, none⟩ = some (.int .u64 0) := Br.cell 2
    have cr3 : w5.cell? ⟨w.heap.size + 1 + 1, 3, none⟩ = some (.int .u64 0) := Br.cell 3
    have cr4 : w5.cell? ⟨w.heap.size + 1 + 1, 4, none⟩ = some (.int .i64 0) := Br.cell 4
    have cr5 : w5.cell? ⟨w.heap.size + 1 + 1, 5, none⟩ = some (.int .i64 0) := Br.cell 5
    have fr := Br.frozen
    have lr := Br.lt
    have co0 : w5.cell? ⟨go, 0, none⟩ = some (uv (PlainTnum.mul a.b b.b).v) := Bo.cell 0
    have co1 : w5.cell? ⟨go, 1, none⟩ = some (uv (PlainTnum.mul a.b b.b).m) := Bo.cell 1
    have co2 : w5.cell? ⟨go, 2, none⟩ = some (uv PlainScalar.any.lo) := Bo.cell 2
    have co3 : w5.cell? ⟨go, 3, none⟩ = some (uv PlainScalar.any.hi) := Bo.cell 3
    have co4 : w5.cell? ⟨go, 4, none⟩ = some (sv PlainScalar.any.sl) := Bo.cell 4
    have co5 : w5.cell? ⟨go, 5, none⟩ = some (sv PlainScalar.any.sh) := Bo.cell 5
    have fo := Bo.frozen
    have lo := Bo.lt
    go_wp2_with fail
    refine (mul64_no _ _ (of_decide_eq_true q) _).mono ?_
    rintro e w' ⟨rfl, rfl⟩
    go_wp2_with fail
    replace ca0 : ∀ g : Later w5, g.w.cell? ⟨w.heap.size, 0, none⟩ = some (uv a.b.v) := fun g => g.cell (Ba.cell 0)
    replace ca1 : ∀ g : Later w5, g.w.cell? ⟨w.heap.size, 1, none⟩ = some (uv a.b.m) := fun g => g.cell (Ba.cell 1)
    replace ca2 : ∀ g : Later w5, g.w.cell? ⟨w.heap.size, 2, none⟩ = some (uv a.lo) := fun g => g.cell (Ba.cell 2)
    replace ca3 : ∀ g : Later w5, g.w.cell? ⟨w.heap.size, 3, none⟩ = some (uv a.hi) := fun g => g.cell (Ba.cell 3)
    replace ca4 : ∀ g : Later w5, g.w.cell? ⟨w.heap.size, 4, none⟩ = some (sv a.sl) := fun g => g.cell (Ba.cell 4)
    replace ca5 : ∀ g : Later w5, g.w.cell? ⟨w.heap.size, 5, none⟩ = some (sv a.sh) := fun g => g.cell (Ba.cell 5)
    replace cb0 : ∀ g : Later w5, g.w.cell? ⟨w.heap.size + 1, 0, none⟩ = some (uv b.b.v) := fun g => g.cell (Bb.cell 0)
    replace cb1 : ∀ g : Later w5, g.w.cell? ⟨w.heap.size + 1, 1, none⟩ = some (uv b.b.m) := fun g => g.cell (Bb.cell 1)
    replace cb2 : ∀ g : Later w5, g.w.cell? ⟨w.heap.size + 1, 2, none⟩ = some (uv b.lo) := fun g => g.cell (Bb.cell 2)
    replace cb3 : ∀ g : Later w5, g.w.cell? ⟨w.heap.size + 1, 3, none⟩ = some (uv b.hi) := fun g => g.cell (Bb.cell 3)
    replace cb4 : ∀ g : Later w5, g.w.cell? ⟨w.heap.size + 1, 4, none⟩ = some (sv b.sl) := fun g => g.cell (Bb.cell 4)
    replace cb5 : ∀ g : Later w5, g.w.cell? ⟨w.heap.size + 1, 5, none⟩ = some (sv b.sh) := fun g => g.cell (Bb.cell 5)
    replace cr0 : ∀ g : Later w5, g.w.cell? ⟨w.heap.size + 1 + 1, 0, none⟩ = some (.int .u64 0) := fun g => g.cell (Br.cell 0)
    replace cr1 : ∀ g : Later w5, g.w.cell? ⟨w.heap.size + 1 + 1, 1, none⟩ = some (.int .u64 0) := fun g => g.cell (Br.cell 1)
    replace cr2 : ∀ g : Later w5, g.w.cell? ⟨w.heap.size + 1 + 1, 2, none⟩ = some (.int .u64 0) := fun g => g.cell (Br.cell 2)
    replace cr3 : ∀ g : Later w5, g.w.cell? ⟨w.heap.size + 1 + 1, 3, none⟩ = some (.int .u64 0) := fun g => g.cell (Br.cell 3)
    replace cr4 : ∀ g : Later w5, g.w.cell? ⟨w.heap.size + 1 + 1, 4, none⟩ = some (.int .i64 0) := fun g => g.cell (Br.cell 4)
    replace cr5 : ∀ g : Later w5, g.w.cell? ⟨w.heap.size + 1 + 1, 5, none⟩ = some (.int .i64 0) := fun g => g.cell (Br.cell 5)
    replace co0 : ∀ g : Later w5, g.w.cell? ⟨go, 0, none⟩ = some (uv (PlainTnum.mul a.b b.b).v) := fun g => g.cell (Bo.cell 0)
    replace co1 : ∀ g : Later w5, g.w.cell? ⟨go, 1, none⟩ = some (uv (PlainTnum.mul a.b b.b).m) := fun g => g.cell (Bo.cell 1)
    replace co2 : ∀ g : Later w5, g.w.cell? ⟨go, 2, none⟩ = some (uv PlainScalar.any.lo) := fun g => g.cell (Bo.cell 2)
    replace co3 : ∀ g : Later w5, g.w.cell? ⟨go, 3, none⟩ = some (uv PlainScalar.any.hi) := fun g => g.cell (Bo.cell 3)
    replace co4 : ∀ g : Later w5, g.w.cell? ⟨go, 4, none⟩ = some (sv PlainScalar.any.sl) := fun g => g.cell (Bo.cell 4)
    replace co5 : ∀ g : Later w5, g.w.cell? ⟨go, 5, none⟩ = some (sv PlainScalar.any.sh) := fun g => g.cell (Bo.cell 5)
    obtain ⟨S, hS⟩ : ∃ S : World → Prop, ∀ x, S x ↔ (x.cell? ⟨w.heap.size, 2, none⟩ = some (uv a.lo) ∧ x.cell? ⟨w.heap.size, 3, none⟩ = some (uv a.hi) ∧ x.cell? ⟨w.heap.size + 1, 2, none⟩ = some (uv b.lo) ∧ x.cell? ⟨w.heap.size + 1, 3, none⟩ = some (uv b.hi)) := ⟨_, fun _ => Iff.rfl⟩
    have u0 : ∀ g : Under S, g.w.cell? ⟨w.heap.size, 2, none⟩ = some (uv a.lo) := fun g => ((hS _).1 g.is).1
    have u1 : ∀ g : Under S, g.w.cell? ⟨w.heap.size, 3, none⟩ = some (uv a.hi) := fun g => ((hS _).1 g.is).2.1
    have u2 : ∀ g : Under S, g.w.cell? ⟨w.heap.size + 1, 2, none⟩ = some (uv b.lo) := fun g => ((hS _).1 g.is).2.2.1
    have u3 : ∀ g : Under S, g.w.cell? ⟨w.heap.size + 1, 3, none⟩ = some (uv b.hi) := fun g => ((hS _).1 g.is).2.2.2
    refine wp_region_mixS 11 (fun k => k == 5 || k == 6 || k == 7 || k == 8 || k == 9) (fun _ => #[]) S rfl (by kernel_rfl) (by kernel_rfl) (no_alloc (by kernel_rfl)) ?_
    simp only [List.take_succ_cons, List.take_zero, List.drop_succ_cons, List.drop_zero]
    repeat (refine wpMixS_step (fun K hK => ?_); go_simp; first | (refine hK _ ?_; clear hK K))
    refine wpMixS_nil ?_
    intro G w6 hgr hblk hdist
    have hb : Below w5.heap.size w5 w6 := hgr
    replace Ba := Ba.next hb
    replace Bb := Bb.next hb
    replace Br := Br.next hb
    replace Bo := Bo.next hb
    clear ca0 ca1 ca2 ca3 ca4 ca5 fa la
    clear cb0 cb1 cb2 cb3 cb4 cb5 fb lb
    clear cr0 cr1 cr2 cr3 cr4 cr5 fr lr
    clear co0 co1 co2 co3 co4 co5 fo lo
    clear u0 u1 u2 u3
    replace hB : Below w.heap.size w w6 := Bl_trans hB hb
    simp only [putAll, isAlloc]
    clear hb hgr hblk hdist
    have ca0 : w6.cell? ⟨w.heap.size, 0, none⟩ = some (uv a.b.v) := Ba.cell 0
    have ca1 : w6.cell? ⟨w.heap.size, 1, none⟩ = some (uv a.b.m) := Ba.cell 1
    have ca2 : w6.cell? ⟨w.heap.size, 2, none⟩ = some (uv a.lo) := Ba.cell 2
    have ca3 : w6.cell? ⟨w.heap.size, 3, none⟩ = some (uv a.hi) := Ba.cell 3
    have ca4 : w6.cell? ⟨w.heap.size, 4, none⟩ = some (sv a.sl) := Ba.cell 4
    have ca5 : w6.cell? ⟨w.heap.size, 5, none⟩ = some (sv a.sh) := Ba.cell 5
    have fa := Ba.frozen
    have la := Ba.lt
    have cb0 : w6.cell? ⟨w.heap.size + 1, 0, none⟩ = some (uv b.b.v) := Bb.cell 0
    have cb1 : w6.cell? ⟨w.heap.size + 1, 1, none⟩ = some (uv b.b.m) := Bb.cell 1
    have cb2 : w6.cell? ⟨w.heap.size + 1, 2, none⟩ = some (uv b.lo) := Bb.cell 2
    have cb3 : w6.cell? ⟨w.heap.size + 1, 3, none⟩ = some (uv b.hi) := Bb.cell 3
    have cb4 : w6.cell? ⟨w.heap.size + 1, 4, none⟩ = some (sv b.sl) := Bb.cell 4
    have cb5 : w6.cell? ⟨w.heap.size + 1, 5, none⟩ = some (sv b.sh) := Bb.cell 5
    have fb := Bb.frozen
    have lb := Bb.lt
    have cr0 : w6.cell? ⟨w.heap.size + 1 + 1, 0, none⟩ = some (.int .u64 0) := Br.cell 0
    have cr1 : w6.cell? ⟨w.heap.size + 1 + 1, 1, none⟩ = some (.int .u64 0) := Br.cell 1
    have cr2 : w6.cell? ⟨w.heap.size + 1 + 1, 2, none⟩ = some (.int .u64 0) := Br.cell 2
    have cr3 : w6.cell? ⟨w.heap.size + 1 + 1, 3, none⟩ = some (.int .u64 0) := Br.cell 3
    have cr4 : w6.cell? ⟨w.heap.size + 1 + 1, 4, none⟩ = some (.int .i64 0) := Br.cell 4
    have cr5 : w6.cell? ⟨w.heap.size + 1 + 1, 5, none⟩ = some (.int .i64 0) := Br.cell 5
    have fr := Br.frozen
    have lr := Br.lt
    have co0 : w6.cell? ⟨go, 0, none⟩ = some (uv (PlainTnum.mul a.b b.b).v) := Bo.cell 0
    have co1 : w6.cell? ⟨go, 1, none⟩ = some (uv (PlainTnum.mul a.b b.b).m) := Bo.cell 1
    have co2 : w6.cell? ⟨go, 2, none⟩ = some (uv PlainScalar.any.lo) := Bo.cell 2
    have co3 : w6.cell? ⟨go, 3, none⟩ = some (uv PlainScalar.any.hi) := Bo.cell 3
    have co4 : w6.cell? ⟨go, 4, none⟩ = some (sv PlainScalar.any.sl) := Bo.cell 4
    have co5 : w6.cell? ⟨go, 5, none⟩ = some (sv PlainScalar.any.sh) := Bo.cell 5
    have fo := Bo.frozen
    have lo := Bo.lt
    go_wp2_with fail
    refine ⟨by first | trivial | rfl, ?_, ?_⟩
    · refine (hS _).2 ?_; exact ⟨(Ba.far (by first | (simp; done) | (simp; omega) | (simp [*]; done) | (simp only [ne_eq]; constructor <;> omega)) _).cell 2, (Ba.far (by first | (simp; done) | (simp; omega) | (simp [*]; done) | (simp only [ne_eq]; constructor <;> omega)) _).cell 3, (Bb.far (by first | (simp; done) | (simp; omega) | (simp [*]; done) | (simp only [ne_eq]; constructor <;> omega)) _).cell 2, (Bb.far (by first | (simp; done) | (simp; omega) | (simp [*]; done) | (simp only [ne_eq]; constructor <;> omega)) _).cell 3⟩
    clear hS S
    clear ca0 ca1 ca2 ca3 ca4 ca5 fa la
    clear cb0 cb1 cb2 cb3 cb4 cb5 fb lb
    clear cr0 cr1 cr2 cr3 cr4 cr5 fr lr
    clear co0 co1 co2 co3 co4 co5 fo lo
    replace Ba : Blk (w6.setCell ⟨go, 2, none⟩ (uv (a.lo * b.lo))) (w.heap.size) 39 #[uv a.b.v, uv a.b.m, uv a.lo, uv a.hi, sv a.sl, sv a.sh] := (Ba.far (by first | (simp; done) | (simp; omega) | (simp [*]; done) | (simp only [ne_eq]; constructor <;> omega)) _)
    replace Bb : Blk (w6.setCell ⟨go, 2, none⟩ (uv (a.lo * b.lo))) (w.heap.size + 1) 39 #[uv b.b.v, uv b.b.m, uv b.lo, uv b.hi, sv b.sl, sv b.sh] := (Bb.far (by first | (simp; done) | (simp; omega) | (simp [*]; done) | (simp only [ne_eq]; constructor <;> omega)) _)
    replace Br : Blk (w6.setCell ⟨go, 2, none⟩ (uv (a.lo * b.lo))) (w.heap.size + 1 + 1) 39 #[.int .u64 0, .int .u64 0, .int .u64 0, .int .u64 0, .int .i64 0, .int .i64 0] := (Br.far (by first | (simp; done) | (simp; omega) | (simp [*]; done) | (simp only [ne_eq]; constructor <;> omega)) _)
    replace Bo : Blk (w6.setCell ⟨go, 2, none⟩ (uv (a.lo * b.lo))) (go) 39 #[uv (PlainTnum.mul a.b b.b).v, uv (PlainTnum.mul a.b b.b).m, uv (a.lo * b.lo), uv PlainScalar.any.hi, sv PlainScalar.any.sl, sv PlainScalar.any.sh] := Bo.set_ 2 _
    replace hB : Below w.heap.size w (w6.setCell ⟨go, 2, none⟩ (uv (a.lo * b.lo))) := (Bl_set hB (by first | omega | (simp; done) | (simp; omega)) _)
    generalize (w6.setCell ⟨go, 2, none⟩ (uv (a.lo * b.lo))) = w7 at *
    have ca0 : w7.cell? ⟨w.heap.size, 0, none⟩ = some (uv a.b.v) := Ba.cell 0
    have ca1 : w7.cell? ⟨w.heap.size, 1, none⟩ = some (uv a.b.m) := Ba.cell 1
    have ca2 : w7.cell? ⟨w.heap.size, 2, none⟩ = some (uv a.lo) := Ba.cell 2
    have ca3 : w7.cell? ⟨w.heap.size, 3, none⟩ = some (uv a.hi) := Ba.cell 3
    have ca4 : w7.cell? ⟨w.heap.size, 4, none⟩ = some (sv a.sl) := Ba.cell 4
    have ca5 : w7.cell? ⟨w.heap.size, 5, none⟩ = some (sv a.sh) := Ba.cell 5
    have fa := Ba.frozen
    have la := Ba.lt
    have cb0 : w7.cell? ⟨w.heap.size + 1, 0, none⟩ = some (uv b.b.v) := Bb.cell 0
    have cb1 : w7.cell? ⟨w.heap.size + 1, 1, none⟩ = some (uv b.b.m) := Bb.cell 1
    have cb2 : w7.cell? ⟨w.heap.size + 1, 2, none⟩ = some (uv b.lo) := Bb.cell 2
    have cb3 : w7.cell? ⟨w.heap.size + 1, 3, none⟩ = some (uv b.hi) := Bb.cell 3
    have cb4 : w7.cell? ⟨w.heap.size + 1, 4, none⟩ = some (sv b.sl) := Bb.cell 4
    have cb5 : w7.cell? ⟨w.heap.size + 1, 5, none⟩ = some (sv b.sh) := Bb.cell 5
    have fb := Bb.frozen
    have lb := Bb.lt
    have cr0 : w7.cell? ⟨w.heap.size + 1 + 1, 0, none⟩ = some (.int .u64 0) := Br.cell 0
    have cr1 : w7.cell? ⟨w.heap.size + 1 + 1, 1, none⟩ = some (.int .u64 0) := Br.cell 1
    have cr2 : w7.cell? ⟨w.heap.size + 1 + 1, 2, none⟩ = some (.int .u64 0) := Br.cell 2
    have cr3 : w7.cell? ⟨w.heap.size + 1 + 1, 3, none⟩ = some (.int .u64 0) := Br.cell 3
    have cr4 : w7.cell? ⟨w.heap.size + 1 + 1, 4, none⟩ = some (.int .i64 0) := Br.cell 4
    have cr5 : w7.cell? ⟨w.heap.size + 1 + 1, 5, none⟩ = some (.int .i64 0) := Br.cell 5
    have fr := Br.frozen
    have lr := Br.lt
    have co0 : w7.cell? ⟨go, 0, none⟩ = some (uv (PlainTnum.mul a.b b.b).v) := Bo.cell 0
    have co1 : w7.cell? ⟨go, 1, none⟩ = some (uv (PlainTnum.mul a.b b.b).m) := Bo.cell 1
    have co2 : w7.cell? ⟨go, 2, none⟩ = some (uv (a.lo * b.lo)) := Bo.cell 2
    have co3 : w7.cell? ⟨go, 3, none⟩ = some (uv PlainScalar.any.hi) := Bo.cell 3
    have co4 : w7.cell? ⟨go, 4, none⟩ = some (sv PlainScalar.any.sl) := Bo.cell 4
    have co5 : w7.cell? ⟨go, 5, none⟩ = some (sv PlainScalar.any.sh) := Bo.cell 5
    have fo := Bo.frozen
    have lo := Bo.lt
    go_upto_region 6 with fail
    clear ca0 ca1 ca2 ca3 ca4 ca5 fa la
    clear cb0 cb1 cb2 cb3 cb4 cb5 fb lb
    clear cr0 cr1 cr2 cr3 cr4 cr5 fr lr
    clear co0 co1 co2 co3 co4 co5 fo lo
    replace Ba : Blk (w7.setCell ⟨go, 3, none⟩ (uv (a.hi * b.hi))) (w.heap.size) 39 #[uv a.b.v, uv a.b.m, uv a.lo, uv a.hi, sv a.sl, sv a.sh] := (Ba.far (by first | (simp; done) | (simp; omega) | (simp [*]; done) | (simp only [ne_eq]; constructor <;> omega)) _)
    replace Bb : Blk (w7.setCell ⟨go, 3, none⟩ (uv (a.hi * b.hi))) (w.heap.size + 1) 39 #[uv b.b.v, uv b.b.m, uv b.lo, uv b.hi, sv b.sl, sv b.sh] := (Bb.far (by first | (simp; done) | (simp; omega) | (simp [*]; done) | (simp only [ne_eq]; constructor <;> omega)) _)
    replace Br : Blk (w7.setCell ⟨go, 3, none⟩ (uv (a.hi * b.hi))) (w.heap.size + 1 + 1) 39 #[.int .u64 0, .int .u64 0, .int .u64 0, .int .u64 0, .int .i64 0, .int .i64 0] := (Br.far (by first | (simp; done) | (simp; omega) | (simp [*]; done) | (simp only [ne_eq]; constructor <;> omega)) _)
    replace Bo : Blk (w7.setCell ⟨go, 3, none⟩ (uv (a.hi * b.hi))) (go) 39 #[uv (PlainTnum.mul a.b b.b).v, uv (PlainTnum.mul a.b b.b).m, uv (a.lo * b.lo), uv (a.hi * b.hi), sv PlainScalar.any.sl, sv PlainScalar.any.sh] := Bo.set_ 3 _
    replace hB : Below w.heap.size w (w7.setCell ⟨go, 3, none⟩ (uv (a.hi * b.hi))) := (Bl_set hB (by first | omega | (simp; done) | (simp; omega)) _)
    generalize (w7.setCell ⟨go, 3, none⟩ (uv (a.hi * b.hi))) = w8 at *
    have ca0 : w8.cell? ⟨w.heap.size, 0, none⟩ = some (uv a.b.v) := Ba.cell 0
    have ca1 : w8.cell? ⟨w.heap.size, 1, none⟩ = some (uv a.b.m) := Ba.cell 1
    have ca2 : w8.cell? ⟨w.heap.size, 2, none⟩ = some (uv a.lo) := Ba.cell 2
    have ca3 : w8.cell? ⟨w.heap.size, 3, none⟩ = some (uv a.hi) := Ba.cell 3
    have ca4 : w8.cell? ⟨w.heap.size, 4, none⟩ = some (sv a.sl) := Ba.cell 4
    have ca5 : w8.cell? ⟨w.heap.size, 5, none⟩ = some (sv a.sh) := Ba.cell 5
    have fa := Ba.frozen
    have la := Ba.lt
    have cb0 : w8.cell? ⟨w.heap.size + 1, 0, none⟩ = some (uv b.b.v) := Bb.cell 0
    have cb1 : w8.cell? ⟨w.heap.size + 1, 1, none⟩ = some (uv b.b.m) := Bb.cell 1
    have cb2 : w8.cell? ⟨w.heap.size + 1, 2, none⟩ = some (uv b.lo) := Bb.cell 2
    have cb3 : w8.cell? ⟨w.heap.size + 1, 3, none⟩ = some (uv b.hi) := Bb.cell 3
    have cb4 : w8.cell? ⟨w.heap.size + 1, 4, none⟩ = some (sv b.sl) := Bb.cell 4
    have cb5 : w8.cell? ⟨w.heap.size + 1, 5, none⟩ = some (sv b.sh) := Bb.cell 5
    have fb := Bb.frozen
    have lb := Bb.lt
    have cr0 : w8.cell? ⟨w.heap.size + 1 + 1, 0, none⟩ = some (.int .u64 0) := Br.cell 0
    have cr1 : w8.cell? ⟨w.heap.size + 1 + 1, 1, none⟩ = some (.int .u64 0) := Br.cell 1
    have cr2 : w8.cell? ⟨w.heap.size + 1 + 1, 2, none⟩ = some (.int .u64 0) := Br.cell 2
    have cr3 : w8.cell? ⟨w.heap.size + 1 + 1, 3, none⟩ = some (.int .u64 0) := Br.cell 3
    have cr4 : w8.cell? ⟨w.heap.size + 1 + 1, 4, none⟩ = some (.int .i64 0) := Br.cell 4
    have cr5 : w8.cell? ⟨w.heap.size + 1 + 1, 5, none⟩ = some (.int .i64 0) := Br.cell 5
    have fr := Br.frozen
    have lr := Br.lt
    have co0 : w8.cell? ⟨go, 0, none⟩ = some (uv (PlainTnum.mul a.b b.b).v) := Bo.cell 0
    have co1 : w8.cell? ⟨go, 1, none⟩ = some (uv (PlainTnum.mul a.b b.b).m) := Bo.cell 1
    have co2 : w8.cell? ⟨go, 2, none⟩ = some (uv (a.lo * b.lo)) := Bo.cell 2
    have co3 : w8.cell? ⟨go, 3, none⟩ = some (uv (a.hi * b.hi)) := Bo.cell 3
    have co4 : w8.cell? ⟨go, 4, none⟩ = some (sv PlainScalar.any.sl) := Bo.cell 4
    have co5 : w8.cell? ⟨go, 5, none⟩ = some (sv PlainScalar.any.sh) := Bo.cell 5
    have fo := Bo.frozen
    have lo := Bo.lt
    go_wp2_with fail
    refine (settled_c (⟨(PlainTnum.mul a.b b.b), (a.lo * b.lo), (a.hi * b.hi), PlainScalar.any.sl, PlainScalar.any.sh⟩ : Rng) _).mono ?_
    rintro e w9 ⟨rfl, hb⟩
    clear ca0 ca1 ca2 ca3 ca4 ca5 fa la
    clear cb0 cb1 cb2 cb3 cb4 cb5 fb lb
    clear cr0 cr1 cr2 cr3 cr4 cr5 fr lr
    clear co0 co1 co2 co3 co4 co5 fo lo
    replace Ba := (Ba).next hb
    replace Bb := (Bb).next hb
    replace Br := (Br).next hb
    replace Bo := (Bo).next hb
    replace hB : Below w.heap.size w w9 := by repeat (first | exact hB | (refine Bl_set ?_ (by first | omega | (simp; omega)) _) | apply Bl_alloc | (refine Bl_trans ?_ hb))
    clear hb
    have ca0 : w9.cell? ⟨w.heap.size, 0, none⟩ = some (uv a.b.v) := Ba.cell 0
    have ca1 : w9.cell? ⟨w.heap.size, 1, none⟩ = some (uv a.b.m) := Ba.cell 1
    have ca2 : w9.cell? ⟨w.heap.size, 2, none⟩ = some (uv a.lo) := Ba.cell 2
    have ca3 : w9.cell? ⟨w.heap.size, 3, none⟩ = some (uv a.hi) := Ba.cell 3
    have ca4 : w9.cell? ⟨w.heap.size, 4, none⟩ = some (sv a.sl) := Ba.cell 4
    have ca5 : w9.cell? ⟨w.heap.size, 5, none⟩ = some (sv a.sh) := Ba.cell 5
    have fa := Ba.frozen
    have la := Ba.lt
    have cb0 : w9.cell? ⟨w.heap.size + 1, 0, none⟩ = some (uv b.b.v) := Bb.cell 0
    have cb1 : w9.cell? ⟨w.heap.size + 1, 1, none⟩ = some (uv b.b.m) := Bb.cell 1
    have cb2 : w9.cell? ⟨w.heap.size + 1, 2, none⟩ = some (uv b.lo) := Bb.cell 2
    have cb3 : w9.cell? ⟨w.heap.size + 1, 3, none⟩ = some (uv b.hi) := Bb.cell 3
    have cb4 : w9.cell? ⟨w.heap.size + 1, 4, none⟩ = some (sv b.sl) := Bb.cell 4
    have cb5 : w9.cell? ⟨w.heap.size + 1, 5, none⟩ = some (sv b.sh) := Bb.cell 5
    have fb := Bb.frozen
    have lb := Bb.lt
    have cr0 : w9.cell? ⟨w.heap.size + 1 + 1, 0, none⟩ = some (.int .u64 0) := Br.cell 0
    have cr1 : w9.cell? ⟨w.heap.size + 1 + 1, 1, none⟩ = some (.int .u64 0) := Br.cell 1
    have cr2 : w9.cell? ⟨w.heap.size + 1 + 1, 2, none⟩ = some (.int .u64 0) := Br.cell 2
    have cr3 : w9.cell? ⟨w.heap.size + 1 + 1, 3, none⟩ = some (.int .u64 0) := Br.cell 3
    have cr4 : w9.cell? ⟨w.heap.size + 1 + 1, 4, none⟩ = some (.int .i64 0) := Br.cell 4
    have cr5 : w9.cell? ⟨w.heap.size + 1 + 1, 5, none⟩ = some (.int .i64 0) := Br.cell 5
    have fr := Br.frozen
    have lr := Br.lt
    have co0 : w9.cell? ⟨go, 0, none⟩ = some (uv (PlainTnum.mul a.b b.b).v) := Bo.cell 0
    have co1 : w9.cell? ⟨go, 1, none⟩ = some (uv (PlainTnum.mul a.b b.b).m) := Bo.cell 1
    have co2 : w9.cell? ⟨go, 2, none⟩ = some (uv (a.lo * b.lo)) := Bo.cell 2
    have co3 : w9.cell? ⟨go, 3, none⟩ = some (uv (a.hi * b.hi)) := Bo.cell 3
    have co4 : w9.cell? ⟨go, 4, none⟩ = some (sv PlainScalar.any.sl) := Bo.cell 4
    have co5 : w9.cell? ⟨go, 5, none⟩ = some (sv PlainScalar.any.sh) := Bo.cell 5
    have fo := Bo.frozen
    have lo := Bo.lt
    go_wp2
    exact bodyPost_ret (v := rv (PlainScalar.settled ⟨(PlainTnum.mul a.b b.b), (a.lo * b.lo), (a.hi * b.hi), PlainScalar.any.sl, PlainScalar.any.sh⟩)) (by simp [results, Try.results43, go_sem, cr0, cr1, cr2, cr3, cr4, cr5, lr]) rfl ⟨by rw [hs], by repeat (first | (with_reducible exact hB) | (with_reducible refine Bl_set ?_ (by first | omega | (simp; done) | (simp; omega)) _) | with_reducible apply Bl_alloc)⟩
set_option maxRecDepth 100000 in
set_option maxHeartbeats 3200000 in
theorem ssum_c (a b : Rng) (w : World) : Calls Try.prog 41 #[rv a, rv b] w fun e w' => e = .returned (rv (PlainScalar.sum a b)) ∧ Below w.heap.size w w' := by
  cases q : decide (a.hi.toNat + b.hi.toNat < 18446744073709551616)
  · have hs : PlainScalar.sum a b = PlainScalar.settled ⟨(PlainTnum.add a.b b.b), PlainScalar.any.lo, PlainScalar.any.hi, PlainScalar.any.sl, PlainScalar.any.sh⟩ := by unfold PlainScalar.sum; rw [if_neg (show ¬ _ from of_decide_eq_false q)]
    have hc := @add64_run a.hi b.hi
    have hq : (a.hi.toNat + b.hi.toNat) / 18446744073709551616 = 1 := by have := of_decide_eq_false q; have := a.hi.isLt; have := b.hi.isLt; omega
    simp only [hq] at hc
    go_enter Try.func41, Try.ntmps41
    go_wp2_with fail
    obtain ⟨ga, hga⟩ : ∃ g, g = w.heap.size := ⟨_, rfl⟩
    obtain ⟨gb, hgb⟩ : ∃ g, g = w.heap.size + 1 := ⟨_, rfl⟩
    obtain ⟨gr, hgr⟩ : ∃ g, g = w.heap.size + 1 + 1 := ⟨_, rfl⟩
    have Ba : Blk (((w.alloc (.cells #[uv a.b.v, uv a.b.m, uv a.lo, uv a.hi, sv a.sl, sv a.sh] 39)).alloc (.cells #[uv b.b.v, uv b.b.m, uv b.lo, uv b.hi, sv b.sl, sv b.sh] 39)).alloc (.cells #[.int .u64 0, .int .u64 0, .int .u64 0, .int .u64 0, .int .i64 0, .int .i64 0] 39)) (w.heap.size) 39 #[uv a.b.v, uv a.b.m, uv a.lo, uv a.hi, sv a.sl, sv a.sh] := (((Blk.new w 39 #[uv a.b.v, uv a.b.m, uv a.lo, uv a.hi, sv a.sl, sv a.sh])).alloc _).alloc _
    have Bb : Blk (((w.alloc (.cells #[uv a.b.v, uv a.b.m, uv a.lo, uv a.hi, sv a.sl, sv a.sh] 39)).alloc (.cells #[uv b.b.v, uv b.b.m, uv b.lo, uv b.hi, sv b.sl, sv b.sh] 39)).alloc (.cells #[.int .u64 0, .int .u64 0, .int .u64 0, .int .u64 0, .int .i64 0, .int .i64 0] 39)) (w.heap.size + 1) 39 #[uv b.b.v, uv b.b.m, uv b.lo, uv b.hi, sv b.sl, sv b.sh] := ((by simpa using Blk.new (w.alloc (.cells #[uv a.b.v, uv a.b.m, uv a.lo, uv a.hi, sv a.sl, sv a.sh] 39)) 39 #[uv b.b.v, uv b.b.m, uv b.lo, uv b.hi, sv b.sl, sv b.sh] : Blk _ (w.heap.size + 1) 39 #[uv b.b.v, uv b.b.m, uv b.lo, uv b.hi, sv b.sl, sv b.sh])).alloc _
    have Br : Blk (((w.alloc (.cells #[uv a.b.v, uv a.b.m, uv a.lo, uv a.hi, sv a.sl, sv a.sh] 39)).alloc (.cells #[uv b.b.v, uv b.b.m, uv b.lo, uv b.hi, sv b.sl, sv b.sh] 39)).alloc (.cells #[.int .u64 0, .int .u64 0, .int .u64 0, .int .u64 0, .int .i64 0, .int .i64 0] 39)) (w.heap.size + 1 + 1) 39 #[.int .u64 0, .int .u64 0, .int .u64 0, .int .u64 0, .int .i64 0, .int .i64 0] := (by simpa using Blk.new ((w.alloc (.cells #[uv a.b.v, uv a.b.m, uv a.lo, uv a.hi, sv a.sl, sv a.sh] 39)).alloc (.cells #[uv b.b.v, uv b.b.m, uv b.lo, uv b.hi, sv b.sl, sv b.sh] 39)) 39 #[.int .u64 0, .int .u64 0, .int .u64 0, .int .u64 0, .int .i64 0, .int .i64 0] : Blk _ (w.heap.size + 1 + 1) 39 #[.int .u64 0, .int .u64 0, .int .u64 0, .int .u64 0, .int .i64 0, .int .i64 0])
    have hB : Below w.heap.size w (((w.alloc (.cells #[uv a.b.v, uv a.b.m, uv a.lo, uv a.hi, sv a.sl, sv a.sh] 39)).alloc (.cells #[uv b.b.v, uv b.b.m, uv b.lo, uv b.hi, sv b.sl, sv b.sh] 39)).alloc (.cells #[.int .u64 0, .int .u64 0, .int .u64 0, .int .u64 0, .int .i64 0, .int .i64 0] 39)) := (Bl_alloc (Bl_alloc (Bl_alloc (Bl_refl w) _) _) _)
    clear hga
    clear ga
    clear hgb
    clear gb
    clear hgr
    clear gr
    generalize (((w.alloc (.cells #[uv a.b.v, uv a.b.m, uv a.lo, uv a.hi, sv a.sl, sv a.sh] 39)).alloc (.cells #[uv b.b.v, uv b.b.m, uv b.lo, uv b.hi, sv b.sl, sv b.sh] 39)).alloc (.cells #[.int .u64 0, .int .u64 0, .int .u64 0, .int .u64 0, .int .i64 0, .int .i64 0] 39)) = w1 at *
    have ca0 : w1.cell? ⟨w.heap.size, 0, none⟩ = some (uv a.b.v) := Ba.cell 0
    have ca1 : w1.cell? ⟨w.heap.size, 1, none⟩ = some (uv a.b.m) := Ba.cell 1
    have ca2 : w1.cell? ⟨w.heap.size, 2, none⟩ = some (uv a.lo) := Ba.cell 2
    have ca3 : w1.cell? ⟨w.heap.size, 3, none⟩ = some (uv a.hi) := Ba.cell 3
    have ca4 : w1.cell? ⟨w.heap.size, 4, none⟩ = some (sv a.sl) := Ba.cell 4
    have ca5 : w1.cell? ⟨w.heap.size, 5, none⟩ = some (sv a.sh) := Ba.cell 5
    have fa := Ba.frozen
    have la := Ba.lt
    have cb0 : w1.cell? ⟨w.heap.size + 1, 0, none⟩ = some (uv b.b.v) := Bb.cell 0
    have cb1 : w1.cell? ⟨w.heap.size + 1, 1, none⟩ = some (uv b.b.m) := Bb.cell 1
    have cb2 : w1.cell? ⟨w.heap.size + 1, 2, none⟩ = some (uv b.lo) := Bb.cell 2
    have cb3 : w1.cell? ⟨w.heap.size + 1, 3, none⟩ = some (uv b.hi) := Bb.cell 3
    have cb4 : w1.cell? ⟨w.heap.size + 1, 4, none⟩ = some (sv b.sl) := Bb.cell 4
    have cb5 : w1.cell? ⟨w.heap.size + 1, 5, none⟩ = some (sv b.sh) := Bb.cell 5
    have fb := Bb.frozen
    have lb := Bb.lt
    have cr0 : w1.cell? ⟨w.heap.size + 1 + 1, 0, none⟩ = some (.int .u64 0) := Br.cell 0
    have cr1 : w1.cell? ⟨w.heap.size + 1 + 1, 1, none⟩ = some (.int .u64 0) := Br.cell 1
    have cr2 : w1.cell? ⟨w.heap.size + 1 + 1, 2, none⟩ = some (.int .u64 0) := Br.cell 2
    have cr3 : w1.cell? ⟨w.heap.size + 1 + 1, 3, none⟩ = some (.int .u64 0) := Br.cell 3
    have cr4 : w1.cell? ⟨w.heap.size + 1 + 1, 4, none⟩ = some (.int .i64 0) := Br.cell 4
    have cr5 : w1.cell? ⟨w.heap.size + 1 + 1, 5, none⟩ = some (.int .i64 0) := Br.cell 5
    have fr := Br.frozen
    have lr := Br.lt
    go_wp2_with fail
    refine (sany_c _).mono ?_
    rintro e w2 ⟨rfl, hb⟩
    clear ca0 ca1 ca2 ca3 ca4 ca5 fa la
    clear cb0 cb1 cb2 cb3 cb4 cb5 fb lb
    clear cr0 cr1 cr2 cr3 cr4 cr5 fr lr
    replace Ba := (Ba).next hb
    replace Bb := (Bb).next hb
    replace Br := (Br).next hb
    replace hB : Below w.heap.size w w2 := by repeat (first | exact hB | (refine Bl_set ?_ (by first | omega | (simp; omega)) _) | apply Bl_alloc | (refine Bl_trans ?_ hb))
    clear hb
    have ca0 : w2.cell? ⟨w.heap.size, 0, none⟩ = some (uv a.b.v) := Ba.cell 0
    have ca1 : w2.cell? ⟨w.heap.size, 1, none⟩ = some (uv a.b.m) := Ba.cell 1
    have ca2 : w2.cell? ⟨w.heap.size, 2, none⟩ = some (uv a.lo) := Ba.cell 2
    have ca3 : w2.cell? ⟨w.heap.size, 3, none⟩ = some (uv a.hi) := Ba.cell 3
    have ca4 : w2.cell? ⟨w.heap.size, 4, none⟩ = some (sv a.sl) := Ba.cell 4
    have ca5 : w2.cell? ⟨w.heap.size, 5, none⟩ = some (sv a.sh) := Ba.cell 5
    have fa := Ba.frozen
    have la := Ba.lt
    have cb0 : w2.cell? ⟨w.heap.size + 1, 0, none⟩ = some (uv b.b.v) := Bb.cell 0
    have cb1 : w2.cell? ⟨w.heap.size + 1, 1, none⟩ = some (uv b.b.m) := Bb.cell 1
    have cb2 : w2.cell? ⟨w.heap.size + 1, 2, none⟩ = some (uv b.lo) := Bb.cell 2
    have cb3 : w2.cell? ⟨w.heap.size + 1, 3, none⟩ = some (uv b.hi) := Bb.cell 3
    have cb4 : w2.cell? ⟨w.heap.size + 1, 4, none⟩ = some (sv b.sl) := Bb.cell 4
    have cb5 : w2.cell? ⟨w.heap.size + 1, 5, none⟩ = some (sv b.sh) := Bb.cell 5
    have fb := Bb.frozen
    have lb := Bb.lt
    have cr0 : w2.cell? ⟨w.heap.size + 1 + 1, 0, none⟩ = some (.int .u64 0) := Br.cell 0
    have cr1 : w2.cell? ⟨w.heap.size + 1 + 1, 1, none⟩ = some (.int .u64 0) := Br.cell 1
    have cr2 : w2.cell? ⟨w.heap.size + 1 + 1, 2, none⟩ = some (.int .u64 0) := Br.cell 2
    have cr3 : w2.cell? ⟨w.heap.size + 1 + 1, 3, none⟩ = some (.int .u64 0) := Br.cell 3
    have cr4 : w2.cell? ⟨w.heap.size + 1 + 1, 4, none⟩ = some (.int .i64 0) := Br.cell 4
    have cr5 : w2.cell? ⟨w.heap.size + 1 + 1, 5, none⟩ = some (.int .i64 0) := Br.cell 5
    have fr := Br.frozen
    have lr := Br.lt
    go_upto_region 2 with fail
    clear ca0 ca1 ca2 ca3 ca4 ca5 fa la
    clear cb0 cb1 cb2 cb3 cb4 cb5 fb lb
    clear cr0 cr1 cr2 cr3 cr4 cr5 fr lr
    have Bo := Blk.new w2 39 #[uv PlainScalar.any.b.v, uv PlainScalar.any.b.m, uv PlainScalar.any.lo, uv PlainScalar.any.hi, sv PlainScalar.any.sl, sv PlainScalar.any.sh]
    have hgo := hB.size
    have hnao := Nat.ne_of_lt Ba.lt; have hltao := Ba.lt
    have hnbo := Nat.ne_of_lt Bb.lt; have hltbo := Bb.lt
    have hnro := Nat.ne_of_lt Br.lt; have hltro := Br.lt
    replace Ba : Blk (w2.alloc (.cells #[uv PlainScalar.any.b.v, uv PlainScalar.any.b.m, uv PlainScalar.any.lo, uv PlainScalar.any.hi, sv PlainScalar.any.sl, sv PlainScalar.any.sh] 39)) (w.heap.size) 39 #[uv a.b.v, uv a.b.m, uv a.lo, uv a.hi, sv a.sl, sv a.sh] := Ba.alloc _
    replace Bb : Blk (w2.alloc (.cells #[uv PlainScalar.any.b.v, uv PlainScalar.any.b.m, uv PlainScalar.any.lo, uv PlainScalar.any.hi, sv PlainScalar.any.sl, sv PlainScalar.any.sh] 39)) (w.heap.size + 1) 39 #[uv b.b.v, uv b.b.m, uv b.lo, uv b.hi, sv b.sl, sv b.sh] := Bb.alloc _
    replace Br : Blk (w2.alloc (.cells #[uv PlainScalar.any.b.v, uv PlainScalar.any.b.m, uv PlainScalar.any.lo, uv PlainScalar.any.hi, sv PlainScalar.any.sl, sv PlainScalar.any.sh] 39)) (w.heap.size + 1 + 1) 39 #[.int .u64 0, .int .u64 0, .int .u64 0, .int .u64 0, .int .i64 0, .int .i64 0] := Br.alloc _
    replace hB : Below w.heap.size w (w2.alloc (.cells #[uv PlainScalar.any.b.v, uv PlainScalar.any.b.m, uv PlainScalar.any.lo, uv PlainScalar.any.hi, sv PlainScalar.any.sl, sv PlainScalar.any.sh] 39)) := Bl_alloc hB _
    generalize (w2.alloc (.cells #[uv PlainScalar.any.b.v, uv PlainScalar.any.b.m, uv PlainScalar.any.lo, uv PlainScalar.any.hi, sv PlainScalar.any.sl, sv PlainScalar.any.sh] 39)) = w3 at *
    generalize w2.heap.size = go at *
    have ca0 : w3.cell? ⟨w.heap.size, 0, none⟩ = some (uv a.b.v) := Ba.cell 0
    have ca1 : w3.cell? ⟨w.heap.size, 1, none⟩ = some (uv a.b.m) := Ba.cell 1
    have ca2 : w3.cell? ⟨w.heap.size, 2, none⟩ = some (uv a.lo) := Ba.cell 2
    have ca3 : w3.cell? ⟨w.heap.size, 3, none⟩ = some (uv a.hi) := Ba.cell 3
    have ca4 : w3.cell? ⟨w.heap.size, 4, none⟩ = some (sv a.sl) := Ba.cell 4
    have ca5 : w3.cell? ⟨w.heap.size, 5, none⟩ = some (sv a.sh) := Ba.cell 5
    have fa := Ba.frozen
    have la := Ba.lt
    have cb0 : w3.cell? ⟨w.heap.size + 1, 0, none⟩ = some (uv b.b.v) := Bb.cell 0
    have cb1 : w3.cell? ⟨w.heap.size + 1, 1, none⟩ = some (uv b.b.m) := Bb.cell 1
    have cb2 : w3.cell? ⟨w.heap.size + 1, 2, none⟩ = some (uv b.lo) := Bb.cell 2
    have cb3 : w3.cell? ⟨w.heap.size + 1, 3, none⟩ = some (uv b.hi) := Bb.cell 3
    have cb4 : w3.cell? ⟨w.heap.size + 1, 4, none⟩ = some (sv b.sl) := Bb.cell 4
    have cb5 : w3.cell? ⟨w.heap.size + 1, 5, none⟩ = some (sv b.sh) := Bb.cell 5
    have fb := Bb.frozen
    have lb := Bb.lt
    have cr0 : w3.cell? ⟨w.heap.size + 1 + 1, 0, none⟩ = some (.int .u64 0) := Br.cell 0
    have cr1 : w3.cell? ⟨w.heap.size + 1 + 1, 1, none⟩ = some (.int .u64 0) := Br.cell 1
    have cr2 : w3.cell? ⟨w.heap.size + 1 + 1, 2, none⟩ = some (.int .u64 0) := Br.cell 2
    have cr3 : w3.cell? ⟨w.heap.size + 1 + 1, 3, none⟩ = some (.int .u64 0) := Br.cell 3
    have cr4 : w3.cell? ⟨w.heap.size + 1 + 1, 4, none⟩ = some (.int .i64 0) := Br.cell 4
    have cr5 : w3.cell? ⟨w.heap.size + 1 + 1, 5, none⟩ = some (.int .i64 0) := Br.cell 5
    have fr := Br.frozen
    have lr := Br.lt
    have co0 : w3.cell? ⟨go, 0, none⟩ = some (uv PlainScalar.any.b.v) := Bo.cell 0
    have co1 : w3.cell? ⟨go, 1, none⟩ = some (uv PlainScalar.any.b.m) := Bo.cell 1
    have co2 : w3.cell? ⟨go, 2, none⟩ = some (uv PlainScalar.any.lo) := Bo.cell 2
    have co3 : w3.cell? ⟨go, 3, none⟩ = some (uv PlainScalar.any.hi) := Bo.cell 3
    have co4 : w3.cell? ⟨go, 4, none⟩ = some (sv PlainScalar.any.sl) := Bo.cell 4
    have co5 : w3.cell? ⟨go, 5, none⟩ = some (sv PlainScalar.any.sh) := Bo.cell 5
    have fo := Bo.frozen
    have lo := Bo.lt
    go_wp2_with fail
    refine (add_c _ _ _).mono ?_
    rintro e w4 ⟨rfl, hb⟩
    clear ca0 ca1 ca2 ca3 ca4 ca5 fa la
    clear cb0 cb1 cb2 cb3 cb4 cb5 fb lb
    clear cr0 cr1 cr2 cr3 cr4 cr5 fr lr
    clear co0 co1 co2 co3 co4 co5 fo lo
    replace Ba := (Ba).next hb
    replace Bb := (Bb).next hb
    replace Br := (Br).next hb
    replace Bo := (Bo).next hb
    replace hB : Below w.heap.size w w4 := by repeat (first | exact hB | (refine Bl_set ?_ (by first | omega | (simp; omega)) _) | apply Bl_alloc | (refine Bl_trans ?_ hb))
    clear hb
    have ca0 : w4.cell? ⟨w.heap.size, 0, none⟩ = some (uv a.b.v) := Ba.cell 0
    have ca1 : w4.cell? ⟨w.heap.size, 1, none⟩ = some (uv a.b.m) := Ba.cell 1
    have ca2 : w4.cell? ⟨w.heap.size, 2, none⟩ = some (uv a.lo) := Ba.cell 2
    have ca3 : w4.cell? ⟨w.heap.size, 3, none⟩ = some (uv a.hi) := Ba.cell 3
    have ca4 : w4.cell? ⟨w.heap.size, 4, none⟩ = some (sv a.sl) := Ba.cell 4
    have ca5 : w4.cell? ⟨w.heap.size, 5, none⟩ = some (sv a.sh) := Ba.cell 5
    have fa := Ba.frozen
    have la := Ba.lt
    have cb0 : w4.cell? ⟨w.heap.size + 1, 0, none⟩ = some (uv b.b.v) := Bb.cell 0
    have cb1 : w4.cell? ⟨w.heap.size + 1, 1, none⟩ = some (uv b.b.m) := Bb.cell 1
    have cb2 : w4.cell? ⟨w.heap.size + 1, 2, none⟩ = some (uv b.lo) := Bb.cell 2
    have cb3 : w4.cell? ⟨w.heap.size + 1, 3, none⟩ = some (uv b.hi) := Bb.cell 3
    have cb4 : w4.cell? ⟨w.heap.size + 1, 4, none⟩ = some (sv b.sl) := Bb.cell 4
    have cb5 : w4.cell? ⟨w.heap.size + 1, 5, none⟩ = some (sv b.sh) := Bb.cell 5
    have fb := Bb.frozen
    have lb := Bb.lt
    have cr0 : w4.cell? ⟨w.heap.size + 1 + 1, 0, none⟩ = some (.int .u64 0) := Br.cell 0
    have cr1 : w4.cell? ⟨w.heap.size + 1 + 1, 1, none⟩ = some (.int .u64 0) := Br.cell 1
    have cr2 : w4.cell? ⟨w.heap.size + 1 + 1, 2, none⟩ = some (.int .u64 0) := Br.cell 2
    have cr3 : w4.cell? ⟨w.heap.size + 1 + 1, 3, none⟩ = some (.int .u64 0) := Br.cell 3
    have cr4 : w4.cell? ⟨w.heap.size + 1 + 1, 4, none⟩ = some (.int .i64 0) := Br.cell 4
    have cr5 : w4.cell? ⟨w.heap.size + 1 + 1, 5, none⟩ = some (.int .i64 0) := Br.cell 5
    have fr := Br.frozen
    have lr := Br.lt
    have co0 : w4.cell? ⟨go, 0, none⟩ = some (uv PlainScalar.any.b.v) := Bo.cell 0
    have co1 : w4.cell? ⟨go, 1, none⟩ = some (uv PlainScalar.any.b.m) := Bo.cell 1
    have co2 : w4.cell? ⟨go, 2, none⟩ = some (uv PlainScalar.any.lo) := Bo.cell 2
    have co3 : w4.cell? ⟨go, 3, none⟩ = some (uv PlainScalar.any.hi) := Bo.cell 3
    have co4 : w4.cell? ⟨go, 4, none⟩ = some (sv PlainScalar.any.sl) := Bo.cell 4
    have co5 : w4.cell? ⟨go, 5, none⟩ = some (sv PlainScalar.any.sh) := Bo.cell 5
    have fo := Bo.frozen
    have lo := Bo.lt
    go_upto_region 3 with fail
    clear ca0 ca1 ca2 ca3 ca4 ca5 fa la
    clear cb0 cb1 cb2 cb3 cb4 cb5 fb lb
    clear cr0 cr1 cr2 cr3 cr4 cr5 fr lr
    clear co0 co1 co2 co3 co4 co5 fo lo
    replace Ba : Blk (w4.setCell ⟨go, 0, none⟩ (uv (PlainTnum.add a.b b.b).v)) (w.heap.size) 39 #[uv a.b.v, uv a.b.m, uv a.lo, uv a.hi, sv a.sl, sv a.sh] := (Ba.far (by first | (simp; done) | (simp; omega) | (simp [*]; done) | (simp only [ne_eq]; constructor <;> omega)) _)
    replace Bb : Blk (w4.setCell ⟨go, 0, none⟩ (uv (PlainTnum.add a.b b.b).v)) (w.heap.size + 1) 39 #[uv b.b.v, uv b.b.m, uv b.lo, uv b.hi, sv b.sl, sv b.sh] := (Bb.far (by first | (simp; done) | (simp; omega) | (simp [*]; done) | (simp only [ne_eq]; constructor <;> omega)) _)
    replace Br : Blk (w4.setCell ⟨go, 0, none⟩ (uv (PlainTnum.add a.b b.b).v)) (w.heap.size + 1 + 1) 39 #[.int .u64 0, .int .u64 0, .int .u64 0, .int .u64 0, .int .i64 0, .int .i64 0] := (Br.far (by first | (simp; done) | (simp; omega) | (simp [*]; done) | (simp only [ne_eq]; constructor <;> omega)) _)
    replace Bo : Blk (w4.setCell ⟨go, 0, none⟩ (uv (PlainTnum.add a.b b.b).v)) (go) 39 #[uv (PlainTnum.add a.b b.b).v, uv PlainScalar.any.b.m, uv PlainScalar.any.lo, uv PlainScalar.any.hi, sv PlainScalar.any.sl, sv PlainScalar.any.sh] := Bo.set_ 0 _
    replace hB : Below w.heap.size w (w4.setCell ⟨go, 0, none⟩ (uv (PlainTnum.add a.b b.b).v)) := (Bl_set hB (by first | omega | (simp; done) | (simp; omega)) _)
    replace Ba : Blk ((w4.setCell ⟨go, 0, none⟩ (uv (PlainTnum.add a.b b.b).v)).setCell ⟨go, 1, none⟩ (uv (PlainTnum.add a.b b.b).m)) (w.heap.size) 39 #[uv a.b.v, uv a.b.m, uv a.lo, uv a.hi, sv a.sl, sv a.sh] := (Ba.far (by first | (simp; done) | (simp; omega) | (simp [*]; done) | (simp only [ne_eq]; constructor <;> omega)) _)
    replace Bb : Blk ((w4.setCell ⟨go, 0, none⟩ (uv (PlainTnum.add a.b b.b).v)).setCell ⟨go, 1, none⟩ (uv (PlainTnum.add a.b b.b).m)) (w.heap.size + 1) 39 #[uv b.b.v, uv b.b.m, uv b.lo, uv b.hi, sv b.sl, sv b.sh] := (Bb.far (by first | (simp; done) | (simp; omega) | (simp [*]; done) | (simp only [ne_eq]; constructor <;> omega)) _)
    replace Br : Blk ((w4.setCell ⟨go, 0, none⟩ (uv (PlainTnum.add a.b b.b).v)).setCell ⟨go, 1, none⟩ (uv (PlainTnum.add a.b b.b).m)) (w.heap.size + 1 + 1) 39 #[.int .u64 0, .int .u64 0, .int .u64 0, .int .u64 0, .int .i64 0, .int .i64 0] := (Br.far (by first | (simp; done) | (simp; omega) | (simp [*]; done) | (simp only [ne_eq]; constructor <;> omega)) _)
    replace Bo : Blk ((w4.setCell ⟨go, 0, none⟩ (uv (PlainTnum.add a.b b.b).v)).setCell ⟨go, 1, none⟩ (uv (PlainTnum.add a.b b.b).m)) (go) 39 #[uv (PlainTnum.add a.b b.b).v, uv (PlainTnum.add a.b b.b).m, uv PlainScalar.any.lo, uv PlainScalar.any.hi, sv PlainScalar.any.sl, sv PlainScalar.any.sh] := Bo.set_ 1 _
    replace hB : Below w.heap.size w ((w4.setCell ⟨go, 0, none⟩ (uv (PlainTnum.add a.b b.b).v)).setCell ⟨go, 1, none⟩ (uv (PlainTnum.add a.b b.b).m)) := (Bl_set hB (by first | omega | (simp; done) | (simp; omega)) _)
    generalize ((w4.setCell ⟨go, 0, none⟩ (uv (PlainTnum.add a.b b.b).v)).setCell ⟨go, 1, none⟩ (uv (PlainTnum.add a.b b.b).m)) = w5 at *
    have ca0 : w5.cell? ⟨w.heap.size, 0, none⟩ = some (uv a.b.v) := Ba.cell 0
    have ca1 : w5.cell? ⟨w.heap.size, 1, none⟩ = some (uv a.b.m) := Ba.cell 1
    have ca2 : w5.cell? ⟨w.heap.size, 2, none⟩ = some (uv a.lo) := Ba.cell 2
    have ca3 : w5.cell? ⟨w.heap.size, 3, none⟩ = some (uv a.hi) := Ba.cell 3
    have ca4 : w5.cell? ⟨w.heap.size, 4, none⟩ = some (sv a.sl) := Ba.cell 4
    have ca5 : w5.cell? ⟨w.heap.size, 5, none⟩ = some (sv a.sh) := Ba.cell 5
    have fa := Ba.frozen
    have la := Ba.lt
    have cb0 : w5.cell? ⟨w.heap.size + 1, 0, none⟩ = some (uv b.b.v) := Bb.cell 0
    have cb1 : w5.cell? ⟨w.heap.size + 1, 1, none⟩ = some (uv b.b.m) := Bb.cell 1
    have cb2 : w5.cell? ⟨w.heap.size + 1, 2, none⟩ = some (uv b.lo) := Bb.cell 2
    have cb3 : w5.cell? ⟨w.heap.size + 1, 3, none⟩ = some (uv b.hi) := Bb.cell 3
    have cb4 : w5.cell? ⟨w.heap.size + 1, 4, none⟩ = some (sv b.sl) := Bb.cell 4
    have cb5 : w5.cell? ⟨w.heap.size + 1, 5, none⟩ = some (sv b.sh) := Bb.cell 5
    have fb := Bb.frozen
    have lb := Bb.lt
    have cr0 : w5.cell? ⟨w.heap.size + 1 + 1, 0, none⟩ = some (.int .u64 0) := Br.cell 0
    have cr1 : w5.cell? ⟨w.heap.size + 1 + 1, 1, none⟩ = some (.int .u64 0) := Br.cell 1
    have cr2 : w5.cell? ⟨w.heap.size + 1 + 1, 2, none⟩ = some (.int .u64 0) := Br.cell 2
    have cr3 : w5.cell? ⟨w.heap.size + 1 + 1, 3, none⟩ = some (.int .u64 0) := Br.cell 3
    have cr4 : w5.cell? ⟨w.heap.size + 1 + 1, 4, none⟩ = some (.int .i64 0) := Br.cell 4
    have cr5 : w5.cell? ⟨w.heap.size + 1 + 1, 5, none⟩ = some (.int .i64 0) := Br.cell 5
    have fr := Br.frozen
    have lr := Br.lt
    have co0 : w5.cell? ⟨go, 0, none⟩ = some (uv (PlainTnum.add a.b b.b).v) := Bo.cell 0
    have co1 : w5.cell? ⟨go, 1, none⟩ = some (uv (PlainTnum.add a.b b.b).m) := Bo.cell 1
    have co2 : w5.cell? ⟨go, 2, none⟩ = some (uv PlainScalar.any.lo) := Bo.cell 2
    have co3 : w5.cell? ⟨go, 3, none⟩ = some (uv PlainScalar.any.hi) := Bo.cell 3
    have co4 : w5.cell? ⟨go, 4, none⟩ = some (sv PlainScalar.any.sl) := Bo.cell 4
    have co5 : w5.cell? ⟨go, 5, none⟩ = some (sv PlainScalar.any.sh) := Bo.cell 5
    have fo := Bo.frozen
    have lo := Bo.lt
    go_upto_region 6 with (simp only [hc])
    go_wp2_with fail
    refine (settled_c (⟨(PlainTnum.add a.b b.b), PlainScalar.any.lo, PlainScalar.any.hi, PlainScalar.any.sl, PlainScalar.any.sh⟩ : Rng) _).mono ?_
    rintro e w6 ⟨rfl, hb⟩
    clear ca0 ca1 ca2 ca3 ca4 ca5 fa la
    clear cb0 cb1 cb2 cb3 cb4 cb5 fb lb
    clear cr0 cr1 cr2 cr3 cr4 cr5 fr lr
    clear co0 co1 co2 co3 co4 co5 fo lo
    replace Ba := (Ba).next hb
    replace Bb := (Bb).next hb
    replace Br := (Br).next hb
    replace Bo := (Bo).next hb
    replace hB : Below w.heap.size w w6 := by repeat (first | exact hB | (refine Bl_set ?_ (by first | omega | (simp; omega)) _) | apply Bl_alloc | (refine Bl_trans ?_ hb))
    clear hb
    have ca0 : w6.cell? ⟨w.heap.size, 0, none⟩ = some (uv a.b.v) := Ba.cell 0
    have ca1 : w6.cell? ⟨w.heap.size, 1, none⟩ = some (uv a.b.m) := Ba.cell 1
    have ca2 : w6.cell? ⟨w.heap.size, 2, none⟩ = some (uv a.lo) := Ba.cell 2
    have ca3 : w6.cell? ⟨w.heap.size, 3, none⟩ = some (uv a.hi) := Ba.cell 3
    have ca4 : w6.cell? ⟨w.heap.size, 4, none⟩ = some (sv a.sl) := Ba.cell 4
    have ca5 : w6.cell? ⟨w.heap.size, 5, none⟩ = some (sv a.sh) := Ba.cell 5
    have fa := Ba.frozen
    have la := Ba.lt
    have cb0 : w6.cell? ⟨w.heap.size + 1, 0, none⟩ = some (uv b.b.v) := Bb.cell 0
    have cb1 : w6.cell? ⟨w.heap.size + 1, 1, none⟩ = some (uv b.b.m) := Bb.cell 1
    have cb2 : w6.cell? ⟨w.heap.size + 1, 2, none⟩ = some (uv b.lo) := Bb.cell 2
    have cb3 : w6.cell? ⟨w.heap.size + 1, 3, none⟩ = some (uv b.hi) := Bb.cell 3
    have cb4 : w6.cell? ⟨w.heap.size + 1, 4, none⟩ = some (sv b.sl) := Bb.cell 4
    have cb5 : w6.cell? ⟨w.heap.size + 1, 5, none⟩ = some (sv b.sh) := Bb.cell 5
    have fb := Bb.frozen
    have lb := Bb.lt
    have cr0 : w6.cell? ⟨w.heap.size + 1 + 1, 0, none⟩ = some (.int .u64 0) := Br.cell 0
    have cr1 : w6.cell? ⟨w.heap.size + 1 + 1, 1, none⟩ = some (.int .u64 0) := Br.cell 1
    have cr2 : w6.cell? ⟨w.heap.size + 1 + 1, 2, none⟩ = some (.int .u64 0) := Br.cell 2
    have cr3 : w6.cell? ⟨w.heap.size + 1 + 1, 3, none⟩ = some (.int .u64 0) := Br.cell 3
    have cr4 : w6.cell? ⟨w.heap.size + 1 + 1, 4, none⟩ = some (.int .i64 0) := Br.cell 4
    have cr5 : w6.cell? ⟨w.heap.size + 1 + 1, 5, none⟩ = some (.int .i64 0) := Br.cell 5
    have fr := Br.frozen
    have lr := Br.lt
    have co0 : w6.cell? ⟨go, 0, none⟩ = some (uv (PlainTnum.add a.b b.b).v) := Bo.cell 0
    have co1 : w6.cell? ⟨go, 1, none⟩ = some (uv (PlainTnum.add a.b b.b).m) := Bo.cell 1
    have co2 : w6.cell? ⟨go, 2, none⟩ = some (uv PlainScalar.any.lo) := Bo.cell 2
    have co3 : w6.cell? ⟨go, 3, none⟩ = some (uv PlainScalar.any.hi) := Bo.cell 3
    have co4 : w6.cell? ⟨go, 4, none⟩ = some (sv PlainScalar.any.sl) := Bo.cell 4
    have co5 : w6.cell? ⟨go, 5, none⟩ = some (sv PlainScalar.any.sh) := Bo.cell 5
    have fo := Bo.frozen
    have lo := Bo.lt
    go_wp2
    exact bodyPost_ret (v := rv (PlainScalar.settled ⟨(PlainTnum.add a.b b.b), PlainScalar.any.lo, PlainScalar.any.hi, PlainScalar.any.sl, PlainScalar.any.sh⟩)) (by simp [results, Try.results41, go_sem, cr0, cr1, cr2, cr3, cr4, cr5, lr]) rfl ⟨by rw [hs], by repeat (first | (with_reducible exact hB) | (with_reducible refine Bl_set ?_ (by first | omega | (simp; done) | (simp; omega)) _) | with_reducible apply Bl_alloc)⟩
  · have hs : PlainScalar.sum a b = PlainScalar.settled ⟨(PlainTnum.add a.b b.b), (a.lo + b.lo), (a.hi + b.hi), PlainScalar.any.sl, PlainScalar.any.sh⟩ := by unfold PlainScalar.sum; rw [if_pos (show _ from of_decide_eq_true q)]
    have hc := @add64_run a.hi b.hi
    have hq : (a.hi.toNat + b.hi.toNat) / 18446744073709551616 = 0 := by have := of_decide_eq_true q; have := a.hi.isLt; have := b.hi.isLt; omega
    simp only [hq] at hc
    go_enter Try.func41, Try.ntmps41
    go_wp2_with fail
    obtain ⟨ga, hga⟩ : ∃ g, g = w.heap.size := ⟨_, rfl⟩
    obtain ⟨gb, hgb⟩ : ∃ g, g = w.heap.size + 1 := ⟨_, rfl⟩
    obtain ⟨gr, hgr⟩ : ∃ g, g = w.heap.size + 1 + 1 := ⟨_, rfl⟩
    have Ba : Blk (((w.alloc (.cells #[uv a.b.v, uv a.b.m, uv a.lo, uv a.hi, sv a.sl, sv a.sh] 39)).alloc (.cells #[uv b.b.v, uv b.b.m, uv b.lo, uv b.hi, sv b.sl, sv b.sh] 39)).alloc (.cells #[.int .u64 0, .int .u64 0, .int .u64 0, .int .u64 0, .int .i64 0, .int .i64 0] 39)) (w.heap.size) 39 #[uv a.b.v, uv a.b.m, uv a.lo, uv a.hi, sv a.sl, sv a.sh] := (((Blk.new w 39 #[uv a.b.v, uv a.b.m, uv a.lo, uv a.hi, sv a.sl, sv a.sh])).alloc _).alloc _
    have Bb : Blk (((w.alloc (.cells #[uv a.b.v, uv a.b.m, uv a.lo, uv a.hi, sv a.sl, sv a.sh] 39)).alloc (.cells #[uv b.b.v, uv b.b.m, uv b.lo, uv b.hi, sv b.sl, sv b.sh] 39)).alloc (.cells #[.int .u64 0, .int .u64 0, .int .u64 0, .int .u64 0, .int .i64 0, .int .i64 0] 39)) (w.heap.size + 1) 39 #[uv b.b.v, uv b.b.m, uv b.lo, uv b.hi, sv b.sl, sv b.sh] := ((by simpa using Blk.new (w.alloc (.cells #[uv a.b.v, uv a.b.m, uv a.lo, uv a.hi, sv a.sl, sv a.sh] 39)) 39 #[uv b.b.v, uv b.b.m, uv b.lo, uv b.hi, sv b.sl, sv b.sh] : Blk _ (w.heap.size + 1) 39 #[uv b.b.v, uv b.b.m, uv b.lo, uv b.hi, sv b.sl, sv b.sh])).alloc _
    have Br : Blk (((w.alloc (.cells #[uv a.b.v, uv a.b.m, uv a.lo, uv a.hi, sv a.sl, sv a.sh] 39)).alloc (.cells #[uv b.b.v, uv b.b.m, uv b.lo, uv b.hi, sv b.sl, sv b.sh] 39)).alloc (.cells #[.int .u64 0, .int .u64 0, .int .u64 0, .int .u64 0, .int .i64 0, .int .i64 0] 39)) (w.heap.size + 1 + 1) 39 #[.int .u64 0, .int .u64 0, .int .u64 0, .int .u64 0, .int .i64 0, .int .i64 0] := (by simpa using Blk.new ((w.alloc (.cells #[uv a.b.v, uv a.b.m, uv a.lo, uv a.hi, sv a.sl, sv a.sh] 39)).alloc (.cells #[uv b.b.v, uv b.b.m, uv b.lo, uv b.hi, sv b.sl, sv b.sh] 39)) 39 #[.int .u64 0, .int .u64 0, .int .u64 0, .int .u64 0, .int .i64 0, .int .i64 0] : Blk _ (w.heap.size + 1 + 1) 39 #[.int .u64 0, .int .u64 0, .int .u64 0, .int .u64 0, .int .i64 0, .int .i64 0])
    have hB : Below w.heap.size w (((w.alloc (.cells #[uv a.b.v, uv a.b.m, uv a.lo, uv a.hi, sv a.sl, sv a.sh] 39)).alloc (.cells #[uv b.b.v, uv b.b.m, uv b.lo, uv b.hi, sv b.sl, sv b.sh] 39)).alloc (.cells #[.int .u64 0, .int .u64 0, .int .u64 0, .int .u64 0, .int .i64 0, .int .i64 0] 39)) := (Bl_alloc (Bl_alloc (Bl_alloc (Bl_refl w) _) _) _)
    clear hga
    clear ga
    clear hgb
    clear gb
    clear hgr
    clear gr
    generalize (((w.alloc (.cells #[uv a.b.v, uv a.b.m, uv a.lo, uv a.hi, sv a.sl, sv a.sh] 39)).alloc (.cells #[uv b.b.v, uv b.b.m, uv b.lo, uv b.hi, sv b.sl, sv b.sh] 39)).alloc (.cells #[.int .u64 0, .int .u64 0, .int .u64 0, .int .u64 0, .int .i64 0, .int .i64 0] 39)) = w1 at *
    have ca0 : w1.cell? ⟨w.heap.size, 0, none⟩ = some (uv a.b.v) := Ba.cell 0
    have ca1 : w1.cell? ⟨w.heap.size, 1, none⟩ = some (uv a.b.m) := Ba.cell 1
    have ca2 : w1.cell? ⟨w.heap.size, 2, none⟩ = some (uv a.lo) := Ba.cell 2
    have ca3 : w1.cell? ⟨w.heap.size, 3, none⟩ = some (uv a.hi) := Ba.cell 3
    have ca4 : w1.cell? ⟨w.heap.size, 4, none⟩ = some (sv a.sl) := Ba.cell 4
    have ca5 : w1.cell? ⟨w.heap.size, 5, none⟩ = some (sv a.sh) := Ba.cell 5
    have fa := Ba.frozen
    have la := Ba.lt
    have cb0 : w1.cell? ⟨w.heap.size + 1, 0, none⟩ = some (uv b.b.v) := Bb.cell 0
    have cb1 : w1.cell? ⟨w.heap.size + 1, 1, none⟩ = some (uv b.b.m) := Bb.cell 1
    have cb2 : w1.cell? ⟨w.heap.size + 1, 2, none⟩ = some (uv b.lo) := Bb.cell 2
    have cb3 : w1.cell? ⟨w.heap.size + 1, 3, none⟩ = some (uv b.hi) := Bb.cell 3
    have cb4 : w1.cell? ⟨w.heap.size + 1, 4, none⟩ = some (sv b.sl) := Bb.cell 4
    have cb5 : w1.cell? ⟨w.heap.size + 1, 5, none⟩ = some (sv b.sh) := Bb.cell 5
    have fb := Bb.frozen
    have lb := Bb.lt
    have cr0 : w1.cell? ⟨w.heap.size + 1 + 1, 0, none⟩ = some (.int .u64 0) := Br.cell 0
    have cr1 : w1.cell? ⟨w.heap.size + 1 + 1, 1, none⟩ = some (.int .u64 0) := Br.cell 1
    have cr2 : w1.cell? ⟨w.heap.size + 1 + 1, 2, none⟩ = some (.int .u64 0) := Br.cell 2
    have cr3 : w1.cell? ⟨w.heap.size + 1 + 1, 3, none⟩ = some (.int .u64 0) := Br.cell 3
    have cr4 : w1.cell? ⟨w.heap.size + 1 + 1, 4, none⟩ = some (.int .i64 0) := Br.cell 4
    have cr5 : w1.cell? ⟨w.heap.size + 1 + 1, 5, none⟩ = some (.int .i64 0) := Br.cell 5
    have fr := Br.frozen
    have lr := Br.lt
    go_wp2_with fail
    refine (sany_c _).mono ?_
    rintro e w2 ⟨rfl, hb⟩
    clear ca0 ca1 ca2 ca3 ca4 ca5 fa la
    clear cb0 cb1 cb2 cb3 cb4 cb5 fb lb
    clear cr0 cr1 cr2 cr3 cr4 cr5 fr lr
    replace Ba := (Ba).next hb
    replace Bb := (Bb).next hb
    replace Br := (Br).next hb
    replace hB : Below w.heap.size w w2 := by repeat (first | exact hB | (refine Bl_set ?_ (by first | omega | (simp; omega)) _) | apply Bl_alloc | (refine Bl_trans ?_ hb))
    clear hb
    have ca0 : w2.cell? ⟨w.heap.size, 0, none⟩ = some (uv a.b.v) := Ba.cell 0
    have ca1 : w2.cell? ⟨w.heap.size, 1, none⟩ = some (uv a.b.m) := Ba.cell 1
    have ca2 : w2.cell? ⟨w.heap.size, 2, none⟩ = some (uv a.lo) := Ba.cell 2
    have ca3 : w2.cell? ⟨w.heap.size, 3, none⟩ = some (uv a.hi) := Ba.cell 3
    have ca4 : w2.cell? ⟨w.heap.size, 4, none⟩ = some (sv a.sl) := Ba.cell 4
    have ca5 : w2.cell? ⟨w.heap.size, 5, none⟩ = some (sv a.sh) := Ba.cell 5
    have fa := Ba.frozen
    have la := Ba.lt
    have cb0 : w2.cell? ⟨w.heap.size + 1, 0, none⟩ = some (uv b.b.v) := Bb.cell 0
    have cb1 : w2.cell? ⟨w.heap.size + 1, 1, none⟩ = some (uv b.b.m) := Bb.cell 1
    have cb2 : w2.cell? ⟨w.heap.size + 1, 2, none⟩ = some (uv b.lo) := Bb.cell 2
    have cb3 : w2.cell? ⟨w.heap.size + 1, 3, none⟩ = some (uv b.hi) := Bb.cell 3
    have cb4 : w2.cell? ⟨w.heap.size + 1, 4, none⟩ = some (sv b.sl) := Bb.cell 4
    have cb5 : w2.cell? ⟨w.heap.size + 1, 5, none⟩ = some (sv b.sh) := Bb.cell 5
    have fb := Bb.frozen
    have lb := Bb.lt
    have cr0 : w2.cell? ⟨w.heap.size + 1 + 1, 0, none⟩ = some (.int .u64 0) := Br.cell 0
    have cr1 : w2.cell? ⟨w.heap.size + 1 + 1, 1, none⟩ = some (.int .u64 0) := Br.cell 1
    have cr2 : w2.cell? ⟨w.heap.size + 1 + 1, 2, none⟩ = some (.int .u64 0) := Br.cell 2
    have cr3 : w2.cell? ⟨w.heap.size + 1 + 1, 3, none⟩ = some (.int .u64 0) := Br.cell 3
    have cr4 : w2.cell? ⟨w.heap.size + 1 + 1, 4, none⟩ = some (.int .i64 0) := Br.cell 4
    have cr5 : w2.cell? ⟨w.heap.size + 1 + 1, 5, none⟩ = some (.int .i64 0) := Br.cell 5
    have fr := Br.frozen
    have lr := Br.lt
    go_upto_region 2 with fail
    clear ca0 ca1 ca2 ca3 ca4 ca5 fa la
    clear cb0 cb1 cb2 cb3 cb4 cb5 fb lb
    clear cr0 cr1 cr2 cr3 cr4 cr5 fr lr
    have Bo := Blk.new w2 39 #[uv PlainScalar.any.b.v, uv PlainScalar.any.b.m, uv PlainScalar.any.lo, uv PlainScalar.any.hi, sv PlainScalar.any.sl, sv PlainScalar.any.sh]
    have hgo := hB.size
    have hnao := Nat.ne_of_lt Ba.lt; have hltao := Ba.lt
    have hnbo := Nat.ne_of_lt Bb.lt; have hltbo := Bb.lt
    have hnro := Nat.ne_of_lt Br.lt; have hltro := Br.lt
    replace Ba : Blk (w2.alloc (.cells #[uv PlainScalar.any.b.v, uv PlainScalar.any.b.m, uv PlainScalar.any.lo, uv PlainScalar.any.hi, sv PlainScalar.any.sl, sv PlainScalar.any.sh] 39)) (w.heap.size) 39 #[uv a.b.v, uv a.b.m, uv a.lo, uv a.hi, sv a.sl, sv a.sh] := Ba.alloc _
    replace Bb : Blk (w2.alloc (.cells #[uv PlainScalar.any.b.v, uv PlainScalar.any.b.m, uv PlainScalar.any.lo, uv PlainScalar.any.hi, sv PlainScalar.any.sl, sv PlainScalar.any.sh] 39)) (w.heap.size + 1) 39 #[uv b.b.v, uv b.b.m, uv b.lo, uv b.hi, sv b.sl, sv b.sh] := Bb.alloc _
    replace Br : Blk (w2.alloc (.cells #[uv PlainScalar.any.b.v, uv PlainScalar.any.b.m, uv PlainScalar.any.lo, uv PlainScalar.any.hi, sv PlainScalar.any.sl, sv PlainScalar.any.sh] 39)) (w.heap.size + 1 + 1) 39 #[.int .u64 0, .int .u64 0, .int .u64 0, .int .u64 0, .int .i64 0, .int .i64 0] := Br.alloc _
    replace hB : Below w.heap.size w (w2.alloc (.cells #[uv PlainScalar.any.b.v, uv PlainScalar.any.b.m, uv PlainScalar.any.lo, uv PlainScalar.any.hi, sv PlainScalar.any.sl, sv PlainScalar.any.sh] 39)) := Bl_alloc hB _
    generalize (w2.alloc (.cells #[uv PlainScalar.any.b.v, uv PlainScalar.any.b.m, uv PlainScalar.any.lo, uv PlainScalar.any.hi, sv PlainScalar.any.sl, sv PlainScalar.any.sh] 39)) = w3 at *
    generalize w2.heap.size = go at *
    have ca0 : w3.cell? ⟨w.heap.size, 0, none⟩ = some (uv a.b.v) := Ba.cell 0
    have ca1 : w3.cell? ⟨w.heap.size, 1, none⟩ = some (uv a.b.m) := Ba.cell 1
    have ca2 : w3.cell? ⟨w.heap.size, 2, none⟩ = some (uv a.lo) := Ba.cell 2
    have ca3 : w3.cell? ⟨w.heap.size, 3, none⟩ = some (uv a.hi) := Ba.cell 3
    have ca4 : w3.cell? ⟨w.heap.size, 4, none⟩ = some (sv a.sl) := Ba.cell 4
    have ca5 : w3.cell? ⟨w.heap.size, 5, none⟩ = some (sv a.sh) := Ba.cell 5
    have fa := Ba.frozen
    have la := Ba.lt
    have cb0 : w3.cell? ⟨w.heap.size + 1, 0, none⟩ = some (uv b.b.v) := Bb.cell 0
    have cb1 : w3.cell? ⟨w.heap.size + 1, 1, none⟩ = some (uv b.b.m) := Bb.cell 1
    have cb2 : w3.cell? ⟨w.heap.size + 1, 2, none⟩ = some (uv b.lo) := Bb.cell 2
    have cb3 : w3.cell? ⟨w.heap.size + 1, 3, none⟩ = some (uv b.hi) := Bb.cell 3
    have cb4 : w3.cell? ⟨w.heap.size + 1, 4, none⟩ = some (sv b.sl) := Bb.cell 4
    have cb5 : w3.cell? ⟨w.heap.size + 1, 5, none⟩ = some (sv b.sh) := Bb.cell 5
    have fb := Bb.frozen
    have lb := Bb.lt
    have cr0 : w3.cell? ⟨w.heap.size + 1 + 1, 0, none⟩ = some (.int .u64 0) := Br.cell 0
    have cr1 : w3.cell? ⟨w.heap.size + 1 + 1, 1, none⟩ = some (.int .u64 0) := Br.cell 1
    have cr2 : w3.cell? ⟨w.heap.size + 1 + 1, 2, none⟩ = some (.int .u64 0) := Br.cell 2
    have cr3 : w3.cell? ⟨w.heap.size + 1 + 1, 3, none⟩ = some (.int .u64 0) := Br.cell 3
    have cr4 : w3.cell? ⟨w.heap.size + 1 + 1, 4, none⟩ = some (.int .i64 0) := Br.cell 4
    have cr5 : w3.cell? ⟨w.heap.size + 1 + 1, 5, none⟩ = some (.int .i64 0) := Br.cell 5
    have fr := Br.frozen
    have lr := Br.lt
    have co0 : w3.cell? ⟨go, 0, none⟩ = some (uv PlainScalar.any.b.v) := Bo.cell 0
    have co1 : w3.cell? ⟨go, 1, none⟩ = some (uv PlainScalar.any.b.m) := Bo.cell 1
    have co2 : w3.cell? ⟨go, 2, none⟩ = some (uv PlainScalar.any.lo) := Bo.cell 2
    have co3 : w3.cell? ⟨go, 3, none⟩ = some (uv PlainScalar.any.hi) := Bo.cell 3
    have co4 : w3.cell? ⟨go, 4, none⟩ = some (sv PlainScalar.any.sl) := Bo.cell 4
    have co5 : w3.cell? ⟨go, 5, none⟩ = some (sv PlainScalar.any.sh) := Bo.cell 5
    have fo := Bo.frozen
    have lo := Bo.lt
    go_wp2_with fail
    refine (add_c _ _ _).mono ?_
    rintro e w4 ⟨rfl, hb⟩
    clear ca0 ca1 ca2 ca3 ca4 ca5 fa la
    clear cb0 cb1 cb2 cb3 cb4 cb5 fb lb
    clear cr0 cr1 cr2 cr3 cr4 cr5 fr lr
    clear co0 co1 co2 co3 co4 co5 fo lo
    replace Ba := (Ba).next hb
    replace Bb := (Bb).next hb
    replace Br := (Br).next hb
    replace Bo := (Bo).next hb
    replace hB : Below w.heap.size w w4 := by repeat (first | exact hB | (refine Bl_set ?_ (by first | omega | (simp; omega)) _) | apply Bl_alloc | (refine Bl_trans ?_ hb))
    clear hb
    have ca0 : w4.cell? ⟨w.heap.size, 0, none⟩ = some (uv a.b.v) := Ba.cell 0
    have ca1 : w4.cell? ⟨w.heap.size, 1, none⟩ = some (uv a.b.m) := Ba.cell 1
    have ca2 : w4.cell? ⟨w.heap.size, 2, none⟩ = some (uv a.lo) := Ba.cell 2
    have ca3 : w4.cell? ⟨w.heap.size, 3, none⟩ = some (uv a.hi) := Ba.cell 3
    have ca4 : w4.cell? ⟨w.heap.size, 4, none⟩ = some (sv a.sl) := Ba.cell 4
    have ca5 : w4.cell? ⟨w.heap.size, 5, none⟩ = some (sv a.sh) := Ba.cell 5
    have fa := Ba.frozen
    have la := Ba.lt
    have cb0 : w4.cell? ⟨w.heap.size + 1, 0, none⟩ = some (uv b.b.v) := Bb.cell 0
    have cb1 : w4.cell? ⟨w.heap.size + 1, 1, none⟩ = some (uv b.b.m) := Bb.cell 1
    have cb2 : w4.cell? ⟨w.heap.size + 1, 2, none⟩ = some (uv b.lo) := Bb.cell 2
    have cb3 : w4.cell? ⟨w.heap.size + 1, 3, none⟩ = some (uv b.hi) := Bb.cell 3
    have cb4 : w4.cell? ⟨w.heap.size + 1, 4, none⟩ = some (sv b.sl) := Bb.cell 4
    have cb5 : w4.cell? ⟨w.heap.size + 1, 5, none⟩ = some (sv b.sh) := Bb.cell 5
    have fb := Bb.frozen
    have lb := Bb.lt
    have cr0 : w4.cell? ⟨w.heap.size + 1 + 1, 0, none⟩ = some (.int .u64 0) := Br.cell 0
    have cr1 : w4.cell? ⟨w.heap.size + 1 + 1, 1, none⟩ = some (.int .u64 0) := Br.cell 1
    have cr2 : w4.cell? ⟨w.heap.size + 1 + 1, 2, none⟩ = some (.int .u64 0) := Br.cell 2
    have cr3 : w4.cell? ⟨w.heap.size + 1 + 1, 3, none⟩ = some (.int .u64 0) := Br.cell 3
    have cr4 : w4.cell? ⟨w.heap.size + 1 + 1, 4, none⟩ = some (.int .i64 0) := Br.cell 4
    have cr5 : w4.cell? ⟨w.heap.size + 1 + 1, 5, none⟩ = some (.int .i64 0) := Br.cell 5
    have fr := Br.frozen
    have lr := Br.lt
    have co0 : w4.cell? ⟨go, 0, none⟩ = some (uv PlainScalar.any.b.v) := Bo.cell 0
    have co1 : w4.cell? ⟨go, 1, none⟩ = some (uv PlainScalar.any.b.m) := Bo.cell 1
    have co2 : w4.cell? ⟨go, 2, none⟩ = some (uv PlainScalar.any.lo) := Bo.cell 2
    have co3 : w4.cell? ⟨go, 3, none⟩ = some (uv PlainScalar.any.hi) := Bo.cell 3
    have co4 : w4.cell? ⟨go, 4, none⟩ = some (sv PlainScalar.any.sl) := Bo.cell 4
    have co5 : w4.cell? ⟨go, 5, none⟩ = some (sv PlainScalar.any.sh) := Bo.cell 5
    have fo := Bo.frozen
    have lo := Bo.lt
    go_upto_region 3 with fail
    clear ca0 ca1 ca2 ca3 ca4 ca5 fa la
    clear cb0 cb1 cb2 cb3 cb4 cb5 fb lb
    clear cr0 cr1 cr2 cr3 cr4 cr5 fr lr
    clear co0 co1 co2 co3 co4 co5 fo lo
    replace Ba : Blk (w4.setCell ⟨go, 0, none⟩ (uv (PlainTnum.add a.b b.b).v)) (w.heap.size) 39 #[uv a.b.v, uv a.b.m, uv a.lo, uv a.hi, sv a.sl, sv a.sh] := (Ba.far (by first | (simp; done) | (simp; omega) | (simp [*]; done) | (simp only [ne_eq]; constructor <;> omega)) _)
    replace Bb : Blk (w4.setCell ⟨go, 0, none⟩ (uv (PlainTnum.add a.b b.b).v)) (w.heap.size + 1) 39 #[uv b.b.v, uv b.b.m, uv b.lo, uv b.hi, sv b.sl, sv b.sh] := (Bb.far (by first | (simp; done) | (simp; omega) | (simp [*]; done) | (simp only [ne_eq]; constructor <;> omega)) _)
    replace Br : Blk (w4.setCell ⟨go, 0, none⟩ (uv (PlainTnum.add a.b b.b).v)) (w.heap.size + 1 + 1) 39 #[.int .u64 0, .int .u64 0, .int .u64 0, .int .u64 0, .int .i64 0, .int .i64 0] := (Br.far (by first | (simp; done) | (simp; omega) | (simp [*]; done) | (simp only [ne_eq]; constructor <;> omega)) _)
    replace Bo : Blk (w4.setCell ⟨go, 0, none⟩ (uv (PlainTnum.add a.b b.b).v)) (go) 39 #[uv (PlainTnum.add a.b b.b).v, uv PlainScalar.any.b.m, uv PlainScalar.any.lo, uv PlainScalar.any.hi, sv PlainScalar.any.sl, sv PlainScalar.any.sh] := Bo.set_ 0 _
    replace hB : Below w.heap.size w (w4.setCell ⟨go, 0, none⟩ (uv (PlainTnum.add a.b b.b).v)) := (Bl_set hB (by first | omega | (simp; done) | (simp; omega)) _)
    replace Ba : Blk ((w4.setCell ⟨go, 0, none⟩ (uv (PlainTnum.add a.b b.b).v)).setCell ⟨go, 1, none⟩ (uv (PlainTnum.add a.b b.b).m)) (w.heap.size) 39 #[uv a.b.v, uv a.b.m, uv a.lo, uv a.hi, sv a.sl, sv a.sh] := (Ba.far (by first | (simp; done) | (simp; omega) | (simp [*]; done) | (simp only [ne_eq]; constructor <;> omega)) _)
    replace Bb : Blk ((w4.setCell ⟨go, 0, none⟩ (uv (PlainTnum.add a.b b.b).v)).setCell ⟨go, 1, none⟩ (uv (PlainTnum.add a.b b.b).m)) (w.heap.size + 1) 39 #[uv b.b.v, uv b.b.m, uv b.lo, uv b.hi, sv b.sl, sv b.sh] := (Bb.far (by first | (simp; done) | (simp; omega) | (simp [*]; done) | (simp only [ne_eq]; constructor <;> omega)) _)
    replace Br : Blk ((w4.setCell ⟨go, 0, none⟩ (uv (PlainTnum.add a.b b.b).v)).setCell ⟨go, 1, none⟩ (uv (PlainTnum.add a.b b.b).m)) (w.heap.size + 1 + 1) 39 #[.int .u64 0, .int .u64 0, .int .u64 0, .int .u64 0, .int .i64 0, .int .i64 0] := (Br.far (by first | (simp; done) | (simp; omega) | (simp [*]; done) | (simp only [ne_eq]; constructor <;> omega)) _)
    replace Bo : Blk ((w4.setCell ⟨go, 0, none⟩ (uv (PlainTnum.add a.b b.b).v)).setCell ⟨go, 1, none⟩ (uv (PlainTnum.add a.b b.b).m)) (go) 39 #[uv (PlainTnum.add a.b b.b).v, uv (PlainTnum.add a.b b.b).m, uv PlainScalar.any.lo, uv PlainScalar.any.hi, sv PlainScalar.any.sl, sv PlainScalar.any.sh] := Bo.set_ 1 _
    replace hB : Below w.heap.size w ((w4.setCell ⟨go, 0, none⟩ (uv (PlainTnum.add a.b b.b).v)).setCell ⟨go, 1, none⟩ (uv (PlainTnum.add a.b b.b).m)) := (Bl_set hB (by first | omega | (simp; done) | (simp; omega)) _)
    generalize ((w4.setCell ⟨go, 0, none⟩ (uv (PlainTnum.add a.b b.b).v)).setCell ⟨go, 1, none⟩ (uv (PlainTnum.add a.b b.b).m)) = w5 at *
    have ca0 : w5.cell? ⟨w.heap.size, 0, none⟩ = some (uv a.b.v) := Ba.cell 0
    have ca1 : w5.cell? ⟨w.heap.size, 1, none⟩ = some (uv a.b.m) := Ba.cell 1
    have ca2 : w5.cell? ⟨w.heap.size, 2, none⟩ = some (uv a.lo) := Ba.cell 2
    have ca3 : w5.cell? ⟨w.heap.size, 3, none⟩ = some (uv a.hi) := Ba.cell 3
    have ca4 : w5.cell? ⟨w.heap.size, 4, none⟩ = some (sv a.sl) := Ba.cell 4
    have ca5 : w5.cell? ⟨w.heap.size, 5, none⟩ = some (sv a.sh) := Ba.cell 5
    have fa := Ba.frozen
    have la := Ba.lt
    have cb0 : w5.cell? ⟨w.heap.size + 1, 0, none⟩ = some (uv b.b.v) := Bb.cell 0
    have cb1 : w5.cell? ⟨w.heap.size + 1, 1, none⟩ = some (uv b.b.m) := Bb.cell 1
    have cb2 : w5.cell? ⟨w.heap.size + 1, 2, none⟩ = some (uv b.lo) := Bb.cell 2
    have cb3 : w5.cell? ⟨w.heap.size + 1, 3, none⟩ = some (uv b.hi) := Bb.cell 3
    have cb4 : w5.cell? ⟨w.heap.size + 1, 4, none⟩ = some (sv b.sl) := Bb.cell 4
    have cb5 : w5.cell? ⟨w.heap.size + 1, 5, none⟩ = some (sv b.sh) := Bb.cell 5
    have fb := Bb.frozen
    have lb := Bb.lt
    have cr0 : w5.cell? ⟨w.heap.size + 1 + 1, 0, none⟩ = some (.int .u64 0) := Br.cell 0
    have cr1 : w5.cell? ⟨w.heap.size + 1 + 1, 1, none⟩ = some (.int .u64 0) := Br.cell 1
    have cr2 : w5.cell? ⟨w.heap.size + 1 + 1, 2, none⟩ = some (.int .u64 0) := Br.cell 2
    have cr3 : w5.cell? ⟨w.heap.size + 1 + 1, 3, none⟩ = some (.int .u64 0) := Br.cell 3
    have cr4 : w5.cell? ⟨w.heap.size + 1 + 1, 4, none⟩ = some (.int .i64 0) := Br.cell 4
    have cr5 : w5.cell? ⟨w.heap.size + 1 + 1, 5, none⟩ = some (.int .i64 0) := Br.cell 5
    have fr := Br.frozen
    have lr := Br.lt
    have co0 : w5.cell? ⟨go, 0, none⟩ = some (uv (PlainTnum.add a.b b.b).v) := Bo.cell 0
    have co1 : w5.cell? ⟨go, 1, none⟩ = some (uv (PlainTnum.add a.b b.b).m) := Bo.cell 1
    have co2 : w5.cell? ⟨go, 2, none⟩ = some (uv PlainScalar.any.lo) := Bo.cell 2
    have co3 : w5.cell? ⟨go, 3, none⟩ = some (uv PlainScalar.any.hi) := Bo.cell 3
    have co4 : w5.cell? ⟨go, 4, none⟩ = some (sv PlainScalar.any.sl) := Bo.cell 4
    have co5 : w5.cell? ⟨go, 5, none⟩ = some (sv PlainScalar.any.sh) := Bo.cell 5
    have fo := Bo.frozen
    have lo := Bo.lt
    go_upto_region 5 with (simp only [hc])
    go_wp2_with fail
    replace ca0 : ∀ g : Later w5, g.w.cell? ⟨w.heap.size, 0, none⟩ = some (uv a.b.v) := fun g => g.cell (Ba.cell 0)
    replace ca1 : ∀ g : Later w5, g.w.cell? ⟨w.heap.size, 1, none⟩ = some (uv a.b.m) := fun g => g.cell (Ba.cell 1)
    replace ca2 : ∀ g : Later w5, g.w.cell? ⟨w.heap.size, 2, none⟩ = some (uv a.lo) := fun g => g.cell (Ba.cell 2)
    replace ca3 : ∀ g : Later w5, g.w.cell? ⟨w.heap.size, 3, none⟩ = some (uv a.hi) := fun g => g.cell (Ba.cell 3)
    replace ca4 : ∀ g : Later w5, g.w.cell? ⟨w.heap.size, 4, none⟩ = some (sv a.sl) := fun g => g.cell (Ba.cell 4)
    replace ca5 : ∀ g : Later w5, g.w.cell? ⟨w.heap.size, 5, none⟩ = some (sv a.sh) := fun g => g.cell (Ba.cell 5)
    replace cb0 : ∀ g : Later w5, g.w.cell? ⟨w.heap.size + 1, 0, none⟩ = some (uv b.b.v) := fun g => g.cell (Bb.cell 0)
    replace cb1 : ∀ g : Later w5, g.w.cell? ⟨w.heap.size + 1, 1, none⟩ = some (uv b.b.m) := fun g => g.cell (Bb.cell 1)
    replace cb2 : ∀ g : Later w5, g.w.cell? ⟨w.heap.size + 1, 2, none⟩ = some (uv b.lo) := fun g => g.cell (Bb.cell 2)
    replace cb3 : ∀ g : Later w5, g.w.cell? ⟨w.heap.size + 1, 3, none⟩ = some (uv b.hi) := fun g => g.cell (Bb.cell 3)
    replace cb4 : ∀ g : Later w5, g.w.cell? ⟨w.heap.size + 1, 4, none⟩ = some (sv b.sl) := fun g => g.cell (Bb.cell 4)
    replace cb5 : ∀ g : Later w5, g.w.cell? ⟨w.heap.size + 1, 5, none⟩ = some (sv b.sh) := fun g => g.cell (Bb.cell 5)
    replace cr0 : ∀ g : Later w5, g.w.cell? ⟨w.heap.size + 1 + 1, 0, none⟩ = some (.int .u64 0) := fun g => g.cell (Br.cell 0)
    replace cr1 : ∀ g : Later w5, g.w.cell? ⟨w.heap.size + 1 + 1, 1, none⟩ = some (.int .u64 0) := fun g => g.cell (Br.cell 1)
    replace cr2 : ∀ g : Later w5, g.w.cell? ⟨w.heap.size + 1 + 1, 2, none⟩ = some (.int .u64 0) := fun g => g.cell (Br.cell 2)
    replace cr3 : ∀ g : Later w5, g.w.cell? ⟨w.heap.size + 1 + 1, 3, none⟩ = some (.int .u64 0) := fun g => g.cell (Br.cell 3)
    replace cr4 : ∀ g : Later w5, g.w.cell? ⟨w.heap.size + 1 + 1, 4, none⟩ = some (.int .i64 0) := fun g => g.cell (Br.cell 4)
    replace cr5 : ∀ g : Later w5, g.w.cell? ⟨w.heap.size + 1 + 1, 5, none⟩ = some (.int .i64 0) := fun g => g.cell (Br.cell 5)
    replace co0 : ∀ g : Later w5, g.w.cell? ⟨go, 0, none⟩ = some (uv (PlainTnum.add a.b b.b).v) := fun g => g.cell (Bo.cell 0)
    replace co1 : ∀ g : Later w5, g.w.cell? ⟨go, 1, none⟩ = some (uv (PlainTnum.add a.b b.b).m) := fun g => g.cell (Bo.cell 1)
    replace co2 : ∀ g : Later w5, g.w.cell? ⟨go, 2, none⟩ = some (uv PlainScalar.any.lo) := fun g => g.cell (Bo.cell 2)
    replace co3 : ∀ g : Later w5, g.w.cell? ⟨go, 3, none⟩ = some (uv PlainScalar.any.hi) := fun g => g.cell (Bo.cell 3)
    replace co4 : ∀ g : Later w5, g.w.cell? ⟨go, 4, none⟩ = some (sv PlainScalar.any.sl) := fun g => g.cell (Bo.cell 4)
    replace co5 : ∀ g : Later w5, g.w.cell? ⟨go, 5, none⟩ = some (sv PlainScalar.any.sh) := fun g => g.cell (Bo.cell 5)
    obtain ⟨S, hS⟩ : ∃ S : World → Prop, ∀ x, S x ↔ (x.cell? ⟨w.heap.size, 3, none⟩ = some (uv a.hi) ∧ x.cell? ⟨w.heap.size + 1, 3, none⟩ = some (uv b.hi)) := ⟨_, fun _ => Iff.rfl⟩
    have u0 : ∀ g : Under S, g.w.cell? ⟨w.heap.size, 3, none⟩ = some (uv a.hi) := fun g => ((hS _).1 g.is).1
    have u1 : ∀ g : Under S, g.w.cell? ⟨w.heap.size + 1, 3, none⟩ = some (uv b.hi) := fun g => ((hS _).1 g.is).2
    refine wp_region_mixS 11 (fun k => k == 5 || k == 6 || k == 7 || k == 8 || k == 9) (fun _ => #[]) S rfl (by kernel_rfl) (by kernel_rfl) (no_alloc (by kernel_rfl)) ?_
    simp only [List.take_succ_cons, List.take_zero, List.drop_succ_cons, List.drop_zero]
    repeat (refine wpMixS_step (fun K hK => ?_); go_simp; first | (refine hK _ ?_; clear hK K))
    refine wpMixS_nil ?_
    intro G w6 hgr hblk hdist
    have hb : Below w5.heap.size w5 w6 := hgr
    replace Ba := Ba.next hb
    replace Bb := Bb.next hb
    replace Br := Br.next hb
    replace Bo := Bo.next hb
    clear ca0 ca1 ca2 ca3 ca4 ca5 fa la
    clear cb0 cb1 cb2 cb3 cb4 cb5 fb lb
    clear cr0 cr1 cr2 cr3 cr4 cr5 fr lr
    clear co0 co1 co2 co3 co4 co5 fo lo
    clear u0 u1
    replace hB : Below w.heap.size w w6 := Bl_trans hB hb
    simp only [putAll, isAlloc]
    clear hb hgr hblk hdist
    have ca0 : w6.cell? ⟨w.heap.size, 0, none⟩ = some (uv a.b.v) := Ba.cell 0
    have ca1 : w6.cell? ⟨w.heap.size, 1, none⟩ = some (uv a.b.m) := Ba.cell 1
    have ca2 : w6.cell? ⟨w.heap.size, 2, none⟩ = some (uv a.lo) := Ba.cell 2
    have ca3 : w6.cell? ⟨w.heap.size, 3, none⟩ = some (uv a.hi) := Ba.cell 3
    have ca4 : w6.cell? ⟨w.heap.size, 4, none⟩ = some (sv a.sl) := Ba.cell 4
    have ca5 : w6.cell? ⟨w.heap.size, 5, none⟩ = some (sv a.sh) := Ba.cell 5
    have fa := Ba.frozen
    have la := Ba.lt
    have cb0 : w6.cell? ⟨w.heap.size + 1, 0, none⟩ = some (uv b.b.v) := Bb.cell 0
    have cb1 : w6.cell? ⟨w.heap.size + 1, 1, none⟩ = some (uv b.b.m) := Bb.cell 1
    have cb2 : w6.cell? ⟨w.heap.size + 1, 2, none⟩ = some (uv b.lo) := Bb.cell 2
    have cb3 : w6.cell? ⟨w.heap.size + 1, 3, none⟩ = some (uv b.hi) := Bb.cell 3
    have cb4 : w6.cell? ⟨w.heap.size + 1, 4, none⟩ = some (sv b.sl) := Bb.cell 4
    have cb5 : w6.cell? ⟨w.heap.size + 1, 5, none⟩ = some (sv b.sh) := Bb.cell 5
    have fb := Bb.frozen
    have lb := Bb.lt
    have cr0 : w6.cell? ⟨w.heap.size + 1 + 1, 0, none⟩ = some (.int .u64 0) := Br.cell 0
    have cr1 : w6.cell? ⟨w.heap.size + 1 + 1, 1, none⟩ = some (.int .u64 0) := Br.cell 1
    have cr2 : w6.cell? ⟨w.heap.size + 1 + 1, 2, none⟩ = some (.int .u64 0) := Br.cell 2
    have cr3 : w6.cell? ⟨w.heap.size + 1 + 1, 3, none⟩ = some (.int .u64 0) := Br.cell 3
    have cr4 : w6.cell? ⟨w.heap.size + 1 + 1, 4, none⟩ = some (.int .i64 0) := Br.cell 4
    have cr5 : w6.cell? ⟨w.heap.size + 1 + 1, 5, none⟩ = some (.int .i64 0) := Br.cell 5
    have fr := Br.frozen
    have lr := Br.lt
    have co0 : w6.cell? ⟨go, 0, none⟩ = some (uv (PlainTnum.add a.b b.b).v) := Bo.cell 0
    have co1 : w6.cell? ⟨go, 1, none⟩ = some (uv (PlainTnum.add a.b b.b).m) := Bo.cell 1
    have co2 : w6.cell? ⟨go, 2, none⟩ = some (uv PlainScalar.any.lo) := Bo.cell 2
    have co3 : w6.cell? ⟨go, 3, none⟩ = some (uv PlainScalar.any.hi) := Bo.cell 3
    have co4 : w6.cell? ⟨go, 4, none⟩ = some (sv PlainScalar.any.sl) := Bo.cell 4
    have co5 : w6.cell? ⟨go, 5, none⟩ = some (sv PlainScalar.any.sh) := Bo.cell 5
    have fo := Bo.frozen
    have lo := Bo.lt
    go_wp2_with fail
    refine ⟨by first | trivial | rfl, ?_, ?_⟩
    · refine (hS _).2 ?_; exact ⟨(Ba.far (by first | (simp; done) | (simp; omega) | (simp [*]; done) | (simp only [ne_eq]; constructor <;> omega)) _).cell 3, (Bb.far (by first | (simp; done) | (simp; omega) | (simp [*]; done) | (simp only [ne_eq]; constructor <;> omega)) _).cell 3⟩
    clear hS S
    clear ca0 ca1 ca2 ca3 ca4 ca5 fa la
    clear cb0 cb1 cb2 cb3 cb4 cb5 fb lb
    clear cr0 cr1 cr2 cr3 cr4 cr5 fr lr
    clear co0 co1 co2 co3 co4 co5 fo lo
    replace Ba : Blk (w6.setCell ⟨go, 2, none⟩ (uv (a.lo + b.lo))) (w.heap.size) 39 #[uv a.b.v, uv a.b.m, uv a.lo, uv a.hi, sv a.sl, sv a.sh] := (Ba.far (by first | (simp; done) | (simp; omega) | (simp [*]; done) | (simp only [ne_eq]; constructor <;> omega)) _)
    replace Bb : Blk (w6.setCell ⟨go, 2, none⟩ (uv (a.lo + b.lo))) (w.heap.size + 1) 39 #[uv b.b.v, uv b.b.m, uv b.lo, uv b.hi, sv b.sl, sv b.sh] := (Bb.far (by first | (simp; done) | (simp; omega) | (simp [*]; done) | (simp only [ne_eq]; constructor <;> omega)) _)
    replace Br : Blk (w6.setCell ⟨go, 2, none⟩ (uv (a.lo + b.lo))) (w.heap.size + 1 + 1) 39 #[.int .u64 0, .int .u64 0, .int .u64 0, .int .u64 0, .int .i64 0, .int .i64 0] := (Br.far (by first | (simp; done) | (simp; omega) | (simp [*]; done) | (simp only [ne_eq]; constructor <;> omega)) _)
    replace Bo : Blk (w6.setCell ⟨go, 2, none⟩ (uv (a.lo + b.lo))) (go) 39 #[uv (PlainTnum.add a.b b.b).v, uv (PlainTnum.add a.b b.b).m, uv (a.lo + b.lo), uv PlainScalar.any.hi, sv PlainScalar.any.sl, sv PlainScalar.any.sh] := Bo.set_ 2 _
    replace hB : Below w.heap.size w (w6.setCell ⟨go, 2, none⟩ (uv (a.lo + b.lo))) := (Bl_set hB (by first | omega | (simp; done) | (simp; omega)) _)
    generalize (w6.setCell ⟨go, 2, none⟩ (uv (a.lo + b.lo))) = w7 at *
    have ca0 : w7.cell? ⟨w.heap.size, 0, none⟩ = some (uv a.b.v) := Ba.cell 0
    have ca1 : w7.cell? ⟨w.heap.size, 1, none⟩ = some (uv a.b.m) := Ba.cell 1
    have ca2 : w7.cell? ⟨w.heap.size, 2, none⟩ = some (uv a.lo) := Ba.cell 2
    have ca3 : w7.cell? ⟨w.heap.size, 3, none⟩ = some (uv a.hi) := Ba.cell 3
    have ca4 : w7.cell? ⟨w.heap.size, 4, none⟩ = some (sv a.sl) := Ba.cell 4
    have ca5 : w7.cell? ⟨w.heap.size, 5, none⟩ = some (sv a.sh) := Ba.cell 5
    have fa := Ba.frozen
    have la := Ba.lt
    have cb0 : w7.cell? ⟨w.heap.size + 1, 0, none⟩ = some (uv b.b.v) := Bb.cell 0
    have cb1 : w7.cell? ⟨w.heap.size + 1, 1, none⟩ = some (uv b.b.m) := Bb.cell 1
    have cb2 : w7.cell? ⟨w.heap.size + 1, 2, none⟩ = some (uv b.lo) := Bb.cell 2
    have cb3 : w7.cell? ⟨w.heap.size + 1, 3, none⟩ = some (uv b.hi) := Bb.cell 3
    have cb4 : w7.cell? ⟨w.heap.size + 1, 4, none⟩ = some (sv b.sl) := Bb.cell 4
    have cb5 : w7.cell? ⟨w.heap.size + 1, 5, none⟩ = some (sv b.sh) := Bb.cell 5
    have fb := Bb.frozen
    have lb := Bb.lt
    have cr0 : w7.cell? ⟨w.heap.size + 1 + 1, 0, none⟩ = some (.int .u64 0) := Br.cell 0
    have cr1 : w7.cell? ⟨w.heap.size + 1 + 1, 1, none⟩ = some (.int .u64 0) := Br.cell 1
    have cr2 : w7.cell? ⟨w.heap.size + 1 + 1, 2, none⟩ = some (.int .u64 0) := Br.cell 2
    have cr3 : w7.cell? ⟨w.heap.size + 1 + 1, 3, none⟩ = some (.int .u64 0) := Br.cell 3
    have cr4 : w7.cell? ⟨w.heap.size + 1 + 1, 4, none⟩ = some (.int .i64 0) := Br.cell 4
    have cr5 : w7.cell? ⟨w.heap.size + 1 + 1, 5, none⟩ = some (.int .i64 0) := Br.cell 5
    have fr := Br.frozen
    have lr := Br.lt
    have co0 : w7.cell? ⟨go, 0, none⟩ = some (uv (PlainTnum.add a.b b.b).v) := Bo.cell 0
    have co1 : w7.cell? ⟨go, 1, none⟩ = some (uv (PlainTnum.add a.b b.b).m) := Bo.cell 1
    have co2 : w7.cell? ⟨go, 2, none⟩ = some (uv (a.lo + b.lo)) := Bo.cell 2
    have co3 : w7.cell? ⟨go, 3, none⟩ = some (uv PlainScalar.any.hi) := Bo.cell 3
    have co4 : w7.cell? ⟨go, 4, none⟩ = some (sv PlainScalar.any.sl) := Bo.cell 4
    have co5 : w7.cell? ⟨go, 5, none⟩ = some (sv PlainScalar.any.sh) := Bo.cell 5
    have fo := Bo.frozen
    have lo := Bo.lt
    go_upto_region 6 with fail
    clear ca0 ca1 ca2 ca3 ca4 ca5 fa la
    clear cb0 cb1 cb2 cb3 cb4 cb5 fb lb
    clear cr0 cr1 cr2 cr3 cr4 cr5 fr lr
    clear co0 co1 co2 co3 co4 co5 fo lo
    replace Ba : Blk (w7.setCell ⟨go, 3, none⟩ (uv (a.hi + b.hi))) (w.heap.size) 39 #[uv a.b.v, uv a.b.m, uv a.lo, uv a.hi, sv a.sl, sv a.sh] := (Ba.far (by first | (simp; done) | (simp; omega) | (simp [*]; done) | (simp only [ne_eq]; constructor <;> omega)) _)
    replace Bb : Blk (w7.setCell ⟨go, 3, none⟩ (uv (a.hi + b.hi))) (w.heap.size + 1) 39 #[uv b.b.v, uv b.b.m, uv b.lo, uv b.hi, sv b.sl, sv b.sh] := (Bb.far (by first | (simp; done) | (simp; omega) | (simp [*]; done) | (simp only [ne_eq]; constructor <;> omega)) _)
    replace Br : Blk (w7.setCell ⟨go, 3, none⟩ (uv (a.hi + b.hi))) (w.heap.size + 1 + 1) 39 #[.int .u64 0, .int .u64 0, .int .u64 0, .int .u64 0, .int .i64 0, .int .i64 0] := (Br.far (by first | (simp; done) | (simp; omega) | (simp [*]; done) | (simp only [ne_eq]; constructor <;> omega)) _)
    replace Bo : Blk (w7.setCell ⟨go, 3, none⟩ (uv (a.hi + b.hi))) (go) 39 #[uv (PlainTnum.add a.b b.b).v, uv (PlainTnum.add a.b b.b).m, uv (a.lo + b.lo), uv (a.hi + b.hi), sv PlainScalar.any.sl, sv PlainScalar.any.sh] := Bo.set_ 3 _
    replace hB : Below w.heap.size w (w7.setCell ⟨go, 3, none⟩ (uv (a.hi + b.hi))) := (Bl_set hB (by first | omega | (simp; done) | (simp; omega)) _)
    generalize (w7.setCell ⟨go, 3, none⟩ (uv (a.hi + b.hi))) = w8 at *
    have ca0 : w8.cell? ⟨w.heap.size, 0, none⟩ = some (uv a.b.v) := Ba.cell 0
    have ca1 : w8.cell? ⟨w.heap.size, 1, none⟩ = some (uv a.b.m) := Ba.cell 1
    have ca2 : w8.cell? ⟨w.heap.size, 2, none⟩ = some (uv a.lo) := Ba.cell 2
    have ca3 : w8.cell? ⟨w.heap.size, 3, none⟩ = some (uv a.hi) := Ba.cell 3
    have ca4 : w8.cell? ⟨w.heap.size, 4, none⟩ = some (sv a.sl) := Ba.cell 4
    have ca5 : w8.cell? ⟨w.heap.size, 5, none⟩ = some (sv a.sh) := Ba.cell 5
    have fa := Ba.frozen
    have la := Ba.lt
    have cb0 : w8.cell? ⟨w.heap.size + 1, 0, none⟩ = some (uv b.b.v) := Bb.cell 0
    have cb1 : w8.cell? ⟨w.heap.size + 1, 1, none⟩ = some (uv b.b.m) := Bb.cell 1
    have cb2 : w8.cell? ⟨w.heap.size + 1, 2, none⟩ = some (uv b.lo) := Bb.cell 2
    have cb3 : w8.cell? ⟨w.heap.size + 1, 3, none⟩ = some (uv b.hi) := Bb.cell 3
    have cb4 : w8.cell? ⟨w.heap.size + 1, 4, none⟩ = some (sv b.sl) := Bb.cell 4
    have cb5 : w8.cell? ⟨w.heap.size + 1, 5, none⟩ = some (sv b.sh) := Bb.cell 5
    have fb := Bb.frozen
    have lb := Bb.lt
    have cr0 : w8.cell? ⟨w.heap.size + 1 + 1, 0, none⟩ = some (.int .u64 0) := Br.cell 0
    have cr1 : w8.cell? ⟨w.heap.size + 1 + 1, 1, none⟩ = some (.int .u64 0) := Br.cell 1
    have cr2 : w8.cell? ⟨w.heap.size + 1 + 1, 2, none⟩ = some (.int .u64 0) := Br.cell 2
    have cr3 : w8.cell? ⟨w.heap.size + 1 + 1, 3, none⟩ = some (.int .u64 0) := Br.cell 3
    have cr4 : w8.cell? ⟨w.heap.size + 1 + 1, 4, none⟩ = some (.int .i64 0) := Br.cell 4
    have cr5 : w8.cell? ⟨w.heap.size + 1 + 1, 5, none⟩ = some (.int .i64 0) := Br.cell 5
    have fr := Br.frozen
    have lr := Br.lt
    have co0 : w8.cell? ⟨go, 0, none⟩ = some (uv (PlainTnum.add a.b b.b).v) := Bo.cell 0
    have co1 : w8.cell? ⟨go, 1, none⟩ = some (uv (PlainTnum.add a.b b.b).m) := Bo.cell 1
    have co2 : w8.cell? ⟨go, 2, none⟩ = some (uv (a.lo + b.lo)) := Bo.cell 2
    have co3 : w8.cell? ⟨go, 3, none⟩ = some (uv (a.hi + b.hi)) := Bo.cell 3
    have co4 : w8.cell? ⟨go, 4, none⟩ = some (sv PlainScalar.any.sl) := Bo.cell 4
    have co5 : w8.cell? ⟨go, 5, none⟩ = some (sv PlainScalar.any.sh) := Bo.cell 5
    have fo := Bo.frozen
    have lo := Bo.lt
    go_wp2_with fail
    refine (settled_c (⟨(PlainTnum.add a.b b.b), (a.lo + b.lo), (a.hi + b.hi), PlainScalar.any.sl, PlainScalar.any.sh⟩ : Rng) _).mono ?_
    rintro e w9 ⟨rfl, hb⟩
    clear ca0 ca1 ca2 ca3 ca4 ca5 fa la
    clear cb0 cb1 cb2 cb3 cb4 cb5 fb lb
    clear cr0 cr1 cr2 cr3 cr4 cr5 fr lr
    clear co0 co1 co2 co3 co4 co5 fo lo
    replace Ba := (Ba).next hb
    replace Bb := (Bb).next hb
    replace Br := (Br).next hb
    replace Bo := (Bo).next hb
    replace hB : Below w.heap.size w w9 := by repeat (first | exact hB | (refine Bl_set ?_ (by first | omega | (simp; omega)) _) | apply Bl_alloc | (refine Bl_trans ?_ hb))
    clear hb
    have ca0 : w9.cell? ⟨w.heap.size, 0, none⟩ = some (uv a.b.v) := Ba.cell 0
    have ca1 : w9.cell? ⟨w.heap.size, 1, none⟩ = some (uv a.b.m) := Ba.cell 1
    have ca2 : w9.cell? ⟨w.heap.size, 2, none⟩ = some (uv a.lo) := Ba.cell 2
    have ca3 : w9.cell? ⟨w.heap.size, 3, none⟩ = some (uv a.hi) := Ba.cell 3
    have ca4 : w9.cell? ⟨w.heap.size, 4, none⟩ = some (sv a.sl) := Ba.cell 4
    have ca5 : w9.cell? ⟨w.heap.size, 5, none⟩ = some (sv a.sh) := Ba.cell 5
    have fa := Ba.frozen
    have la := Ba.lt
    have cb0 : w9.cell? ⟨w.heap.size + 1, 0, none⟩ = some (uv b.b.v) := Bb.cell 0
    have cb1 : w9.cell? ⟨w.heap.size + 1, 1, none⟩ = some (uv b.b.m) := Bb.cell 1
    have cb2 : w9.cell? ⟨w.heap.size + 1, 2, none⟩ = some (uv b.lo) := Bb.cell 2
    have cb3 : w9.cell? ⟨w.heap.size + 1, 3, none⟩ = some (uv b.hi) := Bb.cell 3
    have cb4 : w9.cell? ⟨w.heap.size + 1, 4, none⟩ = some (sv b.sl) := Bb.cell 4
    have cb5 : w9.cell? ⟨w.heap.size + 1, 5, none⟩ = some (sv b.sh) := Bb.cell 5
    have fb := Bb.frozen
    have lb := Bb.lt
    have cr0 : w9.cell? ⟨w.heap.size + 1 + 1, 0, none⟩ = some (.int .u64 0) := Br.cell 0
    have cr1 : w9.cell? ⟨w.heap.size + 1 + 1, 1, none⟩ = some (.int .u64 0) := Br.cell 1
    have cr2 : w9.cell? ⟨w.heap.size + 1 + 1, 2, none⟩ = some (.int .u64 0) := Br.cell 2
    have cr3 : w9.cell? ⟨w.heap.size + 1 + 1, 3, none⟩ = some (.int .u64 0) := Br.cell 3
    have cr4 : w9.cell? ⟨w.heap.size + 1 + 1, 4, none⟩ = some (.int .i64 0) := Br.cell 4
    have cr5 : w9.cell? ⟨w.heap.size + 1 + 1, 5, none⟩ = some (.int .i64 0) := Br.cell 5
    have fr := Br.frozen
    have lr := Br.lt
    have co0 : w9.cell? ⟨go, 0, none⟩ = some (uv (PlainTnum.add a.b b.b).v) := Bo.cell 0
    have co1 : w9.cell? ⟨go, 1, none⟩ = some (uv (PlainTnum.add a.b b.b).m) := Bo.cell 1
    have co2 : w9.cell? ⟨go, 2, none⟩ = some (uv (a.lo + b.lo)) := Bo.cell 2
    have co3 : w9.cell? ⟨go, 3, none⟩ = some (uv (a.hi + b.hi)) := Bo.cell 3
    have co4 : w9.cell? ⟨go, 4, none⟩ = some (sv PlainScalar.any.sl) := Bo.cell 4
    have co5 : w9.cell? ⟨go, 5, none⟩ = some (sv PlainScalar.any.sh) := Bo.cell 5
    have fo := Bo.frozen
    have lo := Bo.lt
    go_wp2
    exact bodyPost_ret (v := rv (PlainScalar.settled ⟨(PlainTnum.add a.b b.b), (a.lo + b.lo), (a.hi + b.hi), PlainScalar.any.sl, PlainScalar.any.sh⟩)) (by simp [results, Try.results41, go_sem, cr0, cr1, cr2, cr3, cr4, cr5, lr]) rfl ⟨by rw [hs], by repeat (first | (with_reducible exact hB) | (with_reducible refine Bl_set ?_ (by first | omega | (simp; done) | (simp; omega)) _) | with_reducible apply Bl_alloc)⟩
set_option maxRecDepth 100000 in
set_option maxHeartbeats 3200000 in
theorem sbit_c (op : Int) (a b : Rng) (w : World) : Calls Try.prog 44 #[.int .i64 op, rv a, rv b] w fun e w' => e = .returned (rv (PlainScalar.bitwise op a b)) ∧ Below w.heap.size w w' := by
  by_cases h5 : op = 5
  · subst h5
    have hs : PlainScalar.bitwise 5 a b = PlainScalar.settled ⟨PlainTnum.and a.b b.b, PlainScalar.any.lo, PlainScalar.minU a.hi b.hi, PlainScalar.any.sl, PlainScalar.any.sh⟩ := by rfl
    go_enter Try.func44, Try.ntmps44
    go_wp2_with fail
    obtain ⟨ga, hga⟩ : ∃ g, g = w.heap.size := ⟨_, rfl⟩
    obtain ⟨gb, hgb⟩ : ∃ g, g = w.heap.size + 1 := ⟨_, rfl⟩
    obtain ⟨gr, hgr⟩ : ∃ g, g = w.heap.size + 1 + 1 := ⟨_, rfl⟩
    have Ba : Blk (((w.alloc (.cells #[uv a.b.v, uv a.b.m, uv a.lo, uv a.hi, sv a.sl, sv a.sh] 39)).alloc (.cells #[uv b.b.v, uv b.b.m, uv b.lo, uv b.hi, sv b.sl, sv b.sh] 39)).alloc (.cells #[.int .u64 0, .int .u64 0, .int .u64 0, .int .u64 0, .int .i64 0, .int .i64 0] 39)) (w.heap.size) 39 #[uv a.b.v, uv a.b.m, uv a.lo, uv a.hi, sv a.sl, sv a.sh] := (((Blk.new w 39 #[uv a.b.v, uv a.b.m, uv a.lo, uv a.hi, sv a.sl, sv a.sh])).alloc _).alloc _
    have Bb : Blk (((w.alloc (.cells #[uv a.b.v, uv a.b.m, uv a.lo, uv a.hi, sv a.sl, sv a.sh] 39)).alloc (.cells #[uv b.b.v, uv b.b.m, uv b.lo, uv b.hi, sv b.sl, sv b.sh] 39)).alloc (.cells #[.int .u64 0, .int .u64 0, .int .u64 0, .int .u64 0, .int .i64 0, .int .i64 0] 39)) (w.heap.size + 1) 39 #[uv b.b.v, uv b.b.m, uv b.lo, uv b.hi, sv b.sl, sv b.sh] := ((by simpa using Blk.new (w.alloc (.cells #[uv a.b.v, uv a.b.m, uv a.lo, uv a.hi, sv a.sl, sv a.sh] 39)) 39 #[uv b.b.v, uv b.b.m, uv b.lo, uv b.hi, sv b.sl, sv b.sh] : Blk _ (w.heap.size + 1) 39 #[uv b.b.v, uv b.b.m, uv b.lo, uv b.hi, sv b.sl, sv b.sh])).alloc _
    have Br : Blk (((w.alloc (.cells #[uv a.b.v, uv a.b.m, uv a.lo, uv a.hi, sv a.sl, sv a.sh] 39)).alloc (.cells #[uv b.b.v, uv b.b.m, uv b.lo, uv b.hi, sv b.sl, sv b.sh] 39)).alloc (.cells #[.int .u64 0, .int .u64 0, .int .u64 0, .int .u64 0, .int .i64 0, .int .i64 0] 39)) (w.heap.size + 1 + 1) 39 #[.int .u64 0, .int .u64 0, .int .u64 0, .int .u64 0, .int .i64 0, .int .i64 0] := (by simpa using Blk.new ((w.alloc (.cells #[uv a.b.v, uv a.b.m, uv a.lo, uv a.hi, sv a.sl, sv a.sh] 39)).alloc (.cells #[uv b.b.v, uv b.b.m, uv b.lo, uv b.hi, sv b.sl, sv b.sh] 39)) 39 #[.int .u64 0, .int .u64 0, .int .u64 0, .int .u64 0, .int .i64 0, .int .i64 0] : Blk _ (w.heap.size + 1 + 1) 39 #[.int .u64 0, .int .u64 0, .int .u64 0, .int .u64 0, .int .i64 0, .int .i64 0])
    have hB : Below w.heap.size w (((w.alloc (.cells #[uv a.b.v, uv a.b.m, uv a.lo, uv a.hi, sv a.sl, sv a.sh] 39)).alloc (.cells #[uv b.b.v, uv b.b.m, uv b.lo, uv b.hi, sv b.sl, sv b.sh] 39)).alloc (.cells #[.int .u64 0, .int .u64 0, .int .u64 0, .int .u64 0, .int .i64 0, .int .i64 0] 39)) := (Bl_alloc (Bl_alloc (Bl_alloc (Bl_refl w) _) _) _)
    clear hga
    clear ga
    clear hgb
    clear gb
    clear hgr
    clear gr
    generalize (((w.alloc (.cells #[uv a.b.v, uv a.b.m, uv a.lo, uv a.hi, sv a.sl, sv a.sh] 39)).alloc (.cells #[uv b.b.v, uv b.b.m, uv b.lo, uv b.hi, sv b.sl, sv b.sh] 39)).alloc (.cells #[.int .u64 0, .int .u64 0, .int .u64 0, .int .u64 0, .int .i64 0, .int .i64 0] 39)) = w1 at *
    have ca0 : w1.cell? ⟨w.heap.size, 0, none⟩ = some (uv a.b.v) := Ba.cell 0
    have ca1 : w1.cell? ⟨w.heap.size, 1, none⟩ = some (uv a.b.m) := Ba.cell 1
    have ca2 : w1.cell? ⟨w.heap.size, 2, none⟩ = some (uv a.lo) := Ba.cell 2
    have ca3 : w1.cell? ⟨w.heap.size, 3, none⟩ = some (uv a.hi) := Ba.cell 3
    have ca4 : w1.cell? ⟨w.heap.size, 4, none⟩ = some (sv a.sl) := Ba.cell 4
    have ca5 : w1.cell? ⟨w.heap.size, 5, none⟩ = some (sv a.sh) := Ba.cell 5
    have fa := Ba.frozen
    have la := Ba.lt
    have cb0 : w1.cell? ⟨w.heap.size + 1, 0, none⟩ = some (uv b.b.v) := Bb.cell 0
    have cb1 : w1.cell? ⟨w.heap.size + 1, 1, none⟩ = some (uv b.b.m) := Bb.cell 1
    have cb2 : w1.cell? ⟨w.heap.size + 1, 2, none⟩ = some (uv b.lo) := Bb.cell 2
    have cb3 : w1.cell? ⟨w.heap.size + 1, 3, none⟩ = some (uv b.hi) := Bb.cell 3
    have cb4 : w1.cell? ⟨w.heap.size + 1, 4, none⟩ = some (sv b.sl) := Bb.cell 4
    have cb5 : w1.cell? ⟨w.heap.size + 1, 5, none⟩ = some (sv b.sh) := Bb.cell 5
    have fb := Bb.frozen
    have lb := Bb.lt
    have cr0 : w1.cell? ⟨w.heap.size + 1 + 1, 0, none⟩ = some (.int .u64 0) := Br.cell 0
    have cr1 : w1.cell? ⟨w.heap.size + 1 + 1, 1, none⟩ = some (.int .u64 0) := Br.cell 1
    have cr2 : w1.cell? ⟨w.heap.size + 1 + 1, 2, none⟩ = some (.int .u64 0) := Br.cell 2
    have cr3 : w1.cell? ⟨w.heap.size + 1 + 1, 3, none⟩ = some (.int .u64 0) := Br.cell 3
    have cr4 : w1.cell? ⟨w.heap.size + 1 + 1, 4, none⟩ = some (.int .i64 0) := Br.cell 4
    have cr5 : w1.cell? ⟨w.heap.size + 1 + 1, 5, none⟩ = some (.int .i64 0) := Br.cell 5
    have fr := Br.frozen
    have lr := Br.lt
    go_wp2_with fail
    refine (sany_c _).mono ?_
    rintro e w2 ⟨rfl, hb⟩
    clear ca0 ca1 ca2 ca3 ca4 ca5 fa la
    clear cb0 cb1 cb2 cb3 cb4 cb5 fb lb
    clear cr0 cr1 cr2 cr3 cr4 cr5 fr lr
    replace Ba := (Ba).next hb
    replace Bb := (Bb).next hb
    replace Br := (Br).next hb
    replace hB : Below w.heap.size w w2 := by repeat (first | exact hB | (refine Bl_set ?_ (by first | omega | (simp; omega)) _) | apply Bl_alloc | (refine Bl_trans ?_ hb))
    clear hb
    have ca0 : w2.cell? ⟨w.heap.size, 0, none⟩ = some (uv a.b.v) := Ba.cell 0
    have ca1 : w2.cell? ⟨w.heap.size, 1, none⟩ = some (uv a.b.m) := Ba.cell 1
    have ca2 : w2.cell? ⟨w.heap.size, 2, none⟩ = some (uv a.lo) := Ba.cell 2
    have ca3 : w2.cell? ⟨w.heap.size, 3, none⟩ = some (uv a.hi) := Ba.cell 3
    have ca4 : w2.cell? ⟨w.heap.size, 4, none⟩ = some (sv a.sl) := Ba.cell 4
    have ca5 : w2.cell? ⟨w.heap.size, 5, none⟩ = some (sv a.sh) := Ba.cell 5
    have fa := Ba.frozen
    have la := Ba.lt
    have cb0 : w2.cell? ⟨w.heap.size + 1, 0, none⟩ = some (uv b.b.v) := Bb.cell 0
    have cb1 : w2.cell? ⟨w.heap.size + 1, 1, none⟩ = some (uv b.b.m) := Bb.cell 1
    have cb2 : w2.cell? ⟨w.heap.size + 1, 2, none⟩ = some (uv b.lo) := Bb.cell 2
    have cb3 : w2.cell? ⟨w.heap.size + 1, 3, none⟩ = some (uv b.hi) := Bb.cell 3
    have cb4 : w2.cell? ⟨w.heap.size + 1, 4, none⟩ = some (sv b.sl) := Bb.cell 4
    have cb5 : w2.cell? ⟨w.heap.size + 1, 5, none⟩ = some (sv b.sh) := Bb.cell 5
    have fb := Bb.frozen
    have lb := Bb.lt
    have cr0 : w2.cell? ⟨w.heap.size + 1 + 1, 0, none⟩ = some (.int .u64 0) := Br.cell 0
    have cr1 : w2.cell? ⟨w.heap.size + 1 + 1, 1, none⟩ = some (.int .u64 0) := Br.cell 1
    have cr2 : w2.cell? ⟨w.heap.size + 1 + 1, 2, none⟩ = some (.int .u64 0) := Br.cell 2
    have cr3 : w2.cell? ⟨w.heap.size + 1 + 1, 3, none⟩ = some (.int .u64 0) := Br.cell 3
    have cr4 : w2.cell? ⟨w.heap.size + 1 + 1, 4, none⟩ = some (.int .i64 0) := Br.cell 4
    have cr5 : w2.cell? ⟨w.heap.size + 1 + 1, 5, none⟩ = some (.int .i64 0) := Br.cell 5
    have fr := Br.frozen
    have lr := Br.lt
    go_upto_region 2 with fail
    clear ca0 ca1 ca2 ca3 ca4 ca5 fa la
    clear cb0 cb1 cb2 cb3 cb4 cb5 fb lb
    clear cr0 cr1 cr2 cr3 cr4 cr5 fr lr
    have Bo := Blk.new w2 39 #[uv PlainScalar.any.b.v, uv PlainScalar.any.b.m, uv PlainScalar.any.lo, uv PlainScalar.any.hi, sv PlainScalar.any.sl, sv PlainScalar.any.sh]
    have hgo := hB.size
    have hnao := Nat.ne_of_lt Ba.lt; have hltao := Ba.lt
    have hnbo := Nat.ne_of_lt Bb.lt; have hltbo := Bb.lt
    have hnro := Nat.ne_of_lt Br.lt; have hltro := Br.lt
    replace Ba : Blk (w2.alloc (.cells #[uv PlainScalar.any.b.v, uv PlainScalar.any.b.m, uv PlainScalar.any.lo, uv PlainScalar.any.hi, sv PlainScalar.any.sl, sv PlainScalar.any.sh] 39)) (w.heap.size) 39 #[uv a.b.v, uv a.b.m, uv a.lo, uv a.hi, sv a.sl, sv a.sh] := Ba.alloc _
    replace Bb : Blk (w2.alloc (.cells #[uv PlainScalar.any.b.v, uv PlainScalar.any.b.m, uv PlainScalar.any.lo, uv PlainScalar.any.hi, sv PlainScalar.any.sl, sv PlainScalar.any.sh] 39)) (w.heap.size + 1) 39 #[uv b.b.v, uv b.b.m, uv b.lo, uv b.hi, sv b.sl, sv b.sh] := Bb.alloc _
    replace Br : Blk (w2.alloc (.cells #[uv PlainScalar.any.b.v, uv PlainScalar.any.b.m, uv PlainScalar.any.lo, uv PlainScalar.any.hi, sv PlainScalar.any.sl, sv PlainScalar.any.sh] 39)) (w.heap.size + 1 + 1) 39 #[.int .u64 0, .int .u64 0, .int .u64 0, .int .u64 0, .int .i64 0, .int .i64 0] := Br.alloc _
    replace hB : Below w.heap.size w (w2.alloc (.cells #[uv PlainScalar.any.b.v, uv PlainScalar.any.b.m, uv PlainScalar.any.lo, uv PlainScalar.any.hi, sv PlainScalar.any.sl, sv PlainScalar.any.sh] 39)) := Bl_alloc hB _
    generalize (w2.alloc (.cells #[uv PlainScalar.any.b.v, uv PlainScalar.any.b.m, uv PlainScalar.any.lo, uv PlainScalar.any.hi, sv PlainScalar.any.sl, sv PlainScalar.any.sh] 39)) = w3 at *
    generalize w2.heap.size = go at *
    have ca0 : w3.cell? ⟨w.heap.size, 0, none⟩ = some (uv a.b.v) := Ba.cell 0
    have ca1 : w3.cell? ⟨w.heap.size, 1, none⟩ = some (uv a.b.m) := Ba.cell 1
    have ca2 : w3.cell? ⟨w.heap.size, 2, none⟩ = some (uv a.lo) := Ba.cell 2
    have ca3 : w3.cell? ⟨w.heap.size, 3, none⟩ = some (uv a.hi) := Ba.cell 3
    have ca4 : w3.cell? ⟨w.heap.size, 4, none⟩ = some (sv a.sl) := Ba.cell 4
    have ca5 : w3.cell? ⟨w.heap.size, 5, none⟩ = some (sv a.sh) := Ba.cell 5
    have fa := Ba.frozen
    have la := Ba.lt
    have cb0 : w3.cell? ⟨w.heap.size + 1, 0, none⟩ = some (uv b.b.v) := Bb.cell 0
    have cb1 : w3.cell? ⟨w.heap.size + 1, 1, none⟩ = some (uv b.b.m) := Bb.cell 1
    have cb2 : w3.cell? ⟨w.heap.size + 1, 2, none⟩ = some (uv b.lo) := Bb.cell 2
    have cb3 : w3.cell? ⟨w.heap.size + 1, 3, none⟩ = some (uv b.hi) := Bb.cell 3
    have cb4 : w3.cell? ⟨w.heap.size + 1, 4, none⟩ = some (sv b.sl) := Bb.cell 4
    have cb5 : w3.cell? ⟨w.heap.size + 1, 5, none⟩ = some (sv b.sh) := Bb.cell 5
    have fb := Bb.frozen
    have lb := Bb.lt
    have cr0 : w3.cell? ⟨w.heap.size + 1 + 1, 0, none⟩ = some (.int .u64 0) := Br.cell 0
    have cr1 : w3.cell? ⟨w.heap.size + 1 + 1, 1, none⟩ = some (.int .u64 0) := Br.cell 1
    have cr2 : w3.cell? ⟨w.heap.size + 1 + 1, 2, none⟩ = some (.int .u64 0) := Br.cell 2
    have cr3 : w3.cell? ⟨w.heap.size + 1 + 1, 3, none⟩ = some (.int .u64 0) := Br.cell 3
    have cr4 : w3.cell? ⟨w.heap.size + 1 + 1, 4, none⟩ = some (.int .i64 0) := Br.cell 4
    have cr5 : w3.cell? ⟨w.heap.size + 1 + 1, 5, none⟩ = some (.int .i64 0) := Br.cell 5
    have fr := Br.frozen
    have lr := Br.lt
    have co0 : w3.cell? ⟨go, 0, none⟩ = some (uv PlainScalar.any.b.v) := Bo.cell 0
    have co1 : w3.cell? ⟨go, 1, none⟩ = some (uv PlainScalar.any.b.m) := Bo.cell 1
    have co2 : w3.cell? ⟨go, 2, none⟩ = some (uv PlainScalar.any.lo) := Bo.cell 2
    have co3 : w3.cell? ⟨go, 3, none⟩ = some (uv PlainScalar.any.hi) := Bo.cell 3
    have co4 : w3.cell? ⟨go, 4, none⟩ = some (sv PlainScalar.any.sl) := Bo.cell 4
    have co5 : w3.cell? ⟨go, 5, none⟩ = some (sv PlainScalar.any.sh) := Bo.cell 5
    have fo := Bo.frozen
    have lo := Bo.lt
    go_wp2_with fail
    refine (and_c _ _ _).mono ?_
    rintro e w4 ⟨rfl, hb⟩
    clear ca0 ca1 ca2 ca3 ca4 ca5 fa la
    clear cb0 cb1 cb2 cb3 cb4 cb5 fb lb
    clear cr0 cr1 cr2 cr3 cr4 cr5 fr lr
    clear co0 co1 co2 co3 co4 co5 fo lo
    replace Ba := (Ba).next hb
    replace Bb := (Bb).next hb
    replace Br := (Br).next hb
    replace Bo := (Bo).next hb
    replace hB : Below w.heap.size w w4 := by repeat (first | exact hB | (refine Bl_set ?_ (by first | omega | (simp; omega)) _) | apply Bl_alloc | (refine Bl_trans ?_ hb))
    clear hb
    have ca0 : w4.cell? ⟨w.heap.size, 0, none⟩ = some (uv a.b.v) := Ba.cell 0
    have ca1 : w4.cell? ⟨w.heap.size, 1, none⟩ = some (uv a.b.m) := Ba.cell 1
    have ca2 : w4.cell? ⟨w.heap.size, 2, none⟩ = some (uv a.lo) := Ba.cell 2
    have ca3 : w4.cell? ⟨w.heap.size, 3, none⟩ = some (uv a.hi) := Ba.cell 3
    have ca4 : w4.cell? ⟨w.heap.size, 4, none⟩ = some (sv a.sl) := Ba.cell 4
    have ca5 : w4.cell? ⟨w.heap.size, 5, none⟩ = some (sv a.sh) := Ba.cell 5
    have fa := Ba.frozen
    have la := Ba.lt
    have cb0 : w4.cell? ⟨w.heap.size + 1, 0, none⟩ = some (uv b.b.v) := Bb.cell 0
    have cb1 : w4.cell? ⟨w.heap.size + 1, 1, none⟩ = some (uv b.b.m) := Bb.cell 1
    have cb2 : w4.cell? ⟨w.heap.size + 1, 2, none⟩ = some (uv b.lo) := Bb.cell 2
    have cb3 : w4.cell? ⟨w.heap.size + 1, 3, none⟩ = some (uv b.hi) := Bb.cell 3
    have cb4 : w4.cell? ⟨w.heap.size + 1, 4, none⟩ = some (sv b.sl) := Bb.cell 4
    have cb5 : w4.cell? ⟨w.heap.size + 1, 5, none⟩ = some (sv b.sh) := Bb.cell 5
    have fb := Bb.frozen
    have lb := Bb.lt
    have cr0 : w4.cell? ⟨w.heap.size + 1 + 1, 0, none⟩ = some (.int .u64 0) := Br.cell 0
    have cr1 : w4.cell? ⟨w.heap.size + 1 + 1, 1, none⟩ = some (.int .u64 0) := Br.cell 1
    have cr2 : w4.cell? ⟨w.heap.size + 1 + 1, 2, none⟩ = some (.int .u64 0) := Br.cell 2
    have cr3 : w4.cell? ⟨w.heap.size + 1 + 1, 3, none⟩ = some (.int .u64 0) := Br.cell 3
    have cr4 : w4.cell? ⟨w.heap.size + 1 + 1, 4, none⟩ = some (.int .i64 0) := Br.cell 4
    have cr5 : w4.cell? ⟨w.heap.size + 1 + 1, 5, none⟩ = some (.int .i64 0) := Br.cell 5
    have fr := Br.frozen
    have lr := Br.lt
    have co0 : w4.cell? ⟨go, 0, none⟩ = some (uv PlainScalar.any.b.v) := Bo.cell 0
    have co1 : w4.cell? ⟨go, 1, none⟩ = some (uv PlainScalar.any.b.m) := Bo.cell 1
    have co2 : w4.cell? ⟨go, 2, none⟩ = some (uv PlainScalar.any.lo) := Bo.cell 2
    have co3 : w4.cell? ⟨go, 3, none⟩ = some (uv PlainScalar.any.hi) := Bo.cell 3
    have co4 : w4.cell? ⟨go, 4, none⟩ = some (sv PlainScalar.any.sl) := Bo.cell 4
    have co5 : w4.cell? ⟨go, 5, none⟩ = some (sv PlainScalar.any.sh) := Bo.cell 5
    have fo := Bo.frozen
    have lo := Bo.lt
    go_upto_region 6 with fail
    clear ca0 ca1 ca2 ca3 ca4 ca5 fa la
    clear cb0 cb1 cb2 cb3 cb4 cb5 fb lb
    clear cr0 cr1 cr2 cr3 cr4 cr5 fr lr
    clear co0 co1 co2 co3 co4 co5 fo lo
    replace Ba : Blk (w4.setCell ⟨go, 0, none⟩ (uv (PlainTnum.and a.b b.b).v)) (w.heap.size) 39 #[uv a.b.v, uv a.b.m, uv a.lo, uv a.hi, sv a.sl, sv a.sh] := (Ba.far (by first | (simp; done) | (simp; omega) | (simp [*]; done) | (simp only [ne_eq]; constructor <;> omega)) _)
    replace Bb : Blk (w4.setCell ⟨go, 0, none⟩ (uv (PlainTnum.and a.b b.b).v)) (w.heap.size + 1) 39 #[uv b.b.v, uv b.b.m, uv b.lo, uv b.hi, sv b.sl, sv b.sh] := (Bb.far (by first | (simp; done) | (simp; omega) | (simp [*]; done) | (simp only [ne_eq]; constructor <;> omega)) _)
    replace Br : Blk (w4.setCell ⟨go, 0, none⟩ (uv (PlainTnum.and a.b b.b).v)) (w.heap.size + 1 + 1) 39 #[.int .u64 0, .int .u64 0, .int .u64 0, .int .u64 0, .int .i64 0, .int .i64 0] := (Br.far (by first | (simp; done) | (simp; omega) | (simp [*]; done) | (simp only [ne_eq]; constructor <;> omega)) _)
    replace Bo : Blk (w4.setCell ⟨go, 0, none⟩ (uv (PlainTnum.and a.b b.b).v)) (go) 39 #[uv (PlainTnum.and a.b b.b).v, uv PlainScalar.any.b.m, uv PlainScalar.any.lo, uv PlainScalar.any.hi, sv PlainScalar.any.sl, sv PlainScalar.any.sh] := Bo.set_ 0 _
    replace hB : Below w.heap.size w (w4.setCell ⟨go, 0, none⟩ (uv (PlainTnum.and a.b b.b).v)) := (Bl_set hB (by first | omega | (simp; done) | (simp; omega)) _)
    replace Ba : Blk ((w4.setCell ⟨go, 0, none⟩ (uv (PlainTnum.and a.b b.b).v)).setCell ⟨go, 1, none⟩ (uv (PlainTnum.and a.b b.b).m)) (w.heap.size) 39 #[uv a.b.v, uv a.b.m, uv a.lo, uv a.hi, sv a.sl, sv a.sh] := (Ba.far (by first | (simp; done) | (simp; omega) | (simp [*]; done) | (simp only [ne_eq]; constructor <;> omega)) _)
    replace Bb : Blk ((w4.setCell ⟨go, 0, none⟩ (uv (PlainTnum.and a.b b.b).v)).setCell ⟨go, 1, none⟩ (uv (PlainTnum.and a.b b.b).m)) (w.heap.size + 1) 39 #[uv b.b.v, uv b.b.m, uv b.lo, uv b.hi, sv b.sl, sv b.sh] := (Bb.far (by first | (simp; done) | (simp; omega) | (simp [*]; done) | (simp only [ne_eq]; constructor <;> omega)) _)
    replace Br : Blk ((w4.setCell ⟨go, 0, none⟩ (uv (PlainTnum.and a.b b.b).v)).setCell ⟨go, 1, none⟩ (uv (PlainTnum.and a.b b.b).m)) (w.heap.size + 1 + 1) 39 #[.int .u64 0, .int .u64 0, .int .u64 0, .int .u64 0, .int .i64 0, .int .i64 0] := (Br.far (by first | (simp; done) | (simp; omega) | (simp [*]; done) | (simp only [ne_eq]; constructor <;> omega)) _)
    replace Bo : Blk ((w4.setCell ⟨go, 0, none⟩ (uv (PlainTnum.and a.b b.b).v)).setCell ⟨go, 1, none⟩ (uv (PlainTnum.and a.b b.b).m)) (go) 39 #[uv (PlainTnum.and a.b b.b).v, uv (PlainTnum.and a.b b.b).m, uv PlainScalar.any.lo, uv PlainScalar.any.hi, sv PlainScalar.any.sl, sv PlainScalar.any.sh] := Bo.set_ 1 _
    replace hB : Below w.heap.size w ((w4.setCell ⟨go, 0, none⟩ (uv (PlainTnum.and a.b b.b).v)).setCell ⟨go, 1, none⟩ (uv (PlainTnum.and a.b b.b).m)) := (Bl_set hB (by first | omega | (simp; done) | (simp; omega)) _)
    generalize ((w4.setCell ⟨go, 0, none⟩ (uv (PlainTnum.and a.b b.b).v)).setCell ⟨go, 1, none⟩ (uv (PlainTnum.and a.b b.b).m)) = w5 at *
    have ca0 : w5.cell? ⟨w.heap.size, 0, none⟩ = some (uv a.b.v) := Ba.cell 0
    have ca1 : w5.cell? ⟨w.heap.size, 1, none⟩ = some (uv a.b.m) := Ba.cell 1
    have ca2 : w5.cell? ⟨w.heap.size, 2, none⟩ = some (uv a.lo) := Ba.cell 2
    have ca3 : w5.cell? ⟨w.heap.size, 3, none⟩ = some (uv a.hi) := Ba.cell 3
    have ca4 : w5.cell? ⟨w.heap.size, 4, none⟩ = some (sv a.sl) := Ba.cell 4
    have ca5 : w5.cell? ⟨w.heap.size, 5, none⟩ = some (sv a.sh) := Ba.cell 5
    have fa := Ba.frozen
    have la := Ba.lt
    have cb0 : w5.cell? ⟨w.heap.size + 1, 0, none⟩ = some (uv b.b.v) := Bb.cell 0
    have cb1 : w5.cell? ⟨w.heap.size + 1, 1, none⟩ = some (uv b.b.m) := Bb.cell 1
    have cb2 : w5.cell? ⟨w.heap.size + 1, 2, none⟩ = some (uv b.lo) := Bb.cell 2
    have cb3 : w5.cell? ⟨w.heap.size + 1, 3, none⟩ = some (uv b.hi) := Bb.cell 3
    have cb4 : w5.cell? ⟨w.heap.size + 1, 4, none⟩ = some (sv b.sl) := Bb.cell 4
    have cb5 : w5.cell? ⟨w.heap.size + 1, 5, none⟩ = some (sv b.sh) := Bb.cell 5
    have fb := Bb.frozen
    have lb := Bb.lt
    have cr0 : w5.cell? ⟨w.heap.size + 1 + 1, 0, none⟩ = some (.int .u64 0) := Br.cell 0
    have cr1 : w5.cell? ⟨w.heap.size + 1 + 1, 1, none⟩ = some (.int .u64 0) := Br.cell 1
    have cr2 : w5.cell? ⟨w.heap.size + 1 + 1, 2, none⟩ = some (.int .u64 0) := Br.cell 2
    have cr3 : w5.cell? ⟨w.heap.size + 1 + 1, 3, none⟩ = some (.int .u64 0) := Br.cell 3
    have cr4 : w5.cell? ⟨w.heap.size + 1 + 1, 4, none⟩ = some (.int .i64 0) := Br.cell 4
    have cr5 : w5.cell? ⟨w.heap.size + 1 + 1, 5, none⟩ = some (.int .i64 0) := Br.cell 5
    have fr := Br.frozen
    have lr := Br.lt
    have co0 : w5.cell? ⟨go, 0, none⟩ = some (uv (PlainTnum.and a.b b.b).v) := Bo.cell 0
    have co1 : w5.cell? ⟨go, 1, none⟩ = some (uv (PlainTnum.and a.b b.b).m) := Bo.cell 1
    have co2 : w5.cell? ⟨go, 2, none⟩ = some (uv PlainScalar.any.lo) := Bo.cell 2
    have co3 : w5.cell? ⟨go, 3, none⟩ = some (uv PlainScalar.any.hi) := Bo.cell 3
    have co4 : w5.cell? ⟨go, 4, none⟩ = some (sv PlainScalar.any.sl) := Bo.cell 4
    have co5 : w5.cell? ⟨go, 5, none⟩ = some (sv PlainScalar.any.sh) := Bo.cell 5
    have fo := Bo.frozen
    have lo := Bo.lt
    go_upto_region 10 with fail
    clear ca0 ca1 ca2 ca3 ca4 ca5 fa la
    clear cb0 cb1 cb2 cb3 cb4 cb5 fb lb
    clear cr0 cr1 cr2 cr3 cr4 cr5 fr lr
    clear co0 co1 co2 co3 co4 co5 fo lo
    replace Ba : Blk (w5.setCell ⟨go, 3, none⟩ (uv (PlainScalar.minU a.hi b.hi))) (w.heap.size) 39 #[uv a.b.v, uv a.b.m, uv a.lo, uv a.hi, sv a.sl, sv a.sh] := (Ba.far (by first | (simp; done) | (simp; omega) | (simp [*]; done) | (simp only [ne_eq]; constructor <;> omega)) _)
    replace Bb : Blk (w5.setCell ⟨go, 3, none⟩ (uv (PlainScalar.minU a.hi b.hi))) (w.heap.size + 1) 39 #[uv b.b.v, uv b.b.m, uv b.lo, uv b.hi, sv b.sl, sv b.sh] := (Bb.far (by first | (simp; done) | (simp; omega) | (simp [*]; done) | (simp only [ne_eq]; constructor <;> omega)) _)
    replace Br : Blk (w5.setCell ⟨go, 3, none⟩ (uv (PlainScalar.minU a.hi b.hi))) (w.heap.size + 1 + 1) 39 #[.int .u64 0, .int .u64 0, .int .u64 0, .int .u64 0, .int .i64 0, .int .i64 0] := (Br.far (by first | (simp; done) | (simp; omega) | (simp [*]; done) | (simp only [ne_eq]; constructor <;> omega)) _)
    replace Bo : Blk (w5.setCell ⟨go, 3, none⟩ (uv (PlainScalar.minU a.hi b.hi))) (go) 39 #[uv (PlainTnum.and a.b b.b).v, uv (PlainTnum.and a.b b.b).m, uv PlainScalar.any.lo, uv (PlainScalar.minU a.hi b.hi), sv PlainScalar.any.sl, sv PlainScalar.any.sh] := Bo.set_ 3 _
    replace hB : Below w.heap.size w (w5.setCell ⟨go, 3, none⟩ (uv (PlainScalar.minU a.hi b.hi))) := (Bl_set hB (by first | omega | (simp; done) | (simp; omega)) _)
    generalize (w5.setCell ⟨go, 3, none⟩ (uv (PlainScalar.minU a.hi b.hi))) = w6 at *
    have ca0 : w6.cell? ⟨w.heap.size, 0, none⟩ = some (uv a.b.v) := Ba.cell 0
    have ca1 : w6.cell? ⟨w.heap.size, 1, none⟩ = some (uv a.b.m) := Ba.cell 1
    have ca2 : w6.cell? ⟨w.heap.size, 2, none⟩ = some (uv a.lo) := Ba.cell 2
    have ca3 : w6.cell? ⟨w.heap.size, 3, none⟩ = some (uv a.hi) := Ba.cell 3
    have ca4 : w6.cell? ⟨w.heap.size, 4, none⟩ = some (sv a.sl) := Ba.cell 4
    have ca5 : w6.cell? ⟨w.heap.size, 5, none⟩ = some (sv a.sh) := Ba.cell 5
    have fa := Ba.frozen
    have la := Ba.lt
    have cb0 : w6.cell? ⟨w.heap.size + 1, 0, none⟩ = some (uv b.b.v) := Bb.cell 0
    have cb1 : w6.cell? ⟨w.heap.size + 1, 1, none⟩ = some (uv b.b.m) := Bb.cell 1
    have cb2 : w6.cell? ⟨w.heap.size + 1, 2, none⟩ = some (uv b.lo) := Bb.cell 2
    have cb3 : w6.cell? ⟨w.heap.size + 1, 3, none⟩ = some (uv b.hi) := Bb.cell 3
    have cb4 : w6.cell? ⟨w.heap.size + 1, 4, none⟩ = some (sv b.sl) := Bb.cell 4
    have cb5 : w6.cell? ⟨w.heap.size + 1, 5, none⟩ = some (sv b.sh) := Bb.cell 5
    have fb := Bb.frozen
    have lb := Bb.lt
    have cr0 : w6.cell? ⟨w.heap.size + 1 + 1, 0, none⟩ = some (.int .u64 0) := Br.cell 0
    have cr1 : w6.cell? ⟨w.heap.size + 1 + 1, 1, none⟩ = some (.int .u64 0) := Br.cell 1
    have cr2 : w6.cell? ⟨w.heap.size + 1 + 1, 2, none⟩ = some (.int .u64 0) := Br.cell 2
    have cr3 : w6.cell? ⟨w.heap.size + 1 + 1, 3, none⟩ = some (.int .u64 0) := Br.cell 3
    have cr4 : w6.cell? ⟨w.heap.size + 1 + 1, 4, none⟩ = some (.int .i64 0) := Br.cell 4
    have cr5 : w6.cell? ⟨w.heap.size + 1 + 1, 5, none⟩ = some (.int .i64 0) := Br.cell 5
    have fr := Br.frozen
    have lr := Br.lt
    have co0 : w6.cell? ⟨go, 0, none⟩ = some (uv (PlainTnum.and a.b b.b).v) := Bo.cell 0
    have co1 : w6.cell? ⟨go, 1, none⟩ = some (uv (PlainTnum.and a.b b.b).m) := Bo.cell 1
    have co2 : w6.cell? ⟨go, 2, none⟩ = some (uv PlainScalar.any.lo) := Bo.cell 2
    have co3 : w6.cell? ⟨go, 3, none⟩ = some (uv (PlainScalar.minU a.hi b.hi)) := Bo.cell 3
    have co4 : w6.cell? ⟨go, 4, none⟩ = some (sv PlainScalar.any.sl) := Bo.cell 4
    have co5 : w6.cell? ⟨go, 5, none⟩ = some (sv PlainScalar.any.sh) := Bo.cell 5
    have fo := Bo.frozen
    have lo := Bo.lt
    go_wp2_with fail
    refine (settled_c (⟨PlainTnum.and a.b b.b, PlainScalar.any.lo, PlainScalar.minU a.hi b.hi, PlainScalar.any.sl, PlainScalar.any.sh⟩ : Rng) _).mono ?_
    rintro e w7 ⟨rfl, hb⟩
    clear ca0 ca1 ca2 ca3 ca4 ca5 fa la
    clear cb0 cb1 cb2 cb3 cb4 cb5 fb lb
    clear cr0 cr1 cr2 cr3 cr4 cr5 fr lr
    clear co0 co1 co2 co3 co4 co5 fo lo
    replace Ba := (Ba).next hb
    replace Bb := (Bb).next hb
    replace Br := (Br).next hb
    replace Bo := (Bo).next hb
    replace hB : Below w.heap.size w w7 := by repeat (first | exact hB | (refine Bl_set ?_ (by first | omega | (simp; omega)) _) | apply Bl_alloc | (refine Bl_trans ?_ hb))
    clear hb
    have ca0 : w7.cell? ⟨w.heap.size, 0, none⟩ = some (uv a.b.v) := Ba.cell 0
    have ca1 : w7.cell? ⟨w.heap.size, 1, none⟩ = some (uv a.b.m) := Ba.cell 1
    have ca2 : w7.cell? ⟨w.heap.size, 2, none⟩ = some (uv a.lo) := Ba.cell 2
    have ca3 : w7.cell? ⟨w.heap.size, 3, none⟩ = some (uv a.hi) := Ba.cell 3
    have ca4 : w7.cell? ⟨w.heap.size, 4, none⟩ = some (sv a.sl) := Ba.cell 4
    have ca5 : w7.cell? ⟨w.heap.size, 5, none⟩ = some (sv a.sh) := Ba.cell 5
    have fa := Ba.frozen
    have la := Ba.lt
    have cb0 : w7.cell? ⟨w.heap.size + 1, 0, none⟩ = some (uv b.b.v) := Bb.cell 0
    have cb1 : w7.cell? ⟨w.heap.size + 1, 1, none⟩ = some (uv b.b.m) := Bb.cell 1
    have cb2 : w7.cell? ⟨w.heap.size + 1, 2, none⟩ = some (uv b.lo) := Bb.cell 2
    have cb3 : w7.cell? ⟨w.heap.size + 1, 3, none⟩ = some (uv b.hi) := Bb.cell 3
    have cb4 : w7.cell? ⟨w.heap.size + 1, 4, none⟩ = some (sv b.sl) := Bb.cell 4
    have cb5 : w7.cell? ⟨w.heap.size + 1, 5, none⟩ = some (sv b.sh) := Bb.cell 5
    have fb := Bb.frozen
    have lb := Bb.lt
    have cr0 : w7.cell? ⟨w.heap.size + 1 + 1, 0, none⟩ = some (.int .u64 0) := Br.cell 0
    have cr1 : w7.cell? ⟨w.heap.size + 1 + 1, 1, none⟩ = some (.int .u64 0) := Br.cell 1
    have cr2 : w7.cell? ⟨w.heap.size + 1 + 1, 2, none⟩ = some (.int .u64 0) := Br.cell 2
    have cr3 : w7.cell? ⟨w.heap.size + 1 + 1, 3, none⟩ = some (.int .u64 0) := Br.cell 3
    have cr4 : w7.cell? ⟨w.heap.size + 1 + 1, 4, none⟩ = some (.int .i64 0) := Br.cell 4
    have cr5 : w7.cell? ⟨w.heap.size + 1 + 1, 5, none⟩ = some (.int .i64 0) := Br.cell 5
    have fr := Br.frozen
    have lr := Br.lt
    have co0 : w7.cell? ⟨go, 0, none⟩ = some (uv (PlainTnum.and a.b b.b).v) := Bo.cell 0
    have co1 : w7.cell? ⟨go, 1, none⟩ = some (uv (PlainTnum.and a.b b.b).m) := Bo.cell 1
    have co2 : w7.cell? ⟨go, 2, none⟩ = some (uv PlainScalar.any.lo) := Bo.cell 2
    have co3 : w7.cell? ⟨go, 3, none⟩ = some (uv (PlainScalar.minU a.hi b.hi)) := Bo.cell 3
    have co4 : w7.cell? ⟨go, 4, none⟩ = some (sv PlainScalar.any.sl) := Bo.cell 4
    have co5 : w7.cell? ⟨go, 5, none⟩ = some (sv PlainScalar.any.sh) := Bo.cell 5
    have fo := Bo.frozen
    have lo := Bo.lt
    go_wp2
    exact bodyPost_ret (v := rv (PlainScalar.settled ⟨PlainTnum.and a.b b.b, PlainScalar.any.lo, PlainScalar.minU a.hi b.hi, PlainScalar.any.sl, PlainScalar.any.sh⟩)) (by simp [results, Try.results44, go_sem, cr0, cr1, cr2, cr3, cr4, cr5, lr]) rfl ⟨by rw [hs], by repeat (first | (with_reducible exact hB) | (with_reducible refine Bl_set ?_ (by first | omega | (simp; done) | (simp; omega)) _) | with_reducible apply Bl_alloc)⟩
  by_cases h4 : op = 4
  · subst h4
    have hs : PlainScalar.bitwise 4 a b = PlainScalar.settled ⟨PlainTnum.or a.b b.b, PlainScalar.maxU a.lo b.lo, PlainScalar.any.hi, PlainScalar.any.sl, PlainScalar.any.sh⟩ := by rfl
    go_enter Try.func44, Try.ntmps44
    go_wp2_with fail
    obtain ⟨ga, hga⟩ : ∃ g, g = w.heap.size := ⟨_, rfl⟩
    obtain ⟨gb, hgb⟩ : ∃ g, g = w.heap.size + 1 := ⟨_, rfl⟩
    obtain ⟨gr, hgr⟩ : ∃ g, g = w.heap.size + 1 + 1 := ⟨_, rfl⟩
    have Ba : Blk (((w.alloc (.cells #[uv a.b.v, uv a.b.m, uv a.lo, uv a.hi, sv a.sl, sv a.sh] 39)).alloc (.cells #[uv b.b.v, uv b.b.m, uv b.lo, uv b.hi, sv b.sl, sv b.sh] 39)).alloc (.cells #[.int .u64 0, .int .u64 0, .int .u64 0, .int .u64 0, .int .i64 0, .int .i64 0] 39)) (w.heap.size) 39 #[uv a.b.v, uv a.b.m, uv a.lo, uv a.hi, sv a.sl, sv a.sh] := (((Blk.new w 39 #[uv a.b.v, uv a.b.m, uv a.lo, uv a.hi, sv a.sl, sv a.sh])).alloc _).alloc _
    have Bb : Blk (((w.alloc (.cells #[uv a.b.v, uv a.b.m, uv a.lo, uv a.hi, sv a.sl, sv a.sh] 39)).alloc (.cells #[uv b.b.v, uv b.b.m, uv b.lo, uv b.hi, sv b.sl, sv b.sh] 39)).alloc (.cells #[.int .u64 0, .int .u64 0, .int .u64 0, .int .u64 0, .int .i64 0, .int .i64 0] 39)) (w.heap.size + 1) 39 #[uv b.b.v, uv b.b.m, uv b.lo, uv b.hi, sv b.sl, sv b.sh] := ((by simpa using Blk.new (w.alloc (.cells #[uv a.b.v, uv a.b.m, uv a.lo, uv a.hi, sv a.sl, sv a.sh] 39)) 39 #[uv b.b.v, uv b.b.m, uv b.lo, uv b.hi, sv b.sl, sv b.sh] : Blk _ (w.heap.size + 1) 39 #[uv b.b.v, uv b.b.m, uv b.lo, uv b.hi, sv b.sl, sv b.sh])).alloc _
    have Br : Blk (((w.alloc (.cells #[uv a.b.v, uv a.b.m, uv a.lo, uv a.hi, sv a.sl, sv a.sh] 39)).alloc (.cells #[uv b.b.v, uv b.b.m, uv b.lo, uv b.hi, sv b.sl, sv b.sh] 39)).alloc (.cells #[.int .u64 0, .int .u64 0, .int .u64 0, .int .u64 0, .int .i64 0, .int .i64 0] 39)) (w.heap.size + 1 + 1) 39 #[.int .u64 0, .int .u64 0, .int .u64 0, .int .u64 0, .int .i64 0, .int .i64 0] := (by simpa using Blk.new ((w.alloc (.cells #[uv a.b.v, uv a.b.m, uv a.lo, uv a.hi, sv a.sl, sv a.sh] 39)).alloc (.cells #[uv b.b.v, uv b.b.m, uv b.lo, uv b.hi, sv b.sl, sv b.sh] 39)) 39 #[.int .u64 0, .int .u64 0, .int .u64 0, .int .u64 0, .int .i64 0, .int .i64 0] : Blk _ (w.heap.size + 1 + 1) 39 #[.int .u64 0, .int .u64 0, .int .u64 0, .int .u64 0, .int .i64 0, .int .i64 0])
    have hB : Below w.heap.size w (((w.alloc (.cells #[uv a.b.v, uv a.b.m, uv a.lo, uv a.hi, sv a.sl, sv a.sh] 39)).alloc (.cells #[uv b.b.v, uv b.b.m, uv b.lo, uv b.hi, sv b.sl, sv b.sh] 39)).alloc (.cells #[.int .u64 0, .int .u64 0, .int .u64 0, .int .u64 0, .int .i64 0, .int .i64 0] 39)) := (Bl_alloc (Bl_alloc (Bl_alloc (Bl_refl w) _) _) _)
    clear hga
    clear ga
    clear hgb
    clear gb
    clear hgr
    clear gr
    generalize (((w.alloc (.cells #[uv a.b.v, uv a.b.m, uv a.lo, uv a.hi, sv a.sl, sv a.sh] 39)).alloc (.cells #[uv b.b.v, uv b.b.m, uv b.lo, uv b.hi, sv b.sl, sv b.sh] 39)).alloc (.cells #[.int .u64 0, .int .u64 0, .int .u64 0, .int .u64 0, .int .i64 0, .int .i64 0] 39)) = w1 at *
    have ca0 : w1.cell? ⟨w.heap.size, 0, none⟩ = some (uv a.b.v) := Ba.cell 0
    have ca1 : w1.cell? ⟨w.heap.size, 1, none⟩ = some (uv a.b.m) := Ba.cell 1
    have ca2 : w1.cell? ⟨w.heap.size, 2, none⟩ = some (uv a.lo) := Ba.cell 2
    have ca3 : w1.cell? ⟨w.heap.size, 3, none⟩ = some (uv a.hi) := Ba.cell 3
    have ca4 : w1.cell? ⟨w.heap.size, 4, none⟩ = some (sv a.sl) := Ba.cell 4
    have ca5 : w1.cell? ⟨w.heap.size, 5, none⟩ = some (sv a.sh) := Ba.cell 5
    have fa := Ba.frozen
    have la := Ba.lt
    have cb0 : w1.cell? ⟨w.heap.size + 1, 0, none⟩ = some (uv b.b.v) := Bb.cell 0
    have cb1 : w1.cell? ⟨w.heap.size + 1, 1, none⟩ = some (uv b.b.m) := Bb.cell 1
    have cb2 : w1.cell? ⟨w.heap.size + 1, 2, none⟩ = some (uv b.lo) := Bb.cell 2
    have cb3 : w1.cell? ⟨w.heap.size + 1, 3, none⟩ = some (uv b.hi) := Bb.cell 3
    have cb4 : w1.cell? ⟨w.heap.size + 1, 4, none⟩ = some (sv b.sl) := Bb.cell 4
    have cb5 : w1.cell? ⟨w.heap.size + 1, 5, none⟩ = some (sv b.sh) := Bb.cell 5
    have fb := Bb.frozen
    have lb := Bb.lt
    have cr0 : w1.cell? ⟨w.heap.size + 1 + 1, 0, none⟩ = some (.int .u64 0) := Br.cell 0
    have cr1 : w1.cell? ⟨w.heap.size + 1 + 1, 1, none⟩ = some (.int .u64 0) := Br.cell 1
    have cr2 : w1.cell? ⟨w.heap.size + 1 + 1, 2, none⟩ = some (.int .u64 0) := Br.cell 2
    have cr3 : w1.cell? ⟨w.heap.size + 1 + 1, 3, none⟩ = some (.int .u64 0) := Br.cell 3
    have cr4 : w1.cell? ⟨w.heap.size + 1 + 1, 4, none⟩ = some (.int .i64 0) := Br.cell 4
    have cr5 : w1.cell? ⟨w.heap.size + 1 + 1, 5, none⟩ = some (.int .i64 0) := Br.cell 5
    have fr := Br.frozen
    have lr := Br.lt
    go_wp2_with fail
    refine (sany_c _).mono ?_
    rintro e w2 ⟨rfl, hb⟩
    clear ca0 ca1 ca2 ca3 ca4 ca5 fa la
    clear cb0 cb1 cb2 cb3 cb4 cb5 fb lb
    clear cr0 cr1 cr2 cr3 cr4 cr5 fr lr
    replace Ba := (Ba).next hb
    replace Bb := (Bb).next hb
    replace Br := (Br).next hb
    replace hB : Below w.heap.size w w2 := by repeat (first | exact hB | (refine Bl_set ?_ (by first | omega | (simp; omega)) _) | apply Bl_alloc | (refine Bl_trans ?_ hb))
    clear hb
    have ca0 : w2.cell? ⟨w.heap.size, 0, none⟩ = some (uv a.b.v) := Ba.cell 0
    have ca1 : w2.cell? ⟨w.heap.size, 1, none⟩ = some (uv a.b.m) := Ba.cell 1
    have ca2 : w2.cell? ⟨w.heap.size, 2, none⟩ = some (uv a.lo) := Ba.cell 2
    have ca3 : w2.cell? ⟨w.heap.size, 3, none⟩ = some (uv a.hi) := Ba.cell 3
    have ca4 : w2.cell? ⟨w.heap.size, 4, none⟩ = some (sv a.sl) := Ba.cell 4
    have ca5 : w2.cell? ⟨w.heap.size, 5, none⟩ = some (sv a.sh) := Ba.cell 5
    have fa := Ba.frozen
    have la := Ba.lt
    have cb0 : w2.cell? ⟨w.heap.size + 1, 0, none⟩ = some (uv b.b.v) := Bb.cell 0
    have cb1 : w2.cell? ⟨w.heap.size + 1, 1, none⟩ = some (uv b.b.m) := Bb.cell 1
    have cb2 : w2.cell? ⟨w.heap.size + 1, 2, none⟩ = some (uv b.lo) := Bb.cell 2
    have cb3 : w2.cell? ⟨w.heap.size + 1, 3, none⟩ = some (uv b.hi) := Bb.cell 3
    have cb4 : w2.cell? ⟨w.heap.size + 1, 4, none⟩ = some (sv b.sl) := Bb.cell 4
    have cb5 : w2.cell? ⟨w.heap.size + 1, 5, none⟩ = some (sv b.sh) := Bb.cell 5
    have fb := Bb.frozen
    have lb := Bb.lt
    have cr0 : w2.cell? ⟨w.heap.size + 1 + 1, 0, none⟩ = some (.int .u64 0) := Br.cell 0
    have cr1 : w2.cell? ⟨w.heap.size + 1 + 1, 1, none⟩ = some (.int .u64 0) := Br.cell 1
    have cr2 : w2.cell? ⟨w.heap.size + 1 + 1, 2, none⟩ = some (.int .u64 0) := Br.cell 2
    have cr3 : w2.cell? ⟨w.heap.size + 1 + 1, 3, none⟩ = some (.int .u64 0) := Br.cell 3
    have cr4 : w2.cell? ⟨w.heap.size + 1 + 1, 4, none⟩ = some (.int .i64 0) := Br.cell 4
    have cr5 : w2.cell? ⟨w.heap.size + 1 + 1, 5, none⟩ = some (.int .i64 0) := Br.cell 5
    have fr := Br.frozen
    have lr := Br.lt
    go_upto_region 2 with fail
    clear ca0 ca1 ca2 ca3 ca4 ca5 fa la
    clear cb0 cb1 cb2 cb3 cb4 cb5 fb lb
    clear cr0 cr1 cr2 cr3 cr4 cr5 fr lr
    have Bo := Blk.new w2 39 #[uv PlainScalar.any.b.v, uv PlainScalar.any.b.m, uv PlainScalar.any.lo, uv PlainScalar.any.hi, sv PlainScalar.any.sl, sv PlainScalar.any.sh]
    have hgo := hB.size
    have hnao := Nat.ne_of_lt Ba.lt; have hltao := Ba.lt
    have hnbo := Nat.ne_of_lt Bb.lt; have hltbo := Bb.lt
    have hnro := Nat.ne_of_lt Br.lt; have hltro := Br.lt
    replace Ba : Blk (w2.alloc (.cells #[uv PlainScalar.any.b.v, uv PlainScalar.any.b.m, uv PlainScalar.any.lo, uv PlainScalar.any.hi, sv PlainScalar.any.sl, sv PlainScalar.any.sh] 39)) (w.heap.size) 39 #[uv a.b.v, uv a.b.m, uv a.lo, uv a.hi, sv a.sl, sv a.sh] := Ba.alloc _
    replace Bb : Blk (w2.alloc (.cells #[uv PlainScalar.any.b.v, uv PlainScalar.any.b.m, uv PlainScalar.any.lo, uv PlainScalar.any.hi, sv PlainScalar.any.sl, sv PlainScalar.any.sh] 39)) (w.heap.size + 1) 39 #[uv b.b.v, uv b.b.m, uv b.lo, uv b.hi, sv b.sl, sv b.sh] := Bb.alloc _
    replace Br : Blk (w2.alloc (.cells #[uv PlainScalar.any.b.v, uv PlainScalar.any.b.m, uv PlainScalar.any.lo, uv PlainScalar.any.hi, sv PlainScalar.any.sl, sv PlainScalar.any.sh] 39)) (w.heap.size + 1 + 1) 39 #[.int .u64 0, .int .u64 0, .int .u64 0, .int .u64 0, .int .i64 0, .int .i64 0] := Br.alloc _
    replace hB : Below w.heap.size w (w2.alloc (.cells #[uv PlainScalar.any.b.v, uv PlainScalar.any.b.m, uv PlainScalar.any.lo, uv PlainScalar.any.hi, sv PlainScalar.any.sl, sv PlainScalar.any.sh] 39)) := Bl_alloc hB _
    generalize (w2.alloc (.cells #[uv PlainScalar.any.b.v, uv PlainScalar.any.b.m, uv PlainScalar.any.lo, uv PlainScalar.any.hi, sv PlainScalar.any.sl, sv PlainScalar.any.sh] 39)) = w3 at *
    generalize w2.heap.size = go at *
    have ca0 : w3.cell? ⟨w.heap.size, 0, none⟩ = some (uv a.b.v) := Ba.cell 0
    have ca1 : w3.cell? ⟨w.heap.size, 1, none⟩ = some (uv a.b.m) := Ba.cell 1
    have ca2 : w3.cell? ⟨w.heap.size, 2, none⟩ = some (uv a.lo) := Ba.cell 2
    have ca3 : w3.cell? ⟨w.heap.size, 3, none⟩ = some (uv a.hi) := Ba.cell 3
    have ca4 : w3.cell? ⟨w.heap.size, 4, none⟩ = some (sv a.sl) := Ba.cell 4
    have ca5 : w3.cell? ⟨w.heap.size, 5, none⟩ = some (sv a.sh) := Ba.cell 5
    have fa := Ba.frozen
    have la := Ba.lt
    have cb0 : w3.cell? ⟨w.heap.size + 1, 0, none⟩ = some (uv b.b.v) := Bb.cell 0
    have cb1 : w3.cell? ⟨w.heap.size + 1, 1, none⟩ = some (uv b.b.m) := Bb.cell 1
    have cb2 : w3.cell? ⟨w.heap.size + 1, 2, none⟩ = some (uv b.lo) := Bb.cell 2
    have cb3 : w3.cell? ⟨w.heap.size + 1, 3, none⟩ = some (uv b.hi) := Bb.cell 3
    have cb4 : w3.cell? ⟨w.heap.size + 1, 4, none⟩ = some (sv b.sl) := Bb.cell 4
    have cb5 : w3.cell? ⟨w.heap.size + 1, 5, none⟩ = some (sv b.sh) := Bb.cell 5
    have fb := Bb.frozen
    have lb := Bb.lt
    have cr0 : w3.cell? ⟨w.heap.size + 1 + 1, 0, none⟩ = some (.int .u64 0) := Br.cell 0
    have cr1 : w3.cell? ⟨w.heap.size + 1 + 1, 1, none⟩ = some (.int .u64 0) := Br.cell 1
    have cr2 : w3.cell? ⟨w.heap.size + 1 + 1, 2, none⟩ = some (.int .u64 0) := Br.cell 2
    have cr3 : w3.cell? ⟨w.heap.size + 1 + 1, 3, none⟩ = some (.int .u64 0) := Br.cell 3
    have cr4 : w3.cell? ⟨w.heap.size + 1 + 1, 4, none⟩ = some (.int .i64 0) := Br.cell 4
    have cr5 : w3.cell? ⟨w.heap.size + 1 + 1, 5, none⟩ = some (.int .i64 0) := Br.cell 5
    have fr := Br.frozen
    have lr := Br.lt
    have co0 : w3.cell? ⟨go, 0, none⟩ = some (uv PlainScalar.any.b.v) := Bo.cell 0
    have co1 : w3.cell? ⟨go, 1, none⟩ = some (uv PlainScalar.any.b.m) := Bo.cell 1
    have co2 : w3.cell? ⟨go, 2, none⟩ = some (uv PlainScalar.any.lo) := Bo.cell 2
    have co3 : w3.cell? ⟨go, 3, none⟩ = some (uv PlainScalar.any.hi) := Bo.cell 3
    have co4 : w3.cell? ⟨go, 4, none⟩ = some (sv PlainScalar.any.sl) := Bo.cell 4
    have co5 : w3.cell? ⟨go, 5, none⟩ = some (sv PlainScalar.any.sh) := Bo.cell 5
    have fo := Bo.frozen
    have lo := Bo.lt
    go_wp2_with fail
    refine (or_c _ _ _).mono ?_
    rintro e w4 ⟨rfl, hb⟩
    clear ca0 ca1 ca2 ca3 ca4 ca5 fa la
    clear cb0 cb1 cb2 cb3 cb4 cb5 fb lb
    clear cr0 cr1 cr2 cr3 cr4 cr5 fr lr
    clear co0 co1 co2 co3 co4 co5 fo lo
    replace Ba := (Ba).next hb
    replace Bb := (Bb).next hb
    replace Br := (Br).next hb
    replace Bo := (Bo).next hb
    replace hB : Below w.heap.size w w4 := by repeat (first | exact hB | (refine Bl_set ?_ (by first | omega | (simp; omega)) _) | apply Bl_alloc | (refine Bl_trans ?_ hb))
    clear hb
    have ca0 : w4.cell? ⟨w.heap.size, 0, none⟩ = some (uv a.b.v) := Ba.cell 0
    have ca1 : w4.cell? ⟨w.heap.size, 1, none⟩ = some (uv a.b.m) := Ba.cell 1
    have ca2 : w4.cell? ⟨w.heap.size, 2, none⟩ = some (uv a.lo) := Ba.cell 2
    have ca3 : w4.cell? ⟨w.heap.size, 3, none⟩ = some (uv a.hi) := Ba.cell 3
    have ca4 : w4.cell? ⟨w.heap.size, 4, none⟩ = some (sv a.sl) := Ba.cell 4
    have ca5 : w4.cell? ⟨w.heap.size, 5, none⟩ = some (sv a.sh) := Ba.cell 5
    have fa := Ba.frozen
    have la := Ba.lt
    have cb0 : w4.cell? ⟨w.heap.size + 1, 0, none⟩ = some (uv b.b.v) := Bb.cell 0
    have cb1 : w4.cell? ⟨w.heap.size + 1, 1, none⟩ = some (uv b.b.m) := Bb.cell 1
    have cb2 : w4.cell? ⟨w.heap.size + 1, 2, none⟩ = some (uv b.lo) := Bb.cell 2
    have cb3 : w4.cell? ⟨w.heap.size + 1, 3, none⟩ = some (uv b.hi) := Bb.cell 3
    have cb4 : w4.cell? ⟨w.heap.size + 1, 4, none⟩ = some (sv b.sl) := Bb.cell 4
    have cb5 : w4.cell? ⟨w.heap.size + 1, 5, none⟩ = some (sv b.sh) := Bb.cell 5
    have fb := Bb.frozen
    have lb := Bb.lt
    have cr0 : w4.cell? ⟨w.heap.size + 1 + 1, 0, none⟩ = some (.int .u64 0) := Br.cell 0
    have cr1 : w4.cell? ⟨w.heap.size + 1 + 1, 1, none⟩ = some (.int .u64 0) := Br.cell 1
    have cr2 : w4.cell? ⟨w.heap.size + 1 + 1, 2, none⟩ = some (.int .u64 0) := Br.cell 2
    have cr3 : w4.cell? ⟨w.heap.size + 1 + 1, 3, none⟩ = some (.int .u64 0) := Br.cell 3
    have cr4 : w4.cell? ⟨w.heap.size + 1 + 1, 4, none⟩ = some (.int .i64 0) := Br.cell 4
    have cr5 : w4.cell? ⟨w.heap.size + 1 + 1, 5, none⟩ = some (.int .i64 0) := Br.cell 5
    have fr := Br.frozen
    have lr := Br.lt
    have co0 : w4.cell? ⟨go, 0, none⟩ = some (uv PlainScalar.any.b.v) := Bo.cell 0
    have co1 : w4.cell? ⟨go, 1, none⟩ = some (uv PlainScalar.any.b.m) := Bo.cell 1
    have co2 : w4.cell? ⟨go, 2, none⟩ = some (uv PlainScalar.any.lo) := Bo.cell 2
    have co3 : w4.cell? ⟨go, 3, none⟩ = some (uv PlainScalar.any.hi) := Bo.cell 3
    have co4 : w4.cell? ⟨go, 4, none⟩ = some (sv PlainScalar.any.sl) := Bo.cell 4
    have co5 : w4.cell? ⟨go, 5, none⟩ = some (sv PlainScalar.any.sh) := Bo.cell 5
    have fo := Bo.frozen
    have lo := Bo.lt
    go_upto_region 9 with fail
    clear ca0 ca1 ca2 ca3 ca4 ca5 fa la
    clear cb0 cb1 cb2 cb3 cb4 cb5 fb lb
    clear cr0 cr1 cr2 cr3 cr4 cr5 fr lr
    clear co0 co1 co2 co3 co4 co5 fo lo
    replace Ba : Blk (w4.setCell ⟨go, 0, none⟩ (uv (PlainTnum.or a.b b.b).v)) (w.heap.size) 39 #[uv a.b.v, uv a.b.m, uv a.lo, uv a.hi, sv a.sl, sv a.sh] := (Ba.far (by first | (simp; done) | (simp; omega) | (simp [*]; done) | (simp only [ne_eq]; constructor <;> omega)) _)
    replace Bb : Blk (w4.setCell ⟨go, 0, none⟩ (uv (PlainTnum.or a.b b.b).v)) (w.heap.size + 1) 39 #[uv b.b.v, uv b.b.m, uv b.lo, uv b.hi, sv b.sl, sv b.sh] := (Bb.far (by first | (simp; done) | (simp; omega) | (simp [*]; done) | (simp only [ne_eq]; constructor <;> omega)) _)
    replace Br : Blk (w4.setCell ⟨go, 0, none⟩ (uv (PlainTnum.or a.b b.b).v)) (w.heap.size + 1 + 1) 39 #[.int .u64 0, .int .u64 0, .int .u64 0, .int .u64 0, .int .i64 0, .int .i64 0] := (Br.far (by first | (simp; done) | (simp; omega) | (simp [*]; done) | (simp only [ne_eq]; constructor <;> omega)) _)
    replace Bo : Blk (w4.setCell ⟨go, 0, none⟩ (uv (PlainTnum.or a.b b.b).v)) (go) 39 #[uv (PlainTnum.or a.b b.b).v, uv PlainScalar.any.b.m, uv PlainScalar.any.lo, uv PlainScalar.any.hi, sv PlainScalar.any.sl, sv PlainScalar.any.sh] := Bo.set_ 0 _
    replace hB : Below w.heap.size w (w4.setCell ⟨go, 0, none⟩ (uv (PlainTnum.or a.b b.b).v)) := (Bl_set hB (by first | omega | (simp; done) | (simp; omega)) _)
    replace Ba : Blk ((w4.setCell ⟨go, 0, none⟩ (uv (PlainTnum.or a.b b.b).v)).setCell ⟨go, 1, none⟩ (uv (PlainTnum.or a.b b.b).m)) (w.heap.size) 39 #[uv a.b.v, uv a.b.m, uv a.lo, uv a.hi, sv a.sl, sv a.sh] := (Ba.far (by first | (simp; done) | (simp; omega) | (simp [*]; done) | (simp only [ne_eq]; constructor <;> omega)) _)
    replace Bb : Blk ((w4.setCell ⟨go, 0, none⟩ (uv (PlainTnum.or a.b b.b).v)).setCell ⟨go, 1, none⟩ (uv (PlainTnum.or a.b b.b).m)) (w.heap.size + 1) 39 #[uv b.b.v, uv b.b.m, uv b.lo, uv b.hi, sv b.sl, sv b.sh] := (Bb.far (by first | (simp; done) | (simp; omega) | (simp [*]; done) | (simp only [ne_eq]; constructor <;> omega)) _)
    replace Br : Blk ((w4.setCell ⟨go, 0, none⟩ (uv (PlainTnum.or a.b b.b).v)).setCell ⟨go, 1, none⟩ (uv (PlainTnum.or a.b b.b).m)) (w.heap.size + 1 + 1) 39 #[.int .u64 0, .int .u64 0, .int .u64 0, .int .u64 0, .int .i64 0, .int .i64 0] := (Br.far (by first | (simp; done) | (simp; omega) | (simp [*]; done) | (simp only [ne_eq]; constructor <;> omega)) _)
    replace Bo : Blk ((w4.setCell ⟨go, 0, none⟩ (uv (PlainTnum.or a.b b.b).v)).setCell ⟨go, 1, none⟩ (uv (PlainTnum.or a.b b.b).m)) (go) 39 #[uv (PlainTnum.or a.b b.b).v, uv (PlainTnum.or a.b b.b).m, uv PlainScalar.any.lo, uv PlainScalar.any.hi, sv PlainScalar.any.sl, sv PlainScalar.any.sh] := Bo.set_ 1 _
    replace hB : Below w.heap.size w ((w4.setCell ⟨go, 0, none⟩ (uv (PlainTnum.or a.b b.b).v)).setCell ⟨go, 1, none⟩ (uv (PlainTnum.or a.b b.b).m)) := (Bl_set hB (by first | omega | (simp; done) | (simp; omega)) _)
    generalize ((w4.setCell ⟨go, 0, none⟩ (uv (PlainTnum.or a.b b.b).v)).setCell ⟨go, 1, none⟩ (uv (PlainTnum.or a.b b.b).m)) = w5 at *
    have ca0 : w5.cell? ⟨w.heap.size, 0, none⟩ = some (uv a.b.v) := Ba.cell 0
    have ca1 : w5.cell? ⟨w.heap.size, 1, none⟩ = some (uv a.b.m) := Ba.cell 1
    have ca2 : w5.cell? ⟨w.heap.size, 2, none⟩ = some (uv a.lo) := Ba.cell 2
    have ca3 : w5.cell? ⟨w.heap.size, 3, none⟩ = some (uv a.hi) := Ba.cell 3
    have ca4 : w5.cell? ⟨w.heap.size, 4, none⟩ = some (sv a.sl) := Ba.cell 4
    have ca5 : w5.cell? ⟨w.heap.size, 5, none⟩ = some (sv a.sh) := Ba.cell 5
    have fa := Ba.frozen
    have la := Ba.lt
    have cb0 : w5.cell? ⟨w.heap.size + 1, 0, none⟩ = some (uv b.b.v) := Bb.cell 0
    have cb1 : w5.cell? ⟨w.heap.size + 1, 1, none⟩ = some (uv b.b.m) := Bb.cell 1
    have cb2 : w5.cell? ⟨w.heap.size + 1, 2, none⟩ = some (uv b.lo) := Bb.cell 2
    have cb3 : w5.cell? ⟨w.heap.size + 1, 3, none⟩ = some (uv b.hi) := Bb.cell 3
    have cb4 : w5.cell? ⟨w.heap.size + 1, 4, none⟩ = some (sv b.sl) := Bb.cell 4
    have cb5 : w5.cell? ⟨w.heap.size + 1, 5, none⟩ = some (sv b.sh) := Bb.cell 5
    have fb := Bb.frozen
    have lb := Bb.lt
    have cr0 : w5.cell? ⟨w.heap.size + 1 + 1, 0, none⟩ = some (.int .u64 0) := Br.cell 0
    have cr1 : w5.cell? ⟨w.heap.size + 1 + 1, 1, none⟩ = some (.int .u64 0) := Br.cell 1
    have cr2 : w5.cell? ⟨w.heap.size + 1 + 1, 2, none⟩ = some (.int .u64 0) := Br.cell 2
    have cr3 : w5.cell? ⟨w.heap.size + 1 + 1, 3, none⟩ = some (.int .u64 0) := Br.cell 3
    have cr4 : w5.cell? ⟨w.heap.size + 1 + 1, 4, none⟩ = some (.int .i64 0) := Br.cell 4
    have cr5 : w5.cell? ⟨w.heap.size + 1 + 1, 5, none⟩ = some (.int .i64 0) := Br.cell 5
    have fr := Br.frozen
    have lr := Br.lt
    have co0 : w5.cell? ⟨go, 0, none⟩ = some (uv (PlainTnum.or a.b b.b).v) := Bo.cell 0
    have co1 : w5.cell? ⟨go, 1, none⟩ = some (uv (PlainTnum.or a.b b.b).m) := Bo.cell 1
    have co2 : w5.cell? ⟨go, 2, none⟩ = some (uv PlainScalar.any.lo) := Bo.cell 2
    have co3 : w5.cell? ⟨go, 3, none⟩ = some (uv PlainScalar.any.hi) := Bo.cell 3
    have co4 : w5.cell? ⟨go, 4, none⟩ = some (sv PlainScalar.any.sl) := Bo.cell 4
    have co5 : w5.cell? ⟨go, 5, none⟩ = some (sv PlainScalar.any.sh) := Bo.cell 5
    have fo := Bo.frozen
    have lo := Bo.lt
    go_upto_region 10 with fail
    clear ca0 ca1 ca2 ca3 ca4 ca5 fa la
    clear cb0 cb1 cb2 cb3 cb4 cb5 fb lb
    clear cr0 cr1 cr2 cr3 cr4 cr5 fr lr
    clear co0 co1 co2 co3 co4 co5 fo lo
    replace Ba : Blk (w5.setCell ⟨go, 2, none⟩ (uv (PlainScalar.maxU a.lo b.lo))) (w.heap.size) 39 #[uv a.b.v, uv a.b.m, uv a.lo, uv a.hi, sv a.sl, sv a.sh] := (Ba.far (by first | (simp; done) | (simp; omega) | (simp [*]; done) | (simp only [ne_eq]; constructor <;> omega)) _)
    replace Bb : Blk (w5.setCell ⟨go, 2, none⟩ (uv (PlainScalar.maxU a.lo b.lo))) (w.heap.size + 1) 39 #[uv b.b.v, uv b.b.m, uv b.lo, uv b.hi, sv b.sl, sv b.sh] := (Bb.far (by first | (simp; done) | (simp; omega) | (simp [*]; done) | (simp only [ne_eq]; constructor <;> omega)) _)
    replace Br : Blk (w5.setCell ⟨go, 2, none⟩ (uv (PlainScalar.maxU a.lo b.lo))) (w.heap.size + 1 + 1) 39 #[.int .u64 0, .int .u64 0, .int .u64 0, .int .u64 0, .int .i64 0, .int .i64 0] := (Br.far (by first | (simp; done) | (simp; omega) | (simp [*]; done) | (simp only [ne_eq]; constructor <;> omega)) _)
    replace Bo : Blk (w5.setCell ⟨go, 2, none⟩ (uv (PlainScalar.maxU a.lo b.lo))) (go) 39 #[uv (PlainTnum.or a.b b.b).v, uv (PlainTnum.or a.b b.b).m, uv (PlainScalar.maxU a.lo b.lo), uv PlainScalar.any.hi, sv PlainScalar.any.sl, sv PlainScalar.any.sh] := Bo.set_ 2 _
    replace hB : Below w.heap.size w (w5.setCell ⟨go, 2, none⟩ (uv (PlainScalar.maxU a.lo b.lo))) := (Bl_set hB (by first | omega | (simp; done) | (simp; omega)) _)
    generalize (w5.setCell ⟨go, 2, none⟩ (uv (PlainScalar.maxU a.lo b.lo))) = w6 at *
    have ca0 : w6.cell? ⟨w.heap.size, 0, none⟩ = some (uv a.b.v) := Ba.cell 0
    have ca1 : w6.cell? ⟨w.heap.size, 1, none⟩ = some (uv a.b.m) := Ba.cell 1
    have ca2 : w6.cell? ⟨w.heap.size, 2, none⟩ = some (uv a.lo) := Ba.cell 2
    have ca3 : w6.cell? ⟨w.heap.size, 3, none⟩ = some (uv a.hi) := Ba.cell 3
    have ca4 : w6.cell? ⟨w.heap.size, 4, none⟩ = some (sv a.sl) := Ba.cell 4
    have ca5 : w6.cell? ⟨w.heap.size, 5, none⟩ = some (sv a.sh) := Ba.cell 5
    have fa := Ba.frozen
    have la := Ba.lt
    have cb0 : w6.cell? ⟨w.heap.size + 1, 0, none⟩ = some (uv b.b.v) := Bb.cell 0
    have cb1 : w6.cell? ⟨w.heap.size + 1, 1, none⟩ = some (uv b.b.m) := Bb.cell 1
    have cb2 : w6.cell? ⟨w.heap.size + 1, 2, none⟩ = some (uv b.lo) := Bb.cell 2
    have cb3 : w6.cell? ⟨w.heap.size + 1, 3, none⟩ = some (uv b.hi) := Bb.cell 3
    have cb4 : w6.cell? ⟨w.heap.size + 1, 4, none⟩ = some (sv b.sl) := Bb.cell 4
    have cb5 : w6.cell? ⟨w.heap.size + 1, 5, none⟩ = some (sv b.sh) := Bb.cell 5
    have fb := Bb.frozen
    have lb := Bb.lt
    have cr0 : w6.cell? ⟨w.heap.size + 1 + 1, 0, none⟩ = some (.int .u64 0) := Br.cell 0
    have cr1 : w6.cell? ⟨w.heap.size + 1 + 1, 1, none⟩ = some (.int .u64 0) := Br.cell 1
    have cr2 : w6.cell? ⟨w.heap.size + 1 + 1, 2, none⟩ = some (.int .u64 0) := Br.cell 2
    have cr3 : w6.cell? ⟨w.heap.size + 1 + 1, 3, none⟩ = some (.int .u64 0) := Br.cell 3
    have cr4 : w6.cell? ⟨w.heap.size + 1 + 1, 4, none⟩ = some (.int .i64 0) := Br.cell 4
    have cr5 : w6.cell? ⟨w.heap.size + 1 + 1, 5, none⟩ = some (.int .i64 0) := Br.cell 5
    have fr := Br.frozen
    have lr := Br.lt
    have co0 : w6.cell? ⟨go, 0, none⟩ = some (uv (PlainTnum.or a.b b.b).v) := Bo.cell 0
    have co1 : w6.cell? ⟨go, 1, none⟩ = some (uv (PlainTnum.or a.b b.b).m) := Bo.cell 1
    have co2 : w6.cell? ⟨go, 2, none⟩ = some (uv (PlainScalar.maxU a.lo b.lo)) := Bo.cell 2
    have co3 : w6.cell? ⟨go, 3, none⟩ = some (uv PlainScalar.any.hi) := Bo.cell 3
    have co4 : w6.cell? ⟨go, 4, none⟩ = some (sv PlainScalar.any.sl) := Bo.cell 4
    have co5 : w6.cell? ⟨go, 5, none⟩ = some (sv PlainScalar.any.sh) := Bo.cell 5
    have fo := Bo.frozen
    have lo := Bo.lt
    go_wp2_with fail
    refine (settled_c (⟨PlainTnum.or a.b b.b, PlainScalar.maxU a.lo b.lo, PlainScalar.any.hi, PlainScalar.any.sl, PlainScalar.any.sh⟩ : Rng) _).mono ?_
    rintro e w7 ⟨rfl, hb⟩
    clear ca0 ca1 ca2 ca3 ca4 ca5 fa la
    clear cb0 cb1 cb2 cb3 cb4 cb5 fb lb
    clear cr0 cr1 cr2 cr3 cr4 cr5 fr lr
    clear co0 co1 co2 co3 co4 co5 fo lo
    replace Ba := (Ba).next hb
    replace Bb := (Bb).next hb
    replace Br := (Br).next hb
    replace Bo := (Bo).next hb
    replace hB : Below w.heap.size w w7 := by repeat (first | exact hB | (refine Bl_set ?_ (by first | omega | (simp; omega)) _) | apply Bl_alloc | (refine Bl_trans ?_ hb))
    clear hb
    have ca0 : w7.cell? ⟨w.heap.size, 0, none⟩ = some (uv a.b.v) := Ba.cell 0
    have ca1 : w7.cell? ⟨w.heap.size, 1, none⟩ = some (uv a.b.m) := Ba.cell 1
    have ca2 : w7.cell? ⟨w.heap.size, 2, none⟩ = some (uv a.lo) := Ba.cell 2
    have ca3 : w7.cell? ⟨w.heap.size, 3, none⟩ = some (uv a.hi) := Ba.cell 3
    have ca4 : w7.cell? ⟨w.heap.size, 4, none⟩ = some (sv a.sl) := Ba.cell 4
    have ca5 : w7.cell? ⟨w.heap.size, 5, none⟩ = some (sv a.sh) := Ba.cell 5
    have fa := Ba.frozen
    have la := Ba.lt
    have cb0 : w7.cell? ⟨w.heap.size + 1, 0, none⟩ = some (uv b.b.v) := Bb.cell 0
    have cb1 : w7.cell? ⟨w.heap.size + 1, 1, none⟩ = some (uv b.b.m) := Bb.cell 1
    have cb2 : w7.cell? ⟨w.heap.size + 1, 2, none⟩ = some (uv b.lo) := Bb.cell 2
    have cb3 : w7.cell? ⟨w.heap.size + 1, 3, none⟩ = some (uv b.hi) := Bb.cell 3
    have cb4 : w7.cell? ⟨w.heap.size + 1, 4, none⟩ = some (sv b.sl) := Bb.cell 4
    have cb5 : w7.cell? ⟨w.heap.size + 1, 5, none⟩ = some (sv b.sh) := Bb.cell 5
    have fb := Bb.frozen
    have lb := Bb.lt
    have cr0 : w7.cell? ⟨w.heap.size + 1 + 1, 0, none⟩ = some (.int .u64 0) := Br.cell 0
    have cr1 : w7.cell? ⟨w.heap.size + 1 + 1, 1, none⟩ = some (.int .u64 0) := Br.cell 1
    have cr2 : w7.cell? ⟨w.heap.size + 1 + 1, 2, none⟩ = some (.int .u64 0) := Br.cell 2
    have cr3 : w7.cell? ⟨w.heap.size + 1 + 1, 3, none⟩ = some (.int .u64 0) := Br.cell 3
    have cr4 : w7.cell? ⟨w.heap.size + 1 + 1, 4, none⟩ = some (.int .i64 0) := Br.cell 4
    have cr5 : w7.cell? ⟨w.heap.size + 1 + 1, 5, none⟩ = some (.int .i64 0) := Br.cell 5
    have fr := Br.frozen
    have lr := Br.lt
    have co0 : w7.cell? ⟨go, 0, none⟩ = some (uv (PlainTnum.or a.b b.b).v) := Bo.cell 0
    have co1 : w7.cell? ⟨go, 1, none⟩ = some (uv (PlainTnum.or a.b b.b).m) := Bo.cell 1
    have co2 : w7.cell? ⟨go, 2, none⟩ = some (uv (PlainScalar.maxU a.lo b.lo)) := Bo.cell 2
    have co3 : w7.cell? ⟨go, 3, none⟩ = some (uv PlainScalar.any.hi) := Bo.cell 3
    have co4 : w7.cell? ⟨go, 4, none⟩ = some (sv PlainScalar.any.sl) := Bo.cell 4
    have co5 : w7.cell? ⟨go, 5, none⟩ = some (sv PlainScalar.any.sh) := Bo.cell 5
    have fo := Bo.frozen
    have lo := Bo.lt
    go_wp2
    exact bodyPost_ret (v := rv (PlainScalar.settled ⟨PlainTnum.or a.b b.b, PlainScalar.maxU a.lo b.lo, PlainScalar.any.hi, PlainScalar.any.sl, PlainScalar.any.sh⟩)) (by simp [results, Try.results44, go_sem, cr0, cr1, cr2, cr3, cr4, cr5, lr]) rfl ⟨by rw [hs], by repeat (first | (with_reducible exact hB) | (with_reducible refine Bl_set ?_ (by first | omega | (simp; done) | (simp; omega)) _) | with_reducible apply Bl_alloc)⟩
  have e5 : (op == 5) = false := by simpa using h5
  have e4 : (op == 4) = false := by simpa using h4
  · have hs : PlainScalar.bitwise op a b = PlainScalar.settled ⟨PlainTnum.xor a.b b.b, PlainScalar.any.lo, PlainScalar.any.hi, PlainScalar.any.sl, PlainScalar.any.sh⟩ := by unfold PlainScalar.bitwise; rw [if_neg h5, if_neg h4]
    go_enter Try.func44, Try.ntmps44
    go_wp2_with fail
    obtain ⟨ga, hga⟩ : ∃ g, g = w.heap.size := ⟨_, rfl⟩
    obtain ⟨gb, hgb⟩ : ∃ g, g = w.heap.size + 1 := ⟨_, rfl⟩
    obtain ⟨gr, hgr⟩ : ∃ g, g = w.heap.size + 1 + 1 := ⟨_, rfl⟩
    have Ba : Blk (((w.alloc (.cells #[uv a.b.v, uv a.b.m, uv a.lo, uv a.hi, sv a.sl, sv a.sh] 39)).alloc (.cells #[uv b.b.v, uv b.b.m, uv b.lo, uv b.hi, sv b.sl, sv b.sh] 39)).alloc (.cells #[.int .u64 0, .int .u64 0, .int .u64 0, .int .u64 0, .int .i64 0, .int .i64 0] 39)) (w.heap.size) 39 #[uv a.b.v, uv a.b.m, uv a.lo, uv a.hi, sv a.sl, sv a.sh] := (((Blk.new w 39 #[uv a.b.v, uv a.b.m, uv a.lo, uv a.hi, sv a.sl, sv a.sh])).alloc _).alloc _
    have Bb : Blk (((w.alloc (.cells #[uv a.b.v, uv a.b.m, uv a.lo, uv a.hi, sv a.sl, sv a.sh] 39)).alloc (.cells #[uv b.b.v, uv b.b.m, uv b.lo, uv b.hi, sv b.sl, sv b.sh] 39)).alloc (.cells #[.int .u64 0, .int .u64 0, .int .u64 0, .int .u64 0, .int .i64 0, .int .i64 0] 39)) (w.heap.size + 1) 39 #[uv b.b.v, uv b.b.m, uv b.lo, uv b.hi, sv b.sl, sv b.sh] := ((by simpa using Blk.new (w.alloc (.cells #[uv a.b.v, uv a.b.m, uv a.lo, uv a.hi, sv a.sl, sv a.sh] 39)) 39 #[uv b.b.v, uv b.b.m, uv b.lo, uv b.hi, sv b.sl, sv b.sh] : Blk _ (w.heap.size + 1) 39 #[uv b.b.v, uv b.b.m, uv b.lo, uv b.hi, sv b.sl, sv b.sh])).alloc _
    have Br : Blk (((w.alloc (.cells #[uv a.b.v, uv a.b.m, uv a.lo, uv a.hi, sv a.sl, sv a.sh] 39)).alloc (.cells #[uv b.b.v, uv b.b.m, uv b.lo, uv b.hi, sv b.sl, sv b.sh] 39)).alloc (.cells #[.int .u64 0, .int .u64 0, .int .u64 0, .int .u64 0, .int .i64 0, .int .i64 0] 39)) (w.heap.size + 1 + 1) 39 #[.int .u64 0, .int .u64 0, .int .u64 0, .int .u64 0, .int .i64 0, .int .i64 0] := (by simpa using Blk.new ((w.alloc (.cells #[uv a.b.v, uv a.b.m, uv a.lo, uv a.hi, sv a.sl, sv a.sh] 39)).alloc (.cells #[uv b.b.v, uv b.b.m, uv b.lo, uv b.hi, sv b.sl, sv b.sh] 39)) 39 #[.int .u64 0, .int .u64 0, .int .u64 0, .int .u64 0, .int .i64 0, .int .i64 0] : Blk _ (w.heap.size + 1 + 1) 39 #[.int .u64 0, .int .u64 0, .int .u64 0, .int .u64 0, .int .i64 0, .int .i64 0])
    have hB : Below w.heap.size w (((w.alloc (.cells #[uv a.b.v, uv a.b.m, uv a.lo, uv a.hi, sv a.sl, sv a.sh] 39)).alloc (.cells #[uv b.b.v, uv b.b.m, uv b.lo, uv b.hi, sv b.sl, sv b.sh] 39)).alloc (.cells #[.int .u64 0, .int .u64 0, .int .u64 0, .int .u64 0, .int .i64 0, .int .i64 0] 39)) := (Bl_alloc (Bl_alloc (Bl_alloc (Bl_refl w) _) _) _)
    clear hga
    clear ga
    clear hgb
    clear gb
    clear hgr
    clear gr
    generalize (((w.alloc (.cells #[uv a.b.v, uv a.b.m, uv a.lo, uv a.hi, sv a.sl, sv a.sh] 39)).alloc (.cells #[uv b.b.v, uv b.b.m, uv b.lo, uv b.hi, sv b.sl, sv b.sh] 39)).alloc (.cells #[.int .u64 0, .int .u64 0, .int .u64 0, .int .u64 0, .int .i64 0, .int .i64 0] 39)) = w1 at *
    have ca0 : w1.cell? ⟨w.heap.size, 0, none⟩ = some (uv a.b.v) := Ba.cell 0
    have ca1 : w1.cell? ⟨w.heap.size, 1, none⟩ = some (uv a.b.m) := Ba.cell 1
    have ca2 : w1.cell? ⟨w.heap.size, 2, none⟩ = some (uv a.lo) := Ba.cell 2
    have ca3 : w1.cell? ⟨w.heap.size, 3, none⟩ = some (uv a.hi) := Ba.cell 3
    have ca4 : w1.cell? ⟨w.heap.size, 4, none⟩ = some (sv a.sl) := Ba.cell 4
    have ca5 : w1.cell? ⟨w.heap.size, 5, none⟩ = some (sv a.sh) := Ba.cell 5
    have fa := Ba.frozen
    have la := Ba.lt
    have cb0 : w1.cell? ⟨w.heap.size + 1, 0, none⟩ = some (uv b.b.v) := Bb.cell 0
    have cb1 : w1.cell? ⟨w.heap.size + 1, 1, none⟩ = some (uv b.b.m) := Bb.cell 1
    have cb2 : w1.cell? ⟨w.heap.size + 1, 2, none⟩ = some (uv b.lo) := Bb.cell 2
    have cb3 : w1.cell? ⟨w.heap.size + 1, 3, none⟩ = some (uv b.hi) := Bb.cell 3
    have cb4 : w1.cell? ⟨w.heap.size + 1, 4, none⟩ = some (sv b.sl) := Bb.cell 4
    have cb5 : w1.cell? ⟨w.heap.size + 1, 5, none⟩ = some (sv b.sh) := Bb.cell 5
    have fb := Bb.frozen
    have lb := Bb.lt
    have cr0 : w1.cell? ⟨w.heap.size + 1 + 1, 0, none⟩ = some (.int .u64 0) := Br.cell 0
    have cr1 : w1.cell? ⟨w.heap.size + 1 + 1, 1, none⟩ = some (.int .u64 0) := Br.cell 1
    have cr2 : w1.cell? ⟨w.heap.size + 1 + 1, 2, none⟩ = some (.int .u64 0) := Br.cell 2
    have cr3 : w1.cell? ⟨w.heap.size + 1 + 1, 3, none⟩ = some (.int .u64 0) := Br.cell 3
    have cr4 : w1.cell? ⟨w.heap.size + 1 + 1, 4, none⟩ = some (.int .i64 0) := Br.cell 4
    have cr5 : w1.cell? ⟨w.heap.size + 1 + 1, 5, none⟩ = some (.int .i64 0) := Br.cell 5
    have fr := Br.frozen
    have lr := Br.lt
    go_wp2_with fail
    refine (sany_c _).mono ?_
    rintro e w2 ⟨rfl, hb⟩
    clear ca0 ca1 ca2 ca3 ca4 ca5 fa la
    clear cb0 cb1 cb2 cb3 cb4 cb5 fb lb
    clear cr0 cr1 cr2 cr3 cr4 cr5 fr lr
    replace Ba := (Ba).next hb
    replace Bb := (Bb).next hb
    replace Br := (Br).next hb
    replace hB : Below w.heap.size w w2 := by repeat (first | exact hB | (refine Bl_set ?_ (by first | omega | (simp; omega)) _) | apply Bl_alloc | (refine Bl_trans ?_ hb))
    clear hb
    have ca0 : w2.cell? ⟨w.heap.size, 0, none⟩ = some (uv a.b.v) := Ba.cell 0
    have ca1 : w2.cell? ⟨w.heap.size, 1, none⟩ = some (uv a.b.m) := Ba.cell 1
    have ca2 : w2.cell? ⟨w.heap.size, 2, none⟩ = some (uv a.lo) := Ba.cell 2
    have ca3 : w2.cell? ⟨w.heap.size, 3, none⟩ = some (uv a.hi) := Ba.cell 3
    have ca4 : w2.cell? ⟨w.heap.size, 4, none⟩ = some (sv a.sl) := Ba.cell 4
    have ca5 : w2.cell? ⟨w.heap.size, 5, none⟩ = some (sv a.sh) := Ba.cell 5
    have fa := Ba.frozen
    have la := Ba.lt
    have cb0 : w2.cell? ⟨w.heap.size + 1, 0, none⟩ = some (uv b.b.v) := Bb.cell 0
    have cb1 : w2.cell? ⟨w.heap.size + 1, 1, none⟩ = some (uv b.b.m) := Bb.cell 1
    have cb2 : w2.cell? ⟨w.heap.size + 1, 2, none⟩ = some (uv b.lo) := Bb.cell 2
    have cb3 : w2.cell? ⟨w.heap.size + 1, 3, none⟩ = some (uv b.hi) := Bb.cell 3
    have cb4 : w2.cell? ⟨w.heap.size + 1, 4, none⟩ = some (sv b.sl) := Bb.cell 4
    have cb5 : w2.cell? ⟨w.heap.size + 1, 5, none⟩ = some (sv b.sh) := Bb.cell 5
    have fb := Bb.frozen
    have lb := Bb.lt
    have cr0 : w2.cell? ⟨w.heap.size + 1 + 1, 0, none⟩ = some (.int .u64 0) := Br.cell 0
    have cr1 : w2.cell? ⟨w.heap.size + 1 + 1, 1, none⟩ = some (.int .u64 0) := Br.cell 1
    have cr2 : w2.cell? ⟨w.heap.size + 1 + 1, 2, none⟩ = some (.int .u64 0) := Br.cell 2
    have cr3 : w2.cell? ⟨w.heap.size + 1 + 1, 3, none⟩ = some (.int .u64 0) := Br.cell 3
    have cr4 : w2.cell? ⟨w.heap.size + 1 + 1, 4, none⟩ = some (.int .i64 0) := Br.cell 4
    have cr5 : w2.cell? ⟨w.heap.size + 1 + 1, 5, none⟩ = some (.int .i64 0) := Br.cell 5
    have fr := Br.frozen
    have lr := Br.lt
    go_upto_region 2 with fail
    clear ca0 ca1 ca2 ca3 ca4 ca5 fa la
    clear cb0 cb1 cb2 cb3 cb4 cb5 fb lb
    clear cr0 cr1 cr2 cr3 cr4 cr5 fr lr
    have Bo := Blk.new w2 39 #[uv PlainScalar.any.b.v, uv PlainScalar.any.b.m, uv PlainScalar.any.lo, uv PlainScalar.any.hi, sv PlainScalar.any.sl, sv PlainScalar.any.sh]
    have hgo := hB.size
    have hnao := Nat.ne_of_lt Ba.lt; have hltao := Ba.lt
    have hnbo := Nat.ne_of_lt Bb.lt; have hltbo := Bb.lt
    have hnro := Nat.ne_of_lt Br.lt; have hltro := Br.lt
    replace Ba : Blk (w2.alloc (.cells #[uv PlainScalar.any.b.v, uv PlainScalar.any.b.m, uv PlainScalar.any.lo, uv PlainScalar.any.hi, sv PlainScalar.any.sl, sv PlainScalar.any.sh] 39)) (w.heap.size) 39 #[uv a.b.v, uv a.b.m, uv a.lo, uv a.hi, sv a.sl, sv a.sh] := Ba.alloc _
    replace Bb : Blk (w2.alloc (.cells #[uv PlainScalar.any.b.v, uv PlainScalar.any.b.m, uv PlainScalar.any.lo, uv PlainScalar.any.hi, sv PlainScalar.any.sl, sv PlainScalar.any.sh] 39)) (w.heap.size + 1) 39 #[uv b.b.v, uv b.b.m, uv b.lo, uv b.hi, sv b.sl, sv b.sh] := Bb.alloc _
    replace Br : Blk (w2.alloc (.cells #[uv PlainScalar.any.b.v, uv PlainScalar.any.b.m, uv PlainScalar.any.lo, uv PlainScalar.any.hi, sv PlainScalar.any.sl, sv PlainScalar.any.sh] 39)) (w.heap.size + 1 + 1) 39 #[.int .u64 0, .int .u64 0, .int .u64 0, .int .u64 0, .int .i64 0, .int .i64 0] := Br.alloc _
    replace hB : Below w.heap.size w (w2.alloc (.cells #[uv PlainScalar.any.b.v, uv PlainScalar.any.b.m, uv PlainScalar.any.lo, uv PlainScalar.any.hi, sv PlainScalar.any.sl, sv PlainScalar.any.sh] 39)) := Bl_alloc hB _
    generalize (w2.alloc (.cells #[uv PlainScalar.any.b.v, uv PlainScalar.any.b.m, uv PlainScalar.any.lo, uv PlainScalar.any.hi, sv PlainScalar.any.sl, sv PlainScalar.any.sh] 39)) = w3 at *
    generalize w2.heap.size = go at *
    have ca0 : w3.cell? ⟨w.heap.size, 0, none⟩ = some (uv a.b.v) := Ba.cell 0
    have ca1 : w3.cell? ⟨w.heap.size, 1, none⟩ = some (uv a.b.m) := Ba.cell 1
    have ca2 : w3.cell? ⟨w.heap.size, 2, none⟩ = some (uv a.lo) := Ba.cell 2
    have ca3 : w3.cell? ⟨w.heap.size, 3, none⟩ = some (uv a.hi) := Ba.cell 3
    have ca4 : w3.cell? ⟨w.heap.size, 4, none⟩ = some (sv a.sl) := Ba.cell 4
    have ca5 : w3.cell? ⟨w.heap.size, 5, none⟩ = some (sv a.sh) := Ba.cell 5
    have fa := Ba.frozen
    have la := Ba.lt
    have cb0 : w3.cell? ⟨w.heap.size + 1, 0, none⟩ = some (uv b.b.v) := Bb.cell 0
    have cb1 : w3.cell? ⟨w.heap.size + 1, 1, none⟩ = some (uv b.b.m) := Bb.cell 1
    have cb2 : w3.cell? ⟨w.heap.size + 1, 2, none⟩ = some (uv b.lo) := Bb.cell 2
    have cb3 : w3.cell? ⟨w.heap.size + 1, 3, none⟩ = some (uv b.hi) := Bb.cell 3
    have cb4 : w3.cell? ⟨w.heap.size + 1, 4, none⟩ = some (sv b.sl) := Bb.cell 4
    have cb5 : w3.cell? ⟨w.heap.size + 1, 5, none⟩ = some (sv b.sh) := Bb.cell 5
    have fb := Bb.frozen
    have lb := Bb.lt
    have cr0 : w3.cell? ⟨w.heap.size + 1 + 1, 0, none⟩ = some (.int .u64 0) := Br.cell 0
    have cr1 : w3.cell? ⟨w.heap.size + 1 + 1, 1, none⟩ = some (.int .u64 0) := Br.cell 1
    have cr2 : w3.cell? ⟨w.heap.size + 1 + 1, 2, none⟩ = some (.int .u64 0) := Br.cell 2
    have cr3 : w3.cell? ⟨w.heap.size + 1 + 1, 3, none⟩ = some (.int .u64 0) := Br.cell 3
    have cr4 : w3.cell? ⟨w.heap.size + 1 + 1, 4, none⟩ = some (.int .i64 0) := Br.cell 4
    have cr5 : w3.cell? ⟨w.heap.size + 1 + 1, 5, none⟩ = some (.int .i64 0) := Br.cell 5
    have fr := Br.frozen
    have lr := Br.lt
    have co0 : w3.cell? ⟨go, 0, none⟩ = some (uv PlainScalar.any.b.v) := Bo.cell 0
    have co1 : w3.cell? ⟨go, 1, none⟩ = some (uv PlainScalar.any.b.m) := Bo.cell 1
    have co2 : w3.cell? ⟨go, 2, none⟩ = some (uv PlainScalar.any.lo) := Bo.cell 2
    have co3 : w3.cell? ⟨go, 3, none⟩ = some (uv PlainScalar.any.hi) := Bo.cell 3
    have co4 : w3.cell? ⟨go, 4, none⟩ = some (sv PlainScalar.any.sl) := Bo.cell 4
    have co5 : w3.cell? ⟨go, 5, none⟩ = some (sv PlainScalar.any.sh) := Bo.cell 5
    have fo := Bo.frozen
    have lo := Bo.lt
    go_wp2_with fail
    refine (xor_c _ _ _).mono ?_
    rintro e w4 ⟨rfl, hb⟩
    clear ca0 ca1 ca2 ca3 ca4 ca5 fa la
    clear cb0 cb1 cb2 cb3 cb4 cb5 fb lb
    clear cr0 cr1 cr2 cr3 cr4 cr5 fr lr
    clear co0 co1 co2 co3 co4 co5 fo lo
    replace Ba := (Ba).next hb
    replace Bb := (Bb).next hb
    replace Br := (Br).next hb
    replace Bo := (Bo).next hb
    replace hB : Below w.heap.size w w4 := by repeat (first | exact hB | (refine Bl_set ?_ (by first | omega | (simp; omega)) _) | apply Bl_alloc | (refine Bl_trans ?_ hb))
    clear hb
    have ca0 : w4.cell? ⟨w.heap.size, 0, none⟩ = some (uv a.b.v) := Ba.cell 0
    have ca1 : w4.cell? ⟨w.heap.size, 1, none⟩ = some (uv a.b.m) := Ba.cell 1
    have ca2 : w4.cell? ⟨w.heap.size, 2, none⟩ = some (uv a.lo) := Ba.cell 2
    have ca3 : w4.cell? ⟨w.heap.size, 3, none⟩ = some (uv a.hi) := Ba.cell 3
    have ca4 : w4.cell? ⟨w.heap.size, 4, none⟩ = some (sv a.sl) := Ba.cell 4
    have ca5 : w4.cell? ⟨w.heap.size, 5, none⟩ = some (sv a.sh) := Ba.cell 5
    have fa := Ba.frozen
    have la := Ba.lt
    have cb0 : w4.cell? ⟨w.heap.size + 1, 0, none⟩ = some (uv b.b.v) := Bb.cell 0
    have cb1 : w4.cell? ⟨w.heap.size + 1, 1, none⟩ = some (uv b.b.m) := Bb.cell 1
    have cb2 : w4.cell? ⟨w.heap.size + 1, 2, none⟩ = some (uv b.lo) := Bb.cell 2
    have cb3 : w4.cell? ⟨w.heap.size + 1, 3, none⟩ = some (uv b.hi) := Bb.cell 3
    have cb4 : w4.cell? ⟨w.heap.size + 1, 4, none⟩ = some (sv b.sl) := Bb.cell 4
    have cb5 : w4.cell? ⟨w.heap.size + 1, 5, none⟩ = some (sv b.sh) := Bb.cell 5
    have fb := Bb.frozen
    have lb := Bb.lt
    have cr0 : w4.cell? ⟨w.heap.size + 1 + 1, 0, none⟩ = some (.int .u64 0) := Br.cell 0
    have cr1 : w4.cell? ⟨w.heap.size + 1 + 1, 1, none⟩ = some (.int .u64 0) := Br.cell 1
    have cr2 : w4.cell? ⟨w.heap.size + 1 + 1, 2, none⟩ = some (.int .u64 0) := Br.cell 2
    have cr3 : w4.cell? ⟨w.heap.size + 1 + 1, 3, none⟩ = some (.int .u64 0) := Br.cell 3
    have cr4 : w4.cell? ⟨w.heap.size + 1 + 1, 4, none⟩ = some (.int .i64 0) := Br.cell 4
    have cr5 : w4.cell? ⟨w.heap.size + 1 + 1, 5, none⟩ = some (.int .i64 0) := Br.cell 5
    have fr := Br.frozen
    have lr := Br.lt
    have co0 : w4.cell? ⟨go, 0, none⟩ = some (uv PlainScalar.any.b.v) := Bo.cell 0
    have co1 : w4.cell? ⟨go, 1, none⟩ = some (uv PlainScalar.any.b.m) := Bo.cell 1
    have co2 : w4.cell? ⟨go, 2, none⟩ = some (uv PlainScalar.any.lo) := Bo.cell 2
    have co3 : w4.cell? ⟨go, 3, none⟩ = some (uv PlainScalar.any.hi) := Bo.cell 3
    have co4 : w4.cell? ⟨go, 4, none⟩ = some (sv PlainScalar.any.sl) := Bo.cell 4
    have co5 : w4.cell? ⟨go, 5, none⟩ = some (sv PlainScalar.any.sh) := Bo.cell 5
    have fo := Bo.frozen
    have lo := Bo.lt
    go_upto_region 10 with fail
    clear ca0 ca1 ca2 ca3 ca4 ca5 fa la
    clear cb0 cb1 cb2 cb3 cb4 cb5 fb lb
    clear cr0 cr1 cr2 cr3 cr4 cr5 fr lr
    clear co0 co1 co2 co3 co4 co5 fo lo
    replace Ba : Blk (w4.setCell ⟨go, 0, none⟩ (uv (PlainTnum.xor a.b b.b).v)) (w.heap.size) 39 #[uv a.b.v, uv a.b.m, uv a.lo, uv a.hi, sv a.sl, sv a.sh] := (Ba.far (by first | (simp; done) | (simp; omega) | (simp [*]; done) | (simp only [ne_eq]; constructor <;> omega)) _)
    replace Bb : Blk (w4.setCell ⟨go, 0, none⟩ (uv (PlainTnum.xor a.b b.b).v)) (w.heap.size + 1) 39 #[uv b.b.v, uv b.b.m, uv b.lo, uv b.hi, sv b.sl, sv b.sh] := (Bb.far (by first | (simp; done) | (simp; omega) | (simp [*]; done) | (simp only [ne_eq]; constructor <;> omega)) _)
    replace Br : Blk (w4.setCell ⟨go, 0, none⟩ (uv (PlainTnum.xor a.b b.b).v)) (w.heap.size + 1 + 1) 39 #[.int .u64 0, .int .u64 0, .int .u64 0, .int .u64 0, .int .i64 0, .int .i64 0] := (Br.far (by first | (simp; done) | (simp; omega) | (simp [*]; done) | (simp only [ne_eq]; constructor <;> omega)) _)
    replace Bo : Blk (w4.setCell ⟨go, 0, none⟩ (uv (PlainTnum.xor a.b b.b).v)) (go) 39 #[uv (PlainTnum.xor a.b b.b).v, uv PlainScalar.any.b.m, uv PlainScalar.any.lo, uv PlainScalar.any.hi, sv PlainScalar.any.sl, sv PlainScalar.any.sh] := Bo.set_ 0 _
    replace hB : Below w.heap.size w (w4.setCell ⟨go, 0, none⟩ (uv (PlainTnum.xor a.b b.b).v)) := (Bl_set hB (by first | omega | (simp; done) | (simp; omega)) _)
    replace Ba : Blk ((w4.setCell ⟨go, 0, none⟩ (uv (PlainTnum.xor a.b b.b).v)).setCell ⟨go, 1, none⟩ (uv (PlainTnum.xor a.b b.b).m)) (w.heap.size) 39 #[uv a.b.v, uv a.b.m, uv a.lo, uv a.hi, sv a.sl, sv a.sh] := (Ba.far (by first | (simp; done) | (simp; omega) | (simp [*]; done) | (simp only [ne_eq]; constructor <;> omega)) _)
    replace Bb : Blk ((w4.setCell ⟨go, 0, none⟩ (uv (PlainTnum.xor a.b b.b).v)).setCell ⟨go, 1, none⟩ (uv (PlainTnum.xor a.b b.b).m)) (w.heap.size + 1) 39 #[uv b.b.v, uv b.b.m, uv b.lo, uv b.hi, sv b.sl, sv b.sh] := (Bb.far (by first | (simp; done) | (simp; omega) | (simp [*]; done) | (simp only [ne_eq]; constructor <;> omega)) _)
    replace Br : Blk ((w4.setCell ⟨go, 0, none⟩ (uv (PlainTnum.xor a.b b.b).v)).setCell ⟨go, 1, none⟩ (uv (PlainTnum.xor a.b b.b).m)) (w.heap.size + 1 + 1) 39 #[.int .u64 0, .int .u64 0, .int .u64 0, .int .u64 0, .int .i64 0, .int .i64 0] := (Br.far (by first | (simp; done) | (simp; omega) | (simp [*]; done) | (simp only [ne_eq]; constructor <;> omega)) _)
    replace Bo : Blk ((w4.setCell ⟨go, 0, none⟩ (uv (PlainTnum.xor a.b b.b).v)).setCell ⟨go, 1, none⟩ (uv (PlainTnum.xor a.b b.b).m)) (go) 39 #[uv (PlainTnum.xor a.b b.b).v, uv (PlainTnum.xor a.b b.b).m, uv PlainScalar.any.lo, uv PlainScalar.any.hi, sv PlainScalar.any.sl, sv PlainScalar.any.sh] := Bo.set_ 1 _
    replace hB : Below w.heap.size w ((w4.setCell ⟨go, 0, none⟩ (uv (PlainTnum.xor a.b b.b).v)).setCell ⟨go, 1, none⟩ (uv (PlainTnum.xor a.b b.b).m)) := (Bl_set hB (by first | omega | (simp; done) | (simp; omega)) _)
    generalize ((w4.setCell ⟨go, 0, none⟩ (uv (PlainTnum.xor a.b b.b).v)).setCell ⟨go, 1, none⟩ (uv (PlainTnum.xor a.b b.b).m)) = w5 at *
    have ca0 : w5.cell? ⟨w.heap.size, 0, none⟩ = some (uv a.b.v) := Ba.cell 0
    have ca1 : w5.cell? ⟨w.heap.size, 1, none⟩ = some (uv a.b.m) := Ba.cell 1
    have ca2 : w5.cell? ⟨w.heap.size, 2, none⟩ = some (uv a.lo) := Ba.cell 2
    have ca3 : w5.cell? ⟨w.heap.size, 3, none⟩ = some (uv a.hi) := Ba.cell 3
    have ca4 : w5.cell? ⟨w.heap.size, 4, none⟩ = some (sv a.sl) := Ba.cell 4
    have ca5 : w5.cell? ⟨w.heap.size, 5, none⟩ = some (sv a.sh) := Ba.cell 5
    have fa := Ba.frozen
    have la := Ba.lt
    have cb0 : w5.cell? ⟨w.heap.size + 1, 0, none⟩ = some (uv b.b.v) := Bb.cell 0
    have cb1 : w5.cell? ⟨w.heap.size + 1, 1, none⟩ = some (uv b.b.m) := Bb.cell 1
    have cb2 : w5.cell? ⟨w.heap.size + 1, 2, none⟩ = some (uv b.lo) := Bb.cell 2
    have cb3 : w5.cell? ⟨w.heap.size + 1, 3, none⟩ = some (uv b.hi) := Bb.cell 3
    have cb4 : w5.cell? ⟨w.heap.size + 1, 4, none⟩ = some (sv b.sl) := Bb.cell 4
    have cb5 : w5.cell? ⟨w.heap.size + 1, 5, none⟩ = some (sv b.sh) := Bb.cell 5
    have fb := Bb.frozen
    have lb := Bb.lt
    have cr0 : w5.cell? ⟨w.heap.size + 1 + 1, 0, none⟩ = some (.int .u64 0) := Br.cell 0
    have cr1 : w5.cell? ⟨w.heap.size + 1 + 1, 1, none⟩ = some (.int .u64 0) := Br.cell 1
    have cr2 : w5.cell? ⟨w.heap.size + 1 + 1, 2, none⟩ = some (.int .u64 0) := Br.cell 2
    have cr3 : w5.cell? ⟨w.heap.size + 1 + 1, 3, none⟩ = some (.int .u64 0) := Br.cell 3
    have cr4 : w5.cell? ⟨w.heap.size + 1 + 1, 4, none⟩ = some (.int .i64 0) := Br.cell 4
    have cr5 : w5.cell? ⟨w.heap.size + 1 + 1, 5, none⟩ = some (.int .i64 0) := Br.cell 5
    have fr := Br.frozen
    have lr := Br.lt
    have co0 : w5.cell? ⟨go, 0, none⟩ = some (uv (PlainTnum.xor a.b b.b).v) := Bo.cell 0
    have co1 : w5.cell? ⟨go, 1, none⟩ = some (uv (PlainTnum.xor a.b b.b).m) := Bo.cell 1
    have co2 : w5.cell? ⟨go, 2, none⟩ = some (uv PlainScalar.any.lo) := Bo.cell 2
    have co3 : w5.cell? ⟨go, 3, none⟩ = some (uv PlainScalar.any.hi) := Bo.cell 3
    have co4 : w5.cell? ⟨go, 4, none⟩ = some (sv PlainScalar.any.sl) := Bo.cell 4
    have co5 : w5.cell? ⟨go, 5, none⟩ = some (sv PlainScalar.any.sh) := Bo.cell 5
    have fo := Bo.frozen
    have lo := Bo.lt
    go_wp2_with fail
    refine (settled_c (⟨PlainTnum.xor a.b b.b, PlainScalar.any.lo, PlainScalar.any.hi, PlainScalar.any.sl, PlainScalar.any.sh⟩ : Rng) _).mono ?_
    rintro e w6 ⟨rfl, hb⟩
    clear ca0 ca1 ca2 ca3 ca4 ca5 fa la
    clear cb0 cb1 cb2 cb3 cb4 cb5 fb lb
    clear cr0 cr1 cr2 cr3 cr4 cr5 fr lr
    clear co0 co1 co2 co3 co4 co5 fo lo
    replace Ba := (Ba).next hb
    replace Bb := (Bb).next hb
    replace Br := (Br).next hb
    replace Bo := (Bo).next hb
    replace hB : Below w.heap.size w w6 := by repeat (first | exact hB | (refine Bl_set ?_ (by first | omega | (simp; omega)) _) | apply Bl_alloc | (refine Bl_trans ?_ hb))
    clear hb
    have ca0 : w6.cell? ⟨w.heap.size, 0, none⟩ = some (uv a.b.v) := Ba.cell 0
    have ca1 : w6.cell? ⟨w.heap.size, 1, none⟩ = some (uv a.b.m) := Ba.cell 1
    have ca2 : w6.cell? ⟨w.heap.size, 2, none⟩ = some (uv a.lo) := Ba.cell 2
    have ca3 : w6.cell? ⟨w.heap.size, 3, none⟩ = some (uv a.hi) := Ba.cell 3
    have ca4 : w6.cell? ⟨w.heap.size, 4, none⟩ = some (sv a.sl) := Ba.cell 4
    have ca5 : w6.cell? ⟨w.heap.size, 5, none⟩ = some (sv a.sh) := Ba.cell 5
    have fa := Ba.frozen
    have la := Ba.lt
    have cb0 : w6.cell? ⟨w.heap.size + 1, 0, none⟩ = some (uv b.b.v) := Bb.cell 0
    have cb1 : w6.cell? ⟨w.heap.size + 1, 1, none⟩ = some (uv b.b.m) := Bb.cell 1
    have cb2 : w6.cell? ⟨w.heap.size + 1, 2, none⟩ = some (uv b.lo) := Bb.cell 2
    have cb3 : w6.cell? ⟨w.heap.size + 1, 3, none⟩ = some (uv b.hi) := Bb.cell 3
    have cb4 : w6.cell? ⟨w.heap.size + 1, 4, none⟩ = some (sv b.sl) := Bb.cell 4
    have cb5 : w6.cell? ⟨w.heap.size + 1, 5, none⟩ = some (sv b.sh) := Bb.cell 5
    have fb := Bb.frozen
    have lb := Bb.lt
    have cr0 : w6.cell? ⟨w.heap.size + 1 + 1, 0, none⟩ = some (.int .u64 0) := Br.cell 0
    have cr1 : w6.cell? ⟨w.heap.size + 1 + 1, 1, none⟩ = some (.int .u64 0) := Br.cell 1
    have cr2 : w6.cell? ⟨w.heap.size + 1 + 1, 2, none⟩ = some (.int .u64 0) := Br.cell 2
    have cr3 : w6.cell? ⟨w.heap.size + 1 + 1, 3, none⟩ = some (.int .u64 0) := Br.cell 3
    have cr4 : w6.cell? ⟨w.heap.size + 1 + 1, 4, none⟩ = some (.int .i64 0) := Br.cell 4
    have cr5 : w6.cell? ⟨w.heap.size + 1 + 1, 5, none⟩ = some (.int .i64 0) := Br.cell 5
    have fr := Br.frozen
    have lr := Br.lt
    have co0 : w6.cell? ⟨go, 0, none⟩ = some (uv (PlainTnum.xor a.b b.b).v) := Bo.cell 0
    have co1 : w6.cell? ⟨go, 1, none⟩ = some (uv (PlainTnum.xor a.b b.b).m) := Bo.cell 1
    have co2 : w6.cell? ⟨go, 2, none⟩ = some (uv PlainScalar.any.lo) := Bo.cell 2
    have co3 : w6.cell? ⟨go, 3, none⟩ = some (uv PlainScalar.any.hi) := Bo.cell 3
    have co4 : w6.cell? ⟨go, 4, none⟩ = some (sv PlainScalar.any.sl) := Bo.cell 4
    have co5 : w6.cell? ⟨go, 5, none⟩ = some (sv PlainScalar.any.sh) := Bo.cell 5
    have fo := Bo.frozen
    have lo := Bo.lt
    go_wp2
    exact bodyPost_ret (v := rv (PlainScalar.settled ⟨PlainTnum.xor a.b b.b, PlainScalar.any.lo, PlainScalar.any.hi, PlainScalar.any.sl, PlainScalar.any.sh⟩)) (by simp [results, Try.results44, go_sem, cr0, cr1, cr2, cr3, cr4, cr5, lr]) rfl ⟨by rw [hs], by repeat (first | (with_reducible exact hB) | (with_reducible refine Bl_set ?_ (by first | omega | (simp; done) | (simp; omega)) _) | with_reducible apply Bl_alloc)⟩
end Go.Proofs.Ytmghpoagpiljhac
