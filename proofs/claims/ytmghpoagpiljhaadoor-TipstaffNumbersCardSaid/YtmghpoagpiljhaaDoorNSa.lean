/- The walks of package scalar that TipstaffNumbers needs: sum, difference, and; Eval. -/
import Derived.Test.YtmghpoagpiljhaaDoorSc4
import Derived.Test.YtmghpoagpiljhaaDoorMixS
import Derived.Test.YtmghpoagpiljhaaDoorMul
import Derived.Laws.Externs
import Derived.Test.YtmghpoagpiljhaaDoorEval
set_option linter.unusedSimpArgs false
set_option linter.unusedVariables false
namespace Go.Proofs.YtmghpoagpiljhaaDoor
open Go.RowKit
open PlainTnum (N)
open PlainScalar (Rng)
theorem add64_run (x y : W) (w : World) : (callFunc 77 #[uv x, uv y, .int .u64 0]).run Tryd.prog w = .ok (.value (.tuple #[uv (x + y), .int .u64 (((x.toNat + y.toNat) / 18446744073709551616 : Nat) : Int)])) w := by
  have hx : T x < 18446744073709551616 := by have := x.isLt; unfold T; omega
  have hy : T y < 18446744073709551616 := by have := y.isLt; unfold T; omega
  unfold uv
  rw [run_callFunc_extern Tryd.func77 (by kernel_rfl) (by kernel_rfl) (by kernel_rfl) (e := add64Entry) (by kernel_rfl), run_add64 (T x) (T y) 0 (by unfold T; omega) (by unfold T; omega) (by decide) (by decide)]
  simp only [Result.andThen]
  have e1 : T (x + y) = (T x + T y) % 18446744073709551616 := by unfold T; rw [BitVec.toNat_add]; omega
  rw [e1]
  unfold T
  congr 5 <;> omega
set_option maxRecDepth 100000 in
set_option maxHeartbeats 3200000 in
theorem sdiff_c (a b : Rng) (w : World) : Calls Tryd.prog 58 #[rv a, rv b] w fun e w' => e = .returned (rv (PlainScalar.difference a b)) ∧ Below w.heap.size w w' := by
  cases q : decide (b.hi.toNat ≤ a.lo.toNat)
  · have hs : PlainScalar.difference a b = PlainScalar.settled ⟨(PlainTnum.sub a.b b.b), PlainScalar.any.lo, PlainScalar.any.hi, PlainScalar.any.sl, PlainScalar.any.sh⟩ := by unfold PlainScalar.difference; rw [if_neg (show ¬ _ from of_decide_eq_false q)]
    go_enter Tryd.func58, Tryd.ntmps58
    go_wp2_with fail
    obtain ⟨ga, hga⟩ : ∃ g, g = w.heap.size := ⟨_, rfl⟩
    obtain ⟨gb, hgb⟩ : ∃ g, g = w.heap.size + 1 := ⟨_, rfl⟩
    obtain ⟨gr, hgr⟩ : ∃ g, g = w.heap.size + 1 + 1 := ⟨_, rfl⟩
    have Ba : Blk (((w.alloc (.cells #[uv a.b.v, uv a.b.m, uv a.lo, uv a.hi, sv a.sl, sv a.sh] 43)).alloc (.cells #[uv b.b.v, uv b.b.m, uv b.lo, uv b.hi, sv b.sl, sv b.sh] 43)).alloc (.cells #[.int .u64 0, .int .u64 0, .int .u64 0, .int .u64 0, .int .i64 0, .int .i64 0] 43)) (w.heap.size) 43 #[uv a.b.v, uv a.b.m, uv a.lo, uv a.hi, sv a.sl, sv a.sh] := (((Blk.new w 43 #[uv a.b.v, uv a.b.m, uv a.lo, uv a.hi, sv a.sl, sv a.sh])).alloc _).alloc _
    have Bb : Blk (((w.alloc (.cells #[uv a.b.v, uv a.b.m, uv a.lo, uv a.hi, sv a.sl, sv a.sh] 43)).alloc (.cells #[uv b.b.v, uv b.b.m, uv b.lo, uv b.hi, sv b.sl, sv b.sh] 43)).alloc (.cells #[.int .u64 0, .int .u64 0, .int .u64 0, .int .u64 0, .int .i64 0, .int .i64 0] 43)) (w.heap.size + 1) 43 #[uv b.b.v, uv b.b.m, uv b.lo, uv b.hi, sv b.sl, sv b.sh] := ((by simpa using Blk.new (w.alloc (.cells #[uv a.b.v, uv a.b.m, uv a.lo, uv a.hi, sv a.sl, sv a.sh] 43)) 43 #[uv b.b.v, uv b.b.m, uv b.lo, uv b.hi, sv b.sl, sv b.sh] : Blk _ (w.heap.size + 1) 43 #[uv b.b.v, uv b.b.m, uv b.lo, uv b.hi, sv b.sl, sv b.sh])).alloc _
    have Br : Blk (((w.alloc (.cells #[uv a.b.v, uv a.b.m, uv a.lo, uv a.hi, sv a.sl, sv a.sh] 43)).alloc (.cells #[uv b.b.v, uv b.b.m, uv b.lo, uv b.hi, sv b.sl, sv b.sh] 43)).alloc (.cells #[.int .u64 0, .int .u64 0, .int .u64 0, .int .u64 0, .int .i64 0, .int .i64 0] 43)) (w.heap.size + 1 + 1) 43 #[.int .u64 0, .int .u64 0, .int .u64 0, .int .u64 0, .int .i64 0, .int .i64 0] := (by simpa using Blk.new ((w.alloc (.cells #[uv a.b.v, uv a.b.m, uv a.lo, uv a.hi, sv a.sl, sv a.sh] 43)).alloc (.cells #[uv b.b.v, uv b.b.m, uv b.lo, uv b.hi, sv b.sl, sv b.sh] 43)) 43 #[.int .u64 0, .int .u64 0, .int .u64 0, .int .u64 0, .int .i64 0, .int .i64 0] : Blk _ (w.heap.size + 1 + 1) 43 #[.int .u64 0, .int .u64 0, .int .u64 0, .int .u64 0, .int .i64 0, .int .i64 0])
    have hB : Below w.heap.size w (((w.alloc (.cells #[uv a.b.v, uv a.b.m, uv a.lo, uv a.hi, sv a.sl, sv a.sh] 43)).alloc (.cells #[uv b.b.v, uv b.b.m, uv b.lo, uv b.hi, sv b.sl, sv b.sh] 43)).alloc (.cells #[.int .u64 0, .int .u64 0, .int .u64 0, .int .u64 0, .int .i64 0, .int .i64 0] 43)) := (Bl_alloc (Bl_alloc (Bl_alloc (Bl_refl w) _) _) _)
    clear hga
    clear ga
    clear hgb
    clear gb
    clear hgr
    clear gr
    generalize (((w.alloc (.cells #[uv a.b.v, uv a.b.m, uv a.lo, uv a.hi, sv a.sl, sv a.sh] 43)).alloc (.cells #[uv b.b.v, uv b.b.m, uv b.lo, uv b.hi, sv b.sl, sv b.sh] 43)).alloc (.cells #[.int .u64 0, .int .u64 0, .int .u64 0, .int .u64 0, .int .i64 0, .int .i64 0] 43)) = w1 at *
    have ca0 : w1.cell? ⟨w.heap.size, 0, none⟩ = some (uv a.b.v) := Ba.cell 0
    have ca1 : w1.cell? ⟨w.heap.size, 1, none⟩ = some (uv a.b.m) := Ba.cell 1
    have ca2 : w1.cell? ⟨w.heap.size, 2, none⟩ = some (uv a.lo) := Ba.cell 2
    have ca3 : w1.cell? ⟨w.heap.size, 3, none⟩ = some (uv a.hi) := Ba.cell 3
    have ca4 : w1.cell? ⟨w.heap.size, 4, none⟩ = some (sv a.sl) := Ba.cell 4
    have ca5 : w1.cell? ⟨w.heap.size, 5, none⟩ = some (sv a.sh) := Ba.cell 5
    have fa := Ba.frozen
    have la := Ba.lt
    have cb0 : w1.cell? ⟨w.heap.size + 1, 0, none⟩ = some (uv b.b.v) := Bb.cell 0
    have cb1 : w1.cell? ⟨w.heap.size + 1, 1, none⟩ = some (uv b.b.m) := Bb.cell 1
    have cb2 : w1.cell? ⟨w.heap.size + 1, 2, none⟩ = some (uv b.lo) := Bb.cell 2
    have cb3 : w1.cell? ⟨w.heap.size + 1, 3, none⟩ = some (uv b.hi) := Bb.cell 3
    have cb4 : w1.cell? ⟨w.heap.size + 1, 4, none⟩ = some (sv b.sl) := Bb.cell 4
    have cb5 : w1.cell? ⟨w.heap.size + 1, 5, none⟩ = some (sv b.sh) := Bb.cell 5
    have fb := Bb.frozen
    have lb := Bb.lt
    have cr0 : w1.cell? ⟨w.heap.size + 1 + 1, 0, none⟩ = some (.int .u64 0) := Br.cell 0
    have cr1 : w1.cell? ⟨w.heap.size + 1 + 1, 1, none⟩ = some (.int .u64 0) := Br.cell 1
    have cr2 : w1.cell? ⟨w.heap.size + 1 + 1, 2, none⟩ = some (.int .u64 0) := Br.cell 2
    have cr3 : w1.cell? ⟨w.heap.size + 1 + 1, 3, none⟩ = some (.int .u64 0) := Br.cell 3
    have cr4 : w1.cell? ⟨w.heap.size + 1 + 1, 4, none⟩ = some (.int .i64 0) := Br.cell 4
    have cr5 : w1.cell? ⟨w.heap.size + 1 + 1, 5, none⟩ = some (.int .i64 0) := Br.cell 5
    have fr := Br.frozen
    have lr := Br.lt
    go_wp2_with fail
    refine (sany_c _).mono ?_
    rintro e w2 ⟨rfl, hb⟩
    clear ca0 ca1 ca2 ca3 ca4 ca5 fa la
    clear cb0 cb1 cb2 cb3 cb4 cb5 fb lb
    clear cr0 cr1 cr2 cr3 cr4 cr5 fr lr
    replace Ba := (Ba).next hb
    replace Bb := (Bb).next hb
    replace Br := (Br).next hb
    replace hB : Below w.heap.size w w2 := by repeat (first | exact hB | (refine Bl_set ?_ (by first | omega | (simp; omega)) _) | apply Bl_alloc | (refine Bl_trans ?_ hb))
    clear hb
    have ca0 : w2.cell? ⟨w.heap.size, 0, none⟩ = some (uv a.b.v) := Ba.cell 0
    have ca1 : w2.cell? ⟨w.heap.size, 1, none⟩ = some (uv a.b.m) := Ba.cell 1
    have ca2 : w2.cell? ⟨w.heap.size, 2, none⟩ = some (uv a.lo) := Ba.cell 2
    have ca3 : w2.cell? ⟨w.heap.size, 3, none⟩ = some (uv a.hi) := Ba.cell 3
    have ca4 : w2.cell? ⟨w.heap.size, 4, none⟩ = some (sv a.sl) := Ba.cell 4
    have ca5 : w2.cell? ⟨w.heap.size, 5, none⟩ = some (sv a.sh) := Ba.cell 5
    have fa := Ba.frozen
    have la := Ba.lt
    have cb0 : w2.cell? ⟨w.heap.size + 1, 0, none⟩ = some (uv b.b.v) := Bb.cell 0
    have cb1 : w2.cell? ⟨w.heap.size + 1, 1, none⟩ = some (uv b.b.m) := Bb.cell 1
    have cb2 : w2.cell? ⟨w.heap.size + 1, 2, none⟩ = some (uv b.lo) := Bb.cell 2
    have cb3 : w2.cell? ⟨w.heap.size + 1, 3, none⟩ = some (uv b.hi) := Bb.cell 3
    have cb4 : w2.cell? ⟨w.heap.size + 1, 4, none⟩ = some (sv b.sl) := Bb.cell 4
    have cb5 : w2.cell? ⟨w.heap.size + 1, 5, none⟩ = some (sv b.sh) := Bb.cell 5
    have fb := Bb.frozen
    have lb := Bb.lt
    have cr0 : w2.cell? ⟨w.heap.size + 1 + 1, 0, none⟩ = some (.int .u64 0) := Br.cell 0
    have cr1 : w2.cell? ⟨w.heap.size + 1 + 1, 1, none⟩ = some (.int .u64 0) := Br.cell 1
    have cr2 : w2.cell? ⟨w.heap.size + 1 + 1, 2, none⟩ = some (.int .u64 0) := Br.cell 2
    have cr3 : w2.cell? ⟨w.heap.size + 1 + 1, 3, none⟩ = some (.int .u64 0) := Br.cell 3
    have cr4 : w2.cell? ⟨w.heap.size + 1 + 1, 4, none⟩ = some (.int .i64 0) := Br.cell 4
    have cr5 : w2.cell? ⟨w.heap.size + 1 + 1, 5, none⟩ = some (.int .i64 0) := Br.cell 5
    have fr := Br.frozen
    have lr := Br.lt
    go_upto_region 2 with fail
    clear ca0 ca1 ca2 ca3 ca4 ca5 fa la
    clear cb0 cb1 cb2 cb3 cb4 cb5 fb lb
    clear cr0 cr1 cr2 cr3 cr4 cr5 fr lr
    have Bo := Blk.new w2 43 #[uv PlainScalar.any.b.v, uv PlainScalar.any.b.m, uv PlainScalar.any.lo, uv PlainScalar.any.hi, sv PlainScalar.any.sl, sv PlainScalar.any.sh]
    have hgo := hB.size
    have hnao := Nat.ne_of_lt Ba.lt; have hltao := Ba.lt
    have hnbo := Nat.ne_of_lt Bb.lt; have hltbo := Bb.lt
    have hnro := Nat.ne_of_lt Br.lt; have hltro := Br.lt
    replace Ba : Blk (w2.alloc (.cells #[uv PlainScalar.any.b.v, uv PlainScalar.any.b.m, uv PlainScalar.any.lo, uv PlainScalar.any.hi, sv PlainScalar.any.sl, sv PlainScalar.any.sh] 43)) (w.heap.size) 43 #[uv a.b.v, uv a.b.m, uv a.lo, uv a.hi, sv a.sl, sv a.sh] := Ba.alloc _
    replace Bb : Blk (w2.alloc (.cells #[uv PlainScalar.any.b.v, uv PlainScalar.any.b.m, uv PlainScalar.any.lo, uv PlainScalar.any.hi, sv PlainScalar.any.sl, sv PlainScalar.any.sh] 43)) (w.heap.size + 1) 43 #[uv b.b.v, uv b.b.m, uv b.lo, uv b.hi, sv b.sl, sv b.sh] := Bb.alloc _
    replace Br : Blk (w2.alloc (.cells #[uv PlainScalar.any.b.v, uv PlainScalar.any.b.m, uv PlainScalar.any.lo, uv PlainScalar.any.hi, sv PlainScalar.any.sl, sv PlainScalar.any.sh] 43)) (w.heap.size + 1 + 1) 43 #[.int .u64 0, .int .u64 0, .int .u64 0, .int .u64 0, .int .i64 0, .int .i64 0] := Br.alloc _
    replace hB : Below w.heap.size w (w2.alloc (.cells #[uv PlainScalar.any.b.v, uv PlainScalar.any.b.m, uv PlainScalar.any.lo, uv PlainScalar.any.hi, sv PlainScalar.any.sl, sv PlainScalar.any.sh] 43)) := Bl_alloc hB _
    generalize (w2.alloc (.cells #[uv PlainScalar.any.b.v, uv PlainScalar.any.b.m, uv PlainScalar.any.lo, uv PlainScalar.any.hi, sv PlainScalar.any.sl, sv PlainScalar.any.sh] 43)) = w3 at *
    generalize w2.heap.size = go at *
    have ca0 : w3.cell? ⟨w.heap.size, 0, none⟩ = some (uv a.b.v) := Ba.cell 0
    have ca1 : w3.cell? ⟨w.heap.size, 1, none⟩ = some (uv a.b.m) := Ba.cell 1
    have ca2 : w3.cell? ⟨w.heap.size, 2, none⟩ = some (uv a.lo) := Ba.cell 2
    have ca3 : w3.cell? ⟨w.heap.size, 3, none⟩ = some (uv a.hi) := Ba.cell 3
    have ca4 : w3.cell? ⟨w.heap.size, 4, none⟩ = some (sv a.sl) := Ba.cell 4
    have ca5 : w3.cell? ⟨w.heap.size, 5, none⟩ = some (sv a.sh) := Ba.cell 5
    have fa := Ba.frozen
    have la := Ba.lt
    have cb0 : w3.cell? ⟨w.heap.size + 1, 0, none⟩ = some (uv b.b.v) := Bb.cell 0
    have cb1 : w3.cell? ⟨w.heap.size + 1, 1, none⟩ = some (uv b.b.m) := Bb.cell 1
    have cb2 : w3.cell? ⟨w.heap.size + 1, 2, none⟩ = some (uv b.lo) := Bb.cell 2
    have cb3 : w3.cell? ⟨w.heap.size + 1, 3, none⟩ = some (uv b.hi) := Bb.cell 3
    have cb4 : w3.cell? ⟨w.heap.size + 1, 4, none⟩ = some (sv b.sl) := Bb.cell 4
    have cb5 : w3.cell? ⟨w.heap.size + 1, 5, none⟩ = some (sv b.sh) := Bb.cell 5
    have fb := Bb.frozen
    have lb := Bb.lt
    have cr0 : w3.cell? ⟨w.heap.size + 1 + 1, 0, none⟩ = some (.int .u64 0) := Br.cell 0
    have cr1 : w3.cell? ⟨w.heap.size + 1 + 1, 1, none⟩ = some (.int .u64 0) := Br.cell 1
    have cr2 : w3.cell? ⟨w.heap.size + 1 + 1, 2, none⟩ = some (.int .u64 0) := Br.cell 2
    have cr3 : w3.cell? ⟨w.heap.size + 1 + 1, 3, none⟩ = some (.int .u64 0) := Br.cell 3
    have cr4 : w3.cell? ⟨w.heap.size + 1 + 1, 4, none⟩ = some (.int .i64 0) := Br.cell 4
    have cr5 : w3.cell? ⟨w.heap.size + 1 + 1, 5, none⟩ = some (.int .i64 0) := Br.cell 5
    have fr := Br.frozen
    have lr := Br.lt
    have co0 : w3.cell? ⟨go, 0, none⟩ = some (uv PlainScalar.any.b.v) := Bo.cell 0
    have co1 : w3.cell? ⟨go, 1, none⟩ = some (uv PlainScalar.any.b.m) := Bo.cell 1
    have co2 : w3.cell? ⟨go, 2, none⟩ = some (uv PlainScalar.any.lo) := Bo.cell 2
    have co3 : w3.cell? ⟨go, 3, none⟩ = some (uv PlainScalar.any.hi) := Bo.cell 3
    have co4 : w3.cell? ⟨go, 4, none⟩ = some (sv PlainScalar.any.sl) := Bo.cell 4
    have co5 : w3.cell? ⟨go, 5, none⟩ = some (sv PlainScalar.any.sh) := Bo.cell 5
    have fo := Bo.frozen
    have lo := Bo.lt
    go_wp2_with fail
    refine (sub_c _ _ _).mono ?_
    rintro e w4 ⟨rfl, hb⟩
    clear ca0 ca1 ca2 ca3 ca4 ca5 fa la
    clear cb0 cb1 cb2 cb3 cb4 cb5 fb lb
    clear cr0 cr1 cr2 cr3 cr4 cr5 fr lr
    clear co0 co1 co2 co3 co4 co5 fo lo
    replace Ba := (Ba).next hb
    replace Bb := (Bb).next hb
    replace Br := (Br).next hb
    replace Bo := (Bo).next hb
    replace hB : Below w.heap.size w w4 := by repeat (first | exact hB | (refine Bl_set ?_ (by first | omega | (simp; omega)) _) | apply Bl_alloc | (refine Bl_trans ?_ hb))
    clear hb
    have ca0 : w4.cell? ⟨w.heap.size, 0, none⟩ = some (uv a.b.v) := Ba.cell 0
    have ca1 : w4.cell? ⟨w.heap.size, 1, none⟩ = some (uv a.b.m) := Ba.cell 1
    have ca2 : w4.cell? ⟨w.heap.size, 2, none⟩ = some (uv a.lo) := Ba.cell 2
    have ca3 : w4.cell? ⟨w.heap.size, 3, none⟩ = some (uv a.hi) := Ba.cell 3
    have ca4 : w4.cell? ⟨w.heap.size, 4, none⟩ = some (sv a.sl) := Ba.cell 4
    have ca5 : w4.cell? ⟨w.heap.size, 5, none⟩ = some (sv a.sh) := Ba.cell 5
    have fa := Ba.frozen
    have la := Ba.lt
    have cb0 : w4.cell? ⟨w.heap.size + 1, 0, none⟩ = some (uv b.b.v) := Bb.cell 0
    have cb1 : w4.cell? ⟨w.heap.size + 1, 1, none⟩ = some (uv b.b.m) := Bb.cell 1
    have cb2 : w4.cell? ⟨w.heap.size + 1, 2, none⟩ = some (uv b.lo) := Bb.cell 2
    have cb3 : w4.cell? ⟨w.heap.size + 1, 3, none⟩ = some (uv b.hi) := Bb.cell 3
    have cb4 : w4.cell? ⟨w.heap.size + 1, 4, none⟩ = some (sv b.sl) := Bb.cell 4
    have cb5 : w4.cell? ⟨w.heap.size + 1, 5, none⟩ = some (sv b.sh) := Bb.cell 5
    have fb := Bb.frozen
    have lb := Bb.lt
    have cr0 : w4.cell? ⟨w.heap.size + 1 + 1, 0, none⟩ = some (.int .u64 0) := Br.cell 0
    have cr1 : w4.cell? ⟨w.heap.size + 1 + 1, 1, none⟩ = some (.int .u64 0) := Br.cell 1
    have cr2 : w4.cell? ⟨w.heap.size + 1 + 1, 2, none⟩ = some (.int .u64 0) := Br.cell 2
    have cr3 : w4.cell? ⟨w.heap.size + 1 + 1, 3, none⟩ = some (.int .u64 0) := Br.cell 3
    have cr4 : w4.cell? ⟨w.heap.size + 1 + 1, 4, none⟩ = some (.int .i64 0) := Br.cell 4
    have cr5 : w4.cell? ⟨w.heap.size + 1 + 1, 5, none⟩ = some (.int .i64 0) := Br.cell 5
    have fr := Br.frozen
    have lr := Br.lt
    have co0 : w4.cell? ⟨go, 0, none⟩ = some (uv PlainScalar.any.b.v) := Bo.cell 0
    have co1 : w4.cell? ⟨go, 1, none⟩ = some (uv PlainScalar.any.b.m) := Bo.cell 1
    have co2 : w4.cell? ⟨go, 2, none⟩ = some (uv PlainScalar.any.lo) := Bo.cell 2
    have co3 : w4.cell? ⟨go, 3, none⟩ = some (uv PlainScalar.any.hi) := Bo.cell 3
    have co4 : w4.cell? ⟨go, 4, none⟩ = some (sv PlainScalar.any.sl) := Bo.cell 4
    have co5 : w4.cell? ⟨go, 5, none⟩ = some (sv PlainScalar.any.sh) := Bo.cell 5
    have fo := Bo.frozen
    have lo := Bo.lt
    go_upto_region 3 with fail
    clear ca0 ca1 ca2 ca3 ca4 ca5 fa la
    clear cb0 cb1 cb2 cb3 cb4 cb5 fb lb
    clear cr0 cr1 cr2 cr3 cr4 cr5 fr lr
    clear co0 co1 co2 co3 co4 co5 fo lo
    replace Ba : Blk (w4.setCell ⟨go, 0, none⟩ (uv (PlainTnum.sub a.b b.b).v)) (w.heap.size) 43 #[uv a.b.v, uv a.b.m, uv a.lo, uv a.hi, sv a.sl, sv a.sh] := (Ba.far (by first | (simp; done) | (simp; omega) | (simp [*]; done) | (simp only [ne_eq]; constructor <;> omega)) _)
    replace Bb : Blk (w4.setCell ⟨go, 0, none⟩ (uv (PlainTnum.sub a.b b.b).v)) (w.heap.size + 1) 43 #[uv b.b.v, uv b.b.m, uv b.lo, uv b.hi, sv b.sl, sv b.sh] := (Bb.far (by first | (simp; done) | (simp; omega) | (simp [*]; done) | (simp only [ne_eq]; constructor <;> omega)) _)
    replace Br : Blk (w4.setCell ⟨go, 0, none⟩ (uv (PlainTnum.sub a.b b.b).v)) (w.heap.size + 1 + 1) 43 #[.int .u64 0, .int .u64 0, .int .u64 0, .int .u64 0, .int .i64 0, .int .i64 0] := (Br.far (by first | (simp; done) | (simp; omega) | (simp [*]; done) | (simp only [ne_eq]; constructor <;> omega)) _)
    replace Bo : Blk (w4.setCell ⟨go, 0, none⟩ (uv (PlainTnum.sub a.b b.b).v)) (go) 43 #[uv (PlainTnum.sub a.b b.b).v, uv PlainScalar.any.b.m, uv PlainScalar.any.lo, uv PlainScalar.any.hi, sv PlainScalar.any.sl, sv PlainScalar.any.sh] := Bo.set_ 0 _
    replace hB : Below w.heap.size w (w4.setCell ⟨go, 0, none⟩ (uv (PlainTnum.sub a.b b.b).v)) := (Bl_set hB (by first | omega | (simp; done) | (simp; omega)) _)
    replace Ba : Blk ((w4.setCell ⟨go, 0, none⟩ (uv (PlainTnum.sub a.b b.b).v)).setCell ⟨go, 1, none⟩ (uv (PlainTnum.sub a.b b.b).m)) (w.heap.size) 43 #[uv a.b.v, uv a.b.m, uv a.lo, uv a.hi, sv a.sl, sv a.sh] := (Ba.far (by first | (simp; done) | (simp; omega) | (simp [*]; done) | (simp only [ne_eq]; constructor <;> omega)) _)
    replace Bb : Blk ((w4.setCell ⟨go, 0, none⟩ (uv (PlainTnum.sub a.b b.b).v)).setCell ⟨go, 1, none⟩ (uv (PlainTnum.sub a.b b.b).m)) (w.heap.size + 1) 43 #[uv b.b.v, uv b.b.m, uv b.lo, uv b.hi, sv b.sl, sv b.sh] := (Bb.far (by first | (simp; done) | (simp; omega) | (simp [*]; done) | (simp only [ne_eq]; constructor <;> omega)) _)
    replace Br : Blk ((w4.setCell ⟨go, 0, none⟩ (uv (PlainTnum.sub a.b b.b).v)).setCell ⟨go, 1, none⟩ (uv (PlainTnum.sub a.b b.b).m)) (w.heap.size + 1 + 1) 43 #[.int .u64 0, .int .u64 0, .int .u64 0, .int .u64 0, .int .i64 0, .int .i64 0] := (Br.far (by first | (simp; done) | (simp; omega) | (simp [*]; done) | (simp only [ne_eq]; constructor <;> omega)) _)
    replace Bo : Blk ((w4.setCell ⟨go, 0, none⟩ (uv (PlainTnum.sub a.b b.b).v)).setCell ⟨go, 1, none⟩ (uv (PlainTnum.sub a.b b.b).m)) (go) 43 #[uv (PlainTnum.sub a.b b.b).v, uv (PlainTnum.sub a.b b.b).m, uv PlainScalar.any.lo, uv PlainScalar.any.hi, sv PlainScalar.any.sl, sv PlainScalar.any.sh] := Bo.set_ 1 _
    replace hB : Below w.heap.size w ((w4.setCell ⟨go, 0, none⟩ (uv (PlainTnum.sub a.b b.b).v)).setCell ⟨go, 1, none⟩ (uv (PlainTnum.sub a.b b.b).m)) := (Bl_set hB (by first | omega | (simp; done) | (simp; omega)) _)
    generalize ((w4.setCell ⟨go, 0, none⟩ (uv (PlainTnum.sub a.b b.b).v)).setCell ⟨go, 1, none⟩ (uv (PlainTnum.sub a.b b.b).m)) = w5 at *
    have ca0 : w5.cell? ⟨w.heap.size, 0, none⟩ = some (uv a.b.v) := Ba.cell 0
    have ca1 : w5.cell? ⟨w.heap.size, 1, none⟩ = some (uv a.b.m) := Ba.cell 1
    have ca2 : w5.cell? ⟨w.heap.size, 2, none⟩ = some (uv a.lo) := Ba.cell 2
    have ca3 : w5.cell? ⟨w.heap.size, 3, none⟩ = some (uv a.hi) := Ba.cell 3
    have ca4 : w5.cell? ⟨w.heap.size, 4, none⟩ = some (sv a.sl) := Ba.cell 4
    have ca5 : w5.cell? ⟨w.heap.size, 5, none⟩ = some (sv a.sh) := Ba.cell 5
    have fa := Ba.frozen
    have la := Ba.lt
    have cb0 : w5.cell? ⟨w.heap.size + 1, 0, none⟩ = some (uv b.b.v) := Bb.cell 0
    have cb1 : w5.cell? ⟨w.heap.size + 1, 1, none⟩ = some (uv b.b.m) := Bb.cell 1
    have cb2 : w5.cell? ⟨w.heap.size + 1, 2, none⟩ = some (uv b.lo) := Bb.cell 2
    have cb3 : w5.cell? ⟨w.heap.size + 1, 3, none⟩ = some (uv b.hi) := Bb.cell 3
    have cb4 : w5.cell? ⟨w.heap.size + 1, 4, none⟩ = some (sv b.sl) := Bb.cell 4
    have cb5 : w5.cell? ⟨w.heap.size + 1, 5, none⟩ = some (sv b.sh) := Bb.cell 5
    have fb := Bb.frozen
    have lb := Bb.lt
    have cr0 : w5.cell? ⟨w.heap.size + 1 + 1, 0, none⟩ = some (.int .u64 0) := Br.cell 0
    have cr1 : w5.cell? ⟨w.heap.size + 1 + 1, 1, none⟩ = some (.int .u64 0) := Br.cell 1
    have cr2 : w5.cell? ⟨w.heap.size + 1 + 1, 2, none⟩ = some (.int .u64 0) := Br.cell 2
    have cr3 : w5.cell? ⟨w.heap.size + 1 + 1, 3, none⟩ = some (.int .u64 0) := Br.cell 3
    have cr4 : w5.cell? ⟨w.heap.size + 1 + 1, 4, none⟩ = some (.int .i64 0) := Br.cell 4
    have cr5 : w5.cell? ⟨w.heap.size + 1 + 1, 5, none⟩ = some (.int .i64 0) := Br.cell 5
    have fr := Br.frozen
    have lr := Br.lt
    have co0 : w5.cell? ⟨go, 0, none⟩ = some (uv (PlainTnum.sub a.b b.b).v) := Bo.cell 0
    have co1 : w5.cell? ⟨go, 1, none⟩ = some (uv (PlainTnum.sub a.b b.b).m) := Bo.cell 1
    have co2 : w5.cell? ⟨go, 2, none⟩ = some (uv PlainScalar.any.lo) := Bo.cell 2
    have co3 : w5.cell? ⟨go, 3, none⟩ = some (uv PlainScalar.any.hi) := Bo.cell 3
    have co4 : w5.cell? ⟨go, 4, none⟩ = some (sv PlainScalar.any.sl) := Bo.cell 4
    have co5 : w5.cell? ⟨go, 5, none⟩ = some (sv PlainScalar.any.sh) := Bo.cell 5
    have fo := Bo.frozen
    have lo := Bo.lt
    have qq : decide (T b.hi ≤ T a.lo) = false := by rw [← q]; exact decide_eq_decide.2 (by rw [T_le])
    go_wp2_with fail
    refine (settled_c (⟨(PlainTnum.sub a.b b.b), PlainScalar.any.lo, PlainScalar.any.hi, PlainScalar.any.sl, PlainScalar.any.sh⟩ : Rng) _).mono ?_
    rintro e w6 ⟨rfl, hb⟩
    clear ca0 ca1 ca2 ca3 ca4 ca5 fa la
    clear cb0 cb1 cb2 cb3 cb4 cb5 fb lb
    clear cr0 cr1 cr2 cr3 cr4 cr5 fr lr
    clear co0 co1 co2 co3 co4 co5 fo lo
    replace Ba := (Ba).next hb
    replace Bb := (Bb).next hb
    replace Br := (Br).next hb
    replace Bo := (Bo).next hb
    replace hB : Below w.heap.size w w6 := by repeat (first | exact hB | (refine Bl_set ?_ (by first | omega | (simp; omega)) _) | apply Bl_alloc | (refine Bl_trans ?_ hb))
    clear hb
    have ca0 : w6.cell? ⟨w.heap.size, 0, none⟩ = some (uv a.b.v) := Ba.cell 0
    have ca1 : w6.cell? ⟨w.heap.size, 1, none⟩ = some (uv a.b.m) := Ba.cell 1
    have ca2 : w6.cell? ⟨w.heap.size, 2, none⟩ = some (uv a.lo) := Ba.cell 2
    have ca3 : w6.cell? ⟨w.heap.size, 3, none⟩ = some (uv a.hi) := Ba.cell 3
    have ca4 : w6.cell? ⟨w.heap.size, 4, none⟩ = some (sv a.sl) := Ba.cell 4
    have ca5 : w6.cell? ⟨w.heap.size, 5, none⟩ = some (sv a.sh) := Ba.cell 5
    have fa := Ba.frozen
    have la := Ba.lt
    have cb0 : w6.cell? ⟨w.heap.size + 1, 0, none⟩ = some (uv b.b.v) := Bb.cell 0
    have cb1 : w6.cell? ⟨w.heap.size + 1, 1, none⟩ = some (uv b.b.m) := Bb.cell 1
    have cb2 : w6.cell? ⟨w.heap.size + 1, 2, none⟩ = some (uv b.lo) := Bb.cell 2
    have cb3 : w6.cell? ⟨w.heap.size + 1, 3, none⟩ = some (uv b.hi) := Bb.cell 3
    have cb4 : w6.cell? ⟨w.heap.size + 1, 4, none⟩ = some (sv b.sl) := Bb.cell 4
    have cb5 : w6.cell? ⟨w.heap.size + 1, 5, none⟩ = some (sv b.sh) := Bb.cell 5
    have fb := Bb.frozen
    have lb := Bb.lt
    have cr0 : w6.cell? ⟨w.heap.size + 1 + 1, 0, none⟩ = some (.int .u64 0) := Br.cell 0
    have cr1 : w6.cell? ⟨w.heap.size + 1 + 1, 1, none⟩ = some (.int .u64 0) := Br.cell 1
    have cr2 : w6.cell? ⟨w.heap.size + 1 + 1, 2, none⟩ = some (.int .u64 0) := Br.cell 2
    have cr3 : w6.cell? ⟨w.heap.size + 1 + 1, 3, none⟩ = some (.int .u64 0) := Br.cell 3
    have cr4 : w6.cell? ⟨w.heap.size + 1 + 1, 4, none⟩ = some (.int .i64 0) := Br.cell 4
    have cr5 : w6.cell? ⟨w.heap.size + 1 + 1, 5, none⟩ = some (.int .i64 0) := Br.cell 5
    have fr := Br.frozen
    have lr := Br.lt
    have co0 : w6.cell? ⟨go, 0, none⟩ = some (uv (PlainTnum.sub a.b b.b).v) := Bo.cell 0
    have co1 : w6.cell? ⟨go, 1, none⟩ = some (uv (PlainTnum.sub a.b b.b).m) := Bo.cell 1
    have co2 : w6.cell? ⟨go, 2, none⟩ = some (uv PlainScalar.any.lo) := Bo.cell 2
    have co3 : w6.cell? ⟨go, 3, none⟩ = some (uv PlainScalar.any.hi) := Bo.cell 3
    have co4 : w6.cell? ⟨go, 4, none⟩ = some (sv PlainScalar.any.sl) := Bo.cell 4
    have co5 : w6.cell? ⟨go, 5, none⟩ = some (sv PlainScalar.any.sh) := Bo.cell 5
    have fo := Bo.frozen
    have lo := Bo.lt
    go_wp2
    exact bodyPost_ret (v := rv (PlainScalar.settled ⟨(PlainTnum.sub a.b b.b), PlainScalar.any.lo, PlainScalar.any.hi, PlainScalar.any.sl, PlainScalar.any.sh⟩)) (by simp [results, Tryd.results58, go_sem, cr0, cr1, cr2, cr3, cr4, cr5, lr]) rfl ⟨by rw [hs], by repeat (first | (with_reducible exact hB) | (with_reducible refine Bl_set ?_ (by first | omega | (simp; done) | (simp; omega)) _) | with_reducible apply Bl_alloc)⟩
  · have hs : PlainScalar.difference a b = PlainScalar.settled ⟨(PlainTnum.sub a.b b.b), (a.lo - b.hi), (a.hi - b.lo), PlainScalar.any.sl, PlainScalar.any.sh⟩ := by unfold PlainScalar.difference; rw [if_pos (show _ from of_decide_eq_true q)]
    go_enter Tryd.func58, Tryd.ntmps58
    go_wp2_with fail
    obtain ⟨ga, hga⟩ : ∃ g, g = w.heap.size := ⟨_, rfl⟩
    obtain ⟨gb, hgb⟩ : ∃ g, g = w.heap.size + 1 := ⟨_, rfl⟩
    obtain ⟨gr, hgr⟩ : ∃ g, g = w.heap.size + 1 + 1 := ⟨_, rfl⟩
    have Ba : Blk (((w.alloc (.cells #[uv a.b.v, uv a.b.m, uv a.lo, uv a.hi, sv a.sl, sv a.sh] 43)).alloc (.cells #[uv b.b.v, uv b.b.m, uv b.lo, uv b.hi, sv b.sl, sv b.sh] 43)).alloc (.cells #[.int .u64 0, .int .u64 0, .int .u64 0, .int .u64 0, .int .i64 0, .int .i64 0] 43)) (w.heap.size) 43 #[uv a.b.v, uv a.b.m, uv a.lo, uv a.hi, sv a.sl, sv a.sh] := (((Blk.new w 43 #[uv a.b.v, uv a.b.m, uv a.lo, uv a.hi, sv a.sl, sv a.sh])).alloc _).alloc _
    have Bb : Blk (((w.alloc (.cells #[uv a.b.v, uv a.b.m, uv a.lo, uv a.hi, sv a.sl, sv a.sh] 43)).alloc (.cells #[uv b.b.v, uv b.b.m, uv b.lo, uv b.hi, sv b.sl, sv b.sh] 43)).alloc (.cells #[.int .u64 0, .int .u64 0, .int .u64 0, .int .u64 0, .int .i64 0, .int .i64 0] 43)) (w.heap.size + 1) 43 #[uv b.b.v, uv b.b.m, uv b.lo, uv b.hi, sv b.sl, sv b.sh] := ((by simpa using Blk.new (w.alloc (.cells #[uv a.b.v, uv a.b.m, uv a.lo, uv a.hi, sv a.sl, sv a.sh] 43)) 43 #[uv b.b.v, uv b.b.m, uv b.lo, uv b.hi, sv b.sl, sv b.sh] : Blk _ (w.heap.size + 1) 43 #[uv b.b.v, uv b.b.m, uv b.lo, uv b.hi, sv b.sl, sv b.sh])).alloc _
    have Br : Blk (((w.alloc (.cells #[uv a.b.v, uv a.b.m, uv a.lo, uv a.hi, sv a.sl, sv a.sh] 43)).alloc (.cells #[uv b.b.v, uv b.b.m, uv b.lo, uv b.hi, sv b.sl, sv b.sh] 43)).alloc (.cells #[.int .u64 0, .int .u64 0, .int .u64 0, .int .u64 0, .int .i64 0, .int .i64 0] 43)) (w.heap.size + 1 + 1) 43 #[.int .u64 0, .int .u64 0, .int .u64 0, .int .u64 0, .int .i64 0, .int .i64 0] := (by simpa using Blk.new ((w.alloc (.cells #[uv a.b.v, uv a.b.m, uv a.lo, uv a.hi, sv a.sl, sv a.sh] 43)).alloc (.cells #[uv b.b.v, uv b.b.m, uv b.lo, uv b.hi, sv b.sl, sv b.sh] 43)) 43 #[.int .u64 0, .int .u64 0, .int .u64 0, .int .u64 0, .int .i64 0, .int .i64 0] : Blk _ (w.heap.size + 1 + 1) 43 #[.int .u64 0, .int .u64 0, .int .u64 0, .int .u64 0, .int .i64 0, .int .i64 0])
    have hB : Below w.heap.size w (((w.alloc (.cells #[uv a.b.v, uv a.b.m, uv a.lo, uv a.hi, sv a.sl, sv a.sh] 43)).alloc (.cells #[uv b.b.v, uv b.b.m, uv b.lo, uv b.hi, sv b.sl, sv b.sh] 43)).alloc (.cells #[.int .u64 0, .int .u64 0, .int .u64 0, .int .u64 0, .int .i64 0, .int .i64 0] 43)) := (Bl_alloc (Bl_alloc (Bl_alloc (Bl_refl w) _) _) _)
    clear hga
    clear ga
    clear hgb
    clear gb
    clear hgr
    clear gr
    generalize (((w.alloc (.cells #[uv a.b.v, uv a.b.m, uv a.lo, uv a.hi, sv a.sl, sv a.sh] 43)).alloc (.cells #[uv b.b.v, uv b.b.m, uv b.lo, uv b.hi, sv b.sl, sv b.sh] 43)).alloc (.cells #[.int .u64 0, .int .u64 0, .int .u64 0, .int .u64 0, .int .i64 0, .int .i64 0] 43)) = w1 at *
    have ca0 : w1.cell? ⟨w.heap.size, 0, none⟩ = some (uv a.b.v) := Ba.cell 0
    have ca1 : w1.cell? ⟨w.heap.size, 1, none⟩ = some (uv a.b.m) := Ba.cell 1
    have ca2 : w1.cell? ⟨w.heap.size, 2, none⟩ = some (uv a.lo) := Ba.cell 2
    have ca3 : w1.cell? ⟨w.heap.size, 3, none⟩ = some (uv a.hi) := Ba.cell 3
    have ca4 : w1.cell? ⟨w.heap.size, 4, none⟩ = some (sv a.sl) := Ba.cell 4
    have ca5 : w1.cell? ⟨w.heap.size, 5, none⟩ = some (sv a.sh) := Ba.cell 5
    have fa := Ba.frozen
    have la := Ba.lt
    have cb0 : w1.cell? ⟨w.heap.size + 1, 0, none⟩ = some (uv b.b.v) := Bb.cell 0
    have cb1 : w1.cell? ⟨w.heap.size + 1, 1, none⟩ = some (uv b.b.m) := Bb.cell 1
    have cb2 : w1.cell? ⟨w.heap.size + 1, 2, none⟩ = some (uv b.lo) := Bb.cell 2
    have cb3 : w1.cell? ⟨w.heap.size + 1, 3, none⟩ = some (uv b.hi) := Bb.cell 3
    have cb4 : w1.cell? ⟨w.heap.size + 1, 4, none⟩ = some (sv b.sl) := Bb.cell 4
    have cb5 : w1.cell? ⟨w.heap.size + 1, 5, none⟩ = some (sv b.sh) := Bb.cell 5
    have fb := Bb.frozen
    have lb := Bb.lt
    have cr0 : w1.cell? ⟨w.heap.size + 1 + 1, 0, none⟩ = some (.int .u64 0) := Br.cell 0
    have cr1 : w1.cell? ⟨w.heap.size + 1 + 1, 1, none⟩ = some (.int .u64 0) := Br.cell 1
    have cr2 : w1.cell? ⟨w.heap.size + 1 + 1, 2, none⟩ = some (.int .u64 0) := Br.cell 2
    have cr3 : w1.cell? ⟨w.heap.size + 1 + 1, 3, none⟩ = some (.int .u64 0) := Br.cell 3
    have cr4 : w1.cell? ⟨w.heap.size + 1 + 1, 4, none⟩ = some (.int .i64 0) := Br.cell 4
    have cr5 : w1.cell? ⟨w.heap.size + 1 + 1, 5, none⟩ = some (.int .i64 0) := Br.cell 5
    have fr := Br.frozen
    have lr := Br.lt
    go_wp2_with fail
    refine (sany_c _).mono ?_
    rintro e w2 ⟨rfl, hb⟩
    clear ca0 ca1 ca2 ca3 ca4 ca5 fa la
    clear cb0 cb1 cb2 cb3 cb4 cb5 fb lb
    clear cr0 cr1 cr2 cr3 cr4 cr5 fr lr
    replace Ba := (Ba).next hb
    replace Bb := (Bb).next hb
    replace Br := (Br).next hb
    replace hB : Below w.heap.size w w2 := by repeat (first | exact hB | (refine Bl_set ?_ (by first | omega | (simp; omega)) _) | apply Bl_alloc | (refine Bl_trans ?_ hb))
    clear hb
    have ca0 : w2.cell? ⟨w.heap.size, 0, none⟩ = some (uv a.b.v) := Ba.cell 0
    have ca1 : w2.cell? ⟨w.heap.size, 1, none⟩ = some (uv a.b.m) := Ba.cell 1
    have ca2 : w2.cell? ⟨w.heap.size, 2, none⟩ = some (uv a.lo) := Ba.cell 2
    have ca3 : w2.cell? ⟨w.heap.size, 3, none⟩ = some (uv a.hi) := Ba.cell 3
    have ca4 : w2.cell? ⟨w.heap.size, 4, none⟩ = some (sv a.sl) := Ba.cell 4
    have ca5 : w2.cell? ⟨w.heap.size, 5, none⟩ = some (sv a.sh) := Ba.cell 5
    have fa := Ba.frozen
    have la := Ba.lt
    have cb0 : w2.cell? ⟨w.heap.size + 1, 0, none⟩ = some (uv b.b.v) := Bb.cell 0
    have cb1 : w2.cell? ⟨w.heap.size + 1, 1, none⟩ = some (uv b.b.m) := Bb.cell 1
    have cb2 : w2.cell? ⟨w.heap.size + 1, 2, none⟩ = some (uv b.lo) := Bb.cell 2
    have cb3 : w2.cell? ⟨w.heap.size + 1, 3, none⟩ = some (uv b.hi) := Bb.cell 3
    have cb4 : w2.cell? ⟨w.heap.size + 1, 4, none⟩ = some (sv b.sl) := Bb.cell 4
    have cb5 : w2.cell? ⟨w.heap.size + 1, 5, none⟩ = some (sv b.sh) := Bb.cell 5
    have fb := Bb.frozen
    have lb := Bb.lt
    have cr0 : w2.cell? ⟨w.heap.size + 1 + 1, 0, none⟩ = some (.int .u64 0) := Br.cell 0
    have cr1 : w2.cell? ⟨w.heap.size + 1 + 1, 1, none⟩ = some (.int .u64 0) := Br.cell 1
    have cr2 : w2.cell? ⟨w.heap.size + 1 + 1, 2, none⟩ = some (.int .u64 0) := Br.cell 2
    have cr3 : w2.cell? ⟨w.heap.size + 1 + 1, 3, none⟩ = some (.int .u64 0) := Br.cell 3
    have cr4 : w2.cell? ⟨w.heap.size + 1 + 1, 4, none⟩ = some (.int .i64 0) := Br.cell 4
    have cr5 : w2.cell? ⟨w.heap.size + 1 + 1, 5, none⟩ = some (.int .i64 0) := Br.cell 5
    have fr := Br.frozen
    have lr := Br.lt
    go_upto_region 2 with fail
    clear ca0 ca1 ca2 ca3 ca4 ca5 fa la
    clear cb0 cb1 cb2 cb3 cb4 cb5 fb lb
    clear cr0 cr1 cr2 cr3 cr4 cr5 fr lr
    have Bo := Blk.new w2 43 #[uv PlainScalar.any.b.v, uv PlainScalar.any.b.m, uv PlainScalar.any.lo, uv PlainScalar.any.hi, sv PlainScalar.any.sl, sv PlainScalar.any.sh]
    have hgo := hB.size
    have hnao := Nat.ne_of_lt Ba.lt; have hltao := Ba.lt
    have hnbo := Nat.ne_of_lt Bb.lt; have hltbo := Bb.lt
    have hnro := Nat.ne_of_lt Br.lt; have hltro := Br.lt
    replace Ba : Blk (w2.alloc (.cells #[uv PlainScalar.any.b.v, uv PlainScalar.any.b.m, uv PlainScalar.any.lo, uv PlainScalar.any.hi, sv PlainScalar.any.sl, sv PlainScalar.any.sh] 43)) (w.heap.size) 43 #[uv a.b.v, uv a.b.m, uv a.lo, uv a.hi, sv a.sl, sv a.sh] := Ba.alloc _
    replace Bb : Blk (w2.alloc (.cells #[uv PlainScalar.any.b.v, uv PlainScalar.any.b.m, uv PlainScalar.any.lo, uv PlainScalar.any.hi, sv PlainScalar.any.sl, sv PlainScalar.any.sh] 43)) (w.heap.size + 1) 43 #[uv b.b.v, uv b.b.m, uv b.lo, uv b.hi, sv b.sl, sv b.sh] := Bb.alloc _
    replace Br : Blk (w2.alloc (.cells #[uv PlainScalar.any.b.v, uv PlainScalar.any.b.m, uv PlainScalar.any.lo, uv PlainScalar.any.hi, sv PlainScalar.any.sl, sv PlainScalar.any.sh] 43)) (w.heap.size + 1 + 1) 43 #[.int .u64 0, .int .u64 0, .int .u64 0, .int .u64 0, .int .i64 0, .int .i64 0] := Br.alloc _
    replace hB : Below w.heap.size w (w2.alloc (.cells #[uv PlainScalar.any.b.v, uv PlainScalar.any.b.m, uv PlainScalar.any.lo, uv PlainScalar.any.hi, sv PlainScalar.any.sl, sv PlainScalar.any.sh] 43)) := Bl_alloc hB _
    generalize (w2.alloc (.cells #[uv PlainScalar.any.b.v, uv PlainScalar.any.b.m, uv PlainScalar.any.lo, uv PlainScalar.any.hi, sv PlainScalar.any.sl, sv PlainScalar.any.sh] 43)) = w3 at *
    generalize w2.heap.size = go at *
    have ca0 : w3.cell? ⟨w.heap.size, 0, none⟩ = some (uv a.b.v) := Ba.cell 0
    have ca1 : w3.cell? ⟨w.heap.size, 1, none⟩ = some (uv a.b.m) := Ba.cell 1
    have ca2 : w3.cell? ⟨w.heap.size, 2, none⟩ = some (uv a.lo) := Ba.cell 2
    have ca3 : w3.cell? ⟨w.heap.size, 3, none⟩ = some (uv a.hi) := Ba.cell 3
    have ca4 : w3.cell? ⟨w.heap.size, 4, none⟩ = some (sv a.sl) := Ba.cell 4
    have ca5 : w3.cell? ⟨w.heap.size, 5, none⟩ = some (sv a.sh) := Ba.cell 5
    have fa := Ba.frozen
    have la := Ba.lt
    have cb0 : w3.cell? ⟨w.heap.size + 1, 0, none⟩ = some (uv b.b.v) := Bb.cell 0
    have cb1 : w3.cell? ⟨w.heap.size + 1, 1, none⟩ = some (uv b.b.m) := Bb.cell 1
    have cb2 : w3.cell? ⟨w.heap.size + 1, 2, none⟩ = some (uv b.lo) := Bb.cell 2
    have cb3 : w3.cell? ⟨w.heap.size + 1, 3, none⟩ = some (uv b.hi) := Bb.cell 3
    have cb4 : w3.cell? ⟨w.heap.size + 1, 4, none⟩ = some (sv b.sl) := Bb.cell 4
    have cb5 : w3.cell? ⟨w.heap.size + 1, 5, none⟩ = some (sv b.sh) := Bb.cell 5
    have fb := Bb.frozen
    have lb := Bb.lt
    have cr0 : w3.cell? ⟨w.heap.size + 1 + 1, 0, none⟩ = some (.int .u64 0) := Br.cell 0
    have cr1 : w3.cell? ⟨w.heap.size + 1 + 1, 1, none⟩ = some (.int .u64 0) := Br.cell 1
    have cr2 : w3.cell? ⟨w.heap.size + 1 + 1, 2, none⟩ = some (.int .u64 0) := Br.cell 2
    have cr3 : w3.cell? ⟨w.heap.size + 1 + 1, 3, none⟩ = some (.int .u64 0) := Br.cell 3
    have cr4 : w3.cell? ⟨w.heap.size + 1 + 1, 4, none⟩ = some (.int .i64 0) := Br.cell 4
    have cr5 : w3.cell? ⟨w.heap.size + 1 + 1, 5, none⟩ = some (.int .i64 0) := Br.cell 5
    have fr := Br.frozen
    have lr := Br.lt
    have co0 : w3.cell? ⟨go, 0, none⟩ = some (uv PlainScalar.any.b.v) := Bo.cell 0
    have co1 : w3.cell? ⟨go, 1, none⟩ = some (uv PlainScalar.any.b.m) := Bo.cell 1
    have co2 : w3.cell? ⟨go, 2, none⟩ = some (uv PlainScalar.any.lo) := Bo.cell 2
    have co3 : w3.cell? ⟨go, 3, none⟩ = some (uv PlainScalar.any.hi) := Bo.cell 3
    have co4 : w3.cell? ⟨go, 4, none⟩ = some (sv PlainScalar.any.sl) := Bo.cell 4
    have co5 : w3.cell? ⟨go, 5, none⟩ = some (sv PlainScalar.any.sh) := Bo.cell 5
    have fo := Bo.frozen
    have lo := Bo.lt
    go_wp2_with fail
    refine (sub_c _ _ _).mono ?_
    rintro e w4 ⟨rfl, hb⟩
    clear ca0 ca1 ca2 ca3 ca4 ca5 fa la
    clear cb0 cb1 cb2 cb3 cb4 cb5 fb lb
    clear cr0 cr1 cr2 cr3 cr4 cr5 fr lr
    clear co0 co1 co2 co3 co4 co5 fo lo
    replace Ba := (Ba).next hb
    replace Bb := (Bb).next hb
    replace Br := (Br).next hb
    replace Bo := (Bo).next hb
    replace hB : Below w.heap.size w w4 := by repeat (first | exact hB | (refine Bl_set ?_ (by first | omega | (simp; omega)) _) | apply Bl_alloc | (refine Bl_trans ?_ hb))
    clear hb
    have ca0 : w4.cell? ⟨w.heap.size, 0, none⟩ = some (uv a.b.v) := Ba.cell 0
    have ca1 : w4.cell? ⟨w.heap.size, 1, none⟩ = some (uv a.b.m) := Ba.cell 1
    have ca2 : w4.cell? ⟨w.heap.size, 2, none⟩ = some (uv a.lo) := Ba.cell 2
    have ca3 : w4.cell? ⟨w.heap.size, 3, none⟩ = some (uv a.hi) := Ba.cell 3
    have ca4 : w4.cell? ⟨w.heap.size, 4, none⟩ = some (sv a.sl) := Ba.cell 4
    have ca5 : w4.cell? ⟨w.heap.size, 5, none⟩ = some (sv a.sh) := Ba.cell 5
    have fa := Ba.frozen
    have la := Ba.lt
    have cb0 : w4.cell? ⟨w.heap.size + 1, 0, none⟩ = some (uv b.b.v) := Bb.cell 0
    have cb1 : w4.cell? ⟨w.heap.size + 1, 1, none⟩ = some (uv b.b.m) := Bb.cell 1
    have cb2 : w4.cell? ⟨w.heap.size + 1, 2, none⟩ = some (uv b.lo) := Bb.cell 2
    have cb3 : w4.cell? ⟨w.heap.size + 1, 3, none⟩ = some (uv b.hi) := Bb.cell 3
    have cb4 : w4.cell? ⟨w.heap.size + 1, 4, none⟩ = some (sv b.sl) := Bb.cell 4
    have cb5 : w4.cell? ⟨w.heap.size + 1, 5, none⟩ = some (sv b.sh) := Bb.cell 5
    have fb := Bb.frozen
    have lb := Bb.lt
    have cr0 : w4.cell? ⟨w.heap.size + 1 + 1, 0, none⟩ = some (.int .u64 0) := Br.cell 0
    have cr1 : w4.cell? ⟨w.heap.size + 1 + 1, 1, none⟩ = some (.int .u64 0) := Br.cell 1
    have cr2 : w4.cell? ⟨w.heap.size + 1 + 1, 2, none⟩ = some (.int .u64 0) := Br.cell 2
    have cr3 : w4.cell? ⟨w.heap.size + 1 + 1, 3, none⟩ = some (.int .u64 0) := Br.cell 3
    have cr4 : w4.cell? ⟨w.heap.size + 1 + 1, 4, none⟩ = some (.int .i64 0) := Br.cell 4
    have cr5 : w4.cell? ⟨w.heap.size + 1 + 1, 5, none⟩ = some (.int .i64 0) := Br.cell 5
    have fr := Br.frozen
    have lr := Br.lt
    have co0 : w4.cell? ⟨go, 0, none⟩ = some (uv PlainScalar.any.b.v) := Bo.cell 0
    have co1 : w4.cell? ⟨go, 1, none⟩ = some (uv PlainScalar.any.b.m) := Bo.cell 1
    have co2 : w4.cell? ⟨go, 2, none⟩ = some (uv PlainScalar.any.lo) := Bo.cell 2
    have co3 : w4.cell? ⟨go, 3, none⟩ = some (uv PlainScalar.any.hi) := Bo.cell 3
    have co4 : w4.cell? ⟨go, 4, none⟩ = some (sv PlainScalar.any.sl) := Bo.cell 4
    have co5 : w4.cell? ⟨go, 5, none⟩ = some (sv PlainScalar.any.sh) := Bo.cell 5
    have fo := Bo.frozen
    have lo := Bo.lt
    go_upto_region 3 with fail
    clear ca0 ca1 ca2 ca3 ca4 ca5 fa la
    clear cb0 cb1 cb2 cb3 cb4 cb5 fb lb
    clear cr0 cr1 cr2 cr3 cr4 cr5 fr lr
    clear co0 co1 co2 co3 co4 co5 fo lo
    replace Ba : Blk (w4.setCell ⟨go, 0, none⟩ (uv (PlainTnum.sub a.b b.b).v)) (w.heap.size) 43 #[uv a.b.v, uv a.b.m, uv a.lo, uv a.hi, sv a.sl, sv a.sh] := (Ba.far (by first | (simp; done) | (simp; omega) | (simp [*]; done) | (simp only [ne_eq]; constructor <;> omega)) _)
    replace Bb : Blk (w4.setCell ⟨go, 0, none⟩ (uv (PlainTnum.sub a.b b.b).v)) (w.heap.size + 1) 43 #[uv b.b.v, uv b.b.m, uv b.lo, uv b.hi, sv b.sl, sv b.sh] := (Bb.far (by first | (simp; done) | (simp; omega) | (simp [*]; done) | (simp only [ne_eq]; constructor <;> omega)) _)
    replace Br : Blk (w4.setCell ⟨go, 0, none⟩ (uv (PlainTnum.sub a.b b.b).v)) (w.heap.size + 1 + 1) 43 #[.int .u64 0, .int .u64 0, .int .u64 0, .int .u64 0, .int .i64 0, .int .i64 0] := (Br.far (by first | (simp; done) | (simp; omega) | (simp [*]; done) | (simp only [ne_eq]; constructor <;> omega)) _)
    replace Bo : Blk (w4.setCell ⟨go, 0, none⟩ (uv (PlainTnum.sub a.b b.b).v)) (go) 43 #[uv (PlainTnum.sub a.b b.b).v, uv PlainScalar.any.b.m, uv PlainScalar.any.lo, uv PlainScalar.any.hi, sv PlainScalar.any.sl, sv PlainScalar.any.sh] := Bo.set_ 0 _
    replace hB : Below w.heap.size w (w4.setCell ⟨go, 0, none⟩ (uv (PlainTnum.sub a.b b.b).v)) := (Bl_set hB (by first | omega | (simp; done) | (simp; omega)) _)
    replace Ba : Blk ((w4.setCell ⟨go, 0, none⟩ (uv (PlainTnum.sub a.b b.b).v)).setCell ⟨go, 1, none⟩ (uv (PlainTnum.sub a.b b.b).m)) (w.heap.size) 43 #[uv a.b.v, uv a.b.m, uv a.lo, uv a.hi, sv a.sl, sv a.sh] := (Ba.far (by first | (simp; done) | (simp; omega) | (simp [*]; done) | (simp only [ne_eq]; constructor <;> omega)) _)
    replace Bb : Blk ((w4.setCell ⟨go, 0, none⟩ (uv (PlainTnum.sub a.b b.b).v)).setCell ⟨go, 1, none⟩ (uv (PlainTnum.sub a.b b.b).m)) (w.heap.size + 1) 43 #[uv b.b.v, uv b.b.m, uv b.lo, uv b.hi, sv b.sl, sv b.sh] := (Bb.far (by first | (simp; done) | (simp; omega) | (simp [*]; done) | (simp only [ne_eq]; constructor <;> omega)) _)
    replace Br : Blk ((w4.setCell ⟨go, 0, none⟩ (uv (PlainTnum.sub a.b b.b).v)).setCell ⟨go, 1, none⟩ (uv (PlainTnum.sub a.b b.b).m)) (w.heap.size + 1 + 1) 43 #[.int .u64 0, .int .u64 0, .int .u64 0, .int .u64 0, .int .i64 0, .int .i64 0] := (Br.far (by first | (simp; done) | (simp; omega) | (simp [*]; done) | (simp only [ne_eq]; constructor <;> omega)) _)
    replace Bo : Blk ((w4.setCell ⟨go, 0, none⟩ (uv (PlainTnum.sub a.b b.b).v)).setCell ⟨go, 1, none⟩ (uv (PlainTnum.sub a.b b.b).m)) (go) 43 #[uv (PlainTnum.sub a.b b.b).v, uv (PlainTnum.sub a.b b.b).m, uv PlainScalar.any.lo, uv PlainScalar.any.hi, sv PlainScalar.any.sl, sv PlainScalar.any.sh] := Bo.set_ 1 _
    replace hB : Below w.heap.size w ((w4.setCell ⟨go, 0, none⟩ (uv (PlainTnum.sub a.b b.b).v)).setCell ⟨go, 1, none⟩ (uv (PlainTnum.sub a.b b.b).m)) := (Bl_set hB (by first | omega | (simp; done) | (simp; omega)) _)
    generalize ((w4.setCell ⟨go, 0, none⟩ (uv (PlainTnum.sub a.b b.b).v)).setCell ⟨go, 1, none⟩ (uv (PlainTnum.sub a.b b.b).m)) = w5 at *
    have ca0 : w5.cell? ⟨w.heap.size, 0, none⟩ = some (uv a.b.v) := Ba.cell 0
    have ca1 : w5.cell? ⟨w.heap.size, 1, none⟩ = some (uv a.b.m) := Ba.cell 1
    have ca2 : w5.cell? ⟨w.heap.size, 2, none⟩ = some (uv a.lo) := Ba.cell 2
    have ca3 : w5.cell? ⟨w.heap.size, 3, none⟩ = some (uv a.hi) := Ba.cell 3
    have ca4 : w5.cell? ⟨w.heap.size, 4, none⟩ = some (sv a.sl) := Ba.cell 4
    have ca5 : w5.cell? ⟨w.heap.size, 5, none⟩ = some (sv a.sh) := Ba.cell 5
    have fa := Ba.frozen
    have la := Ba.lt
    have cb0 : w5.cell? ⟨w.heap.size + 1, 0, none⟩ = some (uv b.b.v) := Bb.cell 0
    have cb1 : w5.cell? ⟨w.heap.size + 1, 1, none⟩ = some (uv b.b.m) := Bb.cell 1
    have cb2 : w5.cell? ⟨w.heap.size + 1, 2, none⟩ = some (uv b.lo) := Bb.cell 2
    have cb3 : w5.cell? ⟨w.heap.size + 1, 3, none⟩ = some (uv b.hi) := Bb.cell 3
    have cb4 : w5.cell? ⟨w.heap.size + 1, 4, none⟩ = some (sv b.sl) := Bb.cell 4
    have cb5 : w5.cell? ⟨w.heap.size + 1, 5, none⟩ = some (sv b.sh) := Bb.cell 5
    have fb := Bb.frozen
    have lb := Bb.lt
    have cr0 : w5.cell? ⟨w.heap.size + 1 + 1, 0, none⟩ = some (.int .u64 0) := Br.cell 0
    have cr1 : w5.cell? ⟨w.heap.size + 1 + 1, 1, none⟩ = some (.int .u64 0) := Br.cell 1
    have cr2 : w5.cell? ⟨w.heap.size + 1 + 1, 2, none⟩ = some (.int .u64 0) := Br.cell 2
    have cr3 : w5.cell? ⟨w.heap.size + 1 + 1, 3, none⟩ = some (.int .u64 0) := Br.cell 3
    have cr4 : w5.cell? ⟨w.heap.size + 1 + 1, 4, none⟩ = some (.int .i64 0) := Br.cell 4
    have cr5 : w5.cell? ⟨w.heap.size + 1 + 1, 5, none⟩ = some (.int .i64 0) := Br.cell 5
    have fr := Br.frozen
    have lr := Br.lt
    have co0 : w5.cell? ⟨go, 0, none⟩ = some (uv (PlainTnum.sub a.b b.b).v) := Bo.cell 0
    have co1 : w5.cell? ⟨go, 1, none⟩ = some (uv (PlainTnum.sub a.b b.b).m) := Bo.cell 1
    have co2 : w5.cell? ⟨go, 2, none⟩ = some (uv PlainScalar.any.lo) := Bo.cell 2
    have co3 : w5.cell? ⟨go, 3, none⟩ = some (uv PlainScalar.any.hi) := Bo.cell 3
    have co4 : w5.cell? ⟨go, 4, none⟩ = some (sv PlainScalar.any.sl) := Bo.cell 4
    have co5 : w5.cell? ⟨go, 5, none⟩ = some (sv PlainScalar.any.sh) := Bo.cell 5
    have fo := Bo.frozen
    have lo := Bo.lt
    have qq : decide (T b.hi ≤ T a.lo) = true := by rw [← q]; exact decide_eq_decide.2 (by rw [T_le])
    go_wp2_with fail
    replace ca0 : ∀ g : Later w5, g.w.cell? ⟨w.heap.size, 0, none⟩ = some (uv a.b.v) := fun g => g.cell (Ba.cell 0)
    replace ca1 : ∀ g : Later w5, g.w.cell? ⟨w.heap.size, 1, none⟩ = some (uv a.b.m) := fun g => g.cell (Ba.cell 1)
    replace ca2 : ∀ g : Later w5, g.w.cell? ⟨w.heap.size, 2, none⟩ = some (uv a.lo) := fun g => g.cell (Ba.cell 2)
    replace ca3 : ∀ g : Later w5, g.w.cell? ⟨w.heap.size, 3, none⟩ = some (uv a.hi) := fun g => g.cell (Ba.cell 3)
    replace ca4 : ∀ g : Later w5, g.w.cell? ⟨w.heap.size, 4, none⟩ = some (sv a.sl) := fun g => g.cell (Ba.cell 4)
    replace ca5 : ∀ g : Later w5, g.w.cell? ⟨w.heap.size, 5, none⟩ = some (sv a.sh) := fun g => g.cell (Ba.cell 5)
    replace cb0 : ∀ g : Later w5, g.w.cell? ⟨w.heap.size + 1, 0, none⟩ = some (uv b.b.v) := fun g => g.cell (Bb.cell 0)
    replace cb1 : ∀ g : Later w5, g.w.cell? ⟨w.heap.size + 1, 1, none⟩ = some (uv b.b.m) := fun g => g.cell (Bb.cell 1)
    replace cb2 : ∀ g : Later w5, g.w.cell? ⟨w.heap.size + 1, 2, none⟩ = some (uv b.lo) := fun g => g.cell (Bb.cell 2)
    replace cb3 : ∀ g : Later w5, g.w.cell? ⟨w.heap.size + 1, 3, none⟩ = some (uv b.hi) := fun g => g.cell (Bb.cell 3)
    replace cb4 : ∀ g : Later w5, g.w.cell? ⟨w.heap.size + 1, 4, none⟩ = some (sv b.sl) := fun g => g.cell (Bb.cell 4)
    replace cb5 : ∀ g : Later w5, g.w.cell? ⟨w.heap.size + 1, 5, none⟩ = some (sv b.sh) := fun g => g.cell (Bb.cell 5)
    replace cr0 : ∀ g : Later w5, g.w.cell? ⟨w.heap.size + 1 + 1, 0, none⟩ = some (.int .u64 0) := fun g => g.cell (Br.cell 0)
    replace cr1 : ∀ g : Later w5, g.w.cell? ⟨w.heap.size + 1 + 1, 1, none⟩ = some (.int .u64 0) := fun g => g.cell (Br.cell 1)
    replace cr2 : ∀ g : Later w5, g.w.cell? ⟨w.heap.size + 1 + 1, 2, none⟩ = some (.int .u64 0) := fun g => g.cell (Br.cell 2)
    replace cr3 : ∀ g : Later w5, g.w.cell? ⟨w.heap.size + 1 + 1, 3, none⟩ = some (.int .u64 0) := fun g => g.cell (Br.cell 3)
    replace cr4 : ∀ g : Later w5, g.w.cell? ⟨w.heap.size + 1 + 1, 4, none⟩ = some (.int .i64 0) := fun g => g.cell (Br.cell 4)
    replace cr5 : ∀ g : Later w5, g.w.cell? ⟨w.heap.size + 1 + 1, 5, none⟩ = some (.int .i64 0) := fun g => g.cell (Br.cell 5)
    replace co0 : ∀ g : Later w5, g.w.cell? ⟨go, 0, none⟩ = some (uv (PlainTnum.sub a.b b.b).v) := fun g => g.cell (Bo.cell 0)
    replace co1 : ∀ g : Later w5, g.w.cell? ⟨go, 1, none⟩ = some (uv (PlainTnum.sub a.b b.b).m) := fun g => g.cell (Bo.cell 1)
    replace co2 : ∀ g : Later w5, g.w.cell? ⟨go, 2, none⟩ = some (uv PlainScalar.any.lo) := fun g => g.cell (Bo.cell 2)
    replace co3 : ∀ g : Later w5, g.w.cell? ⟨go, 3, none⟩ = some (uv PlainScalar.any.hi) := fun g => g.cell (Bo.cell 3)
    replace co4 : ∀ g : Later w5, g.w.cell? ⟨go, 4, none⟩ = some (sv PlainScalar.any.sl) := fun g => g.cell (Bo.cell 4)
    replace co5 : ∀ g : Later w5, g.w.cell? ⟨go, 5, none⟩ = some (sv PlainScalar.any.sh) := fun g => g.cell (Bo.cell 5)
    obtain ⟨S, hS⟩ : ∃ S : World → Prop, ∀ x, S x ↔ (x.cell? ⟨w.heap.size, 2, none⟩ = some (uv a.lo) ∧ x.cell? ⟨w.heap.size, 3, none⟩ = some (uv a.hi) ∧ x.cell? ⟨w.heap.size + 1, 2, none⟩ = some (uv b.lo) ∧ x.cell? ⟨w.heap.size + 1, 3, none⟩ = some (uv b.hi)) := ⟨_, fun _ => Iff.rfl⟩
    have u0 : ∀ g : Under S, g.w.cell? ⟨w.heap.size, 2, none⟩ = some (uv a.lo) := fun g => ((hS _).1 g.is).1
    have u1 : ∀ g : Under S, g.w.cell? ⟨w.heap.size, 3, none⟩ = some (uv a.hi) := fun g => ((hS _).1 g.is).2.1
    have u2 : ∀ g : Under S, g.w.cell? ⟨w.heap.size + 1, 2, none⟩ = some (uv b.lo) := fun g => ((hS _).1 g.is).2.2.1
    have u3 : ∀ g : Under S, g.w.cell? ⟨w.heap.size + 1, 3, none⟩ = some (uv b.hi) := fun g => ((hS _).1 g.is).2.2.2
    refine wp_region_mixS 11 (fun k => k == 5 || k == 6 || k == 7 || k == 8 || k == 9) (fun _ => #[]) S rfl (by kernel_rfl) (by kernel_rfl) (no_alloc (by kernel_rfl)) ?_
    simp only [List.take_succ_cons, List.take_zero, List.drop_succ_cons, List.drop_zero]
    repeat (refine wpMixS_step (fun K hK => ?_); go_simp; first | (refine hK _ ?_; clear hK K))
    refine wpMixS_nil ?_
    intro G w6 hgr hblk hdist
    have hb : Below w5.heap.size w5 w6 := hgr
    replace Ba := Ba.next hb
    replace Bb := Bb.next hb
    replace Br := Br.next hb
    replace Bo := Bo.next hb
    clear ca0 ca1 ca2 ca3 ca4 ca5 fa la
    clear cb0 cb1 cb2 cb3 cb4 cb5 fb lb
    clear cr0 cr1 cr2 cr3 cr4 cr5 fr lr
    clear co0 co1 co2 co3 co4 co5 fo lo
    clear u0 u1 u2 u3
    replace hB : Below w.heap.size w w6 := Bl_trans hB hb
    simp only [putAll, isAlloc]
    clear hb hgr hblk hdist
    have ca0 : w6.cell? ⟨w.heap.size, 0, none⟩ = some (uv a.b.v) := Ba.cell 0
    have ca1 : w6.cell? ⟨w.heap.size, 1, none⟩ = some (uv a.b.m) := Ba.cell 1
    have ca2 : w6.cell? ⟨w.heap.size, 2, none⟩ = some (uv a.lo) := Ba.cell 2
    have ca3 : w6.cell? ⟨w.heap.size, 3, none⟩ = some (uv a.hi) := Ba.cell 3
    have ca4 : w6.cell? ⟨w.heap.size, 4, none⟩ = some (sv a.sl) := Ba.cell 4
    have ca5 : w6.cell? ⟨w.heap.size, 5, none⟩ = some (sv a.sh) := Ba.cell 5
    have fa := Ba.frozen
    have la := Ba.lt
    have cb0 : w6.cell? ⟨w.heap.size + 1, 0, none⟩ = some (uv b.b.v) := Bb.cell 0
    have cb1 : w6.cell? ⟨w.heap.size + 1, 1, none⟩ = some (uv b.b.m) := Bb.cell 1
    have cb2 : w6.cell? ⟨w.heap.size + 1, 2, none⟩ = some (uv b.lo) := Bb.cell 2
    have cb3 : w6.cell? ⟨w.heap.size + 1, 3, none⟩ = some (uv b.hi) := Bb.cell 3
    have cb4 : w6.cell? ⟨w.heap.size + 1, 4, none⟩ = some (sv b.sl) := Bb.cell 4
    have cb5 : w6.cell? ⟨w.heap.size + 1, 5, none⟩ = some (sv b.sh) := Bb.cell 5
    have fb := Bb.frozen
    have lb := Bb.lt
    have cr0 : w6.cell? ⟨w.heap.size + 1 + 1, 0, none⟩ = some (.int .u64 0) := Br.cell 0
    have cr1 : w6.cell? ⟨w.heap.size + 1 + 1, 1, none⟩ = some (.int .u64 0) := Br.cell 1
    have cr2 : w6.cell? ⟨w.heap.size + 1 + 1, 2, none⟩ = some (.int .u64 0) := Br.cell 2
    have cr3 : w6.cell? ⟨w.heap.size + 1 + 1, 3, none⟩ = some (.int .u64 0) := Br.cell 3
    have cr4 : w6.cell? ⟨w.heap.size + 1 + 1, 4, none⟩ = some (.int .i64 0) := Br.cell 4
    have cr5 : w6.cell? ⟨w.heap.size + 1 + 1, 5, none⟩ = some (.int .i64 0) := Br.cell 5
    have fr := Br.frozen
    have lr := Br.lt
    have co0 : w6.cell? ⟨go, 0, none⟩ = some (uv (PlainTnum.sub a.b b.b).v) := Bo.cell 0
    have co1 : w6.cell? ⟨go, 1, none⟩ = some (uv (PlainTnum.sub a.b b.b).m) := Bo.cell 1
    have co2 : w6.cell? ⟨go, 2, none⟩ = some (uv PlainScalar.any.lo) := Bo.cell 2
    have co3 : w6.cell? ⟨go, 3, none⟩ = some (uv PlainScalar.any.hi) := Bo.cell 3
    have co4 : w6.cell? ⟨go, 4, none⟩ = some (sv PlainScalar.any.sl) := Bo.cell 4
    have co5 : w6.cell? ⟨go, 5, none⟩ = some (sv PlainScalar.any.sh) := Bo.cell 5
    have fo := Bo.frozen
    have lo := Bo.lt
    go_wp2_with fail
    refine ⟨by first | trivial | rfl, ?_, ?_⟩
    · refine (hS _).2 ?_; exact ⟨(Ba.far (by first | (simp; done) | (simp; omega) | (simp [*]; done) | (simp only [ne_eq]; constructor <;> omega)) _).cell 2, (Ba.far (by first | (simp; done) | (simp; omega) | (simp [*]; done) | (simp only [ne_eq]; constructor <;> omega)) _).cell 3, (Bb.far (by first | (simp; done) | (simp; omega) | (simp [*]; done) | (simp only [ne_eq]; constructor <;> omega)) _).cell 2, (Bb.far (by first | (simp; done) | (simp; omega) | (simp [*]; done) | (simp only [ne_eq]; constructor <;> omega)) _).cell 3⟩
    clear hS S
    clear ca0 ca1 ca2 ca3 ca4 ca5 fa la
    clear cb0 cb1 cb2 cb3 cb4 cb5 fb lb
    clear cr0 cr1 cr2 cr3 cr4 cr5 fr lr
    clear co0 co1 co2 co3 co4 co5 fo lo
    replace Ba : Blk (w6.setCell ⟨go, 2, none⟩ (uv (a.lo - b.hi))) (w.heap.size) 43 #[uv a.b.v, uv a.b.m, uv a.lo, uv a.hi, sv a.sl, sv a.sh] := (Ba.far (by first | (simp; done) | (simp; omega) | (simp [*]; done) | (simp only [ne_eq]; constructor <;> omega)) _)
    replace Bb : Blk (w6.setCell ⟨go, 2, none⟩ (uv (a.lo - b.hi))) (w.heap.size + 1) 43 #[uv b.b.v, uv b.b.m, uv b.lo, uv b.hi, sv b.sl, sv b.sh] := (Bb.far (by first | (simp; done) | (simp; omega) | (simp [*]; done) | (simp only [ne_eq]; constructor <;> omega)) _)
    replace Br : Blk (w6.setCell ⟨go, 2, none⟩ (uv (a.lo - b.hi))) (w.heap.size + 1 + 1) 43 #[.int .u64 0, .int .u64 0, .int .u64 0, .int .u64 0, .int .i64 0, .int .i64 0] := (Br.far (by first | (simp; done) | (simp; omega) | (simp [*]; done) | (simp only [ne_eq]; constructor <;> omega)) _)
    replace Bo : Blk (w6.setCell ⟨go, 2, none⟩ (uv (a.lo - b.hi))) (go) 43 #[uv (PlainTnum.sub a.b b.b).v, uv (PlainTnum.sub a.b b.b).m, uv (a.lo - b.hi), uv PlainScalar.any.hi, sv PlainScalar.any.sl, sv PlainScalar.any.sh] := Bo.set_ 2 _
    replace hB : Below w.heap.size w (w6.setCell ⟨go, 2, none⟩ (uv (a.lo - b.hi))) := (Bl_set hB (by first | omega | (simp; done) | (simp; omega)) _)
    generalize (w6.setCell ⟨go, 2, none⟩ (uv (a.lo - b.hi))) = w7 at *
    have ca0 : w7.cell? ⟨w.heap.size, 0, none⟩ = some (uv a.b.v) := Ba.cell 0
    have ca1 : w7.cell? ⟨w.heap.size, 1, none⟩ = some (uv a.b.m) := Ba.cell 1
    have ca2 : w7.cell? ⟨w.heap.size, 2, none⟩ = some (uv a.lo) := Ba.cell 2
    have ca3 : w7.cell? ⟨w.heap.size, 3, none⟩ = some (uv a.hi) := Ba.cell 3
    have ca4 : w7.cell? ⟨w.heap.size, 4, none⟩ = some (sv a.sl) := Ba.cell 4
    have ca5 : w7.cell? ⟨w.heap.size, 5, none⟩ = some (sv a.sh) := Ba.cell 5
    have fa := Ba.frozen
    have la := Ba.lt
    have cb0 : w7.cell? ⟨w.heap.size + 1, 0, none⟩ = some (uv b.b.v) := Bb.cell 0
    have cb1 : w7.cell? ⟨w.heap.size + 1, 1, none⟩ = some (uv b.b.m) := Bb.cell 1
    have cb2 : w7.cell? ⟨w.heap.size + 1, 2, none⟩ = some (uv b.lo) := Bb.cell 2
    have cb3 : w7.cell? ⟨w.heap.size + 1, 3, none⟩ = some (uv b.hi) := Bb.cell 3
    have cb4 : w7.cell? ⟨w.heap.size + 1, 4, none⟩ = some (sv b.sl) := Bb.cell 4
    have cb5 : w7.cell? ⟨w.heap.size + 1, 5, none⟩ = some (sv b.sh) := Bb.cell 5
    have fb := Bb.frozen
    have lb := Bb.lt
    have cr0 : w7.cell? ⟨w.heap.size + 1 + 1, 0, none⟩ = some (.int .u64 0) := Br.cell 0
    have cr1 : w7.cell? ⟨w.heap.size + 1 + 1, 1, none⟩ = some (.int .u64 0) := Br.cell 1
    have cr2 : w7.cell? ⟨w.heap.size + 1 + 1, 2, none⟩ = some (.int .u64 0) := Br.cell 2
    have cr3 : w7.cell? ⟨w.heap.size + 1 + 1, 3, none⟩ = some (.int .u64 0) := Br.cell 3
    have cr4 : w7.cell? ⟨w.heap.size + 1 + 1, 4, none⟩ = some (.int .i64 0) := Br.cell 4
    have cr5 : w7.cell? ⟨w.heap.size + 1 + 1, 5, none⟩ = some (.int .i64 0) := Br.cell 5
    have fr := Br.frozen
    have lr := Br.lt
    have co0 : w7.cell? ⟨go, 0, none⟩ = some (uv (PlainTnum.sub a.b b.b).v) := Bo.cell 0
    have co1 : w7.cell? ⟨go, 1, none⟩ = some (uv (PlainTnum.sub a.b b.b).m) := Bo.cell 1
    have co2 : w7.cell? ⟨go, 2, none⟩ = some (uv (a.lo - b.hi)) := Bo.cell 2
    have co3 : w7.cell? ⟨go, 3, none⟩ = some (uv PlainScalar.any.hi) := Bo.cell 3
    have co4 : w7.cell? ⟨go, 4, none⟩ = some (sv PlainScalar.any.sl) := Bo.cell 4
    have co5 : w7.cell? ⟨go, 5, none⟩ = some (sv PlainScalar.any.sh) := Bo.cell 5
    have fo := Bo.frozen
    have lo := Bo.lt
    go_upto_region 5 with fail
    clear ca0 ca1 ca2 ca3 ca4 ca5 fa la
    clear cb0 cb1 cb2 cb3 cb4 cb5 fb lb
    clear cr0 cr1 cr2 cr3 cr4 cr5 fr lr
    clear co0 co1 co2 co3 co4 co5 fo lo
    replace Ba : Blk (w7.setCell ⟨go, 3, none⟩ (uv (a.hi - b.lo))) (w.heap.size) 43 #[uv a.b.v, uv a.b.m, uv a.lo, uv a.hi, sv a.sl, sv a.sh] := (Ba.far (by first | (simp; done) | (simp; omega) | (simp [*]; done) | (simp only [ne_eq]; constructor <;> omega)) _)
    replace Bb : Blk (w7.setCell ⟨go, 3, none⟩ (uv (a.hi - b.lo))) (w.heap.size + 1) 43 #[uv b.b.v, uv b.b.m, uv b.lo, uv b.hi, sv b.sl, sv b.sh] := (Bb.far (by first | (simp; done) | (simp; omega) | (simp [*]; done) | (simp only [ne_eq]; constructor <;> omega)) _)
    replace Br : Blk (w7.setCell ⟨go, 3, none⟩ (uv (a.hi - b.lo))) (w.heap.size + 1 + 1) 43 #[.int .u64 0, .int .u64 0, .int .u64 0, .int .u64 0, .int .i64 0, .int .i64 0] := (Br.far (by first | (simp; done) | (simp; omega) | (simp [*]; done) | (simp only [ne_eq]; constructor <;> omega)) _)
    replace Bo : Blk (w7.setCell ⟨go, 3, none⟩ (uv (a.hi - b.lo))) (go) 43 #[uv (PlainTnum.sub a.b b.b).v, uv (PlainTnum.sub a.b b.b).m, uv (a.lo - b.hi), uv (a.hi - b.lo), sv PlainScalar.any.sl, sv PlainScalar.any.sh] := Bo.set_ 3 _
    replace hB : Below w.heap.size w (w7.setCell ⟨go, 3, none⟩ (uv (a.hi - b.lo))) := (Bl_set hB (by first | omega | (simp; done) | (simp; omega)) _)
    generalize (w7.setCell ⟨go, 3, none⟩ (uv (a.hi - b.lo))) = w8 at *
    have ca0 : w8.cell? ⟨w.heap.size, 0, none⟩ = some (uv a.b.v) := Ba.cell 0
    have ca1 : w8.cell? ⟨w.heap.size, 1, none⟩ = some (uv a.b.m) := Ba.cell 1
    have ca2 : w8.cell? ⟨w.heap.size, 2, none⟩ = some (uv a.lo) := Ba.cell 2
    have ca3 : w8.cell? ⟨w.heap.size, 3, none⟩ = some (uv a.hi) := Ba.cell 3
    have ca4 : w8.cell? ⟨w.heap.size, 4, none⟩ = some (sv a.sl) := Ba.cell 4
    have ca5 : w8.cell? ⟨w.heap.size, 5, none⟩ = some (sv a.sh) := Ba.cell 5
    have fa := Ba.frozen
    have la := Ba.lt
    have cb0 : w8.cell? ⟨w.heap.size + 1, 0, none⟩ = some (uv b.b.v) := Bb.cell 0
    have cb1 : w8.cell? ⟨w.heap.size + 1, 1, none⟩ = some (uv b.b.m) := Bb.cell 1
    have cb2 : w8.cell? ⟨w.heap.size + 1, 2, none⟩ = some (uv b.lo) := Bb.cell 2
    have cb3 : w8.cell? ⟨w.heap.size + 1, 3, none⟩ = some (uv b.hi) := Bb.cell 3
    have cb4 : w8.cell? ⟨w.heap.size + 1, 4, none⟩ = some (sv b.sl) := Bb.cell 4
    have cb5 : w8.cell? ⟨w.heap.size + 1, 5, none⟩ = some (sv b.sh) := Bb.cell 5
    have fb := Bb.frozen
    have lb := Bb.lt
    have cr0 : w8.cell? ⟨w.heap.size + 1 + 1, 0, none⟩ = some (.int .u64 0) := Br.cell 0
    have cr1 : w8.cell? ⟨w.heap.size + 1 + 1, 1, none⟩ = some (.int .u64 0) := Br.cell 1
    have cr2 : w8.cell? ⟨w.heap.size + 1 + 1, 2, none⟩ = some (.int .u64 0) := Br.cell 2
    have cr3 : w8.cell? ⟨w.heap.size + 1 + 1, 3, none⟩ = some (.int .u64 0) := Br.cell 3
    have cr4 : w8.cell? ⟨w.heap.size + 1 + 1, 4, none⟩ = some (.int .i64 0) := Br.cell 4
    have cr5 : w8.cell? ⟨w.heap.size + 1 + 1, 5, none⟩ = some (.int .i64 0) := Br.cell 5
    have fr := Br.frozen
    have lr := Br.lt
    have co0 : w8.cell? ⟨go, 0, none⟩ = some (uv (PlainTnum.sub a.b b.b).v) := Bo.cell 0
    have co1 : w8.cell? ⟨go, 1, none⟩ = some (uv (PlainTnum.sub a.b b.b).m) := Bo.cell 1
    have co2 : w8.cell? ⟨go, 2, none⟩ = some (uv (a.lo - b.hi)) := Bo.cell 2
    have co3 : w8.cell? ⟨go, 3, none⟩ = some (uv (a.hi - b.lo)) := Bo.cell 3
    have co4 : w8.cell? ⟨go, 4, none⟩ = some (sv PlainScalar.any.sl) := Bo.cell 4
    have co5 : w8.cell? ⟨go, 5, none⟩ = some (sv PlainScalar.any.sh) := Bo.cell 5
    have fo := Bo.frozen
    have lo := Bo.lt
    go_wp2_with fail
    refine (settled_c (⟨(PlainTnum.sub a.b b.b), (a.lo - b.hi), (a.hi - b.lo), PlainScalar.any.sl, PlainScalar.any.sh⟩ : Rng) _).mono ?_
    rintro e w9 ⟨rfl, hb⟩
    clear ca0 ca1 ca2 ca3 ca4 ca5 fa la
    clear cb0 cb1 cb2 cb3 cb4 cb5 fb lb
    clear cr0 cr1 cr2 cr3 cr4 cr5 fr lr
    clear co0 co1 co2 co3 co4 co5 fo lo
    replace Ba := (Ba).next hb
    replace Bb := (Bb).next hb
    replace Br := (Br).next hb
    replace Bo := (Bo).next hb
    replace hB : Below w.heap.size w w9 := by repeat (first | exact hB | (refine Bl_set ?_ (by first | omega | (simp; omega)) _) | apply Bl_alloc | (refine Bl_trans ?_ hb))
    clear hb
    have ca0 : w9.cell? ⟨w.heap.size, 0, none⟩ = some (uv a.b.v) := Ba.cell 0
    have ca1 : w9.cell? ⟨w.heap.size, 1, none⟩ = some (uv a.b.m) := Ba.cell 1
    have ca2 : w9.cell? ⟨w.heap.size, 2, none⟩ = some (uv a.lo) := Ba.cell 2
    have ca3 : w9.cell? ⟨w.heap.size, 3, none⟩ = some (uv a.hi) := Ba.cell 3
    have ca4 : w9.cell? ⟨w.heap.size, 4, none⟩ = some (sv a.sl) := Ba.cell 4
    have ca5 : w9.cell? ⟨w.heap.size, 5, none⟩ = some (sv a.sh) := Ba.cell 5
    have fa := Ba.frozen
    have la := Ba.lt
    have cb0 : w9.cell? ⟨w.heap.size + 1, 0, none⟩ = some (uv b.b.v) := Bb.cell 0
    have cb1 : w9.cell? ⟨w.heap.size + 1, 1, none⟩ = some (uv b.b.m) := Bb.cell 1
    have cb2 : w9.cell? ⟨w.heap.size + 1, 2, none⟩ = some (uv b.lo) := Bb.cell 2
    have cb3 : w9.cell? ⟨w.heap.size + 1, 3, none⟩ = some (uv b.hi) := Bb.cell 3
    have cb4 : w9.cell? ⟨w.heap.size + 1, 4, none⟩ = some (sv b.sl) := Bb.cell 4
    have cb5 : w9.cell? ⟨w.heap.size + 1, 5, none⟩ = some (sv b.sh) := Bb.cell 5
    have fb := Bb.frozen
    have lb := Bb.lt
    have cr0 : w9.cell? ⟨w.heap.size + 1 + 1, 0, none⟩ = some (.int .u64 0) := Br.cell 0
    have cr1 : w9.cell? ⟨w.heap.size + 1 + 1, 1, none⟩ = some (.int .u64 0) := Br.cell 1
    have cr2 : w9.cell? ⟨w.heap.size + 1 + 1, 2, none⟩ = some (.int .u64 0) := Br.cell 2
    have cr3 : w9.cell? ⟨w.heap.size + 1 + 1, 3, none⟩ = some (.int .u64 0) := Br.cell 3
    have cr4 : w9.cell? ⟨w.heap.size + 1 + 1, 4, none⟩ = some (.int .i64 0) := Br.cell 4
    have cr5 : w9.cell? ⟨w.heap.size + 1 + 1, 5, none⟩ = some (.int .i64 0) := Br.cell 5
    have fr := Br.frozen
    have lr := Br.lt
    have co0 : w9.cell? ⟨go, 0, none⟩ = some (uv (PlainTnum.sub a.b b.b).v) := Bo.cell 0
    have co1 : w9.cell? ⟨go, 1, none⟩ = some (uv (PlainTnum.sub a.b b.b).m) := Bo.cell 1
    have co2 : w9.cell? ⟨go, 2, none⟩ = some (uv (a.lo - b.hi)) := Bo.cell 2
    have co3 : w9.cell? ⟨go, 3, none⟩ = some (uv (a.hi - b.lo)) := Bo.cell 3
    have co4 : w9.cell? ⟨go, 4, none⟩ = some (sv PlainScalar.any.sl) := Bo.cell 4
    have co5 : w9.cell? ⟨go, 5, none⟩ = some (sv PlainScalar.any.sh) := Bo.cell 5
    have fo := Bo.frozen
    have lo := Bo.lt
    go_wp2
    exact bodyPost_ret (v := rv (PlainScalar.settled ⟨(PlainTnum.sub a.b b.b), (a.lo - b.hi), (a.hi - b.lo), PlainScalar.any.sl, PlainScalar.any.sh⟩)) (by simp [results, Tryd.results58, go_sem, cr0, cr1, cr2, cr3, cr4, cr5, lr]) rfl ⟨by rw [hs], by repeat (first | (with_reducible exact hB) | (with_reducible refine Bl_set ?_ (by first | omega | (simp; done) | (simp; omega)) _) | with_reducible apply Bl_alloc)⟩
set_option maxRecDepth 100000 in
set_option maxHeartbeats 3200000 in
theorem ssum_c (a b : Rng) (w : World) : Calls Tryd.prog 57 #[rv a, rv b] w fun e w' => e = .returned (rv (PlainScalar.sum a b)) ∧ Below w.heap.size w w' := by
  cases q : decide (a.hi.toNat + b.hi.toNat < 18446744073709551616)
  · have hs : PlainScalar.sum a b = PlainScalar.settled ⟨(PlainTnum.add a.b b.b), PlainScalar.any.lo, PlainScalar.any.hi, PlainScalar.any.sl, PlainScalar.any.sh⟩ := by unfold PlainScalar.sum; rw [if_neg (show ¬ _ from of_decide_eq_false q)]
    have hc := @add64_run a.hi b.hi
    have hq : (a.hi.toNat + b.hi.toNat) / 18446744073709551616 = 1 := by have := of_decide_eq_false q; have := a.hi.isLt; have := b.hi.isLt; omega
    simp only [hq] at hc
    go_enter Tryd.func57, Tryd.ntmps57
    go_wp2_with fail
    obtain ⟨ga, hga⟩ : ∃ g, g = w.heap.size := ⟨_, rfl⟩
    obtain ⟨gb, hgb⟩ : ∃ g, g = w.heap.size + 1 := ⟨_, rfl⟩
    obtain ⟨gr, hgr⟩ : ∃ g, g = w.heap.size + 1 + 1 := ⟨_, rfl⟩
    have Ba : Blk (((w.alloc (.cells #[uv a.b.v, uv a.b.m, uv a.lo, uv a.hi, sv a.sl, sv a.sh] 43)).alloc (.cells #[uv b.b.v, uv b.b.m, uv b.lo, uv b.hi, sv b.sl, sv b.sh] 43)).alloc (.cells #[.int .u64 0, .int .u64 0, .int .u64 0, .int .u64 0, .int .i64 0, .int .i64 0] 43)) (w.heap.size) 43 #[uv a.b.v, uv a.b.m, uv a.lo, uv a.hi, sv a.sl, sv a.sh] := (((Blk.new w 43 #[uv a.b.v, uv a.b.m, uv a.lo, uv a.hi, sv a.sl, sv a.sh])).alloc _).alloc _
    have Bb : Blk (((w.alloc (.cells #[uv a.b.v, uv a.b.m, uv a.lo, uv a.hi, sv a.sl, sv a.sh] 43)).alloc (.cells #[uv b.b.v, uv b.b.m, uv b.lo, uv b.hi, sv b.sl, sv b.sh] 43)).alloc (.cells #[.int .u64 0, .int .u64 0, .int .u64 0, .int .u64 0, .int .i64 0, .int .i64 0] 43)) (w.heap.size + 1) 43 #[uv b.b.v, uv b.b.m, uv b.lo, uv b.hi, sv b.sl, sv b.sh] := ((by simpa using Blk.new (w.alloc (.cells #[uv a.b.v, uv a.b.m, uv a.lo, uv a.hi, sv a.sl, sv a.sh] 43)) 43 #[uv b.b.v, uv b.b.m, uv b.lo, uv b.hi, sv b.sl, sv b.sh] : Blk _ (w.heap.size + 1) 43 #[uv b.b.v, uv b.b.m, uv b.lo, uv b.hi, sv b.sl, sv b.sh])).alloc _
    have Br : Blk (((w.alloc (.cells #[uv a.b.v, uv a.b.m, uv a.lo, uv a.hi, sv a.sl, sv a.sh] 43)).alloc (.cells #[uv b.b.v, uv b.b.m, uv b.lo, uv b.hi, sv b.sl, sv b.sh] 43)).alloc (.cells #[.int .u64 0, .int .u64 0, .int .u64 0, .int .u64 0, .int .i64 0, .int .i64 0] 43)) (w.heap.size + 1 + 1) 43 #[.int .u64 0, .int .u64 0, .int .u64 0, .int .u64 0, .int .i64 0, .int .i64 0] := (by simpa using Blk.new ((w.alloc (.cells #[uv a.b.v, uv a.b.m, uv a.lo, uv a.hi, sv a.sl, sv a.sh] 43)).alloc (.cells #[uv b.b.v, uv b.b.m, uv b.lo, uv b.hi, sv b.sl, sv b.sh] 43)) 43 #[.int .u64 0, .int .u64 0, .int .u64 0, .int .u64 0, .int .i64 0, .int .i64 0] : Blk _ (w.heap.size + 1 + 1) 43 #[.int .u64 0, .int .u64 0, .int .u64 0, .int .u64 0, .int .i64 0, .int .i64 0])
    have hB : Below w.heap.size w (((w.alloc (.cells #[uv a.b.v, uv a.b.m, uv a.lo, uv a.hi, sv a.sl, sv a.sh] 43)).alloc (.cells #[uv b.b.v, uv b.b.m, uv b.lo, uv b.hi, sv b.sl, sv b.sh] 43)).alloc (.cells #[.int .u64 0, .int .u64 0, .int .u64 0, .int .u64 0, .int .i64 0, .int .i64 0] 43)) := (Bl_alloc (Bl_alloc (Bl_alloc (Bl_refl w) _) _) _)
    clear hga
    clear ga
    clear hgb
    clear gb
    clear hgr
    clear gr
    generalize (((w.alloc (.cells #[uv a.b.v, uv a.b.m, uv a.lo, uv a.hi, sv a.sl, sv a.sh] 43)).alloc (.cells #[uv b.b.v, uv b.b.m, uv b.lo, uv b.hi, sv b.sl, sv b.sh] 43)).alloc (.cells #[.int .u64 0, .int .u64 0, .int .u64 0, .int .u64 0, .int .i64 0, .int .i64 0] 43)) = w1 at *
    have ca0 : w1.cell? ⟨w.heap.size, 0, none⟩ = some (uv a.b.v) := Ba.cell 0
    have ca1 : w1.cell? ⟨w.heap.size, 1, none⟩ = some (uv a.b.m) := Ba.cell 1
    have ca2 : w1.cell? ⟨w.heap.size, 2, none⟩ = some (uv a.lo) := Ba.cell 2
    have ca3 : w1.cell? ⟨w.heap.size, 3, none⟩ = some (uv a.hi) := Ba.cell 3
    have ca4 : w1.cell? ⟨w.heap.size, 4, none⟩ = some (sv a.sl) := Ba.cell 4
    have ca5 : w1.cell? ⟨w.heap.size, 5, none⟩ = some (sv a.sh) := Ba.cell 5
    have fa := Ba.frozen
    have la := Ba.lt
    have cb0 : w1.cell? ⟨w.heap.size + 1, 0, none⟩ = some (uv b.b.v) := Bb.cell 0
    have cb1 : w1.cell? ⟨w.heap.size + 1, 1, none⟩ = some (uv b.b.m) := Bb.cell 1
    have cb2 : w1.cell? ⟨w.heap.size + 1, 2, none⟩ = some (uv b.lo) := Bb.cell 2
    have cb3 : w1.cell? ⟨w.heap.size + 1, 3, none⟩ = some (uv b.hi) := Bb.cell 3
    have cb4 : w1.cell? ⟨w.heap.size + 1, 4, none⟩ = some (sv b.sl) := Bb.cell 4
    have cb5 : w1.cell? ⟨w.heap.size + 1, 5, none⟩ = some (sv b.sh) := Bb.cell 5
    have fb := Bb.frozen
    have lb := Bb.lt
    have cr0 : w1.cell? ⟨w.heap.size + 1 + 1, 0, none⟩ = some (.int .u64 0) := Br.cell 0
    have cr1 : w1.cell? ⟨w.heap.size + 1 + 1, 1, none⟩ = some (.int .u64 0) := Br.cell 1
    have cr2 : w1.cell? ⟨w.heap.size + 1 + 1, 2, none⟩ = some (.int .u64 0) := Br.cell 2
    have cr3 : w1.cell? ⟨w.heap.size + 1 + 1, 3, none⟩ = some (.int .u64 0) := Br.cell 3
    have cr4 : w1.cell? ⟨w.heap.size + 1 + 1, 4, none⟩ = some (.int .i64 0) := Br.cell 4
    have cr5 : w1.cell? ⟨w.heap.size + 1 + 1, 5, none⟩ = some (.int .i64 0) := Br.cell 5
    have fr := Br.frozen
    have lr := Br.lt
    go_wp2_with fail
    refine (sany_c _).mono ?_
    rintro e w2 ⟨rfl, hb⟩
    clear ca0 ca1 ca2 ca3 ca4 ca5 fa la
    clear cb0 cb1 cb2 cb3 cb4 cb5 fb lb
    clear cr0 cr1 cr2 cr3 cr4 cr5 fr lr
    replace Ba := (Ba).next hb
    replace Bb := (Bb).next hb
    replace Br := (Br).next hb
    replace hB : Below w.heap.size w w2 := by repeat (first | exact hB | (refine Bl_set ?_ (by first | omega | (simp; omega)) _) | apply Bl_alloc | (refine Bl_trans ?_ hb))
    clear hb
    have ca0 : w2.cell? ⟨w.heap.size, 0, none⟩ = some (uv a.b.v) := Ba.cell 0
    have ca1 : w2.cell? ⟨w.heap.size, 1, none⟩ = some (uv a.b.m) := Ba.cell 1
    have ca2 : w2.cell? ⟨w.heap.size, 2, none⟩ = some (uv a.lo) := Ba.cell 2
    have ca3 : w2.cell? ⟨w.heap.size, 3, none⟩ = some (uv a.hi) := Ba.cell 3
    have ca4 : w2.cell? ⟨w.heap.size, 4, none⟩ = some (sv a.sl) := Ba.cell 4
    have ca5 : w2.cell? ⟨w.heap.size, 5, none⟩ = some (sv a.sh) := Ba.cell 5
    have fa := Ba.frozen
    have la := Ba.lt
    have cb0 : w2.cell? ⟨w.heap.size + 1, 0, none⟩ = some (uv b.b.v) := Bb.cell 0
    have cb1 : w2.cell? ⟨w.heap.size + 1, 1, none⟩ = some (uv b.b.m) := Bb.cell 1
    have cb2 : w2.cell? ⟨w.heap.size + 1, 2, none⟩ = some (uv b.lo) := Bb.cell 2
    have cb3 : w2.cell? ⟨w.heap.size + 1, 3, none⟩ = some (uv b.hi) := Bb.cell 3
    have cb4 : w2.cell? ⟨w.heap.size + 1, 4, none⟩ = some (sv b.sl) := Bb.cell 4
    have cb5 : w2.cell? ⟨w.heap.size + 1, 5, none⟩ = some (sv b.sh) := Bb.cell 5
    have fb := Bb.frozen
    have lb := Bb.lt
    have cr0 : w2.cell? ⟨w.heap.size + 1 + 1, 0, none⟩ = some (.int .u64 0) := Br.cell 0
    have cr1 : w2.cell? ⟨w.heap.size + 1 + 1, 1, none⟩ = some (.int .u64 0) := Br.cell 1
    have cr2 : w2.cell? ⟨w.heap.size + 1 + 1, 2, none⟩ = some (.int .u64 0) := Br.cell 2
    have cr3 : w2.cell? ⟨w.heap.size + 1 + 1, 3, none⟩ = some (.int .u64 0) := Br.cell 3
    have cr4 : w2.cell? ⟨w.heap.size + 1 + 1, 4, none⟩ = some (.int .i64 0) := Br.cell 4
    have cr5 : w2.cell? ⟨w.heap.size + 1 + 1, 5, none⟩ = some (.int .i64 0) := Br.cell 5
    have fr := Br.frozen
    have lr := Br.lt
    go_upto_region 2 with fail
    clear ca0 ca1 ca2 ca3 ca4 ca5 fa la
    clear cb0 cb1 cb2 cb3 cb4 cb5 fb lb
    clear cr0 cr1 cr2 cr3 cr4 cr5 fr lr
    have Bo := Blk.new w2 43 #[uv PlainScalar.any.b.v, uv PlainScalar.any.b.m, uv PlainScalar.any.lo, uv PlainScalar.any.hi, sv PlainScalar.any.sl, sv PlainScalar.any.sh]
    have hgo := hB.size
    have hnao := Nat.ne_of_lt Ba.lt; have hltao := Ba.lt
    have hnbo := Nat.ne_of_lt Bb.lt; have hltbo := Bb.lt
    have hnro := Nat.ne_of_lt Br.lt; have hltro := Br.lt
    replace Ba : Blk (w2.alloc (.cells #[uv PlainScalar.any.b.v, uv PlainScalar.any.b.m, uv PlainScalar.any.lo, uv PlainScalar.any.hi, sv PlainScalar.any.sl, sv PlainScalar.any.sh] 43)) (w.heap.size) 43 #[uv a.b.v, uv a.b.m, uv a.lo, uv a.hi, sv a.sl, sv a.sh] := Ba.alloc _
    replace Bb : Blk (w2.alloc (.cells #[uv PlainScalar.any.b.v, uv PlainScalar.any.b.m, uv PlainScalar.any.lo, uv PlainScalar.any.hi, sv PlainScalar.any.sl, sv PlainScalar.any.sh] 43)) (w.heap.size + 1) 43 #[uv b.b.v, uv b.b.m, uv b.lo, uv b.hi, sv b.sl, sv b.sh] := Bb.alloc _
    replace Br : Blk (w2.alloc (.cells #[uv PlainScalar.any.b.v, uv PlainScalar.any.b.m, uv PlainScalar.any.lo, uv PlainScalar.any.hi, sv PlainScalar.any.sl, sv PlainScalar.any.sh] 43)) (w.heap.size + 1 + 1) 43 #[.int .u64 0, .int .u64 0, .int .u64 0, .int .u64 0, .int .i64 0, .int .i64 0] := Br.alloc _
    replace hB : Below w.heap.size w (w2.alloc (.cells #[uv PlainScalar.any.b.v, uv PlainScalar.any.b.m, uv PlainScalar.any.lo, uv PlainScalar.any.hi, sv PlainScalar.any.sl, sv PlainScalar.any.sh] 43)) := Bl_alloc hB _
    generalize (w2.alloc (.cells #[uv PlainScalar.any.b.v, uv PlainScalar.any.b.m, uv PlainScalar.any.lo, uv PlainScalar.any.hi, sv PlainScalar.any.sl, sv PlainScalar.any.sh] 43)) = w3 at *
    generalize w2.heap.size = go at *
    have ca0 : w3.cell? ⟨w.heap.size, 0, none⟩ = some (uv a.b.v) := Ba.cell 0
    have ca1 : w3.cell? ⟨w.heap.size, 1, none⟩ = some (uv a.b.m) := Ba.cell 1
    have ca2 : w3.cell? ⟨w.heap.size, 2, none⟩ = some (uv a.lo) := Ba.cell 2
    have ca3 : w3.cell? ⟨w.heap.size, 3, none⟩ = some (uv a.hi) := Ba.cell 3
    have ca4 : w3.cell? ⟨w.heap.size, 4, none⟩ = some (sv a.sl) := Ba.cell 4
    have ca5 : w3.cell? ⟨w.heap.size, 5, none⟩ = some (sv a.sh) := Ba.cell 5
    have fa := Ba.frozen
    have la := Ba.lt
    have cb0 : w3.cell? ⟨w.heap.size + 1, 0, none⟩ = some (uv b.b.v) := Bb.cell 0
    have cb1 : w3.cell? ⟨w.heap.size + 1, 1, none⟩ = some (uv b.b.m) := Bb.cell 1
    have cb2 : w3.cell? ⟨w.heap.size + 1, 2, none⟩ = some (uv b.lo) := Bb.cell 2
    have cb3 : w3.cell? ⟨w.heap.size + 1, 3, none⟩ = some (uv b.hi) := Bb.cell 3
    have cb4 : w3.cell? ⟨w.heap.size + 1, 4, none⟩ = some (sv b.sl) := Bb.cell 4
    have cb5 : w3.cell? ⟨w.heap.size + 1, 5, none⟩ = some (sv b.sh) := Bb.cell 5
    have fb := Bb.frozen
    have lb := Bb.lt
    have cr0 : w3.cell? ⟨w.heap.size + 1 + 1, 0, none⟩ = some (.int .u64 0) := Br.cell 0
    have cr1 : w3.cell? ⟨w.heap.size + 1 + 1, 1, none⟩ = some (.int .u64 0) := Br.cell 1
    have cr2 : w3.cell? ⟨w.heap.size + 1 + 1, 2, none⟩ = some (.int .u64 0) := Br.cell 2
    have cr3 : w3.cell? ⟨w.heap.size + 1 + 1, 3, none⟩ = some (.int .u64 0) := Br.cell 3
    have cr4 : w3.cell? ⟨w.heap.size + 1 + 1, 4, none⟩ = some (.int .i64 0) := Br.cell 4
    have cr5 : w3.cell? ⟨w.heap.size + 1 + 1, 5, none⟩ = some (.int .i64 0) := Br.cell 5
    have fr := Br.frozen
    have lr := Br.lt
    have co0 : w3.cell? ⟨go, 0, none⟩ = some (uv PlainScalar.any.b.v) := Bo.cell 0
    have co1 : w3.cell? ⟨go, 1, none⟩ = some (uv PlainScalar.any.b.m) := Bo.cell 1
    have co2 : w3.cell? ⟨go, 2, none⟩ = some (uv PlainScalar.any.lo) := Bo.cell 2
    have co3 : w3.cell? ⟨go, 3, none⟩ = some (uv PlainScalar.any.hi) := Bo.cell 3
    have co4 : w3.cell? ⟨go, 4, none⟩ = some (sv PlainScalar.any.sl) := Bo.cell 4
    have co5 : w3.cell? ⟨go, 5, none⟩ = some (sv PlainScalar.any.sh) := Bo.cell 5
    have fo := Bo.frozen
    have lo := Bo.lt
    go_wp2_with fail
    refine (add_c _ _ _).mono ?_
    rintro e w4 ⟨rfl, hb⟩
    clear ca0 ca1 ca2 ca3 ca4 ca5 fa la
    clear cb0 cb1 cb2 cb3 cb4 cb5 fb lb
    clear cr0 cr1 cr2 cr3 cr4 cr5 fr lr
    clear co0 co1 co2 co3 co4 co5 fo lo
    replace Ba := (Ba).next hb
    replace Bb := (Bb).next hb
    replace Br := (Br).next hb
    replace Bo := (Bo).next hb
    replace hB : Below w.heap.size w w4 := by repeat (first | exact hB | (refine Bl_set ?_ (by first | omega | (simp; omega)) _) | apply Bl_alloc | (refine Bl_trans ?_ hb))
    clear hb
    have ca0 : w4.cell? ⟨w.heap.size, 0, none⟩ = some (uv a.b.v) := Ba.cell 0
    have ca1 : w4.cell? ⟨w.heap.size, 1, none⟩ = some (uv a.b.m) := Ba.cell 1
    have ca2 : w4.cell? ⟨w.heap.size, 2, none⟩ = some (uv a.lo) := Ba.cell 2
    have ca3 : w4.cell? ⟨w.heap.size, 3, none⟩ = some (uv a.hi) := Ba.cell 3
    have ca4 : w4.cell? ⟨w.heap.size, 4, none⟩ = some (sv a.sl) := Ba.cell 4
    have ca5 : w4.cell? ⟨w.heap.size, 5, none⟩ = some (sv a.sh) := Ba.cell 5
    have fa := Ba.frozen
    have la := Ba.lt
    have cb0 : w4.cell? ⟨w.heap.size + 1, 0, none⟩ = some (uv b.b.v) := Bb.cell 0
    have cb1 : w4.cell? ⟨w.heap.size + 1, 1, none⟩ = some (uv b.b.m) := Bb.cell 1
    have cb2 : w4.cell? ⟨w.heap.size + 1, 2, none⟩ = some (uv b.lo) := Bb.cell 2
    have cb3 : w4.cell? ⟨w.heap.size + 1, 3, none⟩ = some (uv b.hi) := Bb.cell 3
    have cb4 : w4.cell? ⟨w.heap.size + 1, 4, none⟩ = some (sv b.sl) := Bb.cell 4
    have cb5 : w4.cell? ⟨w.heap.size + 1, 5, none⟩ = some (sv b.sh) := Bb.cell 5
    have fb := Bb.frozen
    have lb := Bb.lt
    have cr0 : w4.cell? ⟨w.heap.size + 1 + 1, 0, none⟩ = some (.int .u64 0) := Br.cell 0
    have cr1 : w4.cell? ⟨w.heap.size + 1 + 1, 1, none⟩ = some (.int .u64 0) := Br.cell 1
    have cr2 : w4.cell? ⟨w.heap.size + 1 + 1, 2, none⟩ = some (.int .u64 0) := Br.cell 2
    have cr3 : w4.cell? ⟨w.heap.size + 1 + 1, 3, none⟩ = some (.int .u64 0) := Br.cell 3
    have cr4 : w4.cell? ⟨w.heap.size + 1 + 1, 4, none⟩ = some (.int .i64 0) := Br.cell 4
    have cr5 : w4.cell? ⟨w.heap.size + 1 + 1, 5, none⟩ = some (.int .i64 0) := Br.cell 5
    have fr := Br.frozen
    have lr := Br.lt
    have co0 : w4.cell? ⟨go, 0, none⟩ = some (uv PlainScalar.any.b.v) := Bo.cell 0
    have co1 : w4.cell? ⟨go, 1, none⟩ = some (uv PlainScalar.any.b.m) := Bo.cell 1
    have co2 : w4.cell? ⟨go, 2, none⟩ = some (uv PlainScalar.any.lo) := Bo.cell 2
    have co3 : w4.cell? ⟨go, 3, none⟩ = some (uv PlainScalar.any.hi) := Bo.cell 3
    have co4 : w4.cell? ⟨go, 4, none⟩ = some (sv PlainScalar.any.sl) := Bo.cell 4
    have co5 : w4.cell? ⟨go, 5, none⟩ = some (sv PlainScalar.any.sh) := Bo.cell 5
    have fo := Bo.frozen
    have lo := Bo.lt
    go_upto_region 3 with fail
    clear ca0 ca1 ca2 ca3 ca4 ca5 fa la
    clear cb0 cb1 cb2 cb3 cb4 cb5 fb lb
    clear cr0 cr1 cr2 cr3 cr4 cr5 fr lr
    clear co0 co1 co2 co3 co4 co5 fo lo
    replace Ba : Blk (w4.setCell ⟨go, 0, none⟩ (uv (PlainTnum.add a.b b.b).v)) (w.heap.size) 43 #[uv a.b.v, uv a.b.m, uv a.lo, uv a.hi, sv a.sl, sv a.sh] := (Ba.far (by first | (simp; done) | (simp; omega) | (simp [*]; done) | (simp only [ne_eq]; constructor <;> omega)) _)
    replace Bb : Blk (w4.setCell ⟨go, 0, none⟩ (uv (PlainTnum.add a.b b.b).v)) (w.heap.size + 1) 43 #[uv b.b.v, uv b.b.m, uv b.lo, uv b.hi, sv b.sl, sv b.sh] := (Bb.far (by first | (simp; done) | (simp; omega) | (simp [*]; done) | (simp only [ne_eq]; constructor <;> omega)) _)
    replace Br : Blk (w4.setCell ⟨go, 0, none⟩ (uv (PlainTnum.add a.b b.b).v)) (w.heap.size + 1 + 1) 43 #[.int .u64 0, .int .u64 0, .int .u64 0, .int .u64 0, .int .i64 0, .int .i64 0] := (Br.far (by first | (simp; done) | (simp; omega) | (simp [*]; done) | (simp only [ne_eq]; constructor <;> omega)) _)
    replace Bo : Blk (w4.setCell ⟨go, 0, none⟩ (uv (PlainTnum.add a.b b.b).v)) (go) 43 #[uv (PlainTnum.add a.b b.b).v, uv PlainScalar.any.b.m, uv PlainScalar.any.lo, uv PlainScalar.any.hi, sv PlainScalar.any.sl, sv PlainScalar.any.sh] := Bo.set_ 0 _
    replace hB : Below w.heap.size w (w4.setCell ⟨go, 0, none⟩ (uv (PlainTnum.add a.b b.b).v)) := (Bl_set hB (by first | omega | (simp; done) | (simp; omega)) _)
    replace Ba : Blk ((w4.setCell ⟨go, 0, none⟩ (uv (PlainTnum.add a.b b.b).v)).setCell ⟨go, 1, none⟩ (uv (PlainTnum.add a.b b.b).m)) (w.heap.size) 43 #[uv a.b.v, uv a.b.m, uv a.lo, uv a.hi, sv a.sl, sv a.sh] := (Ba.far (by first | (simp; done) | (simp; omega) | (simp [*]; done) | (simp only [ne_eq]; constructor <;> omega)) _)
    replace Bb : Blk ((w4.setCell ⟨go, 0, none⟩ (uv (PlainTnum.add a.b b.b).v)).setCell ⟨go, 1, none⟩ (uv (PlainTnum.add a.b b.b).m)) (w.heap.size + 1) 43 #[uv b.b.v, uv b.b.m, uv b.lo, uv b.hi, sv b.sl, sv b.sh] := (Bb.far (by first | (simp; done) | (simp; omega) | (simp [*]; done) | (simp only [ne_eq]; constructor <;> omega)) _)
    replace Br : Blk ((w4.setCell ⟨go, 0, none⟩ (uv (PlainTnum.add a.b b.b).v)).setCell ⟨go, 1, none⟩ (uv (PlainTnum.add a.b b.b).m)) (w.heap.size + 1 + 1) 43 #[.int .u64 0, .int .u64 0, .int .u64 0, .int .u64 0, .int .i64 0, .int .i64 0] := (Br.far (by first | (simp; done) | (simp; omega) | (simp [*]; done) | (simp only [ne_eq]; constructor <;> omega)) _)
    replace Bo : Blk ((w4.setCell ⟨go, 0, none⟩ (uv (PlainTnum.add a.b b.b).v)).setCell ⟨go, 1, none⟩ (uv (PlainTnum.add a.b b.b).m)) (go) 43 #[uv (PlainTnum.add a.b b.b).v, uv (PlainTnum.add a.b b.b).m, uv PlainScalar.any.lo, uv PlainScalar.any.hi, sv PlainScalar.any.sl, sv PlainScalar.any.sh] := Bo.set_ 1 _
    replace hB : Below w.heap.size w ((w4.setCell ⟨go, 0, none⟩ (uv (PlainTnum.add a.b b.b).v)).setCell ⟨go, 1, none⟩ (uv (PlainTnum.add a.b b.b).m)) := (Bl_set hB (by first | omega | (simp; done) | (simp; omega)) _)
    generalize ((w4.setCell ⟨go, 0, none⟩ (uv (PlainTnum.add a.b b.b).v)).setCell ⟨go, 1, none⟩ (uv (PlainTnum.add a.b b.b).m)) = w5 at *
    have ca0 : w5.cell? ⟨w.heap.size, 0, none⟩ = some (uv a.b.v) := Ba.cell 0
    have ca1 : w5.cell? ⟨w.heap.size, 1, none⟩ = some (uv a.b.m) := Ba.cell 1
    have ca2 : w5.cell? ⟨w.heap.size, 2, none⟩ = some (uv a.lo) := Ba.cell 2
    have ca3 : w5.cell? ⟨w.heap.size, 3, none⟩ = some (uv a.hi) := Ba.cell 3
    have ca4 : w5.cell? ⟨w.heap.size, 4, none⟩ = some (sv a.sl) := Ba.cell 4
    have ca5 : w5.cell? ⟨w.heap.size, 5, none⟩ = some (sv a.sh) := Ba.cell 5
    have fa := Ba.frozen
    have la := Ba.lt
    have cb0 : w5.cell? ⟨w.heap.size + 1, 0, none⟩ = some (uv b.b.v) := Bb.cell 0
    have cb1 : w5.cell? ⟨w.heap.size + 1, 1, none⟩ = some (uv b.b.m) := Bb.cell 1
    have cb2 : w5.cell? ⟨w.heap.size + 1, 2, none⟩ = some (uv b.lo) := Bb.cell 2
    have cb3 : w5.cell? ⟨w.heap.size + 1, 3, none⟩ = some (uv b.hi) := Bb.cell 3
    have cb4 : w5.cell? ⟨w.heap.size + 1, 4, none⟩ = some (sv b.sl) := Bb.cell 4
    have cb5 : w5.cell? ⟨w.heap.size + 1, 5, none⟩ = some (sv b.sh) := Bb.cell 5
    have fb := Bb.frozen
    have lb := Bb.lt
    have cr0 : w5.cell? ⟨w.heap.size + 1 + 1, 0, none⟩ = some (.int .u64 0) := Br.cell 0
    have cr1 : w5.cell? ⟨w.heap.size + 1 + 1, 1, none⟩ = some (.int .u64 0) := Br.cell 1
    have cr2 : w5.cell? ⟨w.heap.size + 1 + 1, 2, none⟩ = some (.int .u64 0) := Br.cell 2
    have cr3 : w5.cell? ⟨w.heap.size + 1 + 1, 3, none⟩ = some (.int .u64 0) := Br.cell 3
    have cr4 : w5.cell? ⟨w.heap.size + 1 + 1, 4, none⟩ = some (.int .i64 0) := Br.cell 4
    have cr5 : w5.cell? ⟨w.heap.size + 1 + 1, 5, none⟩ = some (.int .i64 0) := Br.cell 5
    have fr := Br.frozen
    have lr := Br.lt
    have co0 : w5.cell? ⟨go, 0, none⟩ = some (uv (PlainTnum.add a.b b.b).v) := Bo.cell 0
    have co1 : w5.cell? ⟨go, 1, none⟩ = some (uv (PlainTnum.add a.b b.b).m) := Bo.cell 1
    have co2 : w5.cell? ⟨go, 2, none⟩ = some (uv PlainScalar.any.lo) := Bo.cell 2
    have co3 : w5.cell? ⟨go, 3, none⟩ = some (uv PlainScalar.any.hi) := Bo.cell 3
    have co4 : w5.cell? ⟨go, 4, none⟩ = some (sv PlainScalar.any.sl) := Bo.cell 4
    have co5 : w5.cell? ⟨go, 5, none⟩ = some (sv PlainScalar.any.sh) := Bo.cell 5
    have fo := Bo.frozen
    have lo := Bo.lt
    go_upto_region 6 with (simp only [hc])
    go_wp2_with fail
    refine (settled_c (⟨(PlainTnum.add a.b b.b), PlainScalar.any.lo, PlainScalar.any.hi, PlainScalar.any.sl, PlainScalar.any.sh⟩ : Rng) _).mono ?_
    rintro e w6 ⟨rfl, hb⟩
    clear ca0 ca1 ca2 ca3 ca4 ca5 fa la
    clear cb0 cb1 cb2 cb3 cb4 cb5 fb lb
    clear cr0 cr1 cr2 cr3 cr4 cr5 fr lr
    clear co0 co1 co2 co3 co4 co5 fo lo
    replace Ba := (Ba).next hb
    replace Bb := (Bb).next hb
    replace Br := (Br).next hb
    replace Bo := (Bo).next hb
    replace hB : Below w.heap.size w w6 := by repeat (first | exact hB | (refine Bl_set ?_ (by first | omega | (simp; omega)) _) | apply Bl_alloc | (refine Bl_trans ?_ hb))
    clear hb
    have ca0 : w6.cell? ⟨w.heap.size, 0, none⟩ = some (uv a.b.v) := Ba.cell 0
    have ca1 : w6.cell? ⟨w.heap.size, 1, none⟩ = some (uv a.b.m) := Ba.cell 1
    have ca2 : w6.cell? ⟨w.heap.size, 2, none⟩ = some (uv a.lo) := Ba.cell 2
    have ca3 : w6.cell? ⟨w.heap.size, 3, none⟩ = some (uv a.hi) := Ba.cell 3
    have ca4 : w6.cell? ⟨w.heap.size, 4, none⟩ = some (sv a.sl) := Ba.cell 4
    have ca5 : w6.cell? ⟨w.heap.size, 5, none⟩ = some (sv a.sh) := Ba.cell 5
    have fa := Ba.frozen
    have la := Ba.lt
    have cb0 : w6.cell? ⟨w.heap.size + 1, 0, none⟩ = some (uv b.b.v) := Bb.cell 0
    have cb1 : w6.cell? ⟨w.heap.size + 1, 1, none⟩ = some (uv b.b.m) := Bb.cell 1
    have cb2 : w6.cell? ⟨w.heap.size + 1, 2, none⟩ = some (uv b.lo) := Bb.cell 2
    have cb3 : w6.cell? ⟨w.heap.size + 1, 3, none⟩ = some (uv b.hi) := Bb.cell 3
    have cb4 : w6.cell? ⟨w.heap.size + 1, 4, none⟩ = some (sv b.sl) := Bb.cell 4
    have cb5 : w6.cell? ⟨w.heap.size + 1, 5, none⟩ = some (sv b.sh) := Bb.cell 5
    have fb := Bb.frozen
    have lb := Bb.lt
    have cr0 : w6.cell? ⟨w.heap.size + 1 + 1, 0, none⟩ = some (.int .u64 0) := Br.cell 0
    have cr1 : w6.cell? ⟨w.heap.size + 1 + 1, 1, none⟩ = some (.int .u64 0) := Br.cell 1
    have cr2 : w6.cell? ⟨w.heap.size + 1 + 1, 2, none⟩ = some (.int .u64 0) := Br.cell 2
    have cr3 : w6.cell? ⟨w.heap.size + 1 + 1, 3, none⟩ = some (.int .u64 0) := Br.cell 3
    have cr4 : w6.cell? ⟨w.heap.size + 1 + 1, 4, none⟩ = some (.int .i64 0) := Br.cell 4
    have cr5 : w6.cell? ⟨w.heap.size + 1 + 1, 5, none⟩ = some (.int .i64 0) := Br.cell 5
    have fr := Br.frozen
    have lr := Br.lt
    have co0 : w6.cell? ⟨go, 0, none⟩ = some (uv (PlainTnum.add a.b b.b).v) := Bo.cell 0
    have co1 : w6.cell? ⟨go, 1, none⟩ = some (uv (PlainTnum.add a.b b.b).m) := Bo.cell 1
    have co2 : w6.cell? ⟨go, 2, none⟩ = some (uv PlainScalar.any.lo) := Bo.cell 2
    have co3 : w6.cell? ⟨go, 3, none⟩ = some (uv PlainScalar.any.hi) := Bo.cell 3
    have co4 : w6.cell? ⟨go, 4, none⟩ = some (sv PlainScalar.any.sl) := Bo.cell 4
    have co5 : w6.cell? ⟨go, 5, none⟩ = some (sv PlainScalar.any.sh) := Bo.cell 5
    have fo := Bo.frozen
    have lo := Bo.lt
    go_wp2
    exact bodyPost_ret (v := rv (PlainScalar.settled ⟨(PlainTnum.add a.b b.b), PlainScalar.any.lo, PlainScalar.any.hi, PlainScalar.any.sl, PlainScalar.any.sh⟩)) (by simp [results, Tryd.results57, go_sem, cr0, cr1, cr2, cr3, cr4, cr5, lr]) rfl ⟨by rw [hs], by repeat (first | (with_reducible exact hB) | (with_reducible refine Bl_set ?_ (by first | omega | (simp; done) | (simp; omega)) _) | with_reducible apply Bl_alloc)⟩
  · have hs : PlainScalar.sum a b = PlainScalar.settled ⟨(PlainTnum.add a.b b.b), (a.lo + b.lo), (a.hi + b.hi), PlainScalar.any.sl, PlainScalar.any.sh⟩ := by unfold PlainScalar.sum; rw [if_pos (show _ from of_decide_eq_true q)]
    have hc := @add64_run a.hi b.hi
    have hq : (a.hi.toNat + b.hi.toNat) / 18446744073709551616 = 0 := by have := of_decide_eq_true q; have := a.hi.isLt; have := b.hi.isLt; omega
    simp only [hq] at hc
    go_enter Tryd.func57, Tryd.ntmps57
    go_wp2_with fail
    obtain ⟨ga, hga⟩ : ∃ g, g = w.heap.size := ⟨_, rfl⟩
    obtain ⟨gb, hgb⟩ : ∃ g, g = w.heap.size + 1 := ⟨_, rfl⟩
    obtain ⟨gr, hgr⟩ : ∃ g, g = w.heap.size + 1 + 1 := ⟨_, rfl⟩
    have Ba : Blk (((w.alloc (.cells #[uv a.b.v, uv a.b.m, uv a.lo, uv a.hi, sv a.sl, sv a.sh] 43)).alloc (.cells #[uv b.b.v, uv b.b.m, uv b.lo, uv b.hi, sv b.sl, sv b.sh] 43)).alloc (.cells #[.int .u64 0, .int .u64 0, .int .u64 0, .int .u64 0, .int .i64 0, .int .i64 0] 43)) (w.heap.size) 43 #[uv a.b.v, uv a.b.m, uv a.lo, uv a.hi, sv a.sl, sv a.sh] := (((Blk.new w 43 #[uv a.b.v, uv a.b.m, uv a.lo, uv a.hi, sv a.sl, sv a.sh])).alloc _).alloc _
    have Bb : Blk (((w.alloc (.cells #[uv a.b.v, uv a.b.m, uv a.lo, uv a.hi, sv a.sl, sv a.sh] 43)).alloc (.cells #[uv b.b.v, uv b.b.m, uv b.lo, uv b.hi, sv b.sl, sv b.sh] 43)).alloc (.cells #[.int .u64 0, .int .u64 0, .int .u64 0, .int .u64 0, .int .i64 0, .int .i64 0] 43)) (w.heap.size + 1) 43 #[uv b.b.v, uv b.b.m, uv b.lo, uv b.hi, sv b.sl, sv b.sh] := ((by simpa using Blk.new (w.alloc (.cells #[uv a.b.v, uv a.b.m, uv a.lo, uv a.hi, sv a.sl, sv a.sh] 43)) 43 #[uv b.b.v, uv b.b.m, uv b.lo, uv b.hi, sv b.sl, sv b.sh] : Blk _ (w.heap.size + 1) 43 #[uv b.b.v, uv b.b.m, uv b.lo, uv b.hi, sv b.sl, sv b.sh])).alloc _
    have Br : Blk (((w.alloc (.cells #[uv a.b.v, uv a.b.m, uv a.lo, uv a.hi, sv a.sl, sv a.sh] 43)).alloc (.cells #[uv b.b.v, uv b.b.m, uv b.lo, uv b.hi, sv b.sl, sv b.sh] 43)).alloc (.cells #[.int .u64 0, .int .u64 0, .int .u64 0, .int .u64 0, .int .i64 0, .int .i64 0] 43)) (w.heap.size + 1 + 1) 43 #[.int .u64 0, .int .u64 0, .int .u64 0, .int .u64 0, .int .i64 0, .int .i64 0] := (by simpa using Blk.new ((w.alloc (.cells #[uv a.b.v, uv a.b.m, uv a.lo, uv a.hi, sv a.sl, sv a.sh] 43)).alloc (.cells #[uv b.b.v, uv b.b.m, uv b.lo, uv b.hi, sv b.sl, sv b.sh] 43)) 43 #[.int .u64 0, .int .u64 0, .int .u64 0, .int .u64 0, .int .i64 0, .int .i64 0] : Blk _ (w.heap.size + 1 + 1) 43 #[.int .u64 0, .int .u64 0, .int .u64 0, .int .u64 0, .int .i64 0, .int .i64 0])
    have hB : Below w.heap.size w (((w.alloc (.cells #[uv a.b.v, uv a.b.m, uv a.lo, uv a.hi, sv a.sl, sv a.sh] 43)).alloc (.cells #[uv b.b.v, uv b.b.m, uv b.lo, uv b.hi, sv b.sl, sv b.sh] 43)).alloc (.cells #[.int .u64 0, .int .u64 0, .int .u64 0, .int .u64 0, .int .i64 0, .int .i64 0] 43)) := (Bl_alloc (Bl_alloc (Bl_alloc (Bl_refl w) _) _) _)
    clear hga
    clear ga
    clear hgb
    clear gb
    clear hgr
    clear gr
    generalize (((w.alloc (.cells #[uv a.b.v, uv a.b.m, uv a.lo, uv a.hi, sv a.sl, sv a.sh] 43)).alloc (.cells #[uv b.b.v, uv b.b.m, uv b.lo, uv b.hi, sv b.sl, sv b.sh] 43)).alloc (.cells #[.int .u64 0, .int .u64 0, .int .u64 0, .int .u64 0, .int .i64 0, .int .i64 0] 43)) = w1 at *
    have ca0 : w1.cell? ⟨w.heap.size, 0, none⟩ = some (uv a.b.v) := Ba.cell 0
    have ca1 : w1.cell? ⟨w.heap.size, 1, none⟩ = some (uv a.b.m) := Ba.cell 1
    have ca2 : w1.cell? ⟨w.heap.size, 2, none⟩ = some (uv a.lo) := Ba.cell 2
    have ca3 : w1.cell? ⟨w.heap.size, 3, none⟩ = some (uv a.hi) := Ba.cell 3
    have ca4 : w1.cell? ⟨w.heap.size, 4, none⟩ = some (sv a.sl) := Ba.cell 4
    have ca5 : w1.cell? ⟨w.heap.size, 5, none⟩ = some (sv a.sh) := Ba.cell 5
    have fa := Ba.frozen
    have la := Ba.lt
    have cb0 : w1.cell? ⟨w.heap.size + 1, 0, none⟩ = some (uv b.b.v) := Bb.cell 0
    have cb1 : w1.cell? ⟨w.heap.size + 1, 1, none⟩ = some (uv b.b.m) := Bb.cell 1
    have cb2 : w1.cell? ⟨w.heap.size + 1, 2, none⟩ = some (uv b.lo) := Bb.cell 2
    have cb3 : w1.cell? ⟨w.heap.size + 1, 3, none⟩ = some (uv b.hi) := Bb.cell 3
    have cb4 : w1.cell? ⟨w.heap.size + 1, 4, none⟩ = some (sv b.sl) := Bb.cell 4
    have cb5 : w1.cell? ⟨w.heap.size + 1, 5, none⟩ = some (sv b.sh) := Bb.cell 5
    have fb := Bb.frozen
    have lb := Bb.lt
    have cr0 : w1.cell? ⟨w.heap.size + 1 + 1, 0, none⟩ = some (.int .u64 0) := Br.cell 0
    have cr1 : w1.cell? ⟨w.heap.size + 1 + 1, 1, none⟩ = some (.int .u64 0) := Br.cell 1
    have cr2 : w1.cell? ⟨w.heap.size + 1 + 1, 2, none⟩ = some (.int .u64 0) := Br.cell 2
    have cr3 : w1.cell? ⟨w.heap.size + 1 + 1, 3, none⟩ = some (.int .u64 0) := Br.cell 3
    have cr4 : w1.cell? ⟨w.heap.size + 1 + 1, 4, none⟩ = some (.int .i64 0) := Br.cell 4
    have cr5 : w1.cell? ⟨w.heap.size + 1 + 1, 5, none⟩ = some (.int .i64 0) := Br.cell 5
    have fr := Br.frozen
    have lr := Br.lt
    go_wp2_with fail
    refine (sany_c _).mono ?_
    rintro e w2 ⟨rfl, hb⟩
    clear ca0 ca1 ca2 ca3 ca4 ca5 fa la
    clear cb0 cb1 cb2 cb3 cb4 cb5 fb lb
    clear cr0 cr1 cr2 cr3 cr4 cr5 fr lr
    replace Ba := (Ba).next hb
    replace Bb := (Bb).next hb
    replace Br := (Br).next hb
    replace hB : Below w.heap.size w w2 := by repeat (first | exact hB | (refine Bl_set ?_ (by first | omega | (simp; omega)) _) | apply Bl_alloc | (refine Bl_trans ?_ hb))
    clear hb
    have ca0 : w2.cell? ⟨w.heap.size, 0, none⟩ = some (uv a.b.v) := Ba.cell 0
    have ca1 : w2.cell? ⟨w.heap.size, 1, none⟩ = some (uv a.b.m) := Ba.cell 1
    have ca2 : w2.cell? ⟨w.heap.size, 2, none⟩ = some (uv a.lo) := Ba.cell 2
    have ca3 : w2.cell? ⟨w.heap.size, 3, none⟩ = some (uv a.hi) := Ba.cell 3
    have ca4 : w2.cell? ⟨w.heap.size, 4, none⟩ = some (sv a.sl) := Ba.cell 4
    have ca5 : w2.cell? ⟨w.heap.size, 5, none⟩ = some (sv a.sh) := Ba.cell 5
    have fa := Ba.frozen
    have la := Ba.lt
    have cb0 : w2.cell? ⟨w.heap.size + 1, 0, none⟩ = some (uv b.b.v) := Bb.cell 0
    have cb1 : w2.cell? ⟨w.heap.size + 1, 1, none⟩ = some (uv b.b.m) := Bb.cell 1
    have cb2 : w2.cell? ⟨w.heap.size + 1, 2, none⟩ = some (uv b.lo) := Bb.cell 2
    have cb3 : w2.cell? ⟨w.heap.size + 1, 3, none⟩ = some (uv b.hi) := Bb.cell 3
    have cb4 : w2.cell? ⟨w.heap.size + 1, 4, none⟩ = some (sv b.sl) := Bb.cell 4
    have cb5 : w2.cell? ⟨w.heap.size + 1, 5, none⟩ = some (sv b.sh) := Bb.cell 5
    have fb := Bb.frozen
    have lb := Bb.lt
    have cr0 : w2.cell? ⟨w.heap.size + 1 + 1, 0, none⟩ = some (.int .u64 0) := Br.cell 0
    have cr1 : w2.cell? ⟨w.heap.size + 1 + 1, 1, none⟩ = some (.int .u64 0) := Br.cell 1
    have cr2 : w2.cell? ⟨w.heap.size + 1 + 1, 2, none⟩ = some (.int .u64 0) := Br.cell 2
    have cr3 : w2.cell? ⟨w.heap.size + 1 + 1, 3, none⟩ = some (.int .u64 0) := Br.cell 3
    have cr4 : w2.cell? ⟨w.heap.size + 1 + 1, 4, none⟩ = some (.int .i64 0) := Br.cell 4
    have cr5 : w2.cell? ⟨w.heap.size + 1 + 1, 5, none⟩ = some (.int .i64 0) := Br.cell 5
    have fr := Br.frozen
    have lr := Br.lt
    go_upto_region 2 with fail
    clear ca0 ca1 ca2 ca3 ca4 ca5 fa la
    clear cb0 cb1 cb2 cb3 cb4 cb5 fb lb
    clear cr0 cr1 cr2 cr3 cr4 cr5 fr lr
    have Bo := Blk.new w2 43 #[uv PlainScalar.any.b.v, uv PlainScalar.any.b.m, uv PlainScalar.any.lo, uv PlainScalar.any.hi, sv PlainScalar.any.sl, sv PlainScalar.any.sh]
    have hgo := hB.size
    have hnao := Nat.ne_of_lt Ba.lt; have hltao := Ba.lt
    have hnbo := Nat.ne_of_lt Bb.lt; have hltbo := Bb.lt
    have hnro := Nat.ne_of_lt Br.lt; have hltro := Br.lt
    replace Ba : Blk (w2.alloc (.cells #[uv PlainScalar.any.b.v, uv PlainScalar.any.b.m, uv PlainScalar.any.lo, uv PlainScalar.any.hi, sv PlainScalar.any.sl, sv PlainScalar.any.sh] 43)) (w.heap.size) 43 #[uv a.b.v, uv a.b.m, uv a.lo, uv a.hi, sv a.sl, sv a.sh] := Ba.alloc _
    replace Bb : Blk (w2.alloc (.cells #[uv PlainScalar.any.b.v, uv PlainScalar.any.b.m, uv PlainScalar.any.lo, uv PlainScalar.any.hi, sv PlainScalar.any.sl, sv PlainScalar.any.sh] 43)) (w.heap.size + 1) 43 #[uv b.b.v, uv b.b.m, uv b.lo, uv b.hi, sv b.sl, sv b.sh] := Bb.alloc _
    replace Br : Blk (w2.alloc (.cells #[uv PlainScalar.any.b.v, uv PlainScalar.any.b.m, uv PlainScalar.any.lo, uv PlainScalar.any.hi, sv PlainScalar.any.sl, sv PlainScalar.any.sh] 43)) (w.heap.size + 1 + 1) 43 #[.int .u64 0, .int .u64 0, .int .u64 0, .int .u64 0, .int .i64 0, .int .i64 0] := Br.alloc _
    replace hB : Below w.heap.size w (w2.alloc (.cells #[uv PlainScalar.any.b.v, uv PlainScalar.any.b.m, uv PlainScalar.any.lo, uv PlainScalar.any.hi, sv PlainScalar.any.sl, sv PlainScalar.any.sh] 43)) := Bl_alloc hB _
    generalize (w2.alloc (.cells #[uv PlainScalar.any.b.v, uv PlainScalar.any.b.m, uv PlainScalar.any.lo, uv PlainScalar.any.hi, sv PlainScalar.any.sl, sv PlainScalar.any.sh] 43)) = w3 at *
    generalize w2.heap.size = go at *
    have ca0 : w3.cell? ⟨w.heap.size, 0, none⟩ = some (uv a.b.v) := Ba.cell 0
    have ca1 : w3.cell? ⟨w.heap.size, 1, none⟩ = some (uv a.b.m) := Ba.cell 1
    have ca2 : w3.cell? ⟨w.heap.size, 2, none⟩ = some (uv a.lo) := Ba.cell 2
    have ca3 : w3.cell? ⟨w.heap.size, 3, none⟩ = some (uv a.hi) := Ba.cell 3
    have ca4 : w3.cell? ⟨w.heap.size, 4, none⟩ = some (sv a.sl) := Ba.cell 4
    have ca5 : w3.cell? ⟨w.heap.size, 5, none⟩ = some (sv a.sh) := Ba.cell 5
    have fa := Ba.frozen
    have la := Ba.lt
    have cb0 : w3.cell? ⟨w.heap.size + 1, 0, none⟩ = some (uv b.b.v) := Bb.cell 0
    have cb1 : w3.cell? ⟨w.heap.size + 1, 1, none⟩ = some (uv b.b.m) := Bb.cell 1
    have cb2 : w3.cell? ⟨w.heap.size + 1, 2, none⟩ = some (uv b.lo) := Bb.cell 2
    have cb3 : w3.cell? ⟨w.heap.size + 1, 3, none⟩ = some (uv b.hi) := Bb.cell 3
    have cb4 : w3.cell? ⟨w.heap.size + 1, 4, none⟩ = some (sv b.sl) := Bb.cell 4
    have cb5 : w3.cell? ⟨w.heap.size + 1, 5, none⟩ = some (sv b.sh) := Bb.cell 5
    have fb := Bb.frozen
    have lb := Bb.lt
    have cr0 : w3.cell? ⟨w.heap.size + 1 + 1, 0, none⟩ = some (.int .u64 0) := Br.cell 0
    have cr1 : w3.cell? ⟨w.heap.size + 1 + 1, 1, none⟩ = some (.int .u64 0) := Br.cell 1
    have cr2 : w3.cell? ⟨w.heap.size + 1 + 1, 2, none⟩ = some (.int .u64 0) := Br.cell 2
    have cr3 : w3.cell? ⟨w.heap.size + 1 + 1, 3, none⟩ = some (.int .u64 0) := Br.cell 3
    have cr4 : w3.cell? ⟨w.heap.size + 1 + 1, 4, none⟩ = some (.int .i64 0) := Br.cell 4
    have cr5 : w3.cell? ⟨w.heap.size + 1 + 1, 5, none⟩ = some (.int .i64 0) := Br.cell 5
    have fr := Br.frozen
    have lr := Br.lt
    have co0 : w3.cell? ⟨go, 0, none⟩ = some (uv PlainScalar.any.b.v) := Bo.cell 0
    have co1 : w3.cell? ⟨go, 1, none⟩ = some (uv PlainScalar.any.b.m) := Bo.cell 1
    have co2 : w3.cell? ⟨go, 2, none⟩ = some (uv PlainScalar.any.lo) := Bo.cell 2
    have co3 : w3.cell? ⟨go, 3, none⟩ = some (uv PlainScalar.any.hi) := Bo.cell 3
    have co4 : w3.cell? ⟨go, 4, none⟩ = some (sv PlainScalar.any.sl) := Bo.cell 4
    have co5 : w3.cell? ⟨go, 5, none⟩ = some (sv PlainScalar.any.sh) := Bo.cell 5
    have fo := Bo.frozen
    have lo := Bo.lt
    go_wp2_with fail
    refine (add_c _ _ _).mono ?_
    rintro e w4 ⟨rfl, hb⟩
    clear ca0 ca1 ca2 ca3 ca4 ca5 fa la
    clear cb0 cb1 cb2 cb3 cb4 cb5 fb lb
    clear cr0 cr1 cr2 cr3 cr4 cr5 fr lr
    clear co0 co1 co2 co3 co4 co5 fo lo
    replace Ba := (Ba).next hb
    replace Bb := (Bb).next hb
    replace Br := (Br).next hb
    replace Bo := (Bo).next hb
    replace hB : Below w.heap.size w w4 := by repeat (first | exact hB | (refine Bl_set ?_ (by first | omega | (simp; omega)) _) | apply Bl_alloc | (refine Bl_trans ?_ hb))
    clear hb
    have ca0 : w4.cell? ⟨w.heap.size, 0, none⟩ = some (uv a.b.v) := Ba.cell 0
    have ca1 : w4.cell? ⟨w.heap.size, 1, none⟩ = some (uv a.b.m) := Ba.cell 1
    have ca2 : w4.cell? ⟨w.heap.size, 2, none⟩ = some (uv a.lo) := Ba.cell 2
    have ca3 : w4.cell? ⟨w.heap.size, 3, none⟩ = some (uv a.hi) := Ba.cell 3
    have ca4 : w4.cell? ⟨w.heap.size, 4, none⟩ = some (sv a.sl) := Ba.cell 4
    have ca5 : w4.cell? ⟨w.heap.size, 5, none⟩ = some (sv a.sh) := Ba.cell 5
    have fa := Ba.frozen
    have la := Ba.lt
    have cb0 : w4.cell? ⟨w.heap.size + 1, 0, none⟩ = some (uv b.b.v) := Bb.cell 0
    have cb1 : w4.cell? ⟨w.heap.size + 1, 1, none⟩ = some (uv b.b.m) := Bb.cell 1
    have cb2 : w4.cell? ⟨w.heap.size + 1, 2, none⟩ = some (uv b.lo) := Bb.cell 2
    have cb3 : w4.cell? ⟨w.heap.size + 1, 3, none⟩ = some (uv b.hi) := Bb.cell 3
    have cb4 : w4.cell? ⟨w.heap.size + 1, 4, none⟩ = some (sv b.sl) := Bb.cell 4
    have cb5 : w4.cell? ⟨w.heap.size + 1, 5, none⟩ = some (sv b.sh) := Bb.cell 5
    have fb := Bb.frozen
    have lb := Bb.lt
    have cr0 : w4.cell? ⟨w.heap.size + 1 + 1, 0, none⟩ = some (.int .u64 0) := Br.cell 0
    have cr1 : w4.cell? ⟨w.heap.size + 1 + 1, 1, none⟩ = some (.int .u64 0) := Br.cell 1
    have cr2 : w4.cell? ⟨w.heap.size + 1 + 1, 2, none⟩ = some (.int .u64 0) := Br.cell 2
    have cr3 : w4.cell? ⟨w.heap.size + 1 + 1, 3, none⟩ = some (.int .u64 0) := Br.cell 3
    have cr4 : w4.cell? ⟨w.heap.size + 1 + 1, 4, none⟩ = some (.int .i64 0) := Br.cell 4
    have cr5 : w4.cell? ⟨w.heap.size + 1 + 1, 5, none⟩ = some (.int .i64 0) := Br.cell 5
    have fr := Br.frozen
    have lr := Br.lt
    have co0 : w4.cell? ⟨go, 0, none⟩ = some (uv PlainScalar.any.b.v) := Bo.cell 0
    have co1 : w4.cell? ⟨go, 1, none⟩ = some (uv PlainScalar.any.b.m) := Bo.cell 1
    have co2 : w4.cell? ⟨go, 2, none⟩ = some (uv PlainScalar.any.lo) := Bo.cell 2
    have co3 : w4.cell? ⟨go, 3, none⟩ = some (uv PlainScalar.any.hi) := Bo.cell 3
    have co4 : w4.cell? ⟨go, 4, none⟩ = some (sv PlainScalar.any.sl) := Bo.cell 4
    have co5 : w4.cell? ⟨go, 5, none⟩ = some (sv PlainScalar.any.sh) := Bo.cell 5
    have fo := Bo.frozen
    have lo := Bo.lt
    go_upto_region 3 with fail
    clear ca0 ca1 ca2 ca3 ca4 ca5 fa la
    clear cb0 cb1 cb2 cb3 cb4 cb5 fb lb
    clear cr0 cr1 cr2 cr3 cr4 cr5 fr lr
    clear co0 co1 co2 co3 co4 co5 fo lo
    replace Ba : Blk (w4.setCell ⟨go, 0, none⟩ (uv (PlainTnum.add a.b b.b).v)) (w.heap.size) 43 #[uv a.b.v, uv a.b.m, uv a.lo, uv a.hi, sv a.sl, sv a.sh] := (Ba.far (by first | (simp; done) | (simp; omega) | (simp [*]; done) | (simp only [ne_eq]; constructor <;> omega)) _)
    replace Bb : Blk (w4.setCell ⟨go, 0, none⟩ (uv (PlainTnum.add a.b b.b).v)) (w.heap.size + 1) 43 #[uv b.b.v, uv b.b.m, uv b.lo, uv b.hi, sv b.sl, sv b.sh] := (Bb.far (by first | (simp; done) | (simp; omega) | (simp [*]; done) | (simp only [ne_eq]; constructor <;> omega)) _)
    replace Br : Blk (w4.setCell ⟨go, 0, none⟩ (uv (PlainTnum.add a.b b.b).v)) (w.heap.size + 1 + 1) 43 #[.int .u64 0, .int .u64 0, .int .u64 0, .int .u64 0, .int .i64 0, .int .i64 0] := (Br.far (by first | (simp; done) | (simp; omega) | (simp [*]; done) | (simp only [ne_eq]; constructor <;> omega)) _)
    replace Bo : Blk (w4.setCell ⟨go, 0, none⟩ (uv (PlainTnum.add a.b b.b).v)) (go) 43 #[uv (PlainTnum.add a.b b.b).v, uv PlainScalar.any.b.m, uv PlainScalar.any.lo, uv PlainScalar.any.hi, sv PlainScalar.any.sl, sv PlainScalar.any.sh] := Bo.set_ 0 _
    replace hB : Below w.heap.size w (w4.setCell ⟨go, 0, none⟩ (uv (PlainTnum.add a.b b.b).v)) := (Bl_set hB (by first | omega | (simp; done) | (simp; omega)) _)
    replace Ba : Blk ((w4.setCell ⟨go, 0, none⟩ (uv (PlainTnum.add a.b b.b).v)).setCell ⟨go, 1, none⟩ (uv (PlainTnum.add a.b b.b).m)) (w.heap.size) 43 #[uv a.b.v, uv a.b.m, uv a.lo, uv a.hi, sv a.sl, sv a.sh] := (Ba.far (by first | (simp; done) | (simp; omega) | (simp [*]; done) | (simp only [ne_eq]; constructor <;> omega)) _)
    replace Bb : Blk ((w4.setCell ⟨go, 0, none⟩ (uv (PlainTnum.add a.b b.b).v)).setCell ⟨go, 1, none⟩ (uv (PlainTnum.add a.b b.b).m)) (w.heap.size + 1) 43 #[uv b.b.v, uv b.b.m, uv b.lo, uv b.hi, sv b.sl, sv b.sh] := (Bb.far (by first | (simp; done) | (simp; omega) | (simp [*]; done) | (simp only [ne_eq]; constructor <;> omega)) _)
    replace Br : Blk ((w4.setCell ⟨go, 0, none⟩ (uv (PlainTnum.add a.b b.b).v)).setCell ⟨go, 1, none⟩ (uv (PlainTnum.add a.b b.b).m)) (w.heap.size + 1 + 1) 43 #[.int .u64 0, .int .u64 0, .int .u64 0, .int .u64 0, .int .i64 0, .int .i64 0] := (Br.far (by first | (simp; done) | (simp; omega) | (simp [*]; done) | (simp only [ne_eq]; constructor <;> omega)) _)
    replace Bo : Blk ((w4.setCell ⟨go, 0, none⟩ (uv (PlainTnum.add a.b b.b).v)).setCell ⟨go, 1, none⟩ (uv (PlainTnum.add a.b b.b).m)) (go) 43 #[uv (PlainTnum.add a.b b.b).v, uv (PlainTnum.add a.b b.b).m, uv PlainScalar.any.lo, uv PlainScalar.any.hi, sv PlainScalar.any.sl, sv PlainScalar.any.sh] := Bo.set_ 1 _
    replace hB : Below w.heap.size w ((w4.setCell ⟨go, 0, none⟩ (uv (PlainTnum.add a.b b.b).v)).setCell ⟨go, 1, none⟩ (uv (PlainTnum.add a.b b.b).m)) := (Bl_set hB (by first | omega | (simp; done) | (simp; omega)) _)
    generalize ((w4.setCell ⟨go, 0, none⟩ (uv (PlainTnum.add a.b b.b).v)).setCell ⟨go, 1, none⟩ (uv (PlainTnum.add a.b b.b).m)) = w5 at *
    have ca0 : w5.cell? ⟨w.heap.size, 0, none⟩ = some (uv a.b.v) := Ba.cell 0
    have ca1 : w5.cell? ⟨w.heap.size, 1, none⟩ = some (uv a.b.m) := Ba.cell 1
    have ca2 : w5.cell? ⟨w.heap.size, 2, none⟩ = some (uv a.lo) := Ba.cell 2
    have ca3 : w5.cell? ⟨w.heap.size, 3, none⟩ = some (uv a.hi) := Ba.cell 3
    have ca4 : w5.cell? ⟨w.heap.size, 4, none⟩ = some (sv a.sl) := Ba.cell 4
    have ca5 : w5.cell? ⟨w.heap.size, 5, none⟩ = some (sv a.sh) := Ba.cell 5
    have fa := Ba.frozen
    have la := Ba.lt
    have cb0 : w5.cell? ⟨w.heap.size + 1, 0, none⟩ = some (uv b.b.v) := Bb.cell 0
    have cb1 : w5.cell? ⟨w.heap.size + 1, 1, none⟩ = some (uv b.b.m) := Bb.cell 1
    have cb2 : w5.cell? ⟨w.heap.size + 1, 2, none⟩ = some (uv b.lo) := Bb.cell 2
    have cb3 : w5.cell? ⟨w.heap.size + 1, 3, none⟩ = some (uv b.hi) := Bb.cell 3
    have cb4 : w5.cell? ⟨w.heap.size + 1, 4, none⟩ = some (sv b.sl) := Bb.cell 4
    have cb5 : w5.cell? ⟨w.heap.size + 1, 5, none⟩ = some (sv b.sh) := Bb.cell 5
    have fb := Bb.frozen
    have lb := Bb.lt
    have cr0 : w5.cell? ⟨w.heap.size + 1 + 1, 0, none⟩ = some (.int .u64 0) := Br.cell 0
    have cr1 : w5.cell? ⟨w.heap.size + 1 + 1, 1, none⟩ = some (.int .u64 0) := Br.cell 1
    have cr2 : w5.cell? ⟨w.heap.size + 1 + 1, 2, none⟩ = some (.int .u64 0) := Br.cell 2
    have cr3 : w5.cell? ⟨w.heap.size + 1 + 1, 3, none⟩ = some (.int .u64 0) := Br.cell 3
    have cr4 : w5.cell? ⟨w.heap.size + 1 + 1, 4, none⟩ = some (.int .i64 0) := Br.cell 4
    have cr5 : w5.cell? ⟨w.heap.size + 1 + 1, 5, none⟩ = some (.int .i64 0) := Br.cell 5
    have fr := Br.frozen
    have lr := Br.lt
    have co0 : w5.cell? ⟨go, 0, none⟩ = some (uv (PlainTnum.add a.b b.b).v) := Bo.cell 0
    have co1 : w5.cell? ⟨go, 1, none⟩ = some (uv (PlainTnum.add a.b b.b).m) := Bo.cell 1
    have co2 : w5.cell? ⟨go, 2, none⟩ = some (uv PlainScalar.any.lo) := Bo.cell 2
    have co3 : w5.cell? ⟨go, 3, none⟩ = some (uv PlainScalar.any.hi) := Bo.cell 3
    have co4 : w5.cell? ⟨go, 4, none⟩ = some (sv PlainScalar.any.sl) := Bo.cell 4
    have co5 : w5.cell? ⟨go, 5, none⟩ = some (sv PlainScalar.any.sh) := Bo.cell 5
    have fo := Bo.frozen
    have lo := Bo.lt
    go_upto_region 5 with (simp only [hc])
    go_wp2_with fail
    replace ca0 : ∀ g : Later w5, g.w.cell? ⟨w.heap.size, 0, none⟩ = some (uv a.b.v) := fun g => g.cell (Ba.cell 0)
    replace ca1 : ∀ g : Later w5, g.w.cell? ⟨w.heap.size, 1, none⟩ = some (uv a.b.m) := fun g => g.cell (Ba.cell 1)
    replace ca2 : ∀ g : Later w5, g.w.cell? ⟨w.heap.size, 2, none⟩ = some (uv a.lo) := fun g => g.cell (Ba.cell 2)
    replace ca3 : ∀ g : Later w5, g.w.cell? ⟨w.heap.size, 3, none⟩ = some (uv a.hi) := fun g => g.cell (Ba.cell 3)
    replace ca4 : ∀ g : Later w5, g.w.cell? ⟨w.heap.size, 4, none⟩ = some (sv a.sl) := fun g => g.cell (Ba.cell 4)
    replace ca5 : ∀ g : Later w5, g.w.cell? ⟨w.heap.size, 5, none⟩ = some (sv a.sh) := fun g => g.cell (Ba.cell 5)
    replace cb0 : ∀ g : Later w5, g.w.cell? ⟨w.heap.size + 1, 0, none⟩ = some (uv b.b.v) := fun g => g.cell (Bb.cell 0)
    replace cb1 : ∀ g : Later w5, g.w.cell? ⟨w.heap.size + 1, 1, none⟩ = some (uv b.b.m) := fun g => g.cell (Bb.cell 1)
    replace cb2 : ∀ g : Later w5, g.w.cell? ⟨w.heap.size + 1, 2, none⟩ = some (uv b.lo) := fun g => g.cell (Bb.cell 2)
    replace cb3 : ∀ g : Later w5, g.w.cell? ⟨w.heap.size + 1, 3, none⟩ = some (uv b.hi) := fun g => g.cell (Bb.cell 3)
    replace cb4 : ∀ g : Later w5, g.w.cell? ⟨w.heap.size + 1, 4, none⟩ = some (sv b.sl) := fun g => g.cell (Bb.cell 4)
    replace cb5 : ∀ g : Later w5, g.w.cell? ⟨w.heap.size + 1, 5, none⟩ = some (sv b.sh) := fun g => g.cell (Bb.cell 5)
    replace cr0 : ∀ g : Later w5, g.w.cell? ⟨w.heap.size + 1 + 1, 0, none⟩ = some (.int .u64 0) := fun g => g.cell (Br.cell 0)
    replace cr1 : ∀ g : Later w5, g.w.cell? ⟨w.heap.size + 1 + 1, 1, none⟩ = some (.int .u64 0) := fun g => g.cell (Br.cell 1)
    replace cr2 : ∀ g : Later w5, g.w.cell? ⟨w.heap.size + 1 + 1, 2, none⟩ = some (.int .u64 0) := fun g => g.cell (Br.cell 2)
    replace cr3 : ∀ g : Later w5, g.w.cell? ⟨w.heap.size + 1 + 1, 3, none⟩ = some (.int .u64 0) := fun g => g.cell (Br.cell 3)
    replace cr4 : ∀ g : Later w5, g.w.cell? ⟨w.heap.size + 1 + 1, 4, none⟩ = some (.int .i64 0) := fun g => g.cell (Br.cell 4)
    replace cr5 : ∀ g : Later w5, g.w.cell? ⟨w.heap.size + 1 + 1, 5, none⟩ = some (.int .i64 0) := fun g => g.cell (Br.cell 5)
    replace co0 : ∀ g : Later w5, g.w.cell? ⟨go, 0, none⟩ = some (uv (PlainTnum.add a.b b.b).v) := fun g => g.cell (Bo.cell 0)
    replace co1 : ∀ g : Later w5, g.w.cell? ⟨go, 1, none⟩ = some (uv (PlainTnum.add a.b b.b).m) := fun g => g.cell (Bo.cell 1)
    replace co2 : ∀ g : Later w5, g.w.cell? ⟨go, 2, none⟩ = some (uv PlainScalar.any.lo) := fun g => g.cell (Bo.cell 2)
    replace co3 : ∀ g : Later w5, g.w.cell? ⟨go, 3, none⟩ = some (uv PlainScalar.any.hi) := fun g => g.cell (Bo.cell 3)
    replace co4 : ∀ g : Later w5, g.w.cell? ⟨go, 4, none⟩ = some (sv PlainScalar.any.sl) := fun g => g.cell (Bo.cell 4)
    replace co5 : ∀ g : Later w5, g.w.cell? ⟨go, 5, none⟩ = some (sv PlainScalar.any.sh) := fun g => g.cell (Bo.cell 5)
    obtain ⟨S, hS⟩ : ∃ S : World → Prop, ∀ x, S x ↔ (x.cell? ⟨w.heap.size, 3, none⟩ = some (uv a.hi) ∧ x.cell? ⟨w.heap.size + 1, 3, none⟩ = some (uv b.hi)) := ⟨_, fun _ => Iff.rfl⟩
    have u0 : ∀ g : Under S, g.w.cell? ⟨w.heap.size, 3, none⟩ = some (uv a.hi) := fun g => ((hS _).1 g.is).1
    have u1 : ∀ g : Under S, g.w.cell? ⟨w.heap.size + 1, 3, none⟩ = some (uv b.hi) := fun g => ((hS _).1 g.is).2
    refine wp_region_mixS 11 (fun k => k == 5 || k == 6 || k == 7 || k == 8 || k == 9) (fun _ => #[]) S rfl (by kernel_rfl) (by kernel_rfl) (no_alloc (by kernel_rfl)) ?_
    simp only [List.take_succ_cons, List.take_zero, List.drop_succ_cons, List.drop_zero]
    repeat (refine wpMixS_step (fun K hK => ?_); go_simp; first | (refine hK _ ?_; clear hK K))
    refine wpMixS_nil ?_
    intro G w6 hgr hblk hdist
    have hb : Below w5.heap.size w5 w6 := hgr
    replace Ba := Ba.next hb
    replace Bb := Bb.next hb
    replace Br := Br.next hb
    replace Bo := Bo.next hb
    clear ca0 ca1 ca2 ca3 ca4 ca5 fa la
    clear cb0 cb1 cb2 cb3 cb4 cb5 fb lb
    clear cr0 cr1 cr2 cr3 cr4 cr5 fr lr
    clear co0 co1 co2 co3 co4 co5 fo lo
    clear u0 u1
    replace hB : Below w.heap.size w w6 := Bl_trans hB hb
    simp only [putAll, isAlloc]
    clear hb hgr hblk hdist
    have ca0 : w6.cell? ⟨w.heap.size, 0, none⟩ = some (uv a.b.v) := Ba.cell 0
    have ca1 : w6.cell? ⟨w.heap.size, 1, none⟩ = some (uv a.b.m) := Ba.cell 1
    have ca2 : w6.cell? ⟨w.heap.size, 2, none⟩ = some (uv a.lo) := Ba.cell 2
    have ca3 : w6.cell? ⟨w.heap.size, 3, none⟩ = some (uv a.hi) := Ba.cell 3
    have ca4 : w6.cell? ⟨w.heap.size, 4, none⟩ = some (sv a.sl) := Ba.cell 4
    have ca5 : w6.cell? ⟨w.heap.size, 5, none⟩ = some (sv a.sh) := Ba.cell 5
    have fa := Ba.frozen
    have la := Ba.lt
    have cb0 : w6.cell? ⟨w.heap.size + 1, 0, none⟩ = some (uv b.b.v) := Bb.cell 0
    have cb1 : w6.cell? ⟨w.heap.size + 1, 1, none⟩ = some (uv b.b.m) := Bb.cell 1
    have cb2 : w6.cell? ⟨w.heap.size + 1, 2, none⟩ = some (uv b.lo) := Bb.cell 2
    have cb3 : w6.cell? ⟨w.heap.size + 1, 3, none⟩ = some (uv b.hi) := Bb.cell 3
    have cb4 : w6.cell? ⟨w.heap.size + 1, 4, none⟩ = some (sv b.sl) := Bb.cell 4
    have cb5 : w6.cell? ⟨w.heap.size + 1, 5, none⟩ = some (sv b.sh) := Bb.cell 5
    have fb := Bb.frozen
    have lb := Bb.lt
    have cr0 : w6.cell? ⟨w.heap.size + 1 + 1, 0, none⟩ = some (.int .u64 0) := Br.cell 0
    have cr1 : w6.cell? ⟨w.heap.size + 1 + 1, 1, none⟩ = some (.int .u64 0) := Br.cell 1
    have cr2 : w6.cell? ⟨w.heap.size + 1 + 1, 2, none⟩ = some (.int .u64 0) := Br.cell 2
    have cr3 : w6.cell? ⟨w.heap.size + 1 + 1, 3, none⟩ = some (.int .u64 0) := Br.cell 3
    have cr4 : w6.cell? ⟨w.heap.size + 1 + 1, 4, none⟩ = some (.int .i64 0) := Br.cell 4
    have cr5 : w6.cell? ⟨w.heap.size + 1 + 1, 5, none⟩ = some (.int .i64 0) := Br.cell 5
    have fr := Br.frozen
    have lr := Br.lt
    have co0 : w6.cell? ⟨go, 0, none⟩ = some (uv (PlainTnum.add a.b b.b).v) := Bo.cell 0
    have co1 : w6.cell? ⟨go, 1, none⟩ = some (uv (PlainTnum.add a.b b.b).m) := Bo.cell 1
    have co2 : w6.cell? ⟨go, 2, none⟩ = some (uv PlainScalar.any.lo) := Bo.cell 2
    have co3 : w6.cell? ⟨go, 3, none⟩ = some (uv PlainScalar.any.hi) := Bo.cell 3
    have co4 : w6.cell? ⟨go, 4, none⟩ = some (sv PlainScalar.any.sl) := Bo.cell 4
    have co5 : w6.cell? ⟨go, 5, none⟩ = some (sv PlainScalar.any.sh) := Bo.cell 5
    have fo := Bo.frozen
    have lo := Bo.lt
    go_wp2_with fail
    refine ⟨by first | trivial | rfl, ?_, ?_⟩
    · refine (hS _).2 ?_; exact ⟨(Ba.far (by first | (simp; done) | (simp; omega) | (simp [*]; done) | (simp only [ne_eq]; constructor <;> omega)) _).cell 3, (Bb.far (by first | (simp; done) | (simp; omega) | (simp [*]; done) | (simp only [ne_eq]; constructor <;> omega)) _).cell 3⟩
    clear hS S
    clear ca0 ca1 ca2 ca3 ca4 ca5 fa la
    clear cb0 cb1 cb2 cb3 cb4 cb5 fb lb
    clear cr0 cr1 cr2 cr3 cr4 cr5 fr lr
    clear co0 co1 co2 co3 co4 co5 fo lo
    replace Ba : Blk (w6.setCell ⟨go, 2, none⟩ (uv (a.lo + b.lo))) (w.heap.size) 43 #[uv a.b.v, uv a.b.m, uv a.lo, uv a.hi, sv a.sl, sv a.sh] := (Ba.far (by first | (simp; done) | (simp; omega) | (simp [*]; done) | (simp only [ne_eq]; constructor <;> omega)) _)
    replace Bb : Blk (w6.setCell ⟨go, 2, none⟩ (uv (a.lo + b.lo))) (w.heap.size + 1) 43 #[uv b.b.v, uv b.b.m, uv b.lo, uv b.hi, sv b.sl, sv b.sh] := (Bb.far (by first | (simp; done) | (simp; omega) | (simp [*]; done) | (simp only [ne_eq]; constructor <;> omega)) _)
    replace Br : Blk (w6.setCell ⟨go, 2, none⟩ (uv (a.lo + b.lo))) (w.heap.size + 1 + 1) 43 #[.int .u64 0, .int .u64 0, .int .u64 0, .int .u64 0, .int .i64 0, .int .i64 0] := (Br.far (by first | (simp; done) | (simp; omega) | (simp [*]; done) | (simp only [ne_eq]; constructor <;> omega)) _)
    replace Bo : Blk (w6.setCell ⟨go, 2, none⟩ (uv (a.lo + b.lo))) (go) 43 #[uv (PlainTnum.add a.b b.b).v, uv (PlainTnum.add a.b b.b).m, uv (a.lo + b.lo), uv PlainScalar.any.hi, sv PlainScalar.any.sl, sv PlainScalar.any.sh] := Bo.set_ 2 _
    replace hB : Below w.heap.size w (w6.setCell ⟨go, 2, none⟩ (uv (a.lo + b.lo))) := (Bl_set hB (by first | omega | (simp; done) | (simp; omega)) _)
    generalize (w6.setCell ⟨go, 2, none⟩ (uv (a.lo + b.lo))) = w7 at *
    have ca0 : w7.cell? ⟨w.heap.size, 0, none⟩ = some (uv a.b.v) := Ba.cell 0
    have ca1 : w7.cell? ⟨w.heap.size, 1, none⟩ = some (uv a.b.m) := Ba.cell 1
    have ca2 : w7.cell? ⟨w.heap.size, 2, none⟩ = some (uv a.lo) := Ba.cell 2
    have ca3 : w7.cell? ⟨w.heap.size, 3, none⟩ = some (uv a.hi) := Ba.cell 3
    have ca4 : w7.cell? ⟨w.heap.size, 4, none⟩ = some (sv a.sl) := Ba.cell 4
    have ca5 : w7.cell? ⟨w.heap.size, 5, none⟩ = some (sv a.sh) := Ba.cell 5
    have fa := Ba.frozen
    have la := Ba.lt
    have cb0 : w7.cell? ⟨w.heap.size + 1, 0, none⟩ = some (uv b.b.v) := Bb.cell 0
    have cb1 : w7.cell? ⟨w.heap.size + 1, 1, none⟩ = some (uv b.b.m) := Bb.cell 1
    have cb2 : w7.cell? ⟨w.heap.size + 1, 2, none⟩ = some (uv b.lo) := Bb.cell 2
    have cb3 : w7.cell? ⟨w.heap.size + 1, 3, none⟩ = some (uv b.hi) := Bb.cell 3
    have cb4 : w7.cell? ⟨w.heap.size + 1, 4, none⟩ = some (sv b.sl) := Bb.cell 4
    have cb5 : w7.cell? ⟨w.heap.size + 1, 5, none⟩ = some (sv b.sh) := Bb.cell 5
    have fb := Bb.frozen
    have lb := Bb.lt
    have cr0 : w7.cell? ⟨w.heap.size + 1 + 1, 0, none⟩ = some (.int .u64 0) := Br.cell 0
    have cr1 : w7.cell? ⟨w.heap.size + 1 + 1, 1, none⟩ = some (.int .u64 0) := Br.cell 1
    have cr2 : w7.cell? ⟨w.heap.size + 1 + 1, 2, none⟩ = some (.int .u64 0) := Br.cell 2
    have cr3 : w7.cell? ⟨w.heap.size + 1 + 1, 3, none⟩ = some (.int .u64 0) := Br.cell 3
    have cr4 : w7.cell? ⟨w.heap.size + 1 + 1, 4, none⟩ = some (.int .i64 0) := Br.cell 4
    have cr5 : w7.cell? ⟨w.heap.size + 1 + 1, 5, none⟩ = some (.int .i64 0) := Br.cell 5
    have fr := Br.frozen
    have lr := Br.lt
    have co0 : w7.cell? ⟨go, 0, none⟩ = some (uv (PlainTnum.add a.b b.b).v) := Bo.cell 0
    have co1 : w7.cell? ⟨go, 1, none⟩ = some (uv (PlainTnum.add a.b b.b).m) := Bo.cell 1
    have co2 : w7.cell? ⟨go, 2, none⟩ = some (uv (a.lo + b.lo)) := Bo.cell 2
    have co3 : w7.cell? ⟨go, 3, none⟩ = some (uv PlainScalar.any.hi) := Bo.cell 3
    have co4 : w7.cell? ⟨go, 4, none⟩ = some (sv PlainScalar.any.sl) := Bo.cell 4
    have co5 : w7.cell? ⟨go, 5, none⟩ = some (sv PlainScalar.any.sh) := Bo.cell 5
    have fo := Bo.frozen
    have lo := Bo.lt
    go_upto_region 6 with fail
    clear ca0 ca1 ca2 ca3 ca4 ca5 fa la
    clear cb0 cb1 cb2 cb3 cb4 cb5 fb lb
    clear cr0 cr1 cr2 cr3 cr4 cr5 fr lr
    clear co0 co1 co2 co3 co4 co5 fo lo
    replace Ba : Blk (w7.setCell ⟨go, 3, none⟩ (uv (a.hi + b.hi))) (w.heap.size) 43 #[uv a.b.v, uv a.b.m, uv a.lo, uv a.hi, sv a.sl, sv a.sh] := (Ba.far (by first | (simp; done) | (simp; omega) | (simp [*]; done) | (simp only [ne_eq]; constructor <;> omega)) _)
    replace Bb : Blk (w7.setCell ⟨go, 3, none⟩ (uv (a.hi + b.hi))) (w.heap.size + 1) 43 #[uv b.b.v, uv b.b.m, uv b.lo, uv b.hi, sv b.sl, sv b.sh] := (Bb.far (by first | (simp; done) | (simp; omega) | (simp [*]; done) | (simp only [ne_eq]; constructor <;> omega)) _)
    replace Br : Blk (w7.setCell ⟨go, 3, none⟩ (uv (a.hi + b.hi))) (w.heap.size + 1 + 1) 43 #[.int .u64 0, .int .u64 0, .int .u64 0, .int .u64 0, .int .i64 0, .int .i64 0] := (Br.far (by first | (simp; done) | (simp; omega) | (simp [*]; done) | (simp only [ne_eq]; constructor <;> omega)) _)
    replace Bo : Blk (w7.setCell ⟨go, 3, none⟩ (uv (a.hi + b.hi))) (go) 43 #[uv (PlainTnum.add a.b b.b).v, uv (PlainTnum.add a.b b.b).m, uv (a.lo + b.lo), uv (a.hi + b.hi), sv PlainScalar.any.sl, sv PlainScalar.any.sh] := Bo.set_ 3 _
    replace hB : Below w.heap.size w (w7.setCell ⟨go, 3, none⟩ (uv (a.hi + b.hi))) := (Bl_set hB (by first | omega | (simp; done) | (simp; omega)) _)
    generalize (w7.setCell ⟨go, 3, none⟩ (uv (a.hi + b.hi))) = w8 at *
    have ca0 : w8.cell? ⟨w.heap.size, 0, none⟩ = some (uv a.b.v) := Ba.cell 0
    have ca1 : w8.cell? ⟨w.heap.size, 1, none⟩ = some (uv a.b.m) := Ba.cell 1
    have ca2 : w8.cell? ⟨w.heap.size, 2, none⟩ = some (uv a.lo) := Ba.cell 2
    have ca3 : w8.cell? ⟨w.heap.size, 3, none⟩ = some (uv a.hi) := Ba.cell 3
    have ca4 : w8.cell? ⟨w.heap.size, 4, none⟩ = some (sv a.sl) := Ba.cell 4
    have ca5 : w8.cell? ⟨w.heap.size, 5, none⟩ = some (sv a.sh) := Ba.cell 5
    have fa := Ba.frozen
    have la := Ba.lt
    have cb0 : w8.cell? ⟨w.heap.size + 1, 0, none⟩ = some (uv b.b.v) := Bb.cell 0
    have cb1 : w8.cell? ⟨w.heap.size + 1, 1, none⟩ = some (uv b.b.m) := Bb.cell 1
    have cb2 : w8.cell? ⟨w.heap.size + 1, 2, none⟩ = some (uv b.lo) := Bb.cell 2
    have cb3 : w8.cell? ⟨w.heap.size + 1, 3, none⟩ = some (uv b.hi) := Bb.cell 3
    have cb4 : w8.cell? ⟨w.heap.size + 1, 4, none⟩ = some (sv b.sl) := Bb.cell 4
    have cb5 : w8.cell? ⟨w.heap.size + 1, 5, none⟩ = some (sv b.sh) := Bb.cell 5
    have fb := Bb.frozen
    have lb := Bb.lt
    have cr0 : w8.cell? ⟨w.heap.size + 1 + 1, 0, none⟩ = some (.int .u64 0) := Br.cell 0
    have cr1 : w8.cell? ⟨w.heap.size + 1 + 1, 1, none⟩ = some (.int .u64 0) := Br.cell 1
    have cr2 : w8.cell? ⟨w.heap.size + 1 + 1, 2, none⟩ = some (.int .u64 0) := Br.cell 2
    have cr3 : w8.cell? ⟨w.heap.size + 1 + 1, 3, none⟩ = some (.int .u64 0) := Br.cell 3
    have cr4 : w8.cell? ⟨w.heap.size + 1 + 1, 4, none⟩ = some (.int .i64 0) := Br.cell 4
    have cr5 : w8.cell? ⟨w.heap.size + 1 + 1, 5, none⟩ = some (.int .i64 0) := Br.cell 5
    have fr := Br.frozen
    have lr := Br.lt
    have co0 : w8.cell? ⟨go, 0, none⟩ = some (uv (PlainTnum.add a.b b.b).v) := Bo.cell 0
    have co1 : w8.cell? ⟨go, 1, none⟩ = some (uv (PlainTnum.add a.b b.b).m) := Bo.cell 1
    have co2 : w8.cell? ⟨go, 2, none⟩ = some (uv (a.lo + b.lo)) := Bo.cell 2
    have co3 : w8.cell? ⟨go, 3, none⟩ = some (uv (a.hi + b.hi)) := Bo.cell 3
    have co4 : w8.cell? ⟨go, 4, none⟩ = some (sv PlainScalar.any.sl) := Bo.cell 4
    have co5 : w8.cell? ⟨go, 5, none⟩ = some (sv PlainScalar.any.sh) := Bo.cell 5
    have fo := Bo.frozen
    have lo := Bo.lt
    go_wp2_with fail
    refine (settled_c (⟨(PlainTnum.add a.b b.b), (a.lo + b.lo), (a.hi + b.hi), PlainScalar.any.sl, PlainScalar.any.sh⟩ : Rng) _).mono ?_
    rintro e w9 ⟨rfl, hb⟩
    clear ca0 ca1 ca2 ca3 ca4 ca5 fa la
    clear cb0 cb1 cb2 cb3 cb4 cb5 fb lb
    clear cr0 cr1 cr2 cr3 cr4 cr5 fr lr
    clear co0 co1 co2 co3 co4 co5 fo lo
    replace Ba := (Ba).next hb
    replace Bb := (Bb).next hb
    replace Br := (Br).next hb
    replace Bo := (Bo).next hb
    replace hB : Below w.heap.size w w9 := by repeat (first | exact hB | (refine Bl_set ?_ (by first | omega | (simp; omega)) _) | apply Bl_alloc | (refine Bl_trans ?_ hb))
    clear hb
    have ca0 : w9.cell? ⟨w.heap.size, 0, none⟩ = some (uv a.b.v) := Ba.cell 0
    have ca1 : w9.cell? ⟨w.heap.size, 1, none⟩ = some (uv a.b.m) := Ba.cell 1
    have ca2 : w9.cell? ⟨w.heap.size, 2, none⟩ = some (uv a.lo) := Ba.cell 2
    have ca3 : w9.cell? ⟨w.heap.size, 3, none⟩ = some (uv a.hi) := Ba.cell 3
    have ca4 : w9.cell? ⟨w.heap.size, 4, none⟩ = some (sv a.sl) := Ba.cell 4
    have ca5 : w9.cell? ⟨w.heap.size, 5, none⟩ = some (sv a.sh) := Ba.cell 5
    have fa := Ba.frozen
    have la := Ba.lt
    have cb0 : w9.cell? ⟨w.heap.size + 1, 0, none⟩ = some (uv b.b.v) := Bb.cell 0
    have cb1 : w9.cell? ⟨w.heap.size + 1, 1, none⟩ = some (uv b.b.m) := Bb.cell 1
    have cb2 : w9.cell? ⟨w.heap.size + 1, 2, none⟩ = some (uv b.lo) := Bb.cell 2
    have cb3 : w9.cell? ⟨w.heap.size + 1, 3, none⟩ = some (uv b.hi) := Bb.cell 3
    have cb4 : w9.cell? ⟨w.heap.size + 1, 4, none⟩ = some (sv b.sl) := Bb.cell 4
    have cb5 : w9.cell? ⟨w.heap.size + 1, 5, none⟩ = some (sv b.sh) := Bb.cell 5
    have fb := Bb.frozen
    have lb := Bb.lt
    have cr0 : w9.cell? ⟨w.heap.size + 1 + 1, 0, none⟩ = some (.int .u64 0) := Br.cell 0
    have cr1 : w9.cell? ⟨w.heap.size + 1 + 1, 1, none⟩ = some (.int .u64 0) := Br.cell 1
    have cr2 : w9.cell? ⟨w.heap.size + 1 + 1, 2, none⟩ = some (.int .u64 0) := Br.cell 2
    have cr3 : w9.cell? ⟨w.heap.size + 1 + 1, 3, none⟩ = some (.int .u64 0) := Br.cell 3
    have cr4 : w9.cell? ⟨w.heap.size + 1 + 1, 4, none⟩ = some (.int .i64 0) := Br.cell 4
    have cr5 : w9.cell? ⟨w.heap.size + 1 + 1, 5, none⟩ = some (.int .i64 0) := Br.cell 5
    have fr := Br.frozen
    have lr := Br.lt
    have co0 : w9.cell? ⟨go, 0, none⟩ = some (uv (PlainTnum.add a.b b.b).v) := Bo.cell 0
    have co1 : w9.cell? ⟨go, 1, none⟩ = some (uv (PlainTnum.add a.b b.b).m) := Bo.cell 1
    have co2 : w9.cell? ⟨go, 2, none⟩ = some (uv (a.lo + b.lo)) := Bo.cell 2
    have co3 : w9.cell? ⟨go, 3, none⟩ = some (uv (a.hi + b.hi)) := Bo.cell 3
    have co4 : w9.cell? ⟨go, 4, none⟩ = some (sv PlainScalar.any.sl) := Bo.cell 4
    have co5 : w9.cell? ⟨go, 5, none⟩ = some (sv PlainScalar.any.sh) := Bo.cell 5
    have fo := Bo.frozen
    have lo := Bo.lt
    go_wp2
    exact bodyPost_ret (v := rv (PlainScalar.settled ⟨(PlainTnum.add a.b b.b), (a.lo + b.lo), (a.hi + b.hi), PlainScalar.any.sl, PlainScalar.any.sh⟩)) (by simp [results, Tryd.results57, go_sem, cr0, cr1, cr2, cr3, cr4, cr5, lr]) rfl ⟨by rw [hs], by repeat (first | (with_reducible exact hB) | (with_reducible refine Bl_set ?_ (by first | omega | (simp; done) | (simp; omega)) _) | with_reducible apply Bl_alloc)⟩
theorem T_div (x y : W) : T (x / y) = T x / T y := by unfold T; rw [BitVec.toNat_udiv]; exact Int.natCast_ediv _ _
theorem T_mod (x y : W) : T (x % y) = T x % T y := by unfold T; rw [BitVec.toNat_umod]; exact Int.natCast_emod _ _
@[go_sem] theorem u_quo (x y : W) : IntKind.u64.wrap ((T x).tdiv (T y)) = T (x / y) := by
  have e : (T x).tdiv (T y) = T (x / y) := by rw [T_div, Int.tdiv_eq_ediv_of_nonneg (T_lo x)]
  rw [e, wrap_u, ofInt_T]
@[go_sem] theorem u_rem (x y : W) : (T x).tmod (T y) = T (x % y) := by rw [T_mod, Int.tmod_eq_emod_of_nonneg (T_lo x)]
@[go_sem] theorem u_rem' (x y : W) : IntKind.u64.wrap ((T x).tmod (T y)) = T (x % y) := by rw [u_rem, wrap_u, ofInt_T]
theorem T_pos (x : W) : (0 < T x) = (0 < x.toNat) := by unfold T; exact propext Int.natCast_pos
set_option maxHeartbeats 3200000 in
theorem splain_c (op : Int) (x y : W) (w : World) : Calls Tryd.prog 56 #[.int .i64 op, uv x, uv y] w fun e w' => e = .returned (uv (PlainScalar.plain op x y)) ∧ Below w.heap.size w w' := by
  by_cases h0 : op = 0
  · subst h0
    go_enter Tryd.func56, Tryd.ntmps56
    go_wp2
    go_ret
    exact ⟨by rw [show PlainScalar.plain 0 x y = x + y by rfl]; rfl, (by repeat (first | exact Bl_refl _ | apply Bl_alloc | apply Bl_drew | apply Bl_drewN | (refine Bl_set ?_ (by first | omega | (simp; done) | (simp; omega)) _) | (refine Bl_trans ?_ (by assumption))))⟩
  by_cases h1 : op = 1
  · subst h1
    go_enter Tryd.func56, Tryd.ntmps56
    go_wp2
    go_ret
    exact ⟨by rw [show PlainScalar.plain 1 x y = x - y by rfl]; rfl, (by repeat (first | exact Bl_refl _ | apply Bl_alloc | apply Bl_drew | apply Bl_drewN | (refine Bl_set ?_ (by first | omega | (simp; done) | (simp; omega)) _) | (refine Bl_trans ?_ (by assumption))))⟩
  by_cases h2 : op = 2
  · subst h2
    go_enter Tryd.func56, Tryd.ntmps56
    go_wp2
    go_ret
    exact ⟨by rw [show PlainScalar.plain 2 x y = x * y by rfl]; rfl, (by repeat (first | exact Bl_refl _ | apply Bl_alloc | apply Bl_drew | apply Bl_drewN | (refine Bl_set ?_ (by first | omega | (simp; done) | (simp; omega)) _) | (refine Bl_trans ?_ (by assumption))))⟩
  by_cases h4 : op = 4
  · subst h4
    go_enter Tryd.func56, Tryd.ntmps56
    go_wp2
    go_ret
    exact ⟨by rw [show PlainScalar.plain 4 x y = x ||| y by rfl]; rfl, (by repeat (first | exact Bl_refl _ | apply Bl_alloc | apply Bl_drew | apply Bl_drewN | (refine Bl_set ?_ (by first | omega | (simp; done) | (simp; omega)) _) | (refine Bl_trans ?_ (by assumption))))⟩
  by_cases h5 : op = 5
  · subst h5
    go_enter Tryd.func56, Tryd.ntmps56
    go_wp2
    go_ret
    exact ⟨by rw [show PlainScalar.plain 5 x y = x &&& y by rfl]; rfl, (by repeat (first | exact Bl_refl _ | apply Bl_alloc | apply Bl_drew | apply Bl_drewN | (refine Bl_set ?_ (by first | omega | (simp; done) | (simp; omega)) _) | (refine Bl_trans ?_ (by assumption))))⟩
  by_cases h8 : op = 8
  · subst h8
    go_enter Tryd.func56, Tryd.ntmps56
    go_wp2
    go_ret
    exact ⟨by rw [show PlainScalar.plain 8 x y = -x by rfl]; rfl, (by repeat (first | exact Bl_refl _ | apply Bl_alloc | apply Bl_drew | apply Bl_drewN | (refine Bl_set ?_ (by first | omega | (simp; done) | (simp; omega)) _) | (refine Bl_trans ?_ (by assumption))))⟩
  by_cases h10 : op = 10
  · subst h10
    go_enter Tryd.func56, Tryd.ntmps56
    go_wp2
    go_ret
    exact ⟨by rw [show PlainScalar.plain 10 x y = x ^^^ y by rfl]; rfl, (by repeat (first | exact Bl_refl _ | apply Bl_alloc | apply Bl_drew | apply Bl_drewN | (refine Bl_set ?_ (by first | omega | (simp; done) | (simp; omega)) _) | (refine Bl_trans ?_ (by assumption))))⟩
  by_cases h11 : op = 11
  · subst h11
    go_enter Tryd.func56, Tryd.ntmps56
    go_wp2
    go_ret
    exact ⟨by rw [show PlainScalar.plain 11 x y = y by rfl]; rfl, (by repeat (first | exact Bl_refl _ | apply Bl_alloc | apply Bl_drew | apply Bl_drewN | (refine Bl_set ?_ (by first | omega | (simp; done) | (simp; omega)) _) | (refine Bl_trans ?_ (by assumption))))⟩
  by_cases hy : y = 0#64
  · have hz : T y = 0 := by rw [hy]; rfl
    by_cases h3 : op = 3
    · subst h3
      go_enter Tryd.func56, Tryd.ntmps56
      go_wp2
      go_ret
      exact ⟨by rw [show PlainScalar.plain 3 x y = 0#64 by unfold PlainScalar.plain; simp [hy]]; rfl, (by repeat (first | exact Bl_refl _ | apply Bl_alloc | apply Bl_drew | apply Bl_drewN | (refine Bl_set ?_ (by first | omega | (simp; done) | (simp; omega)) _) | (refine Bl_trans ?_ (by assumption))))⟩
    by_cases h9 : op = 9
    · subst h9
      go_enter Tryd.func56, Tryd.ntmps56
      go_wp2
      go_ret
      exact ⟨by rw [show PlainScalar.plain 9 x y = x by unfold PlainScalar.plain; simp [hy]]; rfl, (by repeat (first | exact Bl_refl _ | apply Bl_alloc | apply Bl_drew | apply Bl_drewN | (refine Bl_set ?_ (by first | omega | (simp; done) | (simp; omega)) _) | (refine Bl_trans ?_ (by assumption))))⟩
    have e0 : (op == 0) = false := by simpa using h0
    have e1 : (op == 1) = false := by simpa using h1
    have e2 : (op == 2) = false := by simpa using h2
    have e4 : (op == 4) = false := by simpa using h4
    have e5 : (op == 5) = false := by simpa using h5
    have e8 : (op == 8) = false := by simpa using h8
    have e10 : (op == 10) = false := by simpa using h10
    have e11 : (op == 11) = false := by simpa using h11
    have e3 : (op == 3) = false := by simpa using h3
    have e9 : (op == 9) = false := by simpa using h9
    go_enter Tryd.func56, Tryd.ntmps56
    go_wp2
    go_ret
    exact ⟨by rw [show PlainScalar.plain op x y = 0#64 by unfold PlainScalar.plain; simp only [h0, h1, h2, h4, h5, h8, h10, h11, h3, h9, if_false]]; rfl, (by repeat (first | exact Bl_refl _ | apply Bl_alloc | apply Bl_drew | apply Bl_drewN | (refine Bl_set ?_ (by first | omega | (simp; done) | (simp; omega)) _) | (refine Bl_trans ?_ (by assumption))))⟩
  · have hz : ¬ T y = 0 := fun h => hy (T_inj h)
    by_cases h3 : op = 3
    · subst h3
      go_enter Tryd.func56, Tryd.ntmps56
      go_wp2
      go_ret
      exact ⟨by rw [show PlainScalar.plain 3 x y = x / y by unfold PlainScalar.plain; simp [hy]]; rfl, (by repeat (first | exact Bl_refl _ | apply Bl_alloc | apply Bl_drew | apply Bl_drewN | (refine Bl_set ?_ (by first | omega | (simp; done) | (simp; omega)) _) | (refine Bl_trans ?_ (by assumption))))⟩
    by_cases h9 : op = 9
    · subst h9
      go_enter Tryd.func56, Tryd.ntmps56
      go_wp2
      go_ret
      exact ⟨by rw [show PlainScalar.plain 9 x y = x % y by unfold PlainScalar.plain; simp [hy]]; rfl, (by repeat (first | exact Bl_refl _ | apply Bl_alloc | apply Bl_drew | apply Bl_drewN | (refine Bl_set ?_ (by first | omega | (simp; done) | (simp; omega)) _) | (refine Bl_trans ?_ (by assumption))))⟩
    have e0 : (op == 0) = false := by simpa using h0
    have e1 : (op == 1) = false := by simpa using h1
    have e2 : (op == 2) = false := by simpa using h2
    have e4 : (op == 4) = false := by simpa using h4
    have e5 : (op == 5) = false := by simpa using h5
    have e8 : (op == 8) = false := by simpa using h8
    have e10 : (op == 10) = false := by simpa using h10
    have e11 : (op == 11) = false := by simpa using h11
    have e3 : (op == 3) = false := by simpa using h3
    have e9 : (op == 9) = false := by simpa using h9
    go_enter Tryd.func56, Tryd.ntmps56
    go_wp2
    go_ret
    exact ⟨by rw [show PlainScalar.plain op x y = 0#64 by unfold PlainScalar.plain; simp only [h0, h1, h2, h4, h5, h8, h10, h11, h3, h9, if_false]]; rfl, (by repeat (first | exact Bl_refl _ | apply Bl_alloc | apply Bl_drew | apply Bl_drewN | (refine Bl_set ?_ (by first | omega | (simp; done) | (simp; omega)) _) | (refine Bl_trans ?_ (by assumption))))⟩
@[go_sem] theorem S_sar (x : W) (k : Nat) : S x / 2 ^ k = S (x.sshiftRight k) := by
  unfold S; rw [BitVec.toInt_sshiftRight, Int.shiftRight_eq_div_pow]; rfl
@[go_sem] theorem i32_of_u (x : W) : wrap32 (T x) = S ((x.setWidth 32).signExtend 64) := by
  unfold S T
  rw [BitVec.toInt_signExtend_of_le (by decide), BitVec.toInt_eq_toNat_cond, BitVec.toNat_setWidth]
  unfold wrap32
  have := x.isLt
  split <;> omega
theorem u_rem64 (x : W) : (T x).tmod 64 = ((x.toNat % 64 : Nat) : Int) := by rw [Int.tmod_eq_emod_of_nonneg (T_lo x)]; unfold T; omega
theorem u_rem32 (x : W) : (T x).tmod 32 = ((x.toNat % 32 : Nat) : Int) := by rw [Int.tmod_eq_emod_of_nonneg (T_lo x)]; unfold T; omega
set_option maxHeartbeats 3200000 in
theorem sshift_c (op : Int) (l : Bool) (x y : W) (w : World) : Calls Tryd.prog 55 #[.int .i64 op, .bool l, uv x, uv y] w fun e w' => e = .returned (uv (PlainScalar.shift op l x y)) ∧ Below w.heap.size w w' := by
  cases l
  · have r64 := u_rem64 y
    have r32 := u_rem32 y
    by_cases h6 : op = 6
    · subst h6
      go_enter Tryd.func55, Tryd.ntmps55
      go_wp2
      go_ret
      exact ⟨by rw [show PlainScalar.shift 6 false x y = x <<< (y.toNat % 32) by rfl]; rfl, (by repeat (first | exact Bl_refl _ | apply Bl_alloc | apply Bl_drew | apply Bl_drewN | (refine Bl_set ?_ (by first | omega | (simp; done) | (simp; omega)) _) | (refine Bl_trans ?_ (by assumption))))⟩
    by_cases h7 : op = 7
    · subst h7
      go_enter Tryd.func55, Tryd.ntmps55
      go_wp2
      go_ret
      exact ⟨by rw [show PlainScalar.shift 7 false x y = x >>> (y.toNat % 32) by rfl]; rfl, (by repeat (first | exact Bl_refl _ | apply Bl_alloc | apply Bl_drew | apply Bl_drewN | (refine Bl_set ?_ (by first | omega | (simp; done) | (simp; omega)) _) | (refine Bl_trans ?_ (by assumption))))⟩
    have e6 : (op == 6) = false := by simpa using h6
    have e7 : (op == 7) = false := by simpa using h7
    have hs : PlainScalar.shift op false x y = PlainScalar.sar32 x (y.toNat % 32) := by unfold PlainScalar.shift; simp only [h6, h7, if_false, if_true, Bool.false_eq_true]; rfl
    go_enter Tryd.func55, Tryd.ntmps55
    go_wp2
    go_ret
    exact ⟨by rw [hs]; rfl, (by repeat (first | exact Bl_refl _ | apply Bl_alloc | apply Bl_drew | apply Bl_drewN | (refine Bl_set ?_ (by first | omega | (simp; done) | (simp; omega)) _) | (refine Bl_trans ?_ (by assumption))))⟩
  · have r64 := u_rem64 y
    have r32 := u_rem32 y
    by_cases h6 : op = 6
    · subst h6
      go_enter Tryd.func55, Tryd.ntmps55
      go_wp2
      go_ret
      exact ⟨by rw [show PlainScalar.shift 6 true x y = x <<< (y.toNat % 64) by rfl]; rfl, (by repeat (first | exact Bl_refl _ | apply Bl_alloc | apply Bl_drew | apply Bl_drewN | (refine Bl_set ?_ (by first | omega | (simp; done) | (simp; omega)) _) | (refine Bl_trans ?_ (by assumption))))⟩
    by_cases h7 : op = 7
    · subst h7
      go_enter Tryd.func55, Tryd.ntmps55
      go_wp2
      go_ret
      exact ⟨by rw [show PlainScalar.shift 7 true x y = x >>> (y.toNat % 64) by rfl]; rfl, (by repeat (first | exact Bl_refl _ | apply Bl_alloc | apply Bl_drew | apply Bl_drewN | (refine Bl_set ?_ (by first | omega | (simp; done) | (simp; omega)) _) | (refine Bl_trans ?_ (by assumption))))⟩
    have e6 : (op == 6) = false := by simpa using h6
    have e7 : (op == 7) = false := by simpa using h7
    have hs : PlainScalar.shift op true x y = x.sshiftRight (y.toNat % 64) := by unfold PlainScalar.shift; simp only [h6, h7, if_false, if_true, Bool.false_eq_true]; rfl
    go_enter Tryd.func55, Tryd.ntmps55
    go_wp2
    go_ret
    exact ⟨by rw [hs]; rfl, (by repeat (first | exact Bl_refl _ | apply Bl_alloc | apply Bl_drew | apply Bl_drewN | (refine Bl_set ?_ (by first | omega | (simp; done) | (simp; omega)) _) | (refine Bl_trans ?_ (by assumption))))⟩
@[go_sem] theorem u64_T (x : W) : IntKind.u64.wrap (T x) = T x := by rw [wrap_u, ofInt_T]
@[go_sem] theorem u_of_u32 (x : W) : IntKind.u32.wrap (T x) = T (PlainScalar.low4 x) := by
  unfold T; rw [PlainScalar.low4_nat]; unfold IntKind.wrap; simp [IntKind.signed, IntKind.bits]
set_option maxHeartbeats 3200000 in
theorem seval_c (op : Int) (l : Bool) (x y : W) (w : World) : Calls Tryd.prog 33 #[.int .i64 op, .bool l, uv x, uv y] w fun e w' => e = .returned (uv (PlainScalar.eval op l x y)) ∧ Below w.heap.size w w' := by
  cases l
  · by_cases h6 : op = 6
    · subst h6
      have hs : PlainScalar.core 6 false (PlainScalar.low4 x) (PlainScalar.low4 y) = PlainScalar.shift 6 false (PlainScalar.low4 x) (PlainScalar.low4 y) := by unfold PlainScalar.core; rw [if_pos (by omega)]
      go_enter Tryd.func33, Tryd.ntmps33
      go_wp2_with fail
      with_reducible refine (sshift_c 6 false (PlainScalar.low4 x) (PlainScalar.low4 y) _).mono ?_
      rintro e w1 ⟨rfl, hb1⟩
      go_wp2
      go_ret
      exact ⟨by rw [show PlainScalar.eval 6 false x y = PlainScalar.low4 (PlainScalar.shift 6 false (PlainScalar.low4 x) (PlainScalar.low4 y)) by unfold PlainScalar.eval; simp only [if_true, Bool.false_eq_true, if_false, hs]]; rfl, (by repeat (first | exact Bl_refl _ | apply Bl_alloc | apply Bl_drew | apply Bl_drewN | (refine Bl_set ?_ (by first | omega | (simp; done) | (simp; omega)) _) | (refine Bl_trans ?_ (by assumption))))⟩
    by_cases h7 : op = 7
    · subst h7
      have hs : PlainScalar.core 7 false (PlainScalar.low4 x) (PlainScalar.low4 y) = PlainScalar.shift 7 false (PlainScalar.low4 x) (PlainScalar.low4 y) := by unfold PlainScalar.core; rw [if_pos (by omega)]
      go_enter Tryd.func33, Tryd.ntmps33
      go_wp2_with fail
      with_reducible refine (sshift_c 7 false (PlainScalar.low4 x) (PlainScalar.low4 y) _).mono ?_
      rintro e w1 ⟨rfl, hb1⟩
      go_wp2
      go_ret
      exact ⟨by rw [show PlainScalar.eval 7 false x y = PlainScalar.low4 (PlainScalar.shift 7 false (PlainScalar.low4 x) (PlainScalar.low4 y)) by unfold PlainScalar.eval; simp only [if_true, Bool.false_eq_true, if_false, hs]]; rfl, (by repeat (first | exact Bl_refl _ | apply Bl_alloc | apply Bl_drew | apply Bl_drewN | (refine Bl_set ?_ (by first | omega | (simp; done) | (simp; omega)) _) | (refine Bl_trans ?_ (by assumption))))⟩
    by_cases h12 : op = 12
    · subst h12
      have hs : PlainScalar.core 12 false (PlainScalar.low4 x) (PlainScalar.low4 y) = PlainScalar.shift 12 false (PlainScalar.low4 x) (PlainScalar.low4 y) := by unfold PlainScalar.core; rw [if_pos (by omega)]
      go_enter Tryd.func33, Tryd.ntmps33
      go_wp2_with fail
      with_reducible refine (sshift_c 12 false (PlainScalar.low4 x) (PlainScalar.low4 y) _).mono ?_
      rintro e w1 ⟨rfl, hb1⟩
      go_wp2
      go_ret
      exact ⟨by rw [show PlainScalar.eval 12 false x y = PlainScalar.low4 (PlainScalar.shift 12 false (PlainScalar.low4 x) (PlainScalar.low4 y)) by unfold PlainScalar.eval; simp only [if_true, Bool.false_eq_true, if_false, hs]]; rfl, (by repeat (first | exact Bl_refl _ | apply Bl_alloc | apply Bl_drew | apply Bl_drewN | (refine Bl_set ?_ (by first | omega | (simp; done) | (simp; omega)) _) | (refine Bl_trans ?_ (by assumption))))⟩
    have e6 : (op == 6) = false := by simpa using h6
    have e7 : (op == 7) = false := by simpa using h7
    have e12 : (op == 12) = false := by simpa using h12
    have hs : PlainScalar.core op false (PlainScalar.low4 x) (PlainScalar.low4 y) = PlainScalar.plain op (PlainScalar.low4 x) (PlainScalar.low4 y) := by unfold PlainScalar.core; rw [if_neg (by omega)]
    go_enter Tryd.func33, Tryd.ntmps33
    go_wp2_with fail
    with_reducible refine (splain_c op (PlainScalar.low4 x) (PlainScalar.low4 y) _).mono ?_
    rintro e w1 ⟨rfl, hb1⟩
    go_wp2
    go_ret
    exact ⟨by rw [show PlainScalar.eval op false x y = PlainScalar.low4 (PlainScalar.plain op (PlainScalar.low4 x) (PlainScalar.low4 y)) by unfold PlainScalar.eval; simp only [if_true, Bool.false_eq_true, if_false, hs]]; rfl, (by repeat (first | exact Bl_refl _ | apply Bl_alloc | apply Bl_drew | apply Bl_drewN | (refine Bl_set ?_ (by first | omega | (simp; done) | (simp; omega)) _) | (refine Bl_trans ?_ (by assumption))))⟩
  · by_cases h6 : op = 6
    · subst h6
      have hs : PlainScalar.core 6 true x y = PlainScalar.shift 6 true x y := by unfold PlainScalar.core; rw [if_pos (by omega)]
      go_enter Tryd.func33, Tryd.ntmps33
      go_wp2_with fail
      with_reducible refine (sshift_c 6 true x y _).mono ?_
      rintro e w1 ⟨rfl, hb1⟩
      go_wp2
      go_ret
      exact ⟨by rw [show PlainScalar.eval 6 true x y = PlainScalar.shift 6 true x y by unfold PlainScalar.eval; simp only [if_true, Bool.false_eq_true, if_false, hs]]; rfl, (by repeat (first | exact Bl_refl _ | apply Bl_alloc | apply Bl_drew | apply Bl_drewN | (refine Bl_set ?_ (by first | omega | (simp; done) | (simp; omega)) _) | (refine Bl_trans ?_ (by assumption))))⟩
    by_cases h7 : op = 7
    · subst h7
      have hs : PlainScalar.core 7 true x y = PlainScalar.shift 7 true x y := by unfold PlainScalar.core; rw [if_pos (by omega)]
      go_enter Tryd.func33, Tryd.ntmps33
      go_wp2_with fail
      with_reducible refine (sshift_c 7 true x y _).mono ?_
      rintro e w1 ⟨rfl, hb1⟩
      go_wp2
      go_ret
      exact ⟨by rw [show PlainScalar.eval 7 true x y = PlainScalar.shift 7 true x y by unfold PlainScalar.eval; simp only [if_true, Bool.false_eq_true, if_false, hs]]; rfl, (by repeat (first | exact Bl_refl _ | apply Bl_alloc | apply Bl_drew | apply Bl_drewN | (refine Bl_set ?_ (by first | omega | (simp; done) | (simp; omega)) _) | (refine Bl_trans ?_ (by assumption))))⟩
    by_cases h12 : op = 12
    · subst h12
      have hs : PlainScalar.core 12 true x y = PlainScalar.shift 12 true x y := by unfold PlainScalar.core; rw [if_pos (by omega)]
      go_enter Tryd.func33, Tryd.ntmps33
      go_wp2_with fail
      with_reducible refine (sshift_c 12 true x y _).mono ?_
      rintro e w1 ⟨rfl, hb1⟩
      go_wp2
      go_ret
      exact ⟨by rw [show PlainScalar.eval 12 true x y = PlainScalar.shift 12 true x y by unfold PlainScalar.eval; simp only [if_true, Bool.false_eq_true, if_false, hs]]; rfl, (by repeat (first | exact Bl_refl _ | apply Bl_alloc | apply Bl_drew | apply Bl_drewN | (refine Bl_set ?_ (by first | omega | (simp; done) | (simp; omega)) _) | (refine Bl_trans ?_ (by assumption))))⟩
    have e6 : (op == 6) = false := by simpa using h6
    have e7 : (op == 7) = false := by simpa using h7
    have e12 : (op == 12) = false := by simpa using h12
    have hs : PlainScalar.core op true x y = PlainScalar.plain op x y := by unfold PlainScalar.core; rw [if_neg (by omega)]
    go_enter Tryd.func33, Tryd.ntmps33
    go_wp2_with fail
    with_reducible refine (splain_c op x y _).mono ?_
    rintro e w1 ⟨rfl, hb1⟩
    go_wp2
    go_ret
    exact ⟨by rw [show PlainScalar.eval op true x y = PlainScalar.plain op x y by unfold PlainScalar.eval; simp only [if_true, Bool.false_eq_true, if_false, hs]]; rfl, (by repeat (first | exact Bl_refl _ | apply Bl_alloc | apply Bl_drew | apply Bl_drewN | (refine Bl_set ?_ (by first | omega | (simp; done) | (simp; omega)) _) | (refine Bl_trans ?_ (by assumption))))⟩
set_option maxRecDepth 100000 in
set_option maxHeartbeats 3200000 in
theorem sbit_5 (a b : Rng) (w : World) : Calls Tryd.prog 60 #[.int .i64 5, rv a, rv b] w fun e w' => e = .returned (rv (PlainScalar.bitwise 5 a b)) ∧ Below w.heap.size w w' := by
  · have hs : PlainScalar.bitwise 5 a b = PlainScalar.settled ⟨PlainTnum.and a.b b.b, PlainScalar.any.lo, PlainScalar.minU a.hi b.hi, PlainScalar.any.sl, PlainScalar.any.sh⟩ := by rfl
    go_enter Tryd.func60, Tryd.ntmps60
    go_wp2_with fail
    obtain ⟨ga, hga⟩ : ∃ g, g = w.heap.size := ⟨_, rfl⟩
    obtain ⟨gb, hgb⟩ : ∃ g, g = w.heap.size + 1 := ⟨_, rfl⟩
    obtain ⟨gr, hgr⟩ : ∃ g, g = w.heap.size + 1 + 1 := ⟨_, rfl⟩
    have Ba : Blk (((w.alloc (.cells #[uv a.b.v, uv a.b.m, uv a.lo, uv a.hi, sv a.sl, sv a.sh] 43)).alloc (.cells #[uv b.b.v, uv b.b.m, uv b.lo, uv b.hi, sv b.sl, sv b.sh] 43)).alloc (.cells #[.int .u64 0, .int .u64 0, .int .u64 0, .int .u64 0, .int .i64 0, .int .i64 0] 43)) (w.heap.size) 43 #[uv a.b.v, uv a.b.m, uv a.lo, uv a.hi, sv a.sl, sv a.sh] := (((Blk.new w 43 #[uv a.b.v, uv a.b.m, uv a.lo, uv a.hi, sv a.sl, sv a.sh])).alloc _).alloc _
    have Bb : Blk (((w.alloc (.cells #[uv a.b.v, uv a.b.m, uv a.lo, uv a.hi, sv a.sl, sv a.sh] 43)).alloc (.cells #[uv b.b.v, uv b.b.m, uv b.lo, uv b.hi, sv b.sl, sv b.sh] 43)).alloc (.cells #[.int .u64 0, .int .u64 0, .int .u64 0, .int .u64 0, .int .i64 0, .int .i64 0] 43)) (w.heap.size + 1) 43 #[uv b.b.v, uv b.b.m, uv b.lo, uv b.hi, sv b.sl, sv b.sh] := ((by simpa using Blk.new (w.alloc (.cells #[uv a.b.v, uv a.b.m, uv a.lo, uv a.hi, sv a.sl, sv a.sh] 43)) 43 #[uv b.b.v, uv b.b.m, uv b.lo, uv b.hi, sv b.sl, sv b.sh] : Blk _ (w.heap.size + 1) 43 #[uv b.b.v, uv b.b.m, uv b.lo, uv b.hi, sv b.sl, sv b.sh])).alloc _
    have Br : Blk (((w.alloc (.cells #[uv a.b.v, uv a.b.m, uv a.lo, uv a.hi, sv a.sl, sv a.sh] 43)).alloc (.cells #[uv b.b.v, uv b.b.m, uv b.lo, uv b.hi, sv b.sl, sv b.sh] 43)).alloc (.cells #[.int .u64 0, .int .u64 0, .int .u64 0, .int .u64 0, .int .i64 0, .int .i64 0] 43)) (w.heap.size + 1 + 1) 43 #[.int .u64 0, .int .u64 0, .int .u64 0, .int .u64 0, .int .i64 0, .int .i64 0] := (by simpa using Blk.new ((w.alloc (.cells #[uv a.b.v, uv a.b.m, uv a.lo, uv a.hi, sv a.sl, sv a.sh] 43)).alloc (.cells #[uv b.b.v, uv b.b.m, uv b.lo, uv b.hi, sv b.sl, sv b.sh] 43)) 43 #[.int .u64 0, .int .u64 0, .int .u64 0, .int .u64 0, .int .i64 0, .int .i64 0] : Blk _ (w.heap.size + 1 + 1) 43 #[.int .u64 0, .int .u64 0, .int .u64 0, .int .u64 0, .int .i64 0, .int .i64 0])
    have hB : Below w.heap.size w (((w.alloc (.cells #[uv a.b.v, uv a.b.m, uv a.lo, uv a.hi, sv a.sl, sv a.sh] 43)).alloc (.cells #[uv b.b.v, uv b.b.m, uv b.lo, uv b.hi, sv b.sl, sv b.sh] 43)).alloc (.cells #[.int .u64 0, .int .u64 0, .int .u64 0, .int .u64 0, .int .i64 0, .int .i64 0] 43)) := (Bl_alloc (Bl_alloc (Bl_alloc (Bl_refl w) _) _) _)
    clear hga
    clear ga
    clear hgb
    clear gb
    clear hgr
    clear gr
    generalize (((w.alloc (.cells #[uv a.b.v, uv a.b.m, uv a.lo, uv a.hi, sv a.sl, sv a.sh] 43)).alloc (.cells #[uv b.b.v, uv b.b.m, uv b.lo, uv b.hi, sv b.sl, sv b.sh] 43)).alloc (.cells #[.int .u64 0, .int .u64 0, .int .u64 0, .int .u64 0, .int .i64 0, .int .i64 0] 43)) = w1 at *
    obtain ⟨ca0, ca1, ca2, ca3, ca4, ca5⟩ := cells6 Ba
    have fa := Ba.frozen; have la := Ba.lt
    obtain ⟨cb0, cb1, cb2, cb3, cb4, cb5⟩ := cells6 Bb
    have fb := Bb.frozen; have lb := Bb.lt
    obtain ⟨cr0, cr1, cr2, cr3, cr4, cr5⟩ := cells6 Br
    have fr := Br.frozen; have lr := Br.lt
    go_wp2_with fail
    refine (sany_c _).mono ?_
    rintro e w2 ⟨rfl, hb⟩
    clear ca0 ca1 ca2 ca3 ca4 ca5 fa la
    clear cb0 cb1 cb2 cb3 cb4 cb5 fb lb
    clear cr0 cr1 cr2 cr3 cr4 cr5 fr lr
    replace Ba := (Ba).next hb
    replace Bb := (Bb).next hb
    replace Br := (Br).next hb
    replace hB : Below w.heap.size w w2 := by repeat (first | exact hB | (refine Bl_set ?_ (by first | omega | (simp; omega)) _) | apply Bl_alloc | (refine Bl_trans ?_ hb))
    clear hb
    obtain ⟨ca0, ca1, ca2, ca3, ca4, ca5⟩ := cells6 Ba
    have fa := Ba.frozen; have la := Ba.lt
    obtain ⟨cb0, cb1, cb2, cb3, cb4, cb5⟩ := cells6 Bb
    have fb := Bb.frozen; have lb := Bb.lt
    obtain ⟨cr0, cr1, cr2, cr3, cr4, cr5⟩ := cells6 Br
    have fr := Br.frozen; have lr := Br.lt
    go_upto_region 2 with fail
    clear ca0 ca1 ca2 ca3 ca4 ca5 fa la
    clear cb0 cb1 cb2 cb3 cb4 cb5 fb lb
    clear cr0 cr1 cr2 cr3 cr4 cr5 fr lr
    have Bo := Blk.new w2 43 #[uv PlainScalar.any.b.v, uv PlainScalar.any.b.m, uv PlainScalar.any.lo, uv PlainScalar.any.hi, sv PlainScalar.any.sl, sv PlainScalar.any.sh]
    have hgo := hB.size
    have hnao := Nat.ne_of_lt Ba.lt; have hltao := Ba.lt
    have hnbo := Nat.ne_of_lt Bb.lt; have hltbo := Bb.lt
    have hnro := Nat.ne_of_lt Br.lt; have hltro := Br.lt
    replace Ba : Blk (w2.alloc (.cells #[uv PlainScalar.any.b.v, uv PlainScalar.any.b.m, uv PlainScalar.any.lo, uv PlainScalar.any.hi, sv PlainScalar.any.sl, sv PlainScalar.any.sh] 43)) (w.heap.size) 43 #[uv a.b.v, uv a.b.m, uv a.lo, uv a.hi, sv a.sl, sv a.sh] := Ba.alloc _
    replace Bb : Blk (w2.alloc (.cells #[uv PlainScalar.any.b.v, uv PlainScalar.any.b.m, uv PlainScalar.any.lo, uv PlainScalar.any.hi, sv PlainScalar.any.sl, sv PlainScalar.any.sh] 43)) (w.heap.size + 1) 43 #[uv b.b.v, uv b.b.m, uv b.lo, uv b.hi, sv b.sl, sv b.sh] := Bb.alloc _
    replace Br : Blk (w2.alloc (.cells #[uv PlainScalar.any.b.v, uv PlainScalar.any.b.m, uv PlainScalar.any.lo, uv PlainScalar.any.hi, sv PlainScalar.any.sl, sv PlainScalar.any.sh] 43)) (w.heap.size + 1 + 1) 43 #[.int .u64 0, .int .u64 0, .int .u64 0, .int .u64 0, .int .i64 0, .int .i64 0] := Br.alloc _
    replace hB : Below w.heap.size w (w2.alloc (.cells #[uv PlainScalar.any.b.v, uv PlainScalar.any.b.m, uv PlainScalar.any.lo, uv PlainScalar.any.hi, sv PlainScalar.any.sl, sv PlainScalar.any.sh] 43)) := Bl_alloc hB _
    generalize (w2.alloc (.cells #[uv PlainScalar.any.b.v, uv PlainScalar.any.b.m, uv PlainScalar.any.lo, uv PlainScalar.any.hi, sv PlainScalar.any.sl, sv PlainScalar.any.sh] 43)) = w3 at *
    generalize w2.heap.size = go at *
    obtain ⟨ca0, ca1, ca2, ca3, ca4, ca5⟩ := cells6 Ba
    have fa := Ba.frozen; have la := Ba.lt
    obtain ⟨cb0, cb1, cb2, cb3, cb4, cb5⟩ := cells6 Bb
    have fb := Bb.frozen; have lb := Bb.lt
    obtain ⟨cr0, cr1, cr2, cr3, cr4, cr5⟩ := cells6 Br
    have fr := Br.frozen; have lr := Br.lt
    obtain ⟨co0, co1, co2, co3, co4, co5⟩ := cells6 Bo
    have fo := Bo.frozen; have lo := Bo.lt
    go_wp2_with fail
    refine (and_c _ _ _).mono ?_
    rintro e w4 ⟨rfl, hb⟩
    clear ca0 ca1 ca2 ca3 ca4 ca5 fa la
    clear cb0 cb1 cb2 cb3 cb4 cb5 fb lb
    clear cr0 cr1 cr2 cr3 cr4 cr5 fr lr
    clear co0 co1 co2 co3 co4 co5 fo lo
    replace Ba := (Ba).next hb
    replace Bb := (Bb).next hb
    replace Br := (Br).next hb
    replace Bo := (Bo).next hb
    replace hB : Below w.heap.size w w4 := by repeat (first | exact hB | (refine Bl_set ?_ (by first | omega | (simp; omega)) _) | apply Bl_alloc | (refine Bl_trans ?_ hb))
    clear hb
    obtain ⟨ca0, ca1, ca2, ca3, ca4, ca5⟩ := cells6 Ba
    have fa := Ba.frozen; have la := Ba.lt
    obtain ⟨cb0, cb1, cb2, cb3, cb4, cb5⟩ := cells6 Bb
    have fb := Bb.frozen; have lb := Bb.lt
    obtain ⟨cr0, cr1, cr2, cr3, cr4, cr5⟩ := cells6 Br
    have fr := Br.frozen; have lr := Br.lt
    obtain ⟨co0, co1, co2, co3, co4, co5⟩ := cells6 Bo
    have fo := Bo.frozen; have lo := Bo.lt
    go_upto_region 6 with fail
    clear ca0 ca1 ca2 ca3 ca4 ca5 fa la
    clear cb0 cb1 cb2 cb3 cb4 cb5 fb lb
    clear cr0 cr1 cr2 cr3 cr4 cr5 fr lr
    clear co0 co1 co2 co3 co4 co5 fo lo
    replace Ba : Blk (w4.setCell ⟨go, 0, none⟩ (uv (PlainTnum.and a.b b.b).v)) (w.heap.size) 43 #[uv a.b.v, uv a.b.m, uv a.lo, uv a.hi, sv a.sl, sv a.sh] := (Ba.far (by first | (simp; done) | (simp; omega) | (simp [*]; done) | (simp only [ne_eq]; constructor <;> omega)) _)
    replace Bb : Blk (w4.setCell ⟨go, 0, none⟩ (uv (PlainTnum.and a.b b.b).v)) (w.heap.size + 1) 43 #[uv b.b.v, uv b.b.m, uv b.lo, uv b.hi, sv b.sl, sv b.sh] := (Bb.far (by first | (simp; done) | (simp; omega) | (simp [*]; done) | (simp only [ne_eq]; constructor <;> omega)) _)
    replace Br : Blk (w4.setCell ⟨go, 0, none⟩ (uv (PlainTnum.and a.b b.b).v)) (w.heap.size + 1 + 1) 43 #[.int .u64 0, .int .u64 0, .int .u64 0, .int .u64 0, .int .i64 0, .int .i64 0] := (Br.far (by first | (simp; done) | (simp; omega) | (simp [*]; done) | (simp only [ne_eq]; constructor <;> omega)) _)
    replace Bo : Blk (w4.setCell ⟨go, 0, none⟩ (uv (PlainTnum.and a.b b.b).v)) (go) 43 #[uv (PlainTnum.and a.b b.b).v, uv PlainScalar.any.b.m, uv PlainScalar.any.lo, uv PlainScalar.any.hi, sv PlainScalar.any.sl, sv PlainScalar.any.sh] := Bo.set_ 0 _
    replace hB : Below w.heap.size w (w4.setCell ⟨go, 0, none⟩ (uv (PlainTnum.and a.b b.b).v)) := (Bl_set hB (by first | omega | (simp; done) | (simp; omega)) _)
    replace Ba : Blk ((w4.setCell ⟨go, 0, none⟩ (uv (PlainTnum.and a.b b.b).v)).setCell ⟨go, 1, none⟩ (uv (PlainTnum.and a.b b.b).m)) (w.heap.size) 43 #[uv a.b.v, uv a.b.m, uv a.lo, uv a.hi, sv a.sl, sv a.sh] := (Ba.far (by first | (simp; done) | (simp; omega) | (simp [*]; done) | (simp only [ne_eq]; constructor <;> omega)) _)
    replace Bb : Blk ((w4.setCell ⟨go, 0, none⟩ (uv (PlainTnum.and a.b b.b).v)).setCell ⟨go, 1, none⟩ (uv (PlainTnum.and a.b b.b).m)) (w.heap.size + 1) 43 #[uv b.b.v, uv b.b.m, uv b.lo, uv b.hi, sv b.sl, sv b.sh] := (Bb.far (by first | (simp; done) | (simp; omega) | (simp [*]; done) | (simp only [ne_eq]; constructor <;> omega)) _)
    replace Br : Blk ((w4.setCell ⟨go, 0, none⟩ (uv (PlainTnum.and a.b b.b).v)).setCell ⟨go, 1, none⟩ (uv (PlainTnum.and a.b b.b).m)) (w.heap.size + 1 + 1) 43 #[.int .u64 0, .int .u64 0, .int .u64 0, .int .u64 0, .int .i64 0, .int .i64 0] := (Br.far (by first | (simp; done) | (simp; omega) | (simp [*]; done) | (simp only [ne_eq]; constructor <;> omega)) _)
    replace Bo : Blk ((w4.setCell ⟨go, 0, none⟩ (uv (PlainTnum.and a.b b.b).v)).setCell ⟨go, 1, none⟩ (uv (PlainTnum.and a.b b.b).m)) (go) 43 #[uv (PlainTnum.and a.b b.b).v, uv (PlainTnum.and a.b b.b).m, uv PlainScalar.any.lo, uv PlainScalar.any.hi, sv PlainScalar.any.sl, sv PlainScalar.any.sh] := Bo.set_ 1 _
    replace hB : Below w.heap.size w ((w4.setCell ⟨go, 0, none⟩ (uv (PlainTnum.and a.b b.b).v)).setCell ⟨go, 1, none⟩ (uv (PlainTnum.and a.b b.b).m)) := (Bl_set hB (by first | omega | (simp; done) | (simp; omega)) _)
    generalize ((w4.setCell ⟨go, 0, none⟩ (uv (PlainTnum.and a.b b.b).v)).setCell ⟨go, 1, none⟩ (uv (PlainTnum.and a.b b.b).m)) = w5 at *
    obtain ⟨ca0, ca1, ca2, ca3, ca4, ca5⟩ := cells6 Ba
    have fa := Ba.frozen; have la := Ba.lt
    obtain ⟨cb0, cb1, cb2, cb3, cb4, cb5⟩ := cells6 Bb
    have fb := Bb.frozen; have lb := Bb.lt
    obtain ⟨cr0, cr1, cr2, cr3, cr4, cr5⟩ := cells6 Br
    have fr := Br.frozen; have lr := Br.lt
    obtain ⟨co0, co1, co2, co3, co4, co5⟩ := cells6 Bo
    have fo := Bo.frozen; have lo := Bo.lt
    go_upto_region 10 with fail
    clear ca0 ca1 ca2 ca3 ca4 ca5 fa la
    clear cb0 cb1 cb2 cb3 cb4 cb5 fb lb
    clear cr0 cr1 cr2 cr3 cr4 cr5 fr lr
    clear co0 co1 co2 co3 co4 co5 fo lo
    replace Ba : Blk (w5.setCell ⟨go, 3, none⟩ (uv (PlainScalar.minU a.hi b.hi))) (w.heap.size) 43 #[uv a.b.v, uv a.b.m, uv a.lo, uv a.hi, sv a.sl, sv a.sh] := (Ba.far (by first | (simp; done) | (simp; omega) | (simp [*]; done) | (simp only [ne_eq]; constructor <;> omega)) _)
    replace Bb : Blk (w5.setCell ⟨go, 3, none⟩ (uv (PlainScalar.minU a.hi b.hi))) (w.heap.size + 1) 43 #[uv b.b.v, uv b.b.m, uv b.lo, uv b.hi, sv b.sl, sv b.sh] := (Bb.far (by first | (simp; done) | (simp; omega) | (simp [*]; done) | (simp only [ne_eq]; constructor <;> omega)) _)
    replace Br : Blk (w5.setCell ⟨go, 3, none⟩ (uv (PlainScalar.minU a.hi b.hi))) (w.heap.size + 1 + 1) 43 #[.int .u64 0, .int .u64 0, .int .u64 0, .int .u64 0, .int .i64 0, .int .i64 0] := (Br.far (by first | (simp; done) | (simp; omega) | (simp [*]; done) | (simp only [ne_eq]; constructor <;> omega)) _)
    replace Bo : Blk (w5.setCell ⟨go, 3, none⟩ (uv (PlainScalar.minU a.hi b.hi))) (go) 43 #[uv (PlainTnum.and a.b b.b).v, uv (PlainTnum.and a.b b.b).m, uv PlainScalar.any.lo, uv (PlainScalar.minU a.hi b.hi), sv PlainScalar.any.sl, sv PlainScalar.any.sh] := Bo.set_ 3 _
    replace hB : Below w.heap.size w (w5.setCell ⟨go, 3, none⟩ (uv (PlainScalar.minU a.hi b.hi))) := (Bl_set hB (by first | omega | (simp; done) | (simp; omega)) _)
    generalize (w5.setCell ⟨go, 3, none⟩ (uv (PlainScalar.minU a.hi b.hi))) = w6 at *
    obtain ⟨ca0, ca1, ca2, ca3, ca4, ca5⟩ := cells6 Ba
    have fa := Ba.frozen; have la := Ba.lt
    obtain ⟨cb0, cb1, cb2, cb3, cb4, cb5⟩ := cells6 Bb
    have fb := Bb.frozen; have lb := Bb.lt
    obtain ⟨cr0, cr1, cr2, cr3, cr4, cr5⟩ := cells6 Br
    have fr := Br.frozen; have lr := Br.lt
    obtain ⟨co0, co1, co2, co3, co4, co5⟩ := cells6 Bo
    have fo := Bo.frozen; have lo := Bo.lt
    go_wp2_with fail
    refine (settled_c (⟨PlainTnum.and a.b b.b, PlainScalar.any.lo, PlainScalar.minU a.hi b.hi, PlainScalar.any.sl, PlainScalar.any.sh⟩ : Rng) _).mono ?_
    rintro e w7 ⟨rfl, hb⟩
    clear ca0 ca1 ca2 ca3 ca4 ca5 fa la
    clear cb0 cb1 cb2 cb3 cb4 cb5 fb lb
    clear cr0 cr1 cr2 cr3 cr4 cr5 fr lr
    clear co0 co1 co2 co3 co4 co5 fo lo
    replace Ba := (Ba).next hb
    replace Bb := (Bb).next hb
    replace Br := (Br).next hb
    replace Bo := (Bo).next hb
    replace hB : Below w.heap.size w w7 := by repeat (first | exact hB | (refine Bl_set ?_ (by first | omega | (simp; omega)) _) | apply Bl_alloc | (refine Bl_trans ?_ hb))
    clear hb
    obtain ⟨ca0, ca1, ca2, ca3, ca4, ca5⟩ := cells6 Ba
    have fa := Ba.frozen; have la := Ba.lt
    obtain ⟨cb0, cb1, cb2, cb3, cb4, cb5⟩ := cells6 Bb
    have fb := Bb.frozen; have lb := Bb.lt
    obtain ⟨cr0, cr1, cr2, cr3, cr4, cr5⟩ := cells6 Br
    have fr := Br.frozen; have lr := Br.lt
    obtain ⟨co0, co1, co2, co3, co4, co5⟩ := cells6 Bo
    have fo := Bo.frozen; have lo := Bo.lt
    go_wp2
    exact bodyPost_ret (v := rv (PlainScalar.settled ⟨PlainTnum.and a.b b.b, PlainScalar.any.lo, PlainScalar.minU a.hi b.hi, PlainScalar.any.sl, PlainScalar.any.sh⟩)) (by simp [results, Tryd.results60, go_sem, cr0, cr1, cr2, cr3, cr4, cr5, lr]) rfl ⟨by rw [hs], by repeat (first | (with_reducible exact hB) | (with_reducible refine Bl_set ?_ (by first | omega | (simp; done) | (simp; omega)) _) | with_reducible apply Bl_alloc)⟩
end Go.Proofs.YtmghpoagpiljhaaDoor
