/- The walks of package scalar, eighth part: shifted, moved. -/
import Derived.Test.YtmghpoagpiljhacSc5
import Derived.Test.YtmghpoagpiljhacSc7
set_option linter.unusedSimpArgs false
namespace Go.Proofs.Ytmghpoagpiljhac
open Go.RowKit
open PlainTnum (N)
open PlainScalar (Rng)
theorem new_rng {o : Oper} (h : isAlloc o = some 39) (ρ : Operand → Value) (w : World) : (execOp ρ o).run Try.prog w = .ok (.value (.pointer (some ⟨w.heap.size, 0, none⟩))) (w.alloc (.cells #[.int .u64 0, .int .u64 0, .int .u64 0, .int .u64 0, .int .i64 0, .int .i64 0] 39)) := by
  obtain ⟨dst, op, type, pos, after, guard⟩ := o
  have := alloc_is h
  simp only at this
  subst this
  go_simp
theorem byN_nat {k : Nat} (h : k < 64) : byN (k : Int) = k := by unfold byN; omega
theorem left_n (a : N) {k : Nat} (h : k < 64) (w : World) : Calls Try.prog 61 #[nv a, .int .i64 (k : Int)] w fun e w' => e = .returned (nv (PlainTnum.left a k)) ∧ Below w.heap.size w w' := by
  have := left_c a k w
  rwa [byN_nat h] at this
theorem down_n (a : N) {k : Nat} (h : k < 64) (w : World) : Calls Try.prog 60 #[nv a, .int .i64 (k : Int)] w fun e w' => e = .returned (nv (PlainTnum.down a k)) ∧ Below w.heap.size w w' := by
  have := down_c a k w
  rwa [byN_nat h] at this
theorem alone_b (a : Rng) (b : Bool) (h : PlainScalar.alone a = b) (w : World) : Calls Try.prog 23 #[rv a] w fun e w' => e = .returned (.bool b) ∧ Below w.heap.size w w' := by
  rw [← h]; exact alone_c a w
set_option maxRecDepth 100000 in
set_option maxHeartbeats 3200000 in
theorem sshifted_c (op : Int) (k : Nat) (hk : k < 64) (a : Rng) (w : World) : Calls Try.prog 59 #[.int .i64 op, .int .i64 (k : Int), rv a] w fun e w' => e = .returned (rv (PlainScalar.shifted op k a)) ∧ Below w.heap.size w w' := by
  have hn : ¬ ((k : Int) < 0) := by omega
  by_cases h6 : op = 6
  · subst h6
    have hl := PlainScalar.len_le a.hi
    cases q : decide ((k : Int) ≤ 64 - (PlainScalar.len a.hi : Int))
    · have hs : PlainScalar.shifted 6 k a = PlainScalar.settled ⟨(PlainTnum.left a.b k), PlainScalar.any.lo, PlainScalar.any.hi, PlainScalar.any.sl, PlainScalar.any.sh⟩ := by unfold PlainScalar.shifted; have := of_decide_eq_false q; rw [if_pos rfl, if_neg (by omega)]
      go_enter Try.func59, Try.ntmps59
      go_wp2_with fail
      obtain ⟨ga, hga⟩ : ∃ g, g = w.heap.size := ⟨_, rfl⟩
      obtain ⟨gr, hgr⟩ : ∃ g, g = w.heap.size + 1 := ⟨_, rfl⟩
      have Ba : Blk ((w.alloc (.cells #[uv a.b.v, uv a.b.m, uv a.lo, uv a.hi, sv a.sl, sv a.sh] 39)).alloc (.cells #[.int .u64 0, .int .u64 0, .int .u64 0, .int .u64 0, .int .i64 0, .int .i64 0] 39)) (w.heap.size) 39 #[uv a.b.v, uv a.b.m, uv a.lo, uv a.hi, sv a.sl, sv a.sh] := ((Blk.new w 39 #[uv a.b.v, uv a.b.m, uv a.lo, uv a.hi, sv a.sl, sv a.sh])).alloc _
      have Br : Blk ((w.alloc (.cells #[uv a.b.v, uv a.b.m, uv a.lo, uv a.hi, sv a.sl, sv a.sh] 39)).alloc (.cells #[.int .u64 0, .int .u64 0, .int .u64 0, .int .u64 0, .int .i64 0, .int .i64 0] 39)) (w.heap.size + 1) 39 #[.int .u64 0, .int .u64 0, .int .u64 0, .int .u64 0, .int .i64 0, .int .i64 0] := (by simpa using Blk.new (w.alloc (.cells #[uv a.b.v, uv a.b.m, uv a.lo, uv a.hi, sv a.sl, sv a.sh] 39)) 39 #[.int .u64 0, .int .u64 0, .int .u64 0, .int .u64 0, .int .i64 0, .int .i64 0] : Blk _ (w.heap.size + 1) 39 #[.int .u64 0, .int .u64 0, .int .u64 0, .int .u64 0, .int .i64 0, .int .i64 0])
      have hB : Below w.heap.size w ((w.alloc (.cells #[uv a.b.v, uv a.b.m, uv a.lo, uv a.hi, sv a.sl, sv a.sh] 39)).alloc (.cells #[.int .u64 0, .int .u64 0, .int .u64 0, .int .u64 0, .int .i64 0, .int .i64 0] 39)) := (Bl_alloc (Bl_alloc (Bl_refl w) _) _)
      clear hga
      clear ga
      clear hgr
      clear gr
      generalize ((w.alloc (.cells #[uv a.b.v, uv a.b.m, uv a.lo, uv a.hi, sv a.sl, sv a.sh] 39)).alloc (.cells #[.int .u64 0, .int .u64 0, .int .u64 0, .int .u64 0, .int .i64 0, .int .i64 0] 39)) = w1 at *
      have ca0 : w1.cell? ⟨w.heap.size, 0, none⟩ = some (uv a.b.v) := Ba.cell 0
      have ca1 : w1.cell? ⟨w.heap.size, 1, none⟩ = some (uv a.b.m) := Ba.cell 1
      have ca2 : w1.cell? ⟨w.heap.size, 2, none⟩ = some (uv a.lo) := Ba.cell 2
      have ca3 : w1.cell? ⟨w.heap.size, 3, none⟩ = some (uv a.hi) := Ba.cell 3
      have ca4 : w1.cell? ⟨w.heap.size, 4, none⟩ = some (sv a.sl) := Ba.cell 4
      have ca5 : w1.cell? ⟨w.heap.size, 5, none⟩ = some (sv a.sh) := Ba.cell 5
      have fa := Ba.frozen
      have la := Ba.lt
      have cr0 : w1.cell? ⟨w.heap.size + 1, 0, none⟩ = some (.int .u64 0) := Br.cell 0
      have cr1 : w1.cell? ⟨w.heap.size + 1, 1, none⟩ = some (.int .u64 0) := Br.cell 1
      have cr2 : w1.cell? ⟨w.heap.size + 1, 2, none⟩ = some (.int .u64 0) := Br.cell 2
      have cr3 : w1.cell? ⟨w.heap.size + 1, 3, none⟩ = some (.int .u64 0) := Br.cell 3
      have cr4 : w1.cell? ⟨w.heap.size + 1, 4, none⟩ = some (.int .i64 0) := Br.cell 4
      have cr5 : w1.cell? ⟨w.heap.size + 1, 5, none⟩ = some (.int .i64 0) := Br.cell 5
      have fr := Br.frozen
      have lr := Br.lt
      go_wp2_with fail
      refine (sany_c _).mono ?_
      rintro e w2 ⟨rfl, hb⟩
      clear ca0 ca1 ca2 ca3 ca4 ca5 fa la
      clear cr0 cr1 cr2 cr3 cr4 cr5 fr lr
      replace Ba := (Ba).next hb
      replace Br := (Br).next hb
      replace hB : Below w.heap.size w w2 := by repeat (first | exact hB | (refine Bl_set ?_ (by first | omega | (simp; omega)) _) | apply Bl_alloc | (refine Bl_trans ?_ hb))
      clear hb
      have ca0 : w2.cell? ⟨w.heap.size, 0, none⟩ = some (uv a.b.v) := Ba.cell 0
      have ca1 : w2.cell? ⟨w.heap.size, 1, none⟩ = some (uv a.b.m) := Ba.cell 1
      have ca2 : w2.cell? ⟨w.heap.size, 2, none⟩ = some (uv a.lo) := Ba.cell 2
      have ca3 : w2.cell? ⟨w.heap.size, 3, none⟩ = some (uv a.hi) := Ba.cell 3
      have ca4 : w2.cell? ⟨w.heap.size, 4, none⟩ = some (sv a.sl) := Ba.cell 4
      have ca5 : w2.cell? ⟨w.heap.size, 5, none⟩ = some (sv a.sh) := Ba.cell 5
      have fa := Ba.frozen
      have la := Ba.lt
      have cr0 : w2.cell? ⟨w.heap.size + 1, 0, none⟩ = some (.int .u64 0) := Br.cell 0
      have cr1 : w2.cell? ⟨w.heap.size + 1, 1, none⟩ = some (.int .u64 0) := Br.cell 1
      have cr2 : w2.cell? ⟨w.heap.size + 1, 2, none⟩ = some (.int .u64 0) := Br.cell 2
      have cr3 : w2.cell? ⟨w.heap.size + 1, 3, none⟩ = some (.int .u64 0) := Br.cell 3
      have cr4 : w2.cell? ⟨w.heap.size + 1, 4, none⟩ = some (.int .i64 0) := Br.cell 4
      have cr5 : w2.cell? ⟨w.heap.size + 1, 5, none⟩ = some (.int .i64 0) := Br.cell 5
      have fr := Br.frozen
      have lr := Br.lt
      go_upto_region 4 with fail
      clear ca0 ca1 ca2 ca3 ca4 ca5 fa la
      clear cr0 cr1 cr2 cr3 cr4 cr5 fr lr
      have Bo := Blk.new w2 39 #[uv PlainScalar.any.b.v, uv PlainScalar.any.b.m, uv PlainScalar.any.lo, uv PlainScalar.any.hi, sv PlainScalar.any.sl, sv PlainScalar.any.sh]
      have hgo := hB.size
      have hnao := Nat.ne_of_lt Ba.lt; have hltao := Ba.lt
      have hnro := Nat.ne_of_lt Br.lt; have hltro := Br.lt
      replace Ba : Blk (w2.alloc (.cells #[uv PlainScalar.any.b.v, uv PlainScalar.any.b.m, uv PlainScalar.any.lo, uv PlainScalar.any.hi, sv PlainScalar.any.sl, sv PlainScalar.any.sh] 39)) (w.heap.size) 39 #[uv a.b.v, uv a.b.m, uv a.lo, uv a.hi, sv a.sl, sv a.sh] := Ba.alloc _
      replace Br : Blk (w2.alloc (.cells #[uv PlainScalar.any.b.v, uv PlainScalar.any.b.m, uv PlainScalar.any.lo, uv PlainScalar.any.hi, sv PlainScalar.any.sl, sv PlainScalar.any.sh] 39)) (w.heap.size + 1) 39 #[.int .u64 0, .int .u64 0, .int .u64 0, .int .u64 0, .int .i64 0, .int .i64 0] := Br.alloc _
      replace hB : Below w.heap.size w (w2.alloc (.cells #[uv PlainScalar.any.b.v, uv PlainScalar.any.b.m, uv PlainScalar.any.lo, uv PlainScalar.any.hi, sv PlainScalar.any.sl, sv PlainScalar.any.sh] 39)) := Bl_alloc hB _
      generalize (w2.alloc (.cells #[uv PlainScalar.any.b.v, uv PlainScalar.any.b.m, uv PlainScalar.any.lo, uv PlainScalar.any.hi, sv PlainScalar.any.sl, sv PlainScalar.any.sh] 39)) = w3 at *
      generalize w2.heap.size = go at *
      have ca0 : w3.cell? ⟨w.heap.size, 0, none⟩ = some (uv a.b.v) := Ba.cell 0
      have ca1 : w3.cell? ⟨w.heap.size, 1, none⟩ = some (uv a.b.m) := Ba.cell 1
      have ca2 : w3.cell? ⟨w.heap.size, 2, none⟩ = some (uv a.lo) := Ba.cell 2
      have ca3 : w3.cell? ⟨w.heap.size, 3, none⟩ = some (uv a.hi) := Ba.cell 3
      have ca4 : w3.cell? ⟨w.heap.size, 4, none⟩ = some (sv a.sl) := Ba.cell 4
      have ca5 : w3.cell? ⟨w.heap.size, 5, none⟩ = some (sv a.sh) := Ba.cell 5
      have fa := Ba.frozen
      have la := Ba.lt
      have cr0 : w3.cell? ⟨w.heap.size + 1, 0, none⟩ = some (.int .u64 0) := Br.cell 0
      have cr1 : w3.cell? ⟨w.heap.size + 1, 1, none⟩ = some (.int .u64 0) := Br.cell 1
      have cr2 : w3.cell? ⟨w.heap.size + 1, 2, none⟩ = some (.int .u64 0) := Br.cell 2
      have cr3 : w3.cell? ⟨w.heap.size + 1, 3, none⟩ = some (.int .u64 0) := Br.cell 3
      have cr4 : w3.cell? ⟨w.heap.size + 1, 4, none⟩ = some (.int .i64 0) := Br.cell 4
      have cr5 : w3.cell? ⟨w.heap.size + 1, 5, none⟩ = some (.int .i64 0) := Br.cell 5
      have fr := Br.frozen
      have lr := Br.lt
      have co0 : w3.cell? ⟨go, 0, none⟩ = some (uv PlainScalar.any.b.v) := Bo.cell 0
      have co1 : w3.cell? ⟨go, 1, none⟩ = some (uv PlainScalar.any.b.m) := Bo.cell 1
      have co2 : w3.cell? ⟨go, 2, none⟩ = some (uv PlainScalar.any.lo) := Bo.cell 2
      have co3 : w3.cell? ⟨go, 3, none⟩ = some (uv PlainScalar.any.hi) := Bo.cell 3
      have co4 : w3.cell? ⟨go, 4, none⟩ = some (sv PlainScalar.any.sl) := Bo.cell 4
      have co5 : w3.cell? ⟨go, 5, none⟩ = some (sv PlainScalar.any.sh) := Bo.cell 5
      have fo := Bo.frozen
      have lo := Bo.lt
      go_wp2_with fail
      refine (left_n _ hk _).mono ?_
      rintro e w4 ⟨rfl, hb⟩
      clear ca0 ca1 ca2 ca3 ca4 ca5 fa la
      clear cr0 cr1 cr2 cr3 cr4 cr5 fr lr
      clear co0 co1 co2 co3 co4 co5 fo lo
      replace Ba := (Ba).next hb
      replace Br := (Br).next hb
      replace Bo := (Bo).next hb
      replace hB : Below w.heap.size w w4 := by repeat (first | exact hB | (refine Bl_set ?_ (by first | omega | (simp; omega)) _) | apply Bl_alloc | (refine Bl_trans ?_ hb))
      clear hb
      have ca0 : w4.cell? ⟨w.heap.size, 0, none⟩ = some (uv a.b.v) := Ba.cell 0
      have ca1 : w4.cell? ⟨w.heap.size, 1, none⟩ = some (uv a.b.m) := Ba.cell 1
      have ca2 : w4.cell? ⟨w.heap.size, 2, none⟩ = some (uv a.lo) := Ba.cell 2
      have ca3 : w4.cell? ⟨w.heap.size, 3, none⟩ = some (uv a.hi) := Ba.cell 3
      have ca4 : w4.cell? ⟨w.heap.size, 4, none⟩ = some (sv a.sl) := Ba.cell 4
      have ca5 : w4.cell? ⟨w.heap.size, 5, none⟩ = some (sv a.sh) := Ba.cell 5
      have fa := Ba.frozen
      have la := Ba.lt
      have cr0 : w4.cell? ⟨w.heap.size + 1, 0, none⟩ = some (.int .u64 0) := Br.cell 0
      have cr1 : w4.cell? ⟨w.heap.size + 1, 1, none⟩ = some (.int .u64 0) := Br.cell 1
      have cr2 : w4.cell? ⟨w.heap.size + 1, 2, none⟩ = some (.int .u64 0) := Br.cell 2
      have cr3 : w4.cell? ⟨w.heap.size + 1, 3, none⟩ = some (.int .u64 0) := Br.cell 3
      have cr4 : w4.cell? ⟨w.heap.size + 1, 4, none⟩ = some (.int .i64 0) := Br.cell 4
      have cr5 : w4.cell? ⟨w.heap.size + 1, 5, none⟩ = some (.int .i64 0) := Br.cell 5
      have fr := Br.frozen
      have lr := Br.lt
      have co0 : w4.cell? ⟨go, 0, none⟩ = some (uv PlainScalar.any.b.v) := Bo.cell 0
      have co1 : w4.cell? ⟨go, 1, none⟩ = some (uv PlainScalar.any.b.m) := Bo.cell 1
      have co2 : w4.cell? ⟨go, 2, none⟩ = some (uv PlainScalar.any.lo) := Bo.cell 2
      have co3 : w4.cell? ⟨go, 3, none⟩ = some (uv PlainScalar.any.hi) := Bo.cell 3
      have co4 : w4.cell? ⟨go, 4, none⟩ = some (sv PlainScalar.any.sl) := Bo.cell 4
      have co5 : w4.cell? ⟨go, 5, none⟩ = some (sv PlainScalar.any.sh) := Bo.cell 5
      have fo := Bo.frozen
      have lo := Bo.lt
      go_upto_region 5 with fail
      clear ca0 ca1 ca2 ca3 ca4 ca5 fa la
      clear cr0 cr1 cr2 cr3 cr4 cr5 fr lr
      clear co0 co1 co2 co3 co4 co5 fo lo
      replace Ba : Blk (w4.setCell ⟨go, 0, none⟩ (uv (PlainTnum.left a.b k).v)) (w.heap.size) 39 #[uv a.b.v, uv a.b.m, uv a.lo, uv a.hi, sv a.sl, sv a.sh] := (Ba.far (by first | (simp; done) | (simp; omega) | (simp [*]; done) | (simp only [ne_eq]; constructor <;> omega)) _)
      replace Br : Blk (w4.setCell ⟨go, 0, none⟩ (uv (PlainTnum.left a.b k).v)) (w.heap.size + 1) 39 #[.int .u64 0, .int .u64 0, .int .u64 0, .int .u64 0, .int .i64 0, .int .i64 0] := (Br.far (by first | (simp; done) | (simp; omega) | (simp [*]; done) | (simp only [ne_eq]; constructor <;> omega)) _)
      replace Bo : Blk (w4.setCell ⟨go, 0, none⟩ (uv (PlainTnum.left a.b k).v)) (go) 39 #[uv (PlainTnum.left a.b k).v, uv PlainScalar.any.b.m, uv PlainScalar.any.lo, uv PlainScalar.any.hi, sv PlainScalar.any.sl, sv PlainScalar.any.sh] := Bo.set_ 0 _
      replace hB : Below w.heap.size w (w4.setCell ⟨go, 0, none⟩ (uv (PlainTnum.left a.b k).v)) := (Bl_set hB (by first | omega | (simp; done) | (simp; omega)) _)
      replace Ba : Blk ((w4.setCell ⟨go, 0, none⟩ (uv (PlainTnum.left a.b k).v)).setCell ⟨go, 1, none⟩ (uv (PlainTnum.left a.b k).m)) (w.heap.size) 39 #[uv a.b.v, uv a.b.m, uv a.lo, uv a.hi, sv a.sl, sv a.sh] := (Ba.far (by first | (simp; done) | (simp; omega) | (simp [*]; done) | (simp only [ne_eq]; constructor <;> omega)) _)
      replace Br : Blk ((w4.setCell ⟨go, 0, none⟩ (uv (PlainTnum.left a.b k).v)).setCell ⟨go, 1, none⟩ (uv (PlainTnum.left a.b k).m)) (w.heap.size + 1) 39 #[.int .u64 0, .int .u64 0, .int .u64 0, .int .u64 0, .int .i64 0, .int .i64 0] := (Br.far (by first | (simp; done) | (simp; omega) | (simp [*]; done) | (simp only [ne_eq]; constructor <;> omega)) _)
      replace Bo : Blk ((w4.setCell ⟨go, 0, none⟩ (uv (PlainTnum.left a.b k).v)).setCell ⟨go, 1, none⟩ (uv (PlainTnum.left a.b k).m)) (go) 39 #[uv (PlainTnum.left a.b k).v, uv (PlainTnum.left a.b k).m, uv PlainScalar.any.lo, uv PlainScalar.any.hi, sv PlainScalar.any.sl, sv PlainScalar.any.sh] := Bo.set_ 1 _
      replace hB : Below w.heap.size w ((w4.setCell ⟨go, 0, none⟩ (uv (PlainTnum.left a.b k).v)).setCell ⟨go, 1, none⟩ (uv (PlainTnum.left a.b k).m)) := (Bl_set hB (by first | omega | (simp; done) | (simp; omega)) _)
      generalize ((w4.setCell ⟨go, 0, none⟩ (uv (PlainTnum.left a.b k).v)).setCell ⟨go, 1, none⟩ (uv (PlainTnum.left a.b k).m)) = w5 at *
      have ca0 : w5.cell? ⟨w.heap.size, 0, none⟩ = some (uv a.b.v) := Ba.cell 0
      have ca1 : w5.cell? ⟨w.heap.size, 1, none⟩ = some (uv a.b.m) := Ba.cell 1
      have ca2 : w5.cell? ⟨w.heap.size, 2, none⟩ = some (uv a.lo) := Ba.cell 2
      have ca3 : w5.cell? ⟨w.heap.size, 3, none⟩ = some (uv a.hi) := Ba.cell 3
      have ca4 : w5.cell? ⟨w.heap.size, 4, none⟩ = some (sv a.sl) := Ba.cell 4
      have ca5 : w5.cell? ⟨w.heap.size, 5, none⟩ = some (sv a.sh) := Ba.cell 5
      have fa := Ba.frozen
      have la := Ba.lt
      have cr0 : w5.cell? ⟨w.heap.size + 1, 0, none⟩ = some (.int .u64 0) := Br.cell 0
      have cr1 : w5.cell? ⟨w.heap.size + 1, 1, none⟩ = some (.int .u64 0) := Br.cell 1
      have cr2 : w5.cell? ⟨w.heap.size + 1, 2, none⟩ = some (.int .u64 0) := Br.cell 2
      have cr3 : w5.cell? ⟨w.heap.size + 1, 3, none⟩ = some (.int .u64 0) := Br.cell 3
      have cr4 : w5.cell? ⟨w.heap.size + 1, 4, none⟩ = some (.int .i64 0) := Br.cell 4
      have cr5 : w5.cell? ⟨w.heap.size + 1, 5, none⟩ = some (.int .i64 0) := Br.cell 5
      have fr := Br.frozen
      have lr := Br.lt
      have co0 : w5.cell? ⟨go, 0, none⟩ = some (uv (PlainTnum.left a.b k).v) := Bo.cell 0
      have co1 : w5.cell? ⟨go, 1, none⟩ = some (uv (PlainTnum.left a.b k).m) := Bo.cell 1
      have co2 : w5.cell? ⟨go, 2, none⟩ = some (uv PlainScalar.any.lo) := Bo.cell 2
      have co3 : w5.cell? ⟨go, 3, none⟩ = some (uv PlainScalar.any.hi) := Bo.cell 3
      have co4 : w5.cell? ⟨go, 4, none⟩ = some (sv PlainScalar.any.sl) := Bo.cell 4
      have co5 : w5.cell? ⟨go, 5, none⟩ = some (sv PlainScalar.any.sh) := Bo.cell 5
      have fo := Bo.frozen
      have lo := Bo.lt
      go_wp2_with fail
      refine (lz64_c _ _).mono ?_
      rintro e w' ⟨rfl, rfl⟩
      go_wp2_with fail
      refine (settled_c (⟨(PlainTnum.left a.b k), PlainScalar.any.lo, PlainScalar.any.hi, PlainScalar.any.sl, PlainScalar.any.sh⟩ : Rng) _).mono ?_
      rintro e w6 ⟨rfl, hb⟩
      clear ca0 ca1 ca2 ca3 ca4 ca5 fa la
      clear cr0 cr1 cr2 cr3 cr4 cr5 fr lr
      clear co0 co1 co2 co3 co4 co5 fo lo
      replace Ba := (Ba).next hb
      replace Br := (Br).next hb
      replace Bo := (Bo).next hb
      replace hB : Below w.heap.size w w6 := by repeat (first | exact hB | (refine Bl_set ?_ (by first | omega | (simp; omega)) _) | apply Bl_alloc | (refine Bl_trans ?_ hb))
      clear hb
      have ca0 : w6.cell? ⟨w.heap.size, 0, none⟩ = some (uv a.b.v) := Ba.cell 0
      have ca1 : w6.cell? ⟨w.heap.size, 1, none⟩ = some (uv a.b.m) := Ba.cell 1
      have ca2 : w6.cell? ⟨w.heap.size, 2, none⟩ = some (uv a.lo) := Ba.cell 2
      have ca3 : w6.cell? ⟨w.heap.size, 3, none⟩ = some (uv a.hi) := Ba.cell 3
      have ca4 : w6.cell? ⟨w.heap.size, 4, none⟩ = some (sv a.sl) := Ba.cell 4
      have ca5 : w6.cell? ⟨w.heap.size, 5, none⟩ = some (sv a.sh) := Ba.cell 5
      have fa := Ba.frozen
      have la := Ba.lt
      have cr0 : w6.cell? ⟨w.heap.size + 1, 0, none⟩ = some (.int .u64 0) := Br.cell 0
      have cr1 : w6.cell? ⟨w.heap.size + 1, 1, none⟩ = some (.int .u64 0) := Br.cell 1
      have cr2 : w6.cell? ⟨w.heap.size + 1, 2, none⟩ = some (.int .u64 0) := Br.cell 2
      have cr3 : w6.cell? ⟨w.heap.size + 1, 3, none⟩ = some (.int .u64 0) := Br.cell 3
      have cr4 : w6.cell? ⟨w.heap.size + 1, 4, none⟩ = some (.int .i64 0) := Br.cell 4
      have cr5 : w6.cell? ⟨w.heap.size + 1, 5, none⟩ = some (.int .i64 0) := Br.cell 5
      have fr := Br.frozen
      have lr := Br.lt
      have co0 : w6.cell? ⟨go, 0, none⟩ = some (uv (PlainTnum.left a.b k).v) := Bo.cell 0
      have co1 : w6.cell? ⟨go, 1, none⟩ = some (uv (PlainTnum.left a.b k).m) := Bo.cell 1
      have co2 : w6.cell? ⟨go, 2, none⟩ = some (uv PlainScalar.any.lo) := Bo.cell 2
      have co3 : w6.cell? ⟨go, 3, none⟩ = some (uv PlainScalar.any.hi) := Bo.cell 3
      have co4 : w6.cell? ⟨go, 4, none⟩ = some (sv PlainScalar.any.sl) := Bo.cell 4
      have co5 : w6.cell? ⟨go, 5, none⟩ = some (sv PlainScalar.any.sh) := Bo.cell 5
      have fo := Bo.frozen
      have lo := Bo.lt
      go_wp2
      exact bodyPost_ret (v := rv (PlainScalar.settled ⟨(PlainTnum.left a.b k), PlainScalar.any.lo, PlainScalar.any.hi, PlainScalar.any.sl, PlainScalar.any.sh⟩)) (by simp [results, Try.results59, go_sem, cr0, cr1, cr2, cr3, cr4, cr5, lr]) rfl ⟨by rw [hs], by repeat (first | (with_reducible exact hB) | (with_reducible refine Bl_set ?_ (by first | omega | (simp; done) | (simp; omega)) _) | with_reducible apply Bl_alloc)⟩
    · have hs : PlainScalar.shifted 6 k a = PlainScalar.settled ⟨(PlainTnum.left a.b k), (a.lo <<< k), (a.hi <<< k), PlainScalar.any.sl, PlainScalar.any.sh⟩ := by unfold PlainScalar.shifted; have := of_decide_eq_true q; rw [if_pos rfl, if_pos (by omega)]
      go_enter Try.func59, Try.ntmps59
      go_wp2_with fail
      obtain ⟨ga, hga⟩ : ∃ g, g = w.heap.size := ⟨_, rfl⟩
      obtain ⟨gr, hgr⟩ : ∃ g, g = w.heap.size + 1 := ⟨_, rfl⟩
      have Ba : Blk ((w.alloc (.cells #[uv a.b.v, uv a.b.m, uv a.lo, uv a.hi, sv a.sl, sv a.sh] 39)).alloc (.cells #[.int .u64 0, .int .u64 0, .int .u64 0, .int .u64 0, .int .i64 0, .int .i64 0] 39)) (w.heap.size) 39 #[uv a.b.v, uv a.b.m, uv a.lo, uv a.hi, sv a.sl, sv a.sh] := ((Blk.new w 39 #[uv a.b.v, uv a.b.m, uv a.lo, uv a.hi, sv a.sl, sv a.sh])).alloc _
      have Br : Blk ((w.alloc (.cells #[uv a.b.v, uv a.b.m, uv a.lo, uv a.hi, sv a.sl, sv a.sh] 39)).alloc (.cells #[.int .u64 0, .int .u64 0, .int .u64 0, .int .u64 0, .int .i64 0, .int .i64 0] 39)) (w.heap.size + 1) 39 #[.int .u64 0, .int .u64 0, .int .u64 0, .int .u64 0, .int .i64 0, .int .i64 0] := (by simpa using Blk.new (w.alloc (.cells #[uv a.b.v, uv a.b.m, uv a.lo, uv a.hi, sv a.sl, sv a.sh] 39)) 39 #[.int .u64 0, .int .u64 0, .int .u64 0, .int .u64 0, .int .i64 0, .int .i64 0] : Blk _ (w.heap.size + 1) 39 #[.int .u64 0, .int .u64 0, .int .u64 0, .int .u64 0, .int .i64 0, .int .i64 0])
      have hB : Below w.heap.size w ((w.alloc (.cells #[uv a.b.v, uv a.b.m, uv a.lo, uv a.hi, sv a.sl, sv a.sh] 39)).alloc (.cells #[.int .u64 0, .int .u64 0, .int .u64 0, .int .u64 0, .int .i64 0, .int .i64 0] 39)) := (Bl_alloc (Bl_alloc (Bl_refl w) _) _)
      clear hga
      clear ga
      clear hgr
      clear gr
      generalize ((w.alloc (.cells #[uv a.b.v, uv a.b.m, uv a.lo, uv a.hi, sv a.sl, sv a.sh] 39)).alloc (.cells #[.int .u64 0, .int .u64 0, .int .u64 0, .int .u64 0, .int .i64 0, .int .i64 0] 39)) = w1 at *
      have ca0 : w1.cell? ⟨w.heap.size, 0, none⟩ = some (uv a.b.v) := Ba.cell 0
      have ca1 : w1.cell? ⟨w.heap.size, 1, none⟩ = some (uv a.b.m) := Ba.cell 1
      have ca2 : w1.cell? ⟨w.heap.size, 2, none⟩ = some (uv a.lo) := Ba.cell 2
      have ca3 : w1.cell? ⟨w.heap.size, 3, none⟩ = some (uv a.hi) := Ba.cell 3
      have ca4 : w1.cell? ⟨w.heap.size, 4, none⟩ = some (sv a.sl) := Ba.cell 4
      have ca5 : w1.cell? ⟨w.heap.size, 5, none⟩ = some (sv a.sh) := Ba.cell 5
      have fa := Ba.frozen
      have la := Ba.lt
      have cr0 : w1.cell? ⟨w.heap.size + 1, 0, none⟩ = some (.int .u64 0) := Br.cell 0
      have cr1 : w1.cell? ⟨w.heap.size + 1, 1, none⟩ = some (.int .u64 0) := Br.cell 1
      have cr2 : w1.cell? ⟨w.heap.size + 1, 2, none⟩ = some (.int .u64 0) := Br.cell 2
      have cr3 : w1.cell? ⟨w.heap.size + 1, 3, none⟩ = some (.int .u64 0) := Br.cell 3
      have cr4 : w1.cell? ⟨w.heap.size + 1, 4, none⟩ = some (.int .i64 0) := Br.cell 4
      have cr5 : w1.cell? ⟨w.heap.size + 1, 5, none⟩ = some (.int .i64 0) := Br.cell 5
      have fr := Br.frozen
      have lr := Br.lt
      go_wp2_with fail
      refine (sany_c _).mono ?_
      rintro e w2 ⟨rfl, hb⟩
      clear ca0 ca1 ca2 ca3 ca4 ca5 fa la
      clear cr0 cr1 cr2 cr3 cr4 cr5 fr lr
      replace Ba := (Ba).next hb
      replace Br := (Br).next hb
      replace hB : Below w.heap.size w w2 := by repeat (first | exact hB | (refine Bl_set ?_ (by first | omega | (simp; omega)) _) | apply Bl_alloc | (refine Bl_trans ?_ hb))
      clear hb
      have ca0 : w2.cell? ⟨w.heap.size, 0, none⟩ = some (uv a.b.v) := Ba.cell 0
      have ca1 : w2.cell? ⟨w.heap.size, 1, none⟩ = some (uv a.b.m) := Ba.cell 1
      have ca2 : w2.cell? ⟨w.heap.size, 2, none⟩ = some (uv a.lo) := Ba.cell 2
      have ca3 : w2.cell? ⟨w.heap.size, 3, none⟩ = some (uv a.hi) := Ba.cell 3
      have ca4 : w2.cell? ⟨w.heap.size, 4, none⟩ = some (sv a.sl) := Ba.cell 4
      have ca5 : w2.cell? ⟨w.heap.size, 5, none⟩ = some (sv a.sh) := Ba.cell 5
      have fa := Ba.frozen
      have la := Ba.lt
      have cr0 : w2.cell? ⟨w.heap.size + 1, 0, none⟩ = some (.int .u64 0) := Br.cell 0
      have cr1 : w2.cell? ⟨w.heap.size + 1, 1, none⟩ = some (.int .u64 0) := Br.cell 1
      have cr2 : w2.cell? ⟨w.heap.size + 1, 2, none⟩ = some (.int .u64 0) := Br.cell 2
      have cr3 : w2.cell? ⟨w.heap.size + 1, 3, none⟩ = some (.int .u64 0) := Br.cell 3
      have cr4 : w2.cell? ⟨w.heap.size + 1, 4, none⟩ = some (.int .i64 0) := Br.cell 4
      have cr5 : w2.cell? ⟨w.heap.size + 1, 5, none⟩ = some (.int .i64 0) := Br.cell 5
      have fr := Br.frozen
      have lr := Br.lt
      go_upto_region 4 with fail
      clear ca0 ca1 ca2 ca3 ca4 ca5 fa la
      clear cr0 cr1 cr2 cr3 cr4 cr5 fr lr
      have Bo := Blk.new w2 39 #[uv PlainScalar.any.b.v, uv PlainScalar.any.b.m, uv PlainScalar.any.lo, uv PlainScalar.any.hi, sv PlainScalar.any.sl, sv PlainScalar.any.sh]
      have hgo := hB.size
      have hnao := Nat.ne_of_lt Ba.lt; have hltao := Ba.lt
      have hnro := Nat.ne_of_lt Br.lt; have hltro := Br.lt
      replace Ba : Blk (w2.alloc (.cells #[uv PlainScalar.any.b.v, uv PlainScalar.any.b.m, uv PlainScalar.any.lo, uv PlainScalar.any.hi, sv PlainScalar.any.sl, sv PlainScalar.any.sh] 39)) (w.heap.size) 39 #[uv a.b.v, uv a.b.m, uv a.lo, uv a.hi, sv a.sl, sv a.sh] := Ba.alloc _
      replace Br : Blk (w2.alloc (.cells #[uv PlainScalar.any.b.v, uv PlainScalar.any.b.m, uv PlainScalar.any.lo, uv PlainScalar.any.hi, sv PlainScalar.any.sl, sv PlainScalar.any.sh] 39)) (w.heap.size + 1) 39 #[.int .u64 0, .int .u64 0, .int .u64 0, .int .u64 0, .int .i64 0, .int .i64 0] := Br.alloc _
      replace hB : Below w.heap.size w (w2.alloc (.cells #[uv PlainScalar.any.b.v, uv PlainScalar.any.b.m, uv PlainScalar.any.lo, uv PlainScalar.any.hi, sv PlainScalar.any.sl, sv PlainScalar.any.sh] 39)) := Bl_alloc hB _
      generalize (w2.alloc (.cells #[uv PlainScalar.any.b.v, uv PlainScalar.any.b.m, uv PlainScalar.any.lo, uv PlainScalar.any.hi, sv PlainScalar.any.sl, sv PlainScalar.any.sh] 39)) = w3 at *
      generalize w2.heap.size = go at *
      have ca0 : w3.cell? ⟨w.heap.size, 0, none⟩ = some (uv a.b.v) := Ba.cell 0
      have ca1 : w3.cell? ⟨w.heap.size, 1, none⟩ = some (uv a.b.m) := Ba.cell 1
      have ca2 : w3.cell? ⟨w.heap.size, 2, none⟩ = some (uv a.lo) := Ba.cell 2
      have ca3 : w3.cell? ⟨w.heap.size, 3, none⟩ = some (uv a.hi) := Ba.cell 3
      have ca4 : w3.cell? ⟨w.heap.size, 4, none⟩ = some (sv a.sl) := Ba.cell 4
      have ca5 : w3.cell? ⟨w.heap.size, 5, none⟩ = some (sv a.sh) := Ba.cell 5
      have fa := Ba.frozen
      have la := Ba.lt
      have cr0 : w3.cell? ⟨w.heap.size + 1, 0, none⟩ = some (.int .u64 0) := Br.cell 0
      have cr1 : w3.cell? ⟨w.heap.size + 1, 1, none⟩ = some (.int .u64 0) := Br.cell 1
      have cr2 : w3.cell? ⟨w.heap.size + 1, 2, none⟩ = some (.int .u64 0) := Br.cell 2
      have cr3 : w3.cell? ⟨w.heap.size + 1, 3, none⟩ = some (.int .u64 0) := Br.cell 3
      have cr4 : w3.cell? ⟨w.heap.size + 1, 4, none⟩ = some (.int .i64 0) := Br.cell 4
      have cr5 : w3.cell? ⟨w.heap.size + 1, 5, none⟩ = some (.int .i64 0) := Br.cell 5
      have fr := Br.frozen
      have lr := Br.lt
      have co0 : w3.cell? ⟨go, 0, none⟩ = some (uv PlainScalar.any.b.v) := Bo.cell 0
      have co1 : w3.cell? ⟨go, 1, none⟩ = some (uv PlainScalar.any.b.m) := Bo.cell 1
      have co2 : w3.cell? ⟨go, 2, none⟩ = some (uv PlainScalar.any.lo) := Bo.cell 2
      have co3 : w3.cell? ⟨go, 3, none⟩ = some (uv PlainScalar.any.hi) := Bo.cell 3
      have co4 : w3.cell? ⟨go, 4, none⟩ = some (sv PlainScalar.any.sl) := Bo.cell 4
      have co5 : w3.cell? ⟨go, 5, none⟩ = some (sv PlainScalar.any.sh) := Bo.cell 5
      have fo := Bo.frozen
      have lo := Bo.lt
      go_wp2_with fail
      refine (left_n _ hk _).mono ?_
      rintro e w4 ⟨rfl, hb⟩
      clear ca0 ca1 ca2 ca3 ca4 ca5 fa la
      clear cr0 cr1 cr2 cr3 cr4 cr5 fr lr
      clear co0 co1 co2 co3 co4 co5 fo lo
      replace Ba := (Ba).next hb
      replace Br := (Br).next hb
      replace Bo := (Bo).next hb
      replace hB : Below w.heap.size w w4 := by repeat (first | exact hB | (refine Bl_set ?_ (by first | omega | (simp; omega)) _) | apply Bl_alloc | (refine Bl_trans ?_ hb))
      clear hb
      have ca0 : w4.cell? ⟨w.heap.size, 0, none⟩ = some (uv a.b.v) := Ba.cell 0
      have ca1 : w4.cell? ⟨w.heap.size, 1, none⟩ = some (uv a.b.m) := Ba.cell 1
      have ca2 : w4.cell? ⟨w.heap.size, 2, none⟩ = some (uv a.lo) := Ba.cell 2
      have ca3 : w4.cell? ⟨w.heap.size, 3, none⟩ = some (uv a.hi) := Ba.cell 3
      have ca4 : w4.cell? ⟨w.heap.size, 4, none⟩ = some (sv a.sl) := Ba.cell 4
      have ca5 : w4.cell? ⟨w.heap.size, 5, none⟩ = some (sv a.sh) := Ba.cell 5
      have fa := Ba.frozen
      have la := Ba.lt
      have cr0 : w4.cell? ⟨w.heap.size + 1, 0, none⟩ = some (.int .u64 0) := Br.cell 0
      have cr1 : w4.cell? ⟨w.heap.size + 1, 1, none⟩ = some (.int .u64 0) := Br.cell 1
      have cr2 : w4.cell? ⟨w.heap.size + 1, 2, none⟩ = some (.int .u64 0) := Br.cell 2
      have cr3 : w4.cell? ⟨w.heap.size + 1, 3, none⟩ = some (.int .u64 0) := Br.cell 3
      have cr4 : w4.cell? ⟨w.heap.size + 1, 4, none⟩ = some (.int .i64 0) := Br.cell 4
      have cr5 : w4.cell? ⟨w.heap.size + 1, 5, none⟩ = some (.int .i64 0) := Br.cell 5
      have fr := Br.frozen
      have lr := Br.lt
      have co0 : w4.cell? ⟨go, 0, none⟩ = some (uv PlainScalar.any.b.v) := Bo.cell 0
      have co1 : w4.cell? ⟨go, 1, none⟩ = some (uv PlainScalar.any.b.m) := Bo.cell 1
      have co2 : w4.cell? ⟨go, 2, none⟩ = some (uv PlainScalar.any.lo) := Bo.cell 2
      have co3 : w4.cell? ⟨go, 3, none⟩ = some (uv PlainScalar.any.hi) := Bo.cell 3
      have co4 : w4.cell? ⟨go, 4, none⟩ = some (sv PlainScalar.any.sl) := Bo.cell 4
      have co5 : w4.cell? ⟨go, 5, none⟩ = some (sv PlainScalar.any.sh) := Bo.cell 5
      have fo := Bo.frozen
      have lo := Bo.lt
      go_upto_region 5 with fail
      clear ca0 ca1 ca2 ca3 ca4 ca5 fa la
      clear cr0 cr1 cr2 cr3 cr4 cr5 fr lr
      clear co0 co1 co2 co3 co4 co5 fo lo
      replace Ba : Blk (w4.setCell ⟨go, 0, none⟩ (uv (PlainTnum.left a.b k).v)) (w.heap.size) 39 #[uv a.b.v, uv a.b.m, uv a.lo, uv a.hi, sv a.sl, sv a.sh] := (Ba.far (by first | (simp; done) | (simp; omega) | (simp [*]; done) | (simp only [ne_eq]; constructor <;> omega)) _)
      replace Br : Blk (w4.setCell ⟨go, 0, none⟩ (uv (PlainTnum.left a.b k).v)) (w.heap.size + 1) 39 #[.int .u64 0, .int .u64 0, .int .u64 0, .int .u64 0, .int .i64 0, .int .i64 0] := (Br.far (by first | (simp; done) | (simp; omega) | (simp [*]; done) | (simp only [ne_eq]; constructor <;> omega)) _)
      replace Bo : Blk (w4.setCell ⟨go, 0, none⟩ (uv (PlainTnum.left a.b k).v)) (go) 39 #[uv (PlainTnum.left a.b k).v, uv PlainScalar.any.b.m, uv PlainScalar.any.lo, uv PlainScalar.any.hi, sv PlainScalar.any.sl, sv PlainScalar.any.sh] := Bo.set_ 0 _
      replace hB : Below w.heap.size w (w4.setCell ⟨go, 0, none⟩ (uv (PlainTnum.left a.b k).v)) := (Bl_set hB (by first | omega | (simp; done) | (simp; omega)) _)
      replace Ba : Blk ((w4.setCell ⟨go, 0, none⟩ (uv (PlainTnum.left a.b k).v)).setCell ⟨go, 1, none⟩ (uv (PlainTnum.left a.b k).m)) (w.heap.size) 39 #[uv a.b.v, uv a.b.m, uv a.lo, uv a.hi, sv a.sl, sv a.sh] := (Ba.far (by first | (simp; done) | (simp; omega) | (simp [*]; done) | (simp only [ne_eq]; constructor <;> omega)) _)
      replace Br : Blk ((w4.setCell ⟨go, 0, none⟩ (uv (PlainTnum.left a.b k).v)).setCell ⟨go, 1, none⟩ (uv (PlainTnum.left a.b k).m)) (w.heap.size + 1) 39 #[.int .u64 0, .int .u64 0, .int .u64 0, .int .u64 0, .int .i64 0, .int .i64 0] := (Br.far (by first | (simp; done) | (simp; omega) | (simp [*]; done) | (simp only [ne_eq]; constructor <;> omega)) _)
      replace Bo : Blk ((w4.setCell ⟨go, 0, none⟩ (uv (PlainTnum.left a.b k).v)).setCell ⟨go, 1, none⟩ (uv (PlainTnum.left a.b k).m)) (go) 39 #[uv (PlainTnum.left a.b k).v, uv (PlainTnum.left a.b k).m, uv PlainScalar.any.lo, uv PlainScalar.any.hi, sv PlainScalar.any.sl, sv PlainScalar.any.sh] := Bo.set_ 1 _
      replace hB : Below w.heap.size w ((w4.setCell ⟨go, 0, none⟩ (uv (PlainTnum.left a.b k).v)).setCell ⟨go, 1, none⟩ (uv (PlainTnum.left a.b k).m)) := (Bl_set hB (by first | omega | (simp; done) | (simp; omega)) _)
      generalize ((w4.setCell ⟨go, 0, none⟩ (uv (PlainTnum.left a.b k).v)).setCell ⟨go, 1, none⟩ (uv (PlainTnum.left a.b k).m)) = w5 at *
      have ca0 : w5.cell? ⟨w.heap.size, 0, none⟩ = some (uv a.b.v) := Ba.cell 0
      have ca1 : w5.cell? ⟨w.heap.size, 1, none⟩ = some (uv a.b.m) := Ba.cell 1
      have ca2 : w5.cell? ⟨w.heap.size, 2, none⟩ = some (uv a.lo) := Ba.cell 2
      have ca3 : w5.cell? ⟨w.heap.size, 3, none⟩ = some (uv a.hi) := Ba.cell 3
      have ca4 : w5.cell? ⟨w.heap.size, 4, none⟩ = some (sv a.sl) := Ba.cell 4
      have ca5 : w5.cell? ⟨w.heap.size, 5, none⟩ = some (sv a.sh) := Ba.cell 5
      have fa := Ba.frozen
      have la := Ba.lt
      have cr0 : w5.cell? ⟨w.heap.size + 1, 0, none⟩ = some (.int .u64 0) := Br.cell 0
      have cr1 : w5.cell? ⟨w.heap.size + 1, 1, none⟩ = some (.int .u64 0) := Br.cell 1
      have cr2 : w5.cell? ⟨w.heap.size + 1, 2, none⟩ = some (.int .u64 0) := Br.cell 2
      have cr3 : w5.cell? ⟨w.heap.size + 1, 3, none⟩ = some (.int .u64 0) := Br.cell 3
      have cr4 : w5.cell? ⟨w.heap.size + 1, 4, none⟩ = some (.int .i64 0) := Br.cell 4
      have cr5 : w5.cell? ⟨w.heap.size + 1, 5, none⟩ = some (.int .i64 0) := Br.cell 5
      have fr := Br.frozen
      have lr := Br.lt
      have co0 : w5.cell? ⟨go, 0, none⟩ = some (uv (PlainTnum.left a.b k).v) := Bo.cell 0
      have co1 : w5.cell? ⟨go, 1, none⟩ = some (uv (PlainTnum.left a.b k).m) := Bo.cell 1
      have co2 : w5.cell? ⟨go, 2, none⟩ = some (uv PlainScalar.any.lo) := Bo.cell 2
      have co3 : w5.cell? ⟨go, 3, none⟩ = some (uv PlainScalar.any.hi) := Bo.cell 3
      have co4 : w5.cell? ⟨go, 4, none⟩ = some (sv PlainScalar.any.sl) := Bo.cell 4
      have co5 : w5.cell? ⟨go, 5, none⟩ = some (sv PlainScalar.any.sh) := Bo.cell 5
      have fo := Bo.frozen
      have lo := Bo.lt
      go_wp2_with fail
      refine (lz64_c _ _).mono ?_
      rintro e w' ⟨rfl, rfl⟩
      go_wp2_with fail
      replace ca0 : ∀ g : Later w5, g.w.cell? ⟨w.heap.size, 0, none⟩ = some (uv a.b.v) := fun g => g.cell (Ba.cell 0)
      replace ca1 : ∀ g : Later w5, g.w.cell? ⟨w.heap.size, 1, none⟩ = some (uv a.b.m) := fun g => g.cell (Ba.cell 1)
      replace ca2 : ∀ g : Later w5, g.w.cell? ⟨w.heap.size, 2, none⟩ = some (uv a.lo) := fun g => g.cell (Ba.cell 2)
      replace ca3 : ∀ g : Later w5, g.w.cell? ⟨w.heap.size, 3, none⟩ = some (uv a.hi) := fun g => g.cell (Ba.cell 3)
      replace ca4 : ∀ g : Later w5, g.w.cell? ⟨w.heap.size, 4, none⟩ = some (sv a.sl) := fun g => g.cell (Ba.cell 4)
      replace ca5 : ∀ g : Later w5, g.w.cell? ⟨w.heap.size, 5, none⟩ = some (sv a.sh) := fun g => g.cell (Ba.cell 5)
      replace cr0 : ∀ g : Later w5, g.w.cell? ⟨w.heap.size + 1, 0, none⟩ = some (.int .u64 0) := fun g => g.cell (Br.cell 0)
      replace cr1 : ∀ g : Later w5, g.w.cell? ⟨w.heap.size + 1, 1, none⟩ = some (.int .u64 0) := fun g => g.cell (Br.cell 1)
      replace cr2 : ∀ g : Later w5, g.w.cell? ⟨w.heap.size + 1, 2, none⟩ = some (.int .u64 0) := fun g => g.cell (Br.cell 2)
      replace cr3 : ∀ g : Later w5, g.w.cell? ⟨w.heap.size + 1, 3, none⟩ = some (.int .u64 0) := fun g => g.cell (Br.cell 3)
      replace cr4 : ∀ g : Later w5, g.w.cell? ⟨w.heap.size + 1, 4, none⟩ = some (.int .i64 0) := fun g => g.cell (Br.cell 4)
      replace cr5 : ∀ g : Later w5, g.w.cell? ⟨w.heap.size + 1, 5, none⟩ = some (.int .i64 0) := fun g => g.cell (Br.cell 5)
      replace co0 : ∀ g : Later w5, g.w.cell? ⟨go, 0, none⟩ = some (uv (PlainTnum.left a.b k).v) := fun g => g.cell (Bo.cell 0)
      replace co1 : ∀ g : Later w5, g.w.cell? ⟨go, 1, none⟩ = some (uv (PlainTnum.left a.b k).m) := fun g => g.cell (Bo.cell 1)
      replace co2 : ∀ g : Later w5, g.w.cell? ⟨go, 2, none⟩ = some (uv PlainScalar.any.lo) := fun g => g.cell (Bo.cell 2)
      replace co3 : ∀ g : Later w5, g.w.cell? ⟨go, 3, none⟩ = some (uv PlainScalar.any.hi) := fun g => g.cell (Bo.cell 3)
      replace co4 : ∀ g : Later w5, g.w.cell? ⟨go, 4, none⟩ = some (sv PlainScalar.any.sl) := fun g => g.cell (Bo.cell 4)
      replace co5 : ∀ g : Later w5, g.w.cell? ⟨go, 5, none⟩ = some (sv PlainScalar.any.sh) := fun g => g.cell (Bo.cell 5)
      obtain ⟨S, hS⟩ : ∃ S : World → Prop, ∀ x, S x ↔ (x.cell? ⟨w.heap.size, 3, none⟩ = some (uv a.hi)) := ⟨_, fun _ => Iff.rfl⟩
      have u0 : ∀ g : Under S, g.w.cell? ⟨w.heap.size, 3, none⟩ = some (uv a.hi) := fun g => ((hS _).1 g.is)
      refine wp_region_mixS 9 (fun k => k == 4 || k == 5 || k == 6 || k == 7) (fun _ => #[]) S rfl (by kernel_rfl) (by kernel_rfl) (no_alloc (by kernel_rfl)) ?_
      simp only [List.take_succ_cons, List.take_zero, List.drop_succ_cons, List.drop_zero]
      repeat (refine wpMixS_step (fun K hK => ?_); go_simp; first | (refine hK _ ?_; clear hK K))
      refine wpMixS_nil ?_
      intro G w6 hgr hblk hdist
      have hb : Below w5.heap.size w5 w6 := hgr
      replace Ba := Ba.next hb
      replace Br := Br.next hb
      replace Bo := Bo.next hb
      clear ca0 ca1 ca2 ca3 ca4 ca5 fa la
      clear cr0 cr1 cr2 cr3 cr4 cr5 fr lr
      clear co0 co1 co2 co3 co4 co5 fo lo
      clear u0
      replace hB : Below w.heap.size w w6 := Bl_trans hB hb
      simp only [putAll, isAlloc]
      clear hb hgr hblk hdist
      have ca0 : w6.cell? ⟨w.heap.size, 0, none⟩ = some (uv a.b.v) := Ba.cell 0
      have ca1 : w6.cell? ⟨w.heap.size, 1, none⟩ = some (uv a.b.m) := Ba.cell 1
      have ca2 : w6.cell? ⟨w.heap.size, 2, none⟩ = some (uv a.lo) := Ba.cell 2
      have ca3 : w6.cell? ⟨w.heap.size, 3, none⟩ = some (uv a.hi) := Ba.cell 3
      have ca4 : w6.cell? ⟨w.heap.size, 4, none⟩ = some (sv a.sl) := Ba.cell 4
      have ca5 : w6.cell? ⟨w.heap.size, 5, none⟩ = some (sv a.sh) := Ba.cell 5
      have fa := Ba.frozen
      have la := Ba.lt
      have cr0 : w6.cell? ⟨w.heap.size + 1, 0, none⟩ = some (.int .u64 0) := Br.cell 0
      have cr1 : w6.cell? ⟨w.heap.size + 1, 1, none⟩ = some (.int .u64 0) := Br.cell 1
      have cr2 : w6.cell? ⟨w.heap.size + 1, 2, none⟩ = some (.int .u64 0) := Br.cell 2
      have cr3 : w6.cell? ⟨w.heap.size + 1, 3, none⟩ = some (.int .u64 0) := Br.cell 3
      have cr4 : w6.cell? ⟨w.heap.size + 1, 4, none⟩ = some (.int .i64 0) := Br.cell 4
      have cr5 : w6.cell? ⟨w.heap.size + 1, 5, none⟩ = some (.int .i64 0) := Br.cell 5
      have fr := Br.frozen
      have lr := Br.lt
      have co0 : w6.cell? ⟨go, 0, none⟩ = some (uv (PlainTnum.left a.b k).v) := Bo.cell 0
      have co1 : w6.cell? ⟨go, 1, none⟩ = some (uv (PlainTnum.left a.b k).m) := Bo.cell 1
      have co2 : w6.cell? ⟨go, 2, none⟩ = some (uv PlainScalar.any.lo) := Bo.cell 2
      have co3 : w6.cell? ⟨go, 3, none⟩ = some (uv PlainScalar.any.hi) := Bo.cell 3
      have co4 : w6.cell? ⟨go, 4, none⟩ = some (sv PlainScalar.any.sl) := Bo.cell 4
      have co5 : w6.cell? ⟨go, 5, none⟩ = some (sv PlainScalar.any.sh) := Bo.cell 5
      have fo := Bo.frozen
      have lo := Bo.lt
      go_wp2_with fail
      refine ⟨by first | trivial | rfl, ?_, ?_⟩
      · refine (hS _).2 ?_; exact (Ba.far (by first | (simp; done) | (simp; omega) | (simp [*]; done) | (simp only [ne_eq]; constructor <;> omega)) _).cell 3
      clear hS S
      clear ca0 ca1 ca2 ca3 ca4 ca5 fa la
      clear cr0 cr1 cr2 cr3 cr4 cr5 fr lr
      clear co0 co1 co2 co3 co4 co5 fo lo
      replace Ba : Blk (w6.setCell ⟨go, 2, none⟩ (uv (a.lo <<< k))) (w.heap.size) 39 #[uv a.b.v, uv a.b.m, uv a.lo, uv a.hi, sv a.sl, sv a.sh] := (Ba.far (by first | (simp; done) | (simp; omega) | (simp [*]; done) | (simp only [ne_eq]; constructor <;> omega)) _)
      replace Br : Blk (w6.setCell ⟨go, 2, none⟩ (uv (a.lo <<< k))) (w.heap.size + 1) 39 #[.int .u64 0, .int .u64 0, .int .u64 0, .int .u64 0, .int .i64 0, .int .i64 0] := (Br.far (by first | (simp; done) | (simp; omega) | (simp [*]; done) | (simp only [ne_eq]; constructor <;> omega)) _)
      replace Bo : Blk (w6.setCell ⟨go, 2, none⟩ (uv (a.lo <<< k))) (go) 39 #[uv (PlainTnum.left a.b k).v, uv (PlainTnum.left a.b k).m, uv (a.lo <<< k), uv PlainScalar.any.hi, sv PlainScalar.any.sl, sv PlainScalar.any.sh] := Bo.set_ 2 _
      replace hB : Below w.heap.size w (w6.setCell ⟨go, 2, none⟩ (uv (a.lo <<< k))) := (Bl_set hB (by first | omega | (simp; done) | (simp; omega)) _)
      generalize (w6.setCell ⟨go, 2, none⟩ (uv (a.lo <<< k))) = w7 at *
      have ca0 : w7.cell? ⟨w.heap.size, 0, none⟩ = some (uv a.b.v) := Ba.cell 0
      have ca1 : w7.cell? ⟨w.heap.size, 1, none⟩ = some (uv a.b.m) := Ba.cell 1
      have ca2 : w7.cell? ⟨w.heap.size, 2, none⟩ = some (uv a.lo) := Ba.cell 2
      have ca3 : w7.cell? ⟨w.heap.size, 3, none⟩ = some (uv a.hi) := Ba.cell 3
      have ca4 : w7.cell? ⟨w.heap.size, 4, none⟩ = some (sv a.sl) := Ba.cell 4
      have ca5 : w7.cell? ⟨w.heap.size, 5, none⟩ = some (sv a.sh) := Ba.cell 5
      have fa := Ba.frozen
      have la := Ba.lt
      have cr0 : w7.cell? ⟨w.heap.size + 1, 0, none⟩ = some (.int .u64 0) := Br.cell 0
      have cr1 : w7.cell? ⟨w.heap.size + 1, 1, none⟩ = some (.int .u64 0) := Br.cell 1
      have cr2 : w7.cell? ⟨w.heap.size + 1, 2, none⟩ = some (.int .u64 0) := Br.cell 2
      have cr3 : w7.cell? ⟨w.heap.size + 1, 3, none⟩ = some (.int .u64 0) := Br.cell 3
      have cr4 : w7.cell? ⟨w.heap.size + 1, 4, none⟩ = some (.int .i64 0) := Br.cell 4
      have cr5 : w7.cell? ⟨w.heap.size + 1, 5, none⟩ = some (.int .i64 0) := Br.cell 5
      have fr := Br.frozen
      have lr := Br.lt
      have co0 : w7.cell? ⟨go, 0, none⟩ = some (uv (PlainTnum.left a.b k).v) := Bo.cell 0
      have co1 : w7.cell? ⟨go, 1, none⟩ = some (uv (PlainTnum.left a.b k).m) := Bo.cell 1
      have co2 : w7.cell? ⟨go, 2, none⟩ = some (uv (a.lo <<< k)) := Bo.cell 2
      have co3 : w7.cell? ⟨go, 3, none⟩ = some (uv PlainScalar.any.hi) := Bo.cell 3
      have co4 : w7.cell? ⟨go, 4, none⟩ = some (sv PlainScalar.any.sl) := Bo.cell 4
      have co5 : w7.cell? ⟨go, 5, none⟩ = some (sv PlainScalar.any.sh) := Bo.cell 5
      have fo := Bo.frozen
      have lo := Bo.lt
      go_upto_region 7 with fail
      clear ca0 ca1 ca2 ca3 ca4 ca5 fa la
      clear cr0 cr1 cr2 cr3 cr4 cr5 fr lr
      clear co0 co1 co2 co3 co4 co5 fo lo
      replace Ba : Blk (w7.setCell ⟨go, 3, none⟩ (uv (a.hi <<< k))) (w.heap.size) 39 #[uv a.b.v, uv a.b.m, uv a.lo, uv a.hi, sv a.sl, sv a.sh] := (Ba.far (by first | (simp; done) | (simp; omega) | (simp [*]; done) | (simp only [ne_eq]; constructor <;> omega)) _)
      replace Br : Blk (w7.setCell ⟨go, 3, none⟩ (uv (a.hi <<< k))) (w.heap.size + 1) 39 #[.int .u64 0, .int .u64 0, .int .u64 0, .int .u64 0, .int .i64 0, .int .i64 0] := (Br.far (by first | (simp; done) | (simp; omega) | (simp [*]; done) | (simp only [ne_eq]; constructor <;> omega)) _)
      replace Bo : Blk (w7.setCell ⟨go, 3, none⟩ (uv (a.hi <<< k))) (go) 39 #[uv (PlainTnum.left a.b k).v, uv (PlainTnum.left a.b k).m, uv (a.lo <<< k), uv (a.hi <<< k), sv PlainScalar.any.sl, sv PlainScalar.any.sh] := Bo.set_ 3 _
      replace hB : Below w.heap.size w (w7.setCell ⟨go, 3, none⟩ (uv (a.hi <<< k))) := (Bl_set hB (by first | omega | (simp; done) | (simp; omega)) _)
      generalize (w7.setCell ⟨go, 3, none⟩ (uv (a.hi <<< k))) = w8 at *
      have ca0 : w8.cell? ⟨w.heap.size, 0, none⟩ = some (uv a.b.v) := Ba.cell 0
      have ca1 : w8.cell? ⟨w.heap.size, 1, none⟩ = some (uv a.b.m) := Ba.cell 1
      have ca2 : w8.cell? ⟨w.heap.size, 2, none⟩ = some (uv a.lo) := Ba.cell 2
      have ca3 : w8.cell? ⟨w.heap.size, 3, none⟩ = some (uv a.hi) := Ba.cell 3
      have ca4 : w8.cell? ⟨w.heap.size, 4, none⟩ = some (sv a.sl) := Ba.cell 4
      have ca5 : w8.cell? ⟨w.heap.size, 5, none⟩ = some (sv a.sh) := Ba.cell 5
      have fa := Ba.frozen
      have la := Ba.lt
      have cr0 : w8.cell? ⟨w.heap.size + 1, 0, none⟩ = some (.int .u64 0) := Br.cell 0
      have cr1 : w8.cell? ⟨w.heap.size + 1, 1, none⟩ = some (.int .u64 0) := Br.cell 1
      have cr2 : w8.cell? ⟨w.heap.size + 1, 2, none⟩ = some (.int .u64 0) := Br.cell 2
      have cr3 : w8.cell? ⟨w.heap.size + 1, 3, none⟩ = some (.int .u64 0) := Br.cell 3
      have cr4 : w8.cell? ⟨w.heap.size + 1, 4, none⟩ = some (.int .i64 0) := Br.cell 4
      have cr5 : w8.cell? ⟨w.heap.size + 1, 5, none⟩ = some (.int .i64 0) := Br.cell 5
      have fr := Br.frozen
      have lr := Br.lt
      have co0 : w8.cell? ⟨go, 0, none⟩ = some (uv (PlainTnum.left a.b k).v) := Bo.cell 0
      have co1 : w8.cell? ⟨go, 1, none⟩ = some (uv (PlainTnum.left a.b k).m) := Bo.cell 1
      have co2 : w8.cell? ⟨go, 2, none⟩ = some (uv (a.lo <<< k)) := Bo.cell 2
      have co3 : w8.cell? ⟨go, 3, none⟩ = some (uv (a.hi <<< k)) := Bo.cell 3
      have co4 : w8.cell? ⟨go, 4, none⟩ = some (sv PlainScalar.any.sl) := Bo.cell 4
      have co5 : w8.cell? ⟨go, 5, none⟩ = some (sv PlainScalar.any.sh) := Bo.cell 5
      have fo := Bo.frozen
      have lo := Bo.lt
      go_wp2_with fail
      refine (settled_c (⟨(PlainTnum.left a.b k), (a.lo <<< k), (a.hi <<< k), PlainScalar.any.sl, PlainScalar.any.sh⟩ : Rng) _).mono ?_
      rintro e w9 ⟨rfl, hb⟩
      clear ca0 ca1 ca2 ca3 ca4 ca5 fa la
      clear cr0 cr1 cr2 cr3 cr4 cr5 fr lr
      clear co0 co1 co2 co3 co4 co5 fo lo
      replace Ba := (Ba).next hb
      replace Br := (Br).next hb
      replace Bo := (Bo).next hb
      replace hB : Below w.heap.size w w9 := by repeat (first | exact hB | (refine Bl_set ?_ (by first | omega | (simp; omega)) _) | apply Bl_alloc | (refine Bl_trans ?_ hb))
      clear hb
      have ca0 : w9.cell? ⟨w.heap.size, 0, none⟩ = some (uv a.b.v) := Ba.cell 0
      have ca1 : w9.cell? ⟨w.heap.size, 1, none⟩ = some (uv a.b.m) := Ba.cell 1
      have ca2 : w9.cell? ⟨w.heap.size, 2, none⟩ = some (uv a.lo) := Ba.cell 2
      have ca3 : w9.cell? ⟨w.heap.size, 3, none⟩ = some (uv a.hi) := Ba.cell 3
      have ca4 : w9.cell? ⟨w.heap.size, 4, none⟩ = some (sv a.sl) := Ba.cell 4
      have ca5 : w9.cell? ⟨w.heap.size, 5, none⟩ = some (sv a.sh) := Ba.cell 5
      have fa := Ba.frozen
      have la := Ba.lt
      have cr0 : w9.cell? ⟨w.heap.size + 1, 0, none⟩ = some (.int .u64 0) := Br.cell 0
      have cr1 : w9.cell? ⟨w.heap.size + 1, 1, none⟩ = some (.int .u64 0) := Br.cell 1
      have cr2 : w9.cell? ⟨w.heap.size + 1, 2, none⟩ = some (.int .u64 0) := Br.cell 2
      have cr3 : w9.cell? ⟨w.heap.size + 1, 3, none⟩ = some (.int .u64 0) := Br.cell 3
      have cr4 : w9.cell? ⟨w.heap.size + 1, 4, none⟩ = some (.int .i64 0) := Br.cell 4
      have cr5 : w9.cell? ⟨w.heap.size + 1, 5, none⟩ = some (.int .i64 0) := Br.cell 5
      have fr := Br.frozen
      have lr := Br.lt
      have co0 : w9.cell? ⟨go, 0, none⟩ = some (uv (PlainTnum.left a.b k).v) := Bo.cell 0
      have co1 : w9.cell? ⟨go, 1, none⟩ = some (uv (PlainTnum.left a.b k).m) := Bo.cell 1
      have co2 : w9.cell? ⟨go, 2, none⟩ = some (uv (a.lo <<< k)) := Bo.cell 2
      have co3 : w9.cell? ⟨go, 3, none⟩ = some (uv (a.hi <<< k)) := Bo.cell 3
      have co4 : w9.cell? ⟨go, 4, none⟩ = some (sv PlainScalar.any.sl) := Bo.cell 4
      have co5 : w9.cell? ⟨go, 5, none⟩ = some (sv PlainScalar.any.sh) := Bo.cell 5
      have fo := Bo.frozen
      have lo := Bo.lt
      go_wp2
      exact bodyPost_ret (v := rv (PlainScalar.settled ⟨(PlainTnum.left a.b k), (a.lo <<< k), (a.hi <<< k), PlainScalar.any.sl, PlainScalar.any.sh⟩)) (by simp [results, Try.results59, go_sem, cr0, cr1, cr2, cr3, cr4, cr5, lr]) rfl ⟨by rw [hs], by repeat (first | (with_reducible exact hB) | (with_reducible refine Bl_set ?_ (by first | omega | (simp; done) | (simp; omega)) _) | with_reducible apply Bl_alloc)⟩
  by_cases h7 : op = 7
  · subst h7
    have hs : PlainScalar.shifted 7 k a = PlainScalar.settled ⟨(PlainTnum.down a.b k), (PlainScalar.between (a.lo >>> k) (a.hi >>> k)).lo, (PlainScalar.between (a.lo >>> k) (a.hi >>> k)).hi, (PlainScalar.between (a.lo >>> k) (a.hi >>> k)).sl, (PlainScalar.between (a.lo >>> k) (a.hi >>> k)).sh⟩ := rfl
    go_enter Try.func59, Try.ntmps59
    go_wp2_with fail
    obtain ⟨ga, hga⟩ : ∃ g, g = w.heap.size := ⟨_, rfl⟩
    obtain ⟨gr, hgr⟩ : ∃ g, g = w.heap.size + 1 := ⟨_, rfl⟩
    have Ba : Blk ((w.alloc (.cells #[uv a.b.v, uv a.b.m, uv a.lo, uv a.hi, sv a.sl, sv a.sh] 39)).alloc (.cells #[.int .u64 0, .int .u64 0, .int .u64 0, .int .u64 0, .int .i64 0, .int .i64 0] 39)) (w.heap.size) 39 #[uv a.b.v, uv a.b.m, uv a.lo, uv a.hi, sv a.sl, sv a.sh] := ((Blk.new w 39 #[uv a.b.v, uv a.b.m, uv a.lo, uv a.hi, sv a.sl, sv a.sh])).alloc _
    have Br : Blk ((w.alloc (.cells #[uv a.b.v, uv a.b.m, uv a.lo, uv a.hi, sv a.sl, sv a.sh] 39)).alloc (.cells #[.int .u64 0, .int .u64 0, .int .u64 0, .int .u64 0, .int .i64 0, .int .i64 0] 39)) (w.heap.size + 1) 39 #[.int .u64 0, .int .u64 0, .int .u64 0, .int .u64 0, .int .i64 0, .int .i64 0] := (by simpa using Blk.new (w.alloc (.cells #[uv a.b.v, uv a.b.m, uv a.lo, uv a.hi, sv a.sl, sv a.sh] 39)) 39 #[.int .u64 0, .int .u64 0, .int .u64 0, .int .u64 0, .int .i64 0, .int .i64 0] : Blk _ (w.heap.size + 1) 39 #[.int .u64 0, .int .u64 0, .int .u64 0, .int .u64 0, .int .i64 0, .int .i64 0])
    have hB : Below w.heap.size w ((w.alloc (.cells #[uv a.b.v, uv a.b.m, uv a.lo, uv a.hi, sv a.sl, sv a.sh] 39)).alloc (.cells #[.int .u64 0, .int .u64 0, .int .u64 0, .int .u64 0, .int .i64 0, .int .i64 0] 39)) := (Bl_alloc (Bl_alloc (Bl_refl w) _) _)
    clear hga
    clear ga
    clear hgr
    clear gr
    generalize ((w.alloc (.cells #[uv a.b.v, uv a.b.m, uv a.lo, uv a.hi, sv a.sl, sv a.sh] 39)).alloc (.cells #[.int .u64 0, .int .u64 0, .int .u64 0, .int .u64 0, .int .i64 0, .int .i64 0] 39)) = w1 at *
    have ca0 : w1.cell? ⟨w.heap.size, 0, none⟩ = some (uv a.b.v) := Ba.cell 0
    have ca1 : w1.cell? ⟨w.heap.size, 1, none⟩ = some (uv a.b.m) := Ba.cell 1
    have ca2 : w1.cell? ⟨w.heap.size, 2, none⟩ = some (uv a.lo) := Ba.cell 2
    have ca3 : w1.cell? ⟨w.heap.size, 3, none⟩ = some (uv a.hi) := Ba.cell 3
    have ca4 : w1.cell? ⟨w.heap.size, 4, none⟩ = some (sv a.sl) := Ba.cell 4
    have ca5 : w1.cell? ⟨w.heap.size, 5, none⟩ = some (sv a.sh) := Ba.cell 5
    have fa := Ba.frozen
    have la := Ba.lt
    have cr0 : w1.cell? ⟨w.heap.size + 1, 0, none⟩ = some (.int .u64 0) := Br.cell 0
    have cr1 : w1.cell? ⟨w.heap.size + 1, 1, none⟩ = some (.int .u64 0) := Br.cell 1
    have cr2 : w1.cell? ⟨w.heap.size + 1, 2, none⟩ = some (.int .u64 0) := Br.cell 2
    have cr3 : w1.cell? ⟨w.heap.size + 1, 3, none⟩ = some (.int .u64 0) := Br.cell 3
    have cr4 : w1.cell? ⟨w.heap.size + 1, 4, none⟩ = some (.int .i64 0) := Br.cell 4
    have cr5 : w1.cell? ⟨w.heap.size + 1, 5, none⟩ = some (.int .i64 0) := Br.cell 5
    have fr := Br.frozen
    have lr := Br.lt
    go_wp2_with fail
    replace ca0 : ∀ g : Later w1, g.w.cell? ⟨w.heap.size, 0, none⟩ = some (uv a.b.v) := fun g => g.cell (Ba.cell 0)
    replace ca1 : ∀ g : Later w1, g.w.cell? ⟨w.heap.size, 1, none⟩ = some (uv a.b.m) := fun g => g.cell (Ba.cell 1)
    replace ca2 : ∀ g : Later w1, g.w.cell? ⟨w.heap.size, 2, none⟩ = some (uv a.lo) := fun g => g.cell (Ba.cell 2)
    replace ca3 : ∀ g : Later w1, g.w.cell? ⟨w.heap.size, 3, none⟩ = some (uv a.hi) := fun g => g.cell (Ba.cell 3)
    replace ca4 : ∀ g : Later w1, g.w.cell? ⟨w.heap.size, 4, none⟩ = some (sv a.sl) := fun g => g.cell (Ba.cell 4)
    replace ca5 : ∀ g : Later w1, g.w.cell? ⟨w.heap.size, 5, none⟩ = some (sv a.sh) := fun g => g.cell (Ba.cell 5)
    replace cr0 : ∀ g : Later w1, g.w.cell? ⟨w.heap.size + 1, 0, none⟩ = some (.int .u64 0) := fun g => g.cell (Br.cell 0)
    replace cr1 : ∀ g : Later w1, g.w.cell? ⟨w.heap.size + 1, 1, none⟩ = some (.int .u64 0) := fun g => g.cell (Br.cell 1)
    replace cr2 : ∀ g : Later w1, g.w.cell? ⟨w.heap.size + 1, 2, none⟩ = some (.int .u64 0) := fun g => g.cell (Br.cell 2)
    replace cr3 : ∀ g : Later w1, g.w.cell? ⟨w.heap.size + 1, 3, none⟩ = some (.int .u64 0) := fun g => g.cell (Br.cell 3)
    replace cr4 : ∀ g : Later w1, g.w.cell? ⟨w.heap.size + 1, 4, none⟩ = some (.int .i64 0) := fun g => g.cell (Br.cell 4)
    replace cr5 : ∀ g : Later w1, g.w.cell? ⟨w.heap.size + 1, 5, none⟩ = some (.int .i64 0) := fun g => g.cell (Br.cell 5)
    refine wp_region_mix 10 (fun _ => #[.int .u64 0, .int .u64 0, .int .u64 0, .int .u64 0, .int .i64 0, .int .i64 0]) (by kernel_rfl) (by kernel_rfl) (fun o t ho ht => by
      simp at ho
      rcases ho with rfl | rfl | rfl | rfl | rfl | rfl | rfl | rfl | rfl | rfl <;> first | (cases ht; done) | (obtain rfl := Option.some.inj ht; exact fun ρ w => new_rng ht ρ w)) ?_
    simp only [List.take_succ_cons, List.take_zero, List.drop_succ_cons, List.drop_zero]
    repeat (refine wpMix_step (fun K hK => ?_); go_simp; first | (refine hK _ ?_; clear hK K) | (refine ⟨_, fun g => between_c (a.lo >>> k) (a.hi >>> k) g.w, hK _ ?_⟩; clear hK K))
    refine wpMix_nil ?_
    intro G w2 hgr hblk hdist
    have hb : Below w1.heap.size w1 w2 := hgr
    replace Ba := Ba.next hb
    replace Br := Br.next hb
    obtain ⟨Bo, hlo⟩ := hblk 9 _ rfl
    have hgo : w.heap.size ≤ G 9 := Nat.le_trans hB.size hlo
    have hnao : w.heap.size ≠ G 9 := Nat.ne_of_lt (Nat.lt_of_lt_of_le la hlo)
    have hnro : w.heap.size + 1 ≠ G 9 := Nat.ne_of_lt (Nat.lt_of_lt_of_le lr hlo)
    clear hlo
    clear ca0 ca1 ca2 ca3 ca4 ca5 fa la
    clear cr0 cr1 cr2 cr3 cr4 cr5 fr lr
    replace hB : Below w.heap.size w w2 := Bl_trans hB hb
    simp only [putAll, isAlloc, Act.put]
    generalize G 9 = go at *
    clear hb hgr hblk hdist
    have ca0 : w2.cell? ⟨w.heap.size, 0, none⟩ = some (uv a.b.v) := Ba.cell 0
    have ca1 : w2.cell? ⟨w.heap.size, 1, none⟩ = some (uv a.b.m) := Ba.cell 1
    have ca2 : w2.cell? ⟨w.heap.size, 2, none⟩ = some (uv a.lo) := Ba.cell 2
    have ca3 : w2.cell? ⟨w.heap.size, 3, none⟩ = some (uv a.hi) := Ba.cell 3
    have ca4 : w2.cell? ⟨w.heap.size, 4, none⟩ = some (sv a.sl) := Ba.cell 4
    have ca5 : w2.cell? ⟨w.heap.size, 5, none⟩ = some (sv a.sh) := Ba.cell 5
    have fa := Ba.frozen
    have la := Ba.lt
    have cr0 : w2.cell? ⟨w.heap.size + 1, 0, none⟩ = some (.int .u64 0) := Br.cell 0
    have cr1 : w2.cell? ⟨w.heap.size + 1, 1, none⟩ = some (.int .u64 0) := Br.cell 1
    have cr2 : w2.cell? ⟨w.heap.size + 1, 2, none⟩ = some (.int .u64 0) := Br.cell 2
    have cr3 : w2.cell? ⟨w.heap.size + 1, 3, none⟩ = some (.int .u64 0) := Br.cell 3
    have cr4 : w2.cell? ⟨w.heap.size + 1, 4, none⟩ = some (.int .i64 0) := Br.cell 4
    have cr5 : w2.cell? ⟨w.heap.size + 1, 5, none⟩ = some (.int .i64 0) := Br.cell 5
    have fr := Br.frozen
    have lr := Br.lt
    have co0 : w2.cell? ⟨go, 0, none⟩ = some (.int .u64 0) := Bo.cell 0
    have co1 : w2.cell? ⟨go, 1, none⟩ = some (.int .u64 0) := Bo.cell 1
    have co2 : w2.cell? ⟨go, 2, none⟩ = some (.int .u64 0) := Bo.cell 2
    have co3 : w2.cell? ⟨go, 3, none⟩ = some (.int .u64 0) := Bo.cell 3
    have co4 : w2.cell? ⟨go, 4, none⟩ = some (.int .i64 0) := Bo.cell 4
    have co5 : w2.cell? ⟨go, 5, none⟩ = some (.int .i64 0) := Bo.cell 5
    have fo := Bo.frozen
    have lo := Bo.lt
    go_upto_region 10 with fail
    clear ca0 ca1 ca2 ca3 ca4 ca5 fa la
    clear cr0 cr1 cr2 cr3 cr4 cr5 fr lr
    clear co0 co1 co2 co3 co4 co5 fo lo
    replace Ba : Blk ((((((w2.setCell ⟨go, 0, none⟩ (uv (PlainScalar.between (a.lo >>> k) (a.hi >>> k)).b.v)).setCell ⟨go, 1, none⟩ (uv (PlainScalar.between (a.lo >>> k) (a.hi >>> k)).b.m)).setCell ⟨go, 2, none⟩ (uv (PlainScalar.between (a.lo >>> k) (a.hi >>> k)).lo)).setCell ⟨go, 3, none⟩ (uv (PlainScalar.between (a.lo >>> k) (a.hi >>> k)).hi)).setCell ⟨go, 4, none⟩ (sv (PlainScalar.between (a.lo >>> k) (a.hi >>> k)).sl)).setCell ⟨go, 5, none⟩ (sv (PlainScalar.between (a.lo >>> k) (a.hi >>> k)).sh)) (w.heap.size) 39 #[uv a.b.v, uv a.b.m, uv a.lo, uv a.hi, sv a.sl, sv a.sh] := ((((((Ba.far (by first | (simp; done) | (simp; omega) | (simp [*]; done) | (simp only [ne_eq]; constructor <;> omega)) _).far (by first | (simp; done) | (simp; omega) | (simp [*]; done) | (simp only [ne_eq]; constructor <;> omega)) _).far (by first | (simp; done) | (simp; omega) | (simp [*]; done) | (simp only [ne_eq]; constructor <;> omega)) _).far (by first | (simp; done) | (simp; omega) | (simp [*]; done) | (simp only [ne_eq]; constructor <;> omega)) _).far (by first | (simp; done) | (simp; omega) | (simp [*]; done) | (simp only [ne_eq]; constructor <;> omega)) _).far (by first | (simp; done) | (simp; omega) | (simp [*]; done) | (simp only [ne_eq]; constructor <;> omega)) _)
    replace Br : Blk ((((((w2.setCell ⟨go, 0, none⟩ (uv (PlainScalar.between (a.lo >>> k) (a.hi >>> k)).b.v)).setCell ⟨go, 1, none⟩ (uv (PlainScalar.between (a.lo >>> k) (a.hi >>> k)).b.m)).setCell ⟨go, 2, none⟩ (uv (PlainScalar.between (a.lo >>> k) (a.hi >>> k)).lo)).setCell ⟨go, 3, none⟩ (uv (PlainScalar.between (a.lo >>> k) (a.hi >>> k)).hi)).setCell ⟨go, 4, none⟩ (sv (PlainScalar.between (a.lo >>> k) (a.hi >>> k)).sl)).setCell ⟨go, 5, none⟩ (sv (PlainScalar.between (a.lo >>> k) (a.hi >>> k)).sh)) (w.heap.size + 1) 39 #[.int .u64 0, .int .u64 0, .int .u64 0, .int .u64 0, .int .i64 0, .int .i64 0] := ((((((Br.far (by first | (simp; done) | (simp; omega) | (simp [*]; done) | (simp only [ne_eq]; constructor <;> omega)) _).far (by first | (simp; done) | (simp; omega) | (simp [*]; done) | (simp only [ne_eq]; constructor <;> omega)) _).far (by first | (simp; done) | (simp; omega) | (simp [*]; done) | (simp only [ne_eq]; constructor <;> omega)) _).far (by first | (simp; done) | (simp; omega) | (simp [*]; done) | (simp only [ne_eq]; constructor <;> omega)) _).far (by first | (simp; done) | (simp; omega) | (simp [*]; done) | (simp only [ne_eq]; constructor <;> omega)) _).far (by first | (simp; done) | (simp; omega) | (simp [*]; done) | (simp only [ne_eq]; constructor <;> omega)) _)
    replace Bo : Blk ((((((w2.setCell ⟨go, 0, none⟩ (uv (PlainScalar.between (a.lo >>> k) (a.hi >>> k)).b.v)).setCell ⟨go, 1, none⟩ (uv (PlainScalar.between (a.lo >>> k) (a.hi >>> k)).b.m)).setCell ⟨go, 2, none⟩ (uv (PlainScalar.between (a.lo >>> k) (a.hi >>> k)).lo)).setCell ⟨go, 3, none⟩ (uv (PlainScalar.between (a.lo >>> k) (a.hi >>> k)).hi)).setCell ⟨go, 4, none⟩ (sv (PlainScalar.between (a.lo >>> k) (a.hi >>> k)).sl)).setCell ⟨go, 5, none⟩ (sv (PlainScalar.between (a.lo >>> k) (a.hi >>> k)).sh)) (go) 39 #[uv (PlainScalar.between (a.lo >>> k) (a.hi >>> k)).b.v, uv (PlainScalar.between (a.lo >>> k) (a.hi >>> k)).b.m, uv (PlainScalar.between (a.lo >>> k) (a.hi >>> k)).lo, uv (PlainScalar.between (a.lo >>> k) (a.hi >>> k)).hi, sv (PlainScalar.between (a.lo >>> k) (a.hi >>> k)).sl, sv (PlainScalar.between (a.lo >>> k) (a.hi >>> k)).sh] := ((((((Bo.set_ 0 _).set_ 1 _).set_ 2 _).set_ 3 _).set_ 4 _).set_ 5 _)
    replace hB : Below w.heap.size w ((((((w2.setCell ⟨go, 0, none⟩ (uv (PlainScalar.between (a.lo >>> k) (a.hi >>> k)).b.v)).setCell ⟨go, 1, none⟩ (uv (PlainScalar.between (a.lo >>> k) (a.hi >>> k)).b.m)).setCell ⟨go, 2, none⟩ (uv (PlainScalar.between (a.lo >>> k) (a.hi >>> k)).lo)).setCell ⟨go, 3, none⟩ (uv (PlainScalar.between (a.lo >>> k) (a.hi >>> k)).hi)).setCell ⟨go, 4, none⟩ (sv (PlainScalar.between (a.lo >>> k) (a.hi >>> k)).sl)).setCell ⟨go, 5, none⟩ (sv (PlainScalar.between (a.lo >>> k) (a.hi >>> k)).sh)) := (Bl_set (Bl_set (Bl_set (Bl_set (Bl_set (Bl_set hB (by first | omega | (simp; done) | (simp; omega)) _) (by first | omega | (simp; done) | (simp; omega)) _) (by first | omega | (simp; done) | (simp; omega)) _) (by first | omega | (simp; done) | (simp; omega)) _) (by first | omega | (simp; done) | (simp; omega)) _) (by first | omega | (simp; done) | (simp; omega)) _)
    generalize ((((((w2.setCell ⟨go, 0, none⟩ (uv (PlainScalar.between (a.lo >>> k) (a.hi >>> k)).b.v)).setCell ⟨go, 1, none⟩ (uv (PlainScalar.between (a.lo >>> k) (a.hi >>> k)).b.m)).setCell ⟨go, 2, none⟩ (uv (PlainScalar.between (a.lo >>> k) (a.hi >>> k)).lo)).setCell ⟨go, 3, none⟩ (uv (PlainScalar.between (a.lo >>> k) (a.hi >>> k)).hi)).setCell ⟨go, 4, none⟩ (sv (PlainScalar.between (a.lo >>> k) (a.hi >>> k)).sl)).setCell ⟨go, 5, none⟩ (sv (PlainScalar.between (a.lo >>> k) (a.hi >>> k)).sh)) = w3 at *
    have ca0 : w3.cell? ⟨w.heap.size, 0, none⟩ = some (uv a.b.v) := Ba.cell 0
    have ca1 : w3.cell? ⟨w.heap.size, 1, none⟩ = some (uv a.b.m) := Ba.cell 1
    have ca2 : w3.cell? ⟨w.heap.size, 2, none⟩ = some (uv a.lo) := Ba.cell 2
    have ca3 : w3.cell? ⟨w.heap.size, 3, none⟩ = some (uv a.hi) := Ba.cell 3
    have ca4 : w3.cell? ⟨w.heap.size, 4, none⟩ = some (sv a.sl) := Ba.cell 4
    have ca5 : w3.cell? ⟨w.heap.size, 5, none⟩ = some (sv a.sh) := Ba.cell 5
    have fa := Ba.frozen
    have la := Ba.lt
    have cr0 : w3.cell? ⟨w.heap.size + 1, 0, none⟩ = some (.int .u64 0) := Br.cell 0
    have cr1 : w3.cell? ⟨w.heap.size + 1, 1, none⟩ = some (.int .u64 0) := Br.cell 1
    have cr2 : w3.cell? ⟨w.heap.size + 1, 2, none⟩ = some (.int .u64 0) := Br.cell 2
    have cr3 : w3.cell? ⟨w.heap.size + 1, 3, none⟩ = some (.int .u64 0) := Br.cell 3
    have cr4 : w3.cell? ⟨w.heap.size + 1, 4, none⟩ = some (.int .i64 0) := Br.cell 4
    have cr5 : w3.cell? ⟨w.heap.size + 1, 5, none⟩ = some (.int .i64 0) := Br.cell 5
    have fr := Br.frozen
    have lr := Br.lt
    have co0 : w3.cell? ⟨go, 0, none⟩ = some (uv (PlainScalar.between (a.lo >>> k) (a.hi >>> k)).b.v) := Bo.cell 0
    have co1 : w3.cell? ⟨go, 1, none⟩ = some (uv (PlainScalar.between (a.lo >>> k) (a.hi >>> k)).b.m) := Bo.cell 1
    have co2 : w3.cell? ⟨go, 2, none⟩ = some (uv (PlainScalar.between (a.lo >>> k) (a.hi >>> k)).lo) := Bo.cell 2
    have co3 : w3.cell? ⟨go, 3, none⟩ = some (uv (PlainScalar.between (a.lo >>> k) (a.hi >>> k)).hi) := Bo.cell 3
    have co4 : w3.cell? ⟨go, 4, none⟩ = some (sv (PlainScalar.between (a.lo >>> k) (a.hi >>> k)).sl) := Bo.cell 4
    have co5 : w3.cell? ⟨go, 5, none⟩ = some (sv (PlainScalar.between (a.lo >>> k) (a.hi >>> k)).sh) := Bo.cell 5
    have fo := Bo.frozen
    have lo := Bo.lt
    go_wp2_with fail
    refine (down_n _ hk _).mono ?_
    rintro e w4 ⟨rfl, hb⟩
    clear ca0 ca1 ca2 ca3 ca4 ca5 fa la
    clear cr0 cr1 cr2 cr3 cr4 cr5 fr lr
    clear co0 co1 co2 co3 co4 co5 fo lo
    replace Ba := (Ba).next hb
    replace Br := (Br).next hb
    replace Bo := (Bo).next hb
    replace hB : Below w.heap.size w w4 := by repeat (first | exact hB | (refine Bl_set ?_ (by first | omega | (simp; omega)) _) | apply Bl_alloc | (refine Bl_trans ?_ hb))
    clear hb
    have ca0 : w4.cell? ⟨w.heap.size, 0, none⟩ = some (uv a.b.v) := Ba.cell 0
    have ca1 : w4.cell? ⟨w.heap.size, 1, none⟩ = some (uv a.b.m) := Ba.cell 1
    have ca2 : w4.cell? ⟨w.heap.size, 2, none⟩ = some (uv a.lo) := Ba.cell 2
    have ca3 : w4.cell? ⟨w.heap.size, 3, none⟩ = some (uv a.hi) := Ba.cell 3
    have ca4 : w4.cell? ⟨w.heap.size, 4, none⟩ = some (sv a.sl) := Ba.cell 4
    have ca5 : w4.cell? ⟨w.heap.size, 5, none⟩ = some (sv a.sh) := Ba.cell 5
    have fa := Ba.frozen
    have la := Ba.lt
    have cr0 : w4.cell? ⟨w.heap.size + 1, 0, none⟩ = some (.int .u64 0) := Br.cell 0
    have cr1 : w4.cell? ⟨w.heap.size + 1, 1, none⟩ = some (.int .u64 0) := Br.cell 1
    have cr2 : w4.cell? ⟨w.heap.size + 1, 2, none⟩ = some (.int .u64 0) := Br.cell 2
    have cr3 : w4.cell? ⟨w.heap.size + 1, 3, none⟩ = some (.int .u64 0) := Br.cell 3
    have cr4 : w4.cell? ⟨w.heap.size + 1, 4, none⟩ = some (.int .i64 0) := Br.cell 4
    have cr5 : w4.cell? ⟨w.heap.size + 1, 5, none⟩ = some (.int .i64 0) := Br.cell 5
    have fr := Br.frozen
    have lr := Br.lt
    have co0 : w4.cell? ⟨go, 0, none⟩ = some (uv (PlainScalar.between (a.lo >>> k) (a.hi >>> k)).b.v) := Bo.cell 0
    have co1 : w4.cell? ⟨go, 1, none⟩ = some (uv (PlainScalar.between (a.lo >>> k) (a.hi >>> k)).b.m) := Bo.cell 1
    have co2 : w4.cell? ⟨go, 2, none⟩ = some (uv (PlainScalar.between (a.lo >>> k) (a.hi >>> k)).lo) := Bo.cell 2
    have co3 : w4.cell? ⟨go, 3, none⟩ = some (uv (PlainScalar.between (a.lo >>> k) (a.hi >>> k)).hi) := Bo.cell 3
    have co4 : w4.cell? ⟨go, 4, none⟩ = some (sv (PlainScalar.between (a.lo >>> k) (a.hi >>> k)).sl) := Bo.cell 4
    have co5 : w4.cell? ⟨go, 5, none⟩ = some (sv (PlainScalar.between (a.lo >>> k) (a.hi >>> k)).sh) := Bo.cell 5
    have fo := Bo.frozen
    have lo := Bo.lt
    go_upto_region 11 with fail
    clear ca0 ca1 ca2 ca3 ca4 ca5 fa la
    clear cr0 cr1 cr2 cr3 cr4 cr5 fr lr
    clear co0 co1 co2 co3 co4 co5 fo lo
    replace Ba : Blk (w4.setCell ⟨go, 0, none⟩ (uv (PlainTnum.down a.b k).v)) (w.heap.size) 39 #[uv a.b.v, uv a.b.m, uv a.lo, uv a.hi, sv a.sl, sv a.sh] := (Ba.far (by first | (simp; done) | (simp; omega) | (simp [*]; done) | (simp only [ne_eq]; constructor <;> omega)) _)
    replace Br : Blk (w4.setCell ⟨go, 0, none⟩ (uv (PlainTnum.down a.b k).v)) (w.heap.size + 1) 39 #[.int .u64 0, .int .u64 0, .int .u64 0, .int .u64 0, .int .i64 0, .int .i64 0] := (Br.far (by first | (simp; done) | (simp; omega) | (simp [*]; done) | (simp only [ne_eq]; constructor <;> omega)) _)
    replace Bo : Blk (w4.setCell ⟨go, 0, none⟩ (uv (PlainTnum.down a.b k).v)) (go) 39 #[uv (PlainTnum.down a.b k).v, uv (PlainScalar.between (a.lo >>> k) (a.hi >>> k)).b.m, uv (PlainScalar.between (a.lo >>> k) (a.hi >>> k)).lo, uv (PlainScalar.between (a.lo >>> k) (a.hi >>> k)).hi, sv (PlainScalar.between (a.lo >>> k) (a.hi >>> k)).sl, sv (PlainScalar.between (a.lo >>> k) (a.hi >>> k)).sh] := Bo.set_ 0 _
    replace hB : Below w.heap.size w (w4.setCell ⟨go, 0, none⟩ (uv (PlainTnum.down a.b k).v)) := (Bl_set hB (by first | omega | (simp; done) | (simp; omega)) _)
    replace Ba : Blk ((w4.setCell ⟨go, 0, none⟩ (uv (PlainTnum.down a.b k).v)).setCell ⟨go, 1, none⟩ (uv (PlainTnum.down a.b k).m)) (w.heap.size) 39 #[uv a.b.v, uv a.b.m, uv a.lo, uv a.hi, sv a.sl, sv a.sh] := (Ba.far (by first | (simp; done) | (simp; omega) | (simp [*]; done) | (simp only [ne_eq]; constructor <;> omega)) _)
    replace Br : Blk ((w4.setCell ⟨go, 0, none⟩ (uv (PlainTnum.down a.b k).v)).setCell ⟨go, 1, none⟩ (uv (PlainTnum.down a.b k).m)) (w.heap.size + 1) 39 #[.int .u64 0, .int .u64 0, .int .u64 0, .int .u64 0, .int .i64 0, .int .i64 0] := (Br.far (by first | (simp; done) | (simp; omega) | (simp [*]; done) | (simp only [ne_eq]; constructor <;> omega)) _)
    replace Bo : Blk ((w4.setCell ⟨go, 0, none⟩ (uv (PlainTnum.down a.b k).v)).setCell ⟨go, 1, none⟩ (uv (PlainTnum.down a.b k).m)) (go) 39 #[uv (PlainTnum.down a.b k).v, uv (PlainTnum.down a.b k).m, uv (PlainScalar.between (a.lo >>> k) (a.hi >>> k)).lo, uv (PlainScalar.between (a.lo >>> k) (a.hi >>> k)).hi, sv (PlainScalar.between (a.lo >>> k) (a.hi >>> k)).sl, sv (PlainScalar.between (a.lo >>> k) (a.hi >>> k)).sh] := Bo.set_ 1 _
    replace hB : Below w.heap.size w ((w4.setCell ⟨go, 0, none⟩ (uv (PlainTnum.down a.b k).v)).setCell ⟨go, 1, none⟩ (uv (PlainTnum.down a.b k).m)) := (Bl_set hB (by first | omega | (simp; done) | (simp; omega)) _)
    generalize ((w4.setCell ⟨go, 0, none⟩ (uv (PlainTnum.down a.b k).v)).setCell ⟨go, 1, none⟩ (uv (PlainTnum.down a.b k).m)) = w5 at *
    have ca0 : w5.cell? ⟨w.heap.size, 0, none⟩ = some (uv a.b.v) := Ba.cell 0
    have ca1 : w5.cell? ⟨w.heap.size, 1, none⟩ = some (uv a.b.m) := Ba.cell 1
    have ca2 : w5.cell? ⟨w.heap.size, 2, none⟩ = some (uv a.lo) := Ba.cell 2
    have ca3 : w5.cell? ⟨w.heap.size, 3, none⟩ = some (uv a.hi) := Ba.cell 3
    have ca4 : w5.cell? ⟨w.heap.size, 4, none⟩ = some (sv a.sl) := Ba.cell 4
    have ca5 : w5.cell? ⟨w.heap.size, 5, none⟩ = some (sv a.sh) := Ba.cell 5
    have fa := Ba.frozen
    have la := Ba.lt
    have cr0 : w5.cell? ⟨w.heap.size + 1, 0, none⟩ = some (.int .u64 0) := Br.cell 0
    have cr1 : w5.cell? ⟨w.heap.size + 1, 1, none⟩ = some (.int .u64 0) := Br.cell 1
    have cr2 : w5.cell? ⟨w.heap.size + 1, 2, none⟩ = some (.int .u64 0) := Br.cell 2
    have cr3 : w5.cell? ⟨w.heap.size + 1, 3, none⟩ = some (.int .u64 0) := Br.cell 3
    have cr4 : w5.cell? ⟨w.heap.size + 1, 4, none⟩ = some (.int .i64 0) := Br.cell 4
    have cr5 : w5.cell? ⟨w.heap.size + 1, 5, none⟩ = some (.int .i64 0) := Br.cell 5
    have fr := Br.frozen
    have lr := Br.lt
    have co0 : w5.cell? ⟨go, 0, none⟩ = some (uv (PlainTnum.down a.b k).v) := Bo.cell 0
    have co1 : w5.cell? ⟨go, 1, none⟩ = some (uv (PlainTnum.down a.b k).m) := Bo.cell 1
    have co2 : w5.cell? ⟨go, 2, none⟩ = some (uv (PlainScalar.between (a.lo >>> k) (a.hi >>> k)).lo) := Bo.cell 2
    have co3 : w5.cell? ⟨go, 3, none⟩ = some (uv (PlainScalar.between (a.lo >>> k) (a.hi >>> k)).hi) := Bo.cell 3
    have co4 : w5.cell? ⟨go, 4, none⟩ = some (sv (PlainScalar.between (a.lo >>> k) (a.hi >>> k)).sl) := Bo.cell 4
    have co5 : w5.cell? ⟨go, 5, none⟩ = some (sv (PlainScalar.between (a.lo >>> k) (a.hi >>> k)).sh) := Bo.cell 5
    have fo := Bo.frozen
    have lo := Bo.lt
    go_wp2_with fail
    refine (settled_c (⟨(PlainTnum.down a.b k), (PlainScalar.between (a.lo >>> k) (a.hi >>> k)).lo, (PlainScalar.between (a.lo >>> k) (a.hi >>> k)).hi, (PlainScalar.between (a.lo >>> k) (a.hi >>> k)).sl, (PlainScalar.between (a.lo >>> k) (a.hi >>> k)).sh⟩ : Rng) _).mono ?_
    rintro e w6 ⟨rfl, hb⟩
    clear ca0 ca1 ca2 ca3 ca4 ca5 fa la
    clear cr0 cr1 cr2 cr3 cr4 cr5 fr lr
    clear co0 co1 co2 co3 co4 co5 fo lo
    replace Ba := (Ba).next hb
    replace Br := (Br).next hb
    replace Bo := (Bo).next hb
    replace hB : Below w.heap.size w w6 := by repeat (first | exact hB | (refine Bl_set ?_ (by first | omega | (simp; omega)) _) | apply Bl_alloc | (refine Bl_trans ?_ hb))
    clear hb
    have ca0 : w6.cell? ⟨w.heap.size, 0, none⟩ = some (uv a.b.v) := Ba.cell 0
    have ca1 : w6.cell? ⟨w.heap.size, 1, none⟩ = some (uv a.b.m) := Ba.cell 1
    have ca2 : w6.cell? ⟨w.heap.size, 2, none⟩ = some (uv a.lo) := Ba.cell 2
    have ca3 : w6.cell? ⟨w.heap.size, 3, none⟩ = some (uv a.hi) := Ba.cell 3
    have ca4 : w6.cell? ⟨w.heap.size, 4, none⟩ = some (sv a.sl) := Ba.cell 4
    have ca5 : w6.cell? ⟨w.heap.size, 5, none⟩ = some (sv a.sh) := Ba.cell 5
    have fa := Ba.frozen
    have la := Ba.lt
    have cr0 : w6.cell? ⟨w.heap.size + 1, 0, none⟩ = some (.int .u64 0) := Br.cell 0
    have cr1 : w6.cell? ⟨w.heap.size + 1, 1, none⟩ = some (.int .u64 0) := Br.cell 1
    have cr2 : w6.cell? ⟨w.heap.size + 1, 2, none⟩ = some (.int .u64 0) := Br.cell 2
    have cr3 : w6.cell? ⟨w.heap.size + 1, 3, none⟩ = some (.int .u64 0) := Br.cell 3
    have cr4 : w6.cell? ⟨w.heap.size + 1, 4, none⟩ = some (.int .i64 0) := Br.cell 4
    have cr5 : w6.cell? ⟨w.heap.size + 1, 5, none⟩ = some (.int .i64 0) := Br.cell 5
    have fr := Br.frozen
    have lr := Br.lt
    have co0 : w6.cell? ⟨go, 0, none⟩ = some (uv (PlainTnum.down a.b k).v) := Bo.cell 0
    have co1 : w6.cell? ⟨go, 1, none⟩ = some (uv (PlainTnum.down a.b k).m) := Bo.cell 1
    have co2 : w6.cell? ⟨go, 2, none⟩ = some (uv (PlainScalar.between (a.lo >>> k) (a.hi >>> k)).lo) := Bo.cell 2
    have co3 : w6.cell? ⟨go, 3, none⟩ = some (uv (PlainScalar.between (a.lo >>> k) (a.hi >>> k)).hi) := Bo.cell 3
    have co4 : w6.cell? ⟨go, 4, none⟩ = some (sv (PlainScalar.between (a.lo >>> k) (a.hi >>> k)).sl) := Bo.cell 4
    have co5 : w6.cell? ⟨go, 5, none⟩ = some (sv (PlainScalar.between (a.lo >>> k) (a.hi >>> k)).sh) := Bo.cell 5
    have fo := Bo.frozen
    have lo := Bo.lt
    go_wp2
    exact bodyPost_ret (v := rv (PlainScalar.settled ⟨(PlainTnum.down a.b k), (PlainScalar.between (a.lo >>> k) (a.hi >>> k)).lo, (PlainScalar.between (a.lo >>> k) (a.hi >>> k)).hi, (PlainScalar.between (a.lo >>> k) (a.hi >>> k)).sl, (PlainScalar.between (a.lo >>> k) (a.hi >>> k)).sh⟩)) (by simp [results, Try.results59, go_sem, cr0, cr1, cr2, cr3, cr4, cr5, lr]) rfl ⟨by rw [hs], by repeat (first | (with_reducible exact hB) | (with_reducible refine Bl_set ?_ (by first | omega | (simp; done) | (simp; omega)) _) | with_reducible apply Bl_alloc)⟩
  have e6 : (op == 6) = false := by simpa using h6
  have e7 : (op == 7) = false := by simpa using h7
  · have hs : PlainScalar.shifted op k a = PlainScalar.settled ⟨PlainScalar.any.b, PlainScalar.any.lo, PlainScalar.any.hi, (a.sl.sshiftRight k), (a.sh.sshiftRight k)⟩ := by unfold PlainScalar.shifted; rw [if_neg h6, if_neg h7]
    go_enter Try.func59, Try.ntmps59
    go_wp2_with fail
    obtain ⟨ga, hga⟩ : ∃ g, g = w.heap.size := ⟨_, rfl⟩
    obtain ⟨gr, hgr⟩ : ∃ g, g = w.heap.size + 1 := ⟨_, rfl⟩
    have Ba : Blk ((w.alloc (.cells #[uv a.b.v, uv a.b.m, uv a.lo, uv a.hi, sv a.sl, sv a.sh] 39)).alloc (.cells #[.int .u64 0, .int .u64 0, .int .u64 0, .int .u64 0, .int .i64 0, .int .i64 0] 39)) (w.heap.size) 39 #[uv a.b.v, uv a.b.m, uv a.lo, uv a.hi, sv a.sl, sv a.sh] := ((Blk.new w 39 #[uv a.b.v, uv a.b.m, uv a.lo, uv a.hi, sv a.sl, sv a.sh])).alloc _
    have Br : Blk ((w.alloc (.cells #[uv a.b.v, uv a.b.m, uv a.lo, uv a.hi, sv a.sl, sv a.sh] 39)).alloc (.cells #[.int .u64 0, .int .u64 0, .int .u64 0, .int .u64 0, .int .i64 0, .int .i64 0] 39)) (w.heap.size + 1) 39 #[.int .u64 0, .int .u64 0, .int .u64 0, .int .u64 0, .int .i64 0, .int .i64 0] := (by simpa using Blk.new (w.alloc (.cells #[uv a.b.v, uv a.b.m, uv a.lo, uv a.hi, sv a.sl, sv a.sh] 39)) 39 #[.int .u64 0, .int .u64 0, .int .u64 0, .int .u64 0, .int .i64 0, .int .i64 0] : Blk _ (w.heap.size + 1) 39 #[.int .u64 0, .int .u64 0, .int .u64 0, .int .u64 0, .int .i64 0, .int .i64 0])
    have hB : Below w.heap.size w ((w.alloc (.cells #[uv a.b.v, uv a.b.m, uv a.lo, uv a.hi, sv a.sl, sv a.sh] 39)).alloc (.cells #[.int .u64 0, .int .u64 0, .int .u64 0, .int .u64 0, .int .i64 0, .int .i64 0] 39)) := (Bl_alloc (Bl_alloc (Bl_refl w) _) _)
    clear hga
    clear ga
    clear hgr
    clear gr
    generalize ((w.alloc (.cells #[uv a.b.v, uv a.b.m, uv a.lo, uv a.hi, sv a.sl, sv a.sh] 39)).alloc (.cells #[.int .u64 0, .int .u64 0, .int .u64 0, .int .u64 0, .int .i64 0, .int .i64 0] 39)) = w1 at *
    have ca0 : w1.cell? ⟨w.heap.size, 0, none⟩ = some (uv a.b.v) := Ba.cell 0
    have ca1 : w1.cell? ⟨w.heap.size, 1, none⟩ = some (uv a.b.m) := Ba.cell 1
    have ca2 : w1.cell? ⟨w.heap.size, 2, none⟩ = some (uv a.lo) := Ba.cell 2
    have ca3 : w1.cell? ⟨w.heap.size, 3, none⟩ = some (uv a.hi) := Ba.cell 3
    have ca4 : w1.cell? ⟨w.heap.size, 4, none⟩ = some (sv a.sl) := Ba.cell 4
    have ca5 : w1.cell? ⟨w.heap.size, 5, none⟩ = some (sv a.sh) := Ba.cell 5
    have fa := Ba.frozen
    have la := Ba.lt
    have cr0 : w1.cell? ⟨w.heap.size + 1, 0, none⟩ = some (.int .u64 0) := Br.cell 0
    have cr1 : w1.cell? ⟨w.heap.size + 1, 1, none⟩ = some (.int .u64 0) := Br.cell 1
    have cr2 : w1.cell? ⟨w.heap.size + 1, 2, none⟩ = some (.int .u64 0) := Br.cell 2
    have cr3 : w1.cell? ⟨w.heap.size + 1, 3, none⟩ = some (.int .u64 0) := Br.cell 3
    have cr4 : w1.cell? ⟨w.heap.size + 1, 4, none⟩ = some (.int .i64 0) := Br.cell 4
    have cr5 : w1.cell? ⟨w.heap.size + 1, 5, none⟩ = some (.int .i64 0) := Br.cell 5
    have fr := Br.frozen
    have lr := Br.lt
    go_wp2_with fail
    refine (sany_c _).mono ?_
    rintro e w2 ⟨rfl, hb⟩
    clear ca0 ca1 ca2 ca3 ca4 ca5 fa la
    clear cr0 cr1 cr2 cr3 cr4 cr5 fr lr
    replace Ba := (Ba).next hb
    replace Br := (Br).next hb
    replace hB : Below w.heap.size w w2 := by repeat (first | exact hB | (refine Bl_set ?_ (by first | omega | (simp; omega)) _) | apply Bl_alloc | (refine Bl_trans ?_ hb))
    clear hb
    have ca0 : w2.cell? ⟨w.heap.size, 0, none⟩ = some (uv a.b.v) := Ba.cell 0
    have ca1 : w2.cell? ⟨w.heap.size, 1, none⟩ = some (uv a.b.m) := Ba.cell 1
    have ca2 : w2.cell? ⟨w.heap.size, 2, none⟩ = some (uv a.lo) := Ba.cell 2
    have ca3 : w2.cell? ⟨w.heap.size, 3, none⟩ = some (uv a.hi) := Ba.cell 3
    have ca4 : w2.cell? ⟨w.heap.size, 4, none⟩ = some (sv a.sl) := Ba.cell 4
    have ca5 : w2.cell? ⟨w.heap.size, 5, none⟩ = some (sv a.sh) := Ba.cell 5
    have fa := Ba.frozen
    have la := Ba.lt
    have cr0 : w2.cell? ⟨w.heap.size + 1, 0, none⟩ = some (.int .u64 0) := Br.cell 0
    have cr1 : w2.cell? ⟨w.heap.size + 1, 1, none⟩ = some (.int .u64 0) := Br.cell 1
    have cr2 : w2.cell? ⟨w.heap.size + 1, 2, none⟩ = some (.int .u64 0) := Br.cell 2
    have cr3 : w2.cell? ⟨w.heap.size + 1, 3, none⟩ = some (.int .u64 0) := Br.cell 3
    have cr4 : w2.cell? ⟨w.heap.size + 1, 4, none⟩ = some (.int .i64 0) := Br.cell 4
    have cr5 : w2.cell? ⟨w.heap.size + 1, 5, none⟩ = some (.int .i64 0) := Br.cell 5
    have fr := Br.frozen
    have lr := Br.lt
    go_upto_region 13 with fail
    clear ca0 ca1 ca2 ca3 ca4 ca5 fa la
    clear cr0 cr1 cr2 cr3 cr4 cr5 fr lr
    have Bo := Blk.new w2 39 #[uv PlainScalar.any.b.v, uv PlainScalar.any.b.m, uv PlainScalar.any.lo, uv PlainScalar.any.hi, sv PlainScalar.any.sl, sv PlainScalar.any.sh]
    have hgo := hB.size
    have hnao := Nat.ne_of_lt Ba.lt; have hltao := Ba.lt
    have hnro := Nat.ne_of_lt Br.lt; have hltro := Br.lt
    replace Ba : Blk (w2.alloc (.cells #[uv PlainScalar.any.b.v, uv PlainScalar.any.b.m, uv PlainScalar.any.lo, uv PlainScalar.any.hi, sv PlainScalar.any.sl, sv PlainScalar.any.sh] 39)) (w.heap.size) 39 #[uv a.b.v, uv a.b.m, uv a.lo, uv a.hi, sv a.sl, sv a.sh] := Ba.alloc _
    replace Br : Blk (w2.alloc (.cells #[uv PlainScalar.any.b.v, uv PlainScalar.any.b.m, uv PlainScalar.any.lo, uv PlainScalar.any.hi, sv PlainScalar.any.sl, sv PlainScalar.any.sh] 39)) (w.heap.size + 1) 39 #[.int .u64 0, .int .u64 0, .int .u64 0, .int .u64 0, .int .i64 0, .int .i64 0] := Br.alloc _
    replace hB : Below w.heap.size w (w2.alloc (.cells #[uv PlainScalar.any.b.v, uv PlainScalar.any.b.m, uv PlainScalar.any.lo, uv PlainScalar.any.hi, sv PlainScalar.any.sl, sv PlainScalar.any.sh] 39)) := Bl_alloc hB _
    generalize (w2.alloc (.cells #[uv PlainScalar.any.b.v, uv PlainScalar.any.b.m, uv PlainScalar.any.lo, uv PlainScalar.any.hi, sv PlainScalar.any.sl, sv PlainScalar.any.sh] 39)) = w3 at *
    generalize w2.heap.size = go at *
    have ca0 : w3.cell? ⟨w.heap.size, 0, none⟩ = some (uv a.b.v) := Ba.cell 0
    have ca1 : w3.cell? ⟨w.heap.size, 1, none⟩ = some (uv a.b.m) := Ba.cell 1
    have ca2 : w3.cell? ⟨w.heap.size, 2, none⟩ = some (uv a.lo) := Ba.cell 2
    have ca3 : w3.cell? ⟨w.heap.size, 3, none⟩ = some (uv a.hi) := Ba.cell 3
    have ca4 : w3.cell? ⟨w.heap.size, 4, none⟩ = some (sv a.sl) := Ba.cell 4
    have ca5 : w3.cell? ⟨w.heap.size, 5, none⟩ = some (sv a.sh) := Ba.cell 5
    have fa := Ba.frozen
    have la := Ba.lt
    have cr0 : w3.cell? ⟨w.heap.size + 1, 0, none⟩ = some (.int .u64 0) := Br.cell 0
    have cr1 : w3.cell? ⟨w.heap.size + 1, 1, none⟩ = some (.int .u64 0) := Br.cell 1
    have cr2 : w3.cell? ⟨w.heap.size + 1, 2, none⟩ = some (.int .u64 0) := Br.cell 2
    have cr3 : w3.cell? ⟨w.heap.size + 1, 3, none⟩ = some (.int .u64 0) := Br.cell 3
    have cr4 : w3.cell? ⟨w.heap.size + 1, 4, none⟩ = some (.int .i64 0) := Br.cell 4
    have cr5 : w3.cell? ⟨w.heap.size + 1, 5, none⟩ = some (.int .i64 0) := Br.cell 5
    have fr := Br.frozen
    have lr := Br.lt
    have co0 : w3.cell? ⟨go, 0, none⟩ = some (uv PlainScalar.any.b.v) := Bo.cell 0
    have co1 : w3.cell? ⟨go, 1, none⟩ = some (uv PlainScalar.any.b.m) := Bo.cell 1
    have co2 : w3.cell? ⟨go, 2, none⟩ = some (uv PlainScalar.any.lo) := Bo.cell 2
    have co3 : w3.cell? ⟨go, 3, none⟩ = some (uv PlainScalar.any.hi) := Bo.cell 3
    have co4 : w3.cell? ⟨go, 4, none⟩ = some (sv PlainScalar.any.sl) := Bo.cell 4
    have co5 : w3.cell? ⟨go, 5, none⟩ = some (sv PlainScalar.any.sh) := Bo.cell 5
    have fo := Bo.frozen
    have lo := Bo.lt
    go_wp2_with fail
    replace ca0 : ∀ g : Later w3, g.w.cell? ⟨w.heap.size, 0, none⟩ = some (uv a.b.v) := fun g => g.cell (Ba.cell 0)
    replace ca1 : ∀ g : Later w3, g.w.cell? ⟨w.heap.size, 1, none⟩ = some (uv a.b.m) := fun g => g.cell (Ba.cell 1)
    replace ca2 : ∀ g : Later w3, g.w.cell? ⟨w.heap.size, 2, none⟩ = some (uv a.lo) := fun g => g.cell (Ba.cell 2)
    replace ca3 : ∀ g : Later w3, g.w.cell? ⟨w.heap.size, 3, none⟩ = some (uv a.hi) := fun g => g.cell (Ba.cell 3)
    replace ca4 : ∀ g : Later w3, g.w.cell? ⟨w.heap.size, 4, none⟩ = some (sv a.sl) := fun g => g.cell (Ba.cell 4)
    replace ca5 : ∀ g : Later w3, g.w.cell? ⟨w.heap.size, 5, none⟩ = some (sv a.sh) := fun g => g.cell (Ba.cell 5)
    replace cr0 : ∀ g : Later w3, g.w.cell? ⟨w.heap.size + 1, 0, none⟩ = some (.int .u64 0) := fun g => g.cell (Br.cell 0)
    replace cr1 : ∀ g : Later w3, g.w.cell? ⟨w.heap.size + 1, 1, none⟩ = some (.int .u64 0) := fun g => g.cell (Br.cell 1)
    replace cr2 : ∀ g : Later w3, g.w.cell? ⟨w.heap.size + 1, 2, none⟩ = some (.int .u64 0) := fun g => g.cell (Br.cell 2)
    replace cr3 : ∀ g : Later w3, g.w.cell? ⟨w.heap.size + 1, 3, none⟩ = some (.int .u64 0) := fun g => g.cell (Br.cell 3)
    replace cr4 : ∀ g : Later w3, g.w.cell? ⟨w.heap.size + 1, 4, none⟩ = some (.int .i64 0) := fun g => g.cell (Br.cell 4)
    replace cr5 : ∀ g : Later w3, g.w.cell? ⟨w.heap.size + 1, 5, none⟩ = some (.int .i64 0) := fun g => g.cell (Br.cell 5)
    replace co0 : ∀ g : Later w3, g.w.cell? ⟨go, 0, none⟩ = some (uv PlainScalar.any.b.v) := fun g => g.cell (Bo.cell 0)
    replace co1 : ∀ g : Later w3, g.w.cell? ⟨go, 1, none⟩ = some (uv PlainScalar.any.b.m) := fun g => g.cell (Bo.cell 1)
    replace co2 : ∀ g : Later w3, g.w.cell? ⟨go, 2, none⟩ = some (uv PlainScalar.any.lo) := fun g => g.cell (Bo.cell 2)
    replace co3 : ∀ g : Later w3, g.w.cell? ⟨go, 3, none⟩ = some (uv PlainScalar.any.hi) := fun g => g.cell (Bo.cell 3)
    replace co4 : ∀ g : Later w3, g.w.cell? ⟨go, 4, none⟩ = some (sv PlainScalar.any.sl) := fun g => g.cell (Bo.cell 4)
    replace co5 : ∀ g : Later w3, g.w.cell? ⟨go, 5, none⟩ = some (sv PlainScalar.any.sh) := fun g => g.cell (Bo.cell 5)
    obtain ⟨S, hS⟩ : ∃ S : World → Prop, ∀ x, S x ↔ (x.cell? ⟨w.heap.size, 5, none⟩ = some (sv a.sh)) := ⟨_, fun _ => Iff.rfl⟩
    have u0 : ∀ g : Under S, g.w.cell? ⟨w.heap.size, 5, none⟩ = some (sv a.sh) := fun g => ((hS _).1 g.is)
    refine wp_region_mixS 9 (fun k => k == 4 || k == 5 || k == 6 || k == 7) (fun _ => #[]) S rfl (by kernel_rfl) (by kernel_rfl) (no_alloc (by kernel_rfl)) ?_
    simp only [List.take_succ_cons, List.take_zero, List.drop_succ_cons, List.drop_zero]
    repeat (refine wpMixS_step (fun K hK => ?_); go_simp; first | (refine hK _ ?_; clear hK K))
    refine wpMixS_nil ?_
    intro G w4 hgr hblk hdist
    have hb : Below w3.heap.size w3 w4 := hgr
    replace Ba := Ba.next hb
    replace Br := Br.next hb
    replace Bo := Bo.next hb
    clear ca0 ca1 ca2 ca3 ca4 ca5 fa la
    clear cr0 cr1 cr2 cr3 cr4 cr5 fr lr
    clear co0 co1 co2 co3 co4 co5 fo lo
    clear u0
    replace hB : Below w.heap.size w w4 := Bl_trans hB hb
    simp only [putAll, isAlloc]
    clear hb hgr hblk hdist
    have ca0 : w4.cell? ⟨w.heap.size, 0, none⟩ = some (uv a.b.v) := Ba.cell 0
    have ca1 : w4.cell? ⟨w.heap.size, 1, none⟩ = some (uv a.b.m) := Ba.cell 1
    have ca2 : w4.cell? ⟨w.heap.size, 2, none⟩ = some (uv a.lo) := Ba.cell 2
    have ca3 : w4.cell? ⟨w.heap.size, 3, none⟩ = some (uv a.hi) := Ba.cell 3
    have ca4 : w4.cell? ⟨w.heap.size, 4, none⟩ = some (sv a.sl) := Ba.cell 4
    have ca5 : w4.cell? ⟨w.heap.size, 5, none⟩ = some (sv a.sh) := Ba.cell 5
    have fa := Ba.frozen
    have la := Ba.lt
    have cr0 : w4.cell? ⟨w.heap.size + 1, 0, none⟩ = some (.int .u64 0) := Br.cell 0
    have cr1 : w4.cell? ⟨w.heap.size + 1, 1, none⟩ = some (.int .u64 0) := Br.cell 1
    have cr2 : w4.cell? ⟨w.heap.size + 1, 2, none⟩ = some (.int .u64 0) := Br.cell 2
    have cr3 : w4.cell? ⟨w.heap.size + 1, 3, none⟩ = some (.int .u64 0) := Br.cell 3
    have cr4 : w4.cell? ⟨w.heap.size + 1, 4, none⟩ = some (.int .i64 0) := Br.cell 4
    have cr5 : w4.cell? ⟨w.heap.size + 1, 5, none⟩ = some (.int .i64 0) := Br.cell 5
    have fr := Br.frozen
    have lr := Br.lt
    have co0 : w4.cell? ⟨go, 0, none⟩ = some (uv PlainScalar.any.b.v) := Bo.cell 0
    have co1 : w4.cell? ⟨go, 1, none⟩ = some (uv PlainScalar.any.b.m) := Bo.cell 1
    have co2 : w4.cell? ⟨go, 2, none⟩ = some (uv PlainScalar.any.lo) := Bo.cell 2
    have co3 : w4.cell? ⟨go, 3, none⟩ = some (uv PlainScalar.any.hi) := Bo.cell 3
    have co4 : w4.cell? ⟨go, 4, none⟩ = some (sv PlainScalar.any.sl) := Bo.cell 4
    have co5 : w4.cell? ⟨go, 5, none⟩ = some (sv PlainScalar.any.sh) := Bo.cell 5
    have fo := Bo.frozen
    have lo := Bo.lt
    go_wp2_with fail
    refine ⟨by first | trivial | rfl, ?_, ?_⟩
    · refine (hS _).2 ?_; exact (Ba.far (by first | (simp; done) | (simp; omega) | (simp [*]; done) | (simp only [ne_eq]; constructor <;> omega)) _).cell 5
    clear hS S
    clear ca0 ca1 ca2 ca3 ca4 ca5 fa la
    clear cr0 cr1 cr2 cr3 cr4 cr5 fr lr
    clear co0 co1 co2 co3 co4 co5 fo lo
    replace Ba : Blk (w4.setCell ⟨go, 4, none⟩ (sv (a.sl.sshiftRight k))) (w.heap.size) 39 #[uv a.b.v, uv a.b.m, uv a.lo, uv a.hi, sv a.sl, sv a.sh] := (Ba.far (by first | (simp; done) | (simp; omega) | (simp [*]; done) | (simp only [ne_eq]; constructor <;> omega)) _)
    replace Br : Blk (w4.setCell ⟨go, 4, none⟩ (sv (a.sl.sshiftRight k))) (w.heap.size + 1) 39 #[.int .u64 0, .int .u64 0, .int .u64 0, .int .u64 0, .int .i64 0, .int .i64 0] := (Br.far (by first | (simp; done) | (simp; omega) | (simp [*]; done) | (simp only [ne_eq]; constructor <;> omega)) _)
    replace Bo : Blk (w4.setCell ⟨go, 4, none⟩ (sv (a.sl.sshiftRight k))) (go) 39 #[uv PlainScalar.any.b.v, uv PlainScalar.any.b.m, uv PlainScalar.any.lo, uv PlainScalar.any.hi, sv (a.sl.sshiftRight k), sv PlainScalar.any.sh] := Bo.set_ 4 _
    replace hB : Below w.heap.size w (w4.setCell ⟨go, 4, none⟩ (sv (a.sl.sshiftRight k))) := (Bl_set hB (by first | omega | (simp; done) | (simp; omega)) _)
    generalize (w4.setCell ⟨go, 4, none⟩ (sv (a.sl.sshiftRight k))) = w5 at *
    have ca0 : w5.cell? ⟨w.heap.size, 0, none⟩ = some (uv a.b.v) := Ba.cell 0
    have ca1 : w5.cell? ⟨w.heap.size, 1, none⟩ = some (uv a.b.m) := Ba.cell 1
    have ca2 : w5.cell? ⟨w.heap.size, 2, none⟩ = some (uv a.lo) := Ba.cell 2
    have ca3 : w5.cell? ⟨w.heap.size, 3, none⟩ = some (uv a.hi) := Ba.cell 3
    have ca4 : w5.cell? ⟨w.heap.size, 4, none⟩ = some (sv a.sl) := Ba.cell 4
    have ca5 : w5.cell? ⟨w.heap.size, 5, none⟩ = some (sv a.sh) := Ba.cell 5
    have fa := Ba.frozen
    have la := Ba.lt
    have cr0 : w5.cell? ⟨w.heap.size + 1, 0, none⟩ = some (.int .u64 0) := Br.cell 0
    have cr1 : w5.cell? ⟨w.heap.size + 1, 1, none⟩ = some (.int .u64 0) := Br.cell 1
    have cr2 : w5.cell? ⟨w.heap.size + 1, 2, none⟩ = some (.int .u64 0) := Br.cell 2
    have cr3 : w5.cell? ⟨w.heap.size + 1, 3, none⟩ = some (.int .u64 0) := Br.cell 3
    have cr4 : w5.cell? ⟨w.heap.size + 1, 4, none⟩ = some (.int .i64 0) := Br.cell 4
    have cr5 : w5.cell? ⟨w.heap.size + 1, 5, none⟩ = some (.int .i64 0) := Br.cell 5
    have fr := Br.frozen
    have lr := Br.lt
    have co0 : w5.cell? ⟨go, 0, none⟩ = some (uv PlainScalar.any.b.v) := Bo.cell 0
    have co1 : w5.cell? ⟨go, 1, none⟩ = some (uv PlainScalar.any.b.m) := Bo.cell 1
    have co2 : w5.cell? ⟨go, 2, none⟩ = some (uv PlainScalar.any.lo) := Bo.cell 2
    have co3 : w5.cell? ⟨go, 3, none⟩ = some (uv PlainScalar.any.hi) := Bo.cell 3
    have co4 : w5.cell? ⟨go, 4, none⟩ = some (sv (a.sl.sshiftRight k)) := Bo.cell 4
    have co5 : w5.cell? ⟨go, 5, none⟩ = some (sv PlainScalar.any.sh) := Bo.cell 5
    have fo := Bo.frozen
    have lo := Bo.lt
    go_upto_region 14 with fail
    clear ca0 ca1 ca2 ca3 ca4 ca5 fa la
    clear cr0 cr1 cr2 cr3 cr4 cr5 fr lr
    clear co0 co1 co2 co3 co4 co5 fo lo
    replace Ba : Blk (w5.setCell ⟨go, 5, none⟩ (sv (a.sh.sshiftRight k))) (w.heap.size) 39 #[uv a.b.v, uv a.b.m, uv a.lo, uv a.hi, sv a.sl, sv a.sh] := (Ba.far (by first | (simp; done) | (simp; omega) | (simp [*]; done) | (simp only [ne_eq]; constructor <;> omega)) _)
    replace Br : Blk (w5.setCell ⟨go, 5, none⟩ (sv (a.sh.sshiftRight k))) (w.heap.size + 1) 39 #[.int .u64 0, .int .u64 0, .int .u64 0, .int .u64 0, .int .i64 0, .int .i64 0] := (Br.far (by first | (simp; done) | (simp; omega) | (simp [*]; done) | (simp only [ne_eq]; constructor <;> omega)) _)
    replace Bo : Blk (w5.setCell ⟨go, 5, none⟩ (sv (a.sh.sshiftRight k))) (go) 39 #[uv PlainScalar.any.b.v, uv PlainScalar.any.b.m, uv PlainScalar.any.lo, uv PlainScalar.any.hi, sv (a.sl.sshiftRight k), sv (a.sh.sshiftRight k)] := Bo.set_ 5 _
    replace hB : Below w.heap.size w (w5.setCell ⟨go, 5, none⟩ (sv (a.sh.sshiftRight k))) := (Bl_set hB (by first | omega | (simp; done) | (simp; omega)) _)
    generalize (w5.setCell ⟨go, 5, none⟩ (sv (a.sh.sshiftRight k))) = w6 at *
    have ca0 : w6.cell? ⟨w.heap.size, 0, none⟩ = some (uv a.b.v) := Ba.cell 0
    have ca1 : w6.cell? ⟨w.heap.size, 1, none⟩ = some (uv a.b.m) := Ba.cell 1
    have ca2 : w6.cell? ⟨w.heap.size, 2, none⟩ = some (uv a.lo) := Ba.cell 2
    have ca3 : w6.cell? ⟨w.heap.size, 3, none⟩ = some (uv a.hi) := Ba.cell 3
    have ca4 : w6.cell? ⟨w.heap.size, 4, none⟩ = some (sv a.sl) := Ba.cell 4
    have ca5 : w6.cell? ⟨w.heap.size, 5, none⟩ = some (sv a.sh) := Ba.cell 5
    have fa := Ba.frozen
    have la := Ba.lt
    have cr0 : w6.cell? ⟨w.heap.size + 1, 0, none⟩ = some (.int .u64 0) := Br.cell 0
    have cr1 : w6.cell? ⟨w.heap.size + 1, 1, none⟩ = some (.int .u64 0) := Br.cell 1
    have cr2 : w6.cell? ⟨w.heap.size + 1, 2, none⟩ = some (.int .u64 0) := Br.cell 2
    have cr3 : w6.cell? ⟨w.heap.size + 1, 3, none⟩ = some (.int .u64 0) := Br.cell 3
    have cr4 : w6.cell? ⟨w.heap.size + 1, 4, none⟩ = some (.int .i64 0) := Br.cell 4
    have cr5 : w6.cell? ⟨w.heap.size + 1, 5, none⟩ = some (.int .i64 0) := Br.cell 5
    have fr := Br.frozen
    have lr := Br.lt
    have co0 : w6.cell? ⟨go, 0, none⟩ = some (uv PlainScalar.any.b.v) := Bo.cell 0
    have co1 : w6.cell? ⟨go, 1, none⟩ = some (uv PlainScalar.any.b.m) := Bo.cell 1
    have co2 : w6.cell? ⟨go, 2, none⟩ = some (uv PlainScalar.any.lo) := Bo.cell 2
    have co3 : w6.cell? ⟨go, 3, none⟩ = some (uv PlainScalar.any.hi) := Bo.cell 3
    have co4 : w6.cell? ⟨go, 4, none⟩ = some (sv (a.sl.sshiftRight k)) := Bo.cell 4
    have co5 : w6.cell? ⟨go, 5, none⟩ = some (sv (a.sh.sshiftRight k)) := Bo.cell 5
    have fo := Bo.frozen
    have lo := Bo.lt
    go_wp2_with fail
    refine (settled_c (⟨PlainScalar.any.b, PlainScalar.any.lo, PlainScalar.any.hi, (a.sl.sshiftRight k), (a.sh.sshiftRight k)⟩ : Rng) _).mono ?_
    rintro e w7 ⟨rfl, hb⟩
    clear ca0 ca1 ca2 ca3 ca4 ca5 fa la
    clear cr0 cr1 cr2 cr3 cr4 cr5 fr lr
    clear co0 co1 co2 co3 co4 co5 fo lo
    replace Ba := (Ba).next hb
    replace Br := (Br).next hb
    replace Bo := (Bo).next hb
    replace hB : Below w.heap.size w w7 := by repeat (first | exact hB | (refine Bl_set ?_ (by first | omega | (simp; omega)) _) | apply Bl_alloc | (refine Bl_trans ?_ hb))
    clear hb
    have ca0 : w7.cell? ⟨w.heap.size, 0, none⟩ = some (uv a.b.v) := Ba.cell 0
    have ca1 : w7.cell? ⟨w.heap.size, 1, none⟩ = some (uv a.b.m) := Ba.cell 1
    have ca2 : w7.cell? ⟨w.heap.size, 2, none⟩ = some (uv a.lo) := Ba.cell 2
    have ca3 : w7.cell? ⟨w.heap.size, 3, none⟩ = some (uv a.hi) := Ba.cell 3
    have ca4 : w7.cell? ⟨w.heap.size, 4, none⟩ = some (sv a.sl) := Ba.cell 4
    have ca5 : w7.cell? ⟨w.heap.size, 5, none⟩ = some (sv a.sh) := Ba.cell 5
    have fa := Ba.frozen
    have la := Ba.lt
    have cr0 : w7.cell? ⟨w.heap.size + 1, 0, none⟩ = some (.int .u64 0) := Br.cell 0
    have cr1 : w7.cell? ⟨w.heap.size + 1, 1, none⟩ = some (.int .u64 0) := Br.cell 1
    have cr2 : w7.cell? ⟨w.heap.size + 1, 2, none⟩ = some (.int .u64 0) := Br.cell 2
    have cr3 : w7.cell? ⟨w.heap.size + 1, 3, none⟩ = some (.int .u64 0) := Br.cell 3
    have cr4 : w7.cell? ⟨w.heap.size + 1, 4, none⟩ = some (.int .i64 0) := Br.cell 4
    have cr5 : w7.cell? ⟨w.heap.size + 1, 5, none⟩ = some (.int .i64 0) := Br.cell 5
    have fr := Br.frozen
    have lr := Br.lt
    have co0 : w7.cell? ⟨go, 0, none⟩ = some (uv PlainScalar.any.b.v) := Bo.cell 0
    have co1 : w7.cell? ⟨go, 1, none⟩ = some (uv PlainScalar.any.b.m) := Bo.cell 1
    have co2 : w7.cell? ⟨go, 2, none⟩ = some (uv PlainScalar.any.lo) := Bo.cell 2
    have co3 : w7.cell? ⟨go, 3, none⟩ = some (uv PlainScalar.any.hi) := Bo.cell 3
    have co4 : w7.cell? ⟨go, 4, none⟩ = some (sv (a.sl.sshiftRight k)) := Bo.cell 4
    have co5 : w7.cell? ⟨go, 5, none⟩ = some (sv (a.sh.sshiftRight k)) := Bo.cell 5
    have fo := Bo.frozen
    have lo := Bo.lt
    go_wp2
    exact bodyPost_ret (v := rv (PlainScalar.settled ⟨PlainScalar.any.b, PlainScalar.any.lo, PlainScalar.any.hi, (a.sl.sshiftRight k), (a.sh.sshiftRight k)⟩)) (by simp [results, Try.results59, go_sem, cr0, cr1, cr2, cr3, cr4, cr5, lr]) rfl ⟨by rw [hs], by repeat (first | (with_reducible exact hB) | (with_reducible refine Bl_set ?_ (by first | omega | (simp; done) | (simp; omega)) _) | with_reducible apply Bl_alloc)⟩
end Go.Proofs.Ytmghpoagpiljhac
