/- The walks of package scalar, ninth part: moved. -/
import Derived.Test.YtmghpoagpiljhacSc8
set_option linter.unusedSimpArgs false
namespace Go.Proofs.Ytmghpoagpiljhac
open Go.RowKit
open PlainTnum (N)
open PlainScalar (Rng)
theorem sshifted_64 (op : Int) (x : W) (a : Rng) (w : World) : Calls Try.prog 59 #[.int .i64 op, .int .i64 ((x.toNat : Int) % 64), rv a] w fun e w' => e = .returned (rv (PlainScalar.shifted op (x.toNat % 64) a)) ∧ Below w.heap.size w w' := by
  have := sshifted_c op (x.toNat % 64) (by omega) a w
  rwa [show ((x.toNat % 64 : Nat) : Int) = (x.toNat : Int) % 64 from by omega] at this
theorem sshifted_32 (op : Int) (x : W) (a : Rng) (w : World) : Calls Try.prog 59 #[.int .i64 op, .int .i64 ((x.toNat : Int) % 32), rv a] w fun e w' => e = .returned (rv (PlainScalar.shifted op (x.toNat % 32) a)) ∧ Below w.heap.size w w' := by
  have := sshifted_c op (x.toNat % 32) (by omega) a w
  rwa [show ((x.toNat % 32 : Nat) : Int) = (x.toNat : Int) % 32 from by omega] at this
set_option maxRecDepth 100000 in
set_option maxHeartbeats 3200000 in
theorem smoved_c (op : Int) (l : Bool) (a b : Rng) (w : World) : Calls Try.prog 46 #[.int .i64 op, .bool l, rv a, rv b] w fun e w' => e = .returned (rv (PlainScalar.moved op l a b)) ∧ Below w.heap.size w w' := by
  cases q1 : PlainScalar.alone b
  · have hs : PlainScalar.moved op l a b = PlainScalar.any := by unfold PlainScalar.moved; rw [if_pos (by rw [q1]; decide)]
    cases l
    · go_enter Try.func46, Try.ntmps46
      go_wp2_with fail
      obtain ⟨ga, hga⟩ : ∃ g, g = w.heap.size := ⟨_, rfl⟩
      obtain ⟨gb, hgb⟩ : ∃ g, g = w.heap.size + 1 := ⟨_, rfl⟩
      obtain ⟨gr, hgr⟩ : ∃ g, g = w.heap.size + 1 + 1 := ⟨_, rfl⟩
      have Ba : Blk (((w.alloc (.cells #[uv a.b.v, uv a.b.m, uv a.lo, uv a.hi, sv a.sl, sv a.sh] 39)).alloc (.cells #[uv b.b.v, uv b.b.m, uv b.lo, uv b.hi, sv b.sl, sv b.sh] 39)).alloc (.cells #[.int .u64 0, .int .u64 0, .int .u64 0, .int .u64 0, .int .i64 0, .int .i64 0] 39)) (w.heap.size) 39 #[uv a.b.v, uv a.b.m, uv a.lo, uv a.hi, sv a.sl, sv a.sh] := (((Blk.new w 39 #[uv a.b.v, uv a.b.m, uv a.lo, uv a.hi, sv a.sl, sv a.sh])).alloc _).alloc _
      have Bb : Blk (((w.alloc (.cells #[uv a.b.v, uv a.b.m, uv a.lo, uv a.hi, sv a.sl, sv a.sh] 39)).alloc (.cells #[uv b.b.v, uv b.b.m, uv b.lo, uv b.hi, sv b.sl, sv b.sh] 39)).alloc (.cells #[.int .u64 0, .int .u64 0, .int .u64 0, .int .u64 0, .int .i64 0, .int .i64 0] 39)) (w.heap.size + 1) 39 #[uv b.b.v, uv b.b.m, uv b.lo, uv b.hi, sv b.sl, sv b.sh] := ((by simpa using Blk.new (w.alloc (.cells #[uv a.b.v, uv a.b.m, uv a.lo, uv a.hi, sv a.sl, sv a.sh] 39)) 39 #[uv b.b.v, uv b.b.m, uv b.lo, uv b.hi, sv b.sl, sv b.sh] : Blk _ (w.heap.size + 1) 39 #[uv b.b.v, uv b.b.m, uv b.lo, uv b.hi, sv b.sl, sv b.sh])).alloc _
      have Br : Blk (((w.alloc (.cells #[uv a.b.v, uv a.b.m, uv a.lo, uv a.hi, sv a.sl, sv a.sh] 39)).alloc (.cells #[uv b.b.v, uv b.b.m, uv b.lo, uv b.hi, sv b.sl, sv b.sh] 39)).alloc (.cells #[.int .u64 0, .int .u64 0, .int .u64 0, .int .u64 0, .int .i64 0, .int .i64 0] 39)) (w.heap.size + 1 + 1) 39 #[.int .u64 0, .int .u64 0, .int .u64 0, .int .u64 0, .int .i64 0, .int .i64 0] := (by simpa using Blk.new ((w.alloc (.cells #[uv a.b.v, uv a.b.m, uv a.lo, uv a.hi, sv a.sl, sv a.sh] 39)).alloc (.cells #[uv b.b.v, uv b.b.m, uv b.lo, uv b.hi, sv b.sl, sv b.sh] 39)) 39 #[.int .u64 0, .int .u64 0, .int .u64 0, .int .u64 0, .int .i64 0, .int .i64 0] : Blk _ (w.heap.size + 1 + 1) 39 #[.int .u64 0, .int .u64 0, .int .u64 0, .int .u64 0, .int .i64 0, .int .i64 0])
      have hB : Below w.heap.size w (((w.alloc (.cells #[uv a.b.v, uv a.b.m, uv a.lo, uv a.hi, sv a.sl, sv a.sh] 39)).alloc (.cells #[uv b.b.v, uv b.b.m, uv b.lo, uv b.hi, sv b.sl, sv b.sh] 39)).alloc (.cells #[.int .u64 0, .int .u64 0, .int .u64 0, .int .u64 0, .int .i64 0, .int .i64 0] 39)) := (Bl_alloc (Bl_alloc (Bl_alloc (Bl_refl w) _) _) _)
      clear hga
      clear ga
      clear hgb
      clear gb
      clear hgr
      clear gr
      generalize (((w.alloc (.cells #[uv a.b.v, uv a.b.m, uv a.lo, uv a.hi, sv a.sl, sv a.sh] 39)).alloc (.cells #[uv b.b.v, uv b.b.m, uv b.lo, uv b.hi, sv b.sl, sv b.sh] 39)).alloc (.cells #[.int .u64 0, .int .u64 0, .int .u64 0, .int .u64 0, .int .i64 0, .int .i64 0] 39)) = w1 at *
      have ca0 : w1.cell? ⟨w.heap.size, 0, none⟩ = some (uv a.b.v) := Ba.cell 0
      have ca1 : w1.cell? ⟨w.heap.size, 1, none⟩ = some (uv a.b.m) := Ba.cell 1
      have ca2 : w1.cell? ⟨w.heap.size, 2, none⟩ = some (uv a.lo) := Ba.cell 2
      have ca3 : w1.cell? ⟨w.heap.size, 3, none⟩ = some (uv a.hi) := Ba.cell 3
      have ca4 : w1.cell? ⟨w.heap.size, 4, none⟩ = some (sv a.sl) := Ba.cell 4
      have ca5 : w1.cell? ⟨w.heap.size, 5, none⟩ = some (sv a.sh) := Ba.cell 5
      have fa := Ba.frozen
      have la := Ba.lt
      have cb0 : w1.cell? ⟨w.heap.size + 1, 0, none⟩ = some (uv b.b.v) := Bb.cell 0
      have cb1 : w1.cell? ⟨w.heap.size + 1, 1, none⟩ = some (uv b.b.m) := Bb.cell 1
      have cb2 : w1.cell? ⟨w.heap.size + 1, 2, none⟩ = some (uv b.lo) := Bb.cell 2
      have cb3 : w1.cell? ⟨w.heap.size + 1, 3, none⟩ = some (uv b.hi) := Bb.cell 3
      have cb4 : w1.cell? ⟨w.heap.size + 1, 4, none⟩ = some (sv b.sl) := Bb.cell 4
      have cb5 : w1.cell? ⟨w.heap.size + 1, 5, none⟩ = some (sv b.sh) := Bb.cell 5
      have fb := Bb.frozen
      have lb := Bb.lt
      have cr0 : w1.cell? ⟨w.heap.size + 1 + 1, 0, none⟩ = some (.int .u64 0) := Br.cell 0
      have cr1 : w1.cell? ⟨w.heap.size + 1 + 1, 1, none⟩ = some (.int .u64 0) := Br.cell 1
      have cr2 : w1.cell? ⟨w.heap.size + 1 + 1, 2, none⟩ = some (.int .u64 0) := Br.cell 2
      have cr3 : w1.cell? ⟨w.heap.size + 1 + 1, 3, none⟩ = some (.int .u64 0) := Br.cell 3
      have cr4 : w1.cell? ⟨w.heap.size + 1 + 1, 4, none⟩ = some (.int .i64 0) := Br.cell 4
      have cr5 : w1.cell? ⟨w.heap.size + 1 + 1, 5, none⟩ = some (.int .i64 0) := Br.cell 5
      have fr := Br.frozen
      have lr := Br.lt
      go_wp2_with fail
      refine (alone_b _ _ q1 _).mono ?_
      rintro e w2 ⟨rfl, hb⟩
      clear ca0 ca1 ca2 ca3 ca4 ca5 fa la
      clear cb0 cb1 cb2 cb3 cb4 cb5 fb lb
      clear cr0 cr1 cr2 cr3 cr4 cr5 fr lr
      replace Ba := (Ba).next hb
      replace Bb := (Bb).next hb
      replace Br := (Br).next hb
      replace hB : Below w.heap.size w w2 := by repeat (first | exact hB | (refine Bl_set ?_ (by first | omega | (simp; omega)) _) | apply Bl_alloc | (refine Bl_trans ?_ hb))
      clear hb
      have ca0 : w2.cell? ⟨w.heap.size, 0, none⟩ = some (uv a.b.v) := Ba.cell 0
      have ca1 : w2.cell? ⟨w.heap.size, 1, none⟩ = some (uv a.b.m) := Ba.cell 1
      have ca2 : w2.cell? ⟨w.heap.size, 2, none⟩ = some (uv a.lo) := Ba.cell 2
      have ca3 : w2.cell? ⟨w.heap.size, 3, none⟩ = some (uv a.hi) := Ba.cell 3
      have ca4 : w2.cell? ⟨w.heap.size, 4, none⟩ = some (sv a.sl) := Ba.cell 4
      have ca5 : w2.cell? ⟨w.heap.size, 5, none⟩ = some (sv a.sh) := Ba.cell 5
      have fa := Ba.frozen
      have la := Ba.lt
      have cb0 : w2.cell? ⟨w.heap.size + 1, 0, none⟩ = some (uv b.b.v) := Bb.cell 0
      have cb1 : w2.cell? ⟨w.heap.size + 1, 1, none⟩ = some (uv b.b.m) := Bb.cell 1
      have cb2 : w2.cell? ⟨w.heap.size + 1, 2, none⟩ = some (uv b.lo) := Bb.cell 2
      have cb3 : w2.cell? ⟨w.heap.size + 1, 3, none⟩ = some (uv b.hi) := Bb.cell 3
      have cb4 : w2.cell? ⟨w.heap.size + 1, 4, none⟩ = some (sv b.sl) := Bb.cell 4
      have cb5 : w2.cell? ⟨w.heap.size + 1, 5, none⟩ = some (sv b.sh) := Bb.cell 5
      have fb := Bb.frozen
      have lb := Bb.lt
      have cr0 : w2.cell? ⟨w.heap.size + 1 + 1, 0, none⟩ = some (.int .u64 0) := Br.cell 0
      have cr1 : w2.cell? ⟨w.heap.size + 1 + 1, 1, none⟩ = some (.int .u64 0) := Br.cell 1
      have cr2 : w2.cell? ⟨w.heap.size + 1 + 1, 2, none⟩ = some (.int .u64 0) := Br.cell 2
      have cr3 : w2.cell? ⟨w.heap.size + 1 + 1, 3, none⟩ = some (.int .u64 0) := Br.cell 3
      have cr4 : w2.cell? ⟨w.heap.size + 1 + 1, 4, none⟩ = some (.int .i64 0) := Br.cell 4
      have cr5 : w2.cell? ⟨w.heap.size + 1 + 1, 5, none⟩ = some (.int .i64 0) := Br.cell 5
      have fr := Br.frozen
      have lr := Br.lt
      go_wp2_with fail
      refine (sany_c _).mono ?_
      rintro e w3 ⟨rfl, hb⟩
      clear ca0 ca1 ca2 ca3 ca4 ca5 fa la
      clear cb0 cb1 cb2 cb3 cb4 cb5 fb lb
      clear cr0 cr1 cr2 cr3 cr4 cr5 fr lr
      replace Ba := (Ba).next hb
      replace Bb := (Bb).next hb
      replace Br := (Br).next hb
      replace hB : Below w.heap.size w w3 := by repeat (first | exact hB | (refine Bl_set ?_ (by first | omega | (simp; omega)) _) | apply Bl_alloc | (refine Bl_trans ?_ hb))
      clear hb
      have ca0 : w3.cell? ⟨w.heap.size, 0, none⟩ = some (uv a.b.v) := Ba.cell 0
      have ca1 : w3.cell? ⟨w.heap.size, 1, none⟩ = some (uv a.b.m) := Ba.cell 1
      have ca2 : w3.cell? ⟨w.heap.size, 2, none⟩ = some (uv a.lo) := Ba.cell 2
      have ca3 : w3.cell? ⟨w.heap.size, 3, none⟩ = some (uv a.hi) := Ba.cell 3
      have ca4 : w3.cell? ⟨w.heap.size, 4, none⟩ = some (sv a.sl) := Ba.cell 4
      have ca5 : w3.cell? ⟨w.heap.size, 5, none⟩ = some (sv a.sh) := Ba.cell 5
      have fa := Ba.frozen
      have la := Ba.lt
      have cb0 : w3.cell? ⟨w.heap.size + 1, 0, none⟩ = some (uv b.b.v) := Bb.cell 0
      have cb1 : w3.cell? ⟨w.heap.size + 1, 1, none⟩ = some (uv b.b.m) := Bb.cell 1
      have cb2 : w3.cell? ⟨w.heap.size + 1, 2, none⟩ = some (uv b.lo) := Bb.cell 2
      have cb3 : w3.cell? ⟨w.heap.size + 1, 3, none⟩ = some (uv b.hi) := Bb.cell 3
      have cb4 : w3.cell? ⟨w.heap.size + 1, 4, none⟩ = some (sv b.sl) := Bb.cell 4
      have cb5 : w3.cell? ⟨w.heap.size + 1, 5, none⟩ = some (sv b.sh) := Bb.cell 5
      have fb := Bb.frozen
      have lb := Bb.lt
      have cr0 : w3.cell? ⟨w.heap.size + 1 + 1, 0, none⟩ = some (.int .u64 0) := Br.cell 0
      have cr1 : w3.cell? ⟨w.heap.size + 1 + 1, 1, none⟩ = some (.int .u64 0) := Br.cell 1
      have cr2 : w3.cell? ⟨w.heap.size + 1 + 1, 2, none⟩ = some (.int .u64 0) := Br.cell 2
      have cr3 : w3.cell? ⟨w.heap.size + 1 + 1, 3, none⟩ = some (.int .u64 0) := Br.cell 3
      have cr4 : w3.cell? ⟨w.heap.size + 1 + 1, 4, none⟩ = some (.int .i64 0) := Br.cell 4
      have cr5 : w3.cell? ⟨w.heap.size + 1 + 1, 5, none⟩ = some (.int .i64 0) := Br.cell 5
      have fr := Br.frozen
      have lr := Br.lt
      go_wp2
      exact bodyPost_ret (v := rv PlainScalar.any) (by simp [results, Try.results46, go_sem, cr0, cr1, cr2, cr3, cr4, cr5, lr]) rfl ⟨by rw [hs], by repeat (first | (with_reducible exact hB) | (with_reducible refine Bl_set ?_ (by first | omega | (simp; done) | (simp; omega)) _) | with_reducible apply Bl_alloc)⟩
    · go_enter Try.func46, Try.ntmps46
      go_wp2_with fail
      obtain ⟨ga, hga⟩ : ∃ g, g = w.heap.size := ⟨_, rfl⟩
      obtain ⟨gb, hgb⟩ : ∃ g, g = w.heap.size + 1 := ⟨_, rfl⟩
      obtain ⟨gr, hgr⟩ : ∃ g, g = w.heap.size + 1 + 1 := ⟨_, rfl⟩
      have Ba : Blk (((w.alloc (.cells #[uv a.b.v, uv a.b.m, uv a.lo, uv a.hi, sv a.sl, sv a.sh] 39)).alloc (.cells #[uv b.b.v, uv b.b.m, uv b.lo, uv b.hi, sv b.sl, sv b.sh] 39)).alloc (.cells #[.int .u64 0, .int .u64 0, .int .u64 0, .int .u64 0, .int .i64 0, .int .i64 0] 39)) (w.heap.size) 39 #[uv a.b.v, uv a.b.m, uv a.lo, uv a.hi, sv a.sl, sv a.sh] := (((Blk.new w 39 #[uv a.b.v, uv a.b.m, uv a.lo, uv a.hi, sv a.sl, sv a.sh])).alloc _).alloc _
      have Bb : Blk (((w.alloc (.cells #[uv a.b.v, uv a.b.m, uv a.lo, uv a.hi, sv a.sl, sv a.sh] 39)).alloc (.cells #[uv b.b.v, uv b.b.m, uv b.lo, uv b.hi, sv b.sl, sv b.sh] 39)).alloc (.cells #[.int .u64 0, .int .u64 0, .int .u64 0, .int .u64 0, .int .i64 0, .int .i64 0] 39)) (w.heap.size + 1) 39 #[uv b.b.v, uv b.b.m, uv b.lo, uv b.hi, sv b.sl, sv b.sh] := ((by simpa using Blk.new (w.alloc (.cells #[uv a.b.v, uv a.b.m, uv a.lo, uv a.hi, sv a.sl, sv a.sh] 39)) 39 #[uv b.b.v, uv b.b.m, uv b.lo, uv b.hi, sv b.sl, sv b.sh] : Blk _ (w.heap.size + 1) 39 #[uv b.b.v, uv b.b.m, uv b.lo, uv b.hi, sv b.sl, sv b.sh])).alloc _
      have Br : Blk (((w.alloc (.cells #[uv a.b.v, uv a.b.m, uv a.lo, uv a.hi, sv a.sl, sv a.sh] 39)).alloc (.cells #[uv b.b.v, uv b.b.m, uv b.lo, uv b.hi, sv b.sl, sv b.sh] 39)).alloc (.cells #[.int .u64 0, .int .u64 0, .int .u64 0, .int .u64 0, .int .i64 0, .int .i64 0] 39)) (w.heap.size + 1 + 1) 39 #[.int .u64 0, .int .u64 0, .int .u64 0, .int .u64 0, .int .i64 0, .int .i64 0] := (by simpa using Blk.new ((w.alloc (.cells #[uv a.b.v, uv a.b.m, uv a.lo, uv a.hi, sv a.sl, sv a.sh] 39)).alloc (.cells #[uv b.b.v, uv b.b.m, uv b.lo, uv b.hi, sv b.sl, sv b.sh] 39)) 39 #[.int .u64 0, .int .u64 0, .int .u64 0, .int .u64 0, .int .i64 0, .int .i64 0] : Blk _ (w.heap.size + 1 + 1) 39 #[.int .u64 0, .int .u64 0, .int .u64 0, .int .u64 0, .int .i64 0, .int .i64 0])
      have hB : Below w.heap.size w (((w.alloc (.cells #[uv a.b.v, uv a.b.m, uv a.lo, uv a.hi, sv a.sl, sv a.sh] 39)).alloc (.cells #[uv b.b.v, uv b.b.m, uv b.lo, uv b.hi, sv b.sl, sv b.sh] 39)).alloc (.cells #[.int .u64 0, .int .u64 0, .int .u64 0, .int .u64 0, .int .i64 0, .int .i64 0] 39)) := (Bl_alloc (Bl_alloc (Bl_alloc (Bl_refl w) _) _) _)
      clear hga
      clear ga
      clear hgb
      clear gb
      clear hgr
      clear gr
      generalize (((w.alloc (.cells #[uv a.b.v, uv a.b.m, uv a.lo, uv a.hi, sv a.sl, sv a.sh] 39)).alloc (.cells #[uv b.b.v, uv b.b.m, uv b.lo, uv b.hi, sv b.sl, sv b.sh] 39)).alloc (.cells #[.int .u64 0, .int .u64 0, .int .u64 0, .int .u64 0, .int .i64 0, .int .i64 0] 39)) = w1 at *
      have ca0 : w1.cell? ⟨w.heap.size, 0, none⟩ = some (uv a.b.v) := Ba.cell 0
      have ca1 : w1.cell? ⟨w.heap.size, 1, none⟩ = some (uv a.b.m) := Ba.cell 1
      have ca2 : w1.cell? ⟨w.heap.size, 2, none⟩ = some (uv a.lo) := Ba.cell 2
      have ca3 : w1.cell? ⟨w.heap.size, 3, none⟩ = some (uv a.hi) := Ba.cell 3
      have ca4 : w1.cell? ⟨w.heap.size, 4, none⟩ = some (sv a.sl) := Ba.cell 4
      have ca5 : w1.cell? ⟨w.heap.size, 5, none⟩ = some (sv a.sh) := Ba.cell 5
      have fa := Ba.frozen
      have la := Ba.lt
      have cb0 : w1.cell? ⟨w.heap.size + 1, 0, none⟩ = some (uv b.b.v) := Bb.cell 0
      have cb1 : w1.cell? ⟨w.heap.size + 1, 1, none⟩ = some (uv b.b.m) := Bb.cell 1
      have cb2 : w1.cell? ⟨w.heap.size + 1, 2, none⟩ = some (uv b.lo) := Bb.cell 2
      have cb3 : w1.cell? ⟨w.heap.size + 1, 3, none⟩ = some (uv b.hi) := Bb.cell 3
      have cb4 : w1.cell? ⟨w.heap.size + 1, 4, none⟩ = some (sv b.sl) := Bb.cell 4
      have cb5 : w1.cell? ⟨w.heap.size + 1, 5, none⟩ = some (sv b.sh) := Bb.cell 5
      have fb := Bb.frozen
      have lb := Bb.lt
      have cr0 : w1.cell? ⟨w.heap.size + 1 + 1, 0, none⟩ = some (.int .u64 0) := Br.cell 0
      have cr1 : w1.cell? ⟨w.heap.size + 1 + 1, 1, none⟩ = some (.int .u64 0) := Br.cell 1
      have cr2 : w1.cell? ⟨w.heap.size + 1 + 1, 2, none⟩ = some (.int .u64 0) := Br.cell 2
      have cr3 : w1.cell? ⟨w.heap.size + 1 + 1, 3, none⟩ = some (.int .u64 0) := Br.cell 3
      have cr4 : w1.cell? ⟨w.heap.size + 1 + 1, 4, none⟩ = some (.int .i64 0) := Br.cell 4
      have cr5 : w1.cell? ⟨w.heap.size + 1 + 1, 5, none⟩ = some (.int .i64 0) := Br.cell 5
      have fr := Br.frozen
      have lr := Br.lt
      go_wp2_with fail
      refine (alone_b _ _ q1 _).mono ?_
      rintro e w2 ⟨rfl, hb⟩
      clear ca0 ca1 ca2 ca3 ca4 ca5 fa la
      clear cb0 cb1 cb2 cb3 cb4 cb5 fb lb
      clear cr0 cr1 cr2 cr3 cr4 cr5 fr lr
      replace Ba := (Ba).next hb
      replace Bb := (Bb).next hb
      replace Br := (Br).next hb
      replace hB : Below w.heap.size w w2 := by repeat (first | exact hB | (refine Bl_set ?_ (by first | omega | (simp; omega)) _) | apply Bl_alloc | (refine Bl_trans ?_ hb))
      clear hb
      have ca0 : w2.cell? ⟨w.heap.size, 0, none⟩ = some (uv a.b.v) := Ba.cell 0
      have ca1 : w2.cell? ⟨w.heap.size, 1, none⟩ = some (uv a.b.m) := Ba.cell 1
      have ca2 : w2.cell? ⟨w.heap.size, 2, none⟩ = some (uv a.lo) := Ba.cell 2
      have ca3 : w2.cell? ⟨w.heap.size, 3, none⟩ = some (uv a.hi) := Ba.cell 3
      have ca4 : w2.cell? ⟨w.heap.size, 4, none⟩ = some (sv a.sl) := Ba.cell 4
      have ca5 : w2.cell? ⟨w.heap.size, 5, none⟩ = some (sv a.sh) := Ba.cell 5
      have fa := Ba.frozen
      have la := Ba.lt
      have cb0 : w2.cell? ⟨w.heap.size + 1, 0, none⟩ = some (uv b.b.v) := Bb.cell 0
      have cb1 : w2.cell? ⟨w.heap.size + 1, 1, none⟩ = some (uv b.b.m) := Bb.cell 1
      have cb2 : w2.cell? ⟨w.heap.size + 1, 2, none⟩ = some (uv b.lo) := Bb.cell 2
      have cb3 : w2.cell? ⟨w.heap.size + 1, 3, none⟩ = some (uv b.hi) := Bb.cell 3
      have cb4 : w2.cell? ⟨w.heap.size + 1, 4, none⟩ = some (sv b.sl) := Bb.cell 4
      have cb5 : w2.cell? ⟨w.heap.size + 1, 5, none⟩ = some (sv b.sh) := Bb.cell 5
      have fb := Bb.frozen
      have lb := Bb.lt
      have cr0 : w2.cell? ⟨w.heap.size + 1 + 1, 0, none⟩ = some (.int .u64 0) := Br.cell 0
      have cr1 : w2.cell? ⟨w.heap.size + 1 + 1, 1, none⟩ = some (.int .u64 0) := Br.cell 1
      have cr2 : w2.cell? ⟨w.heap.size + 1 + 1, 2, none⟩ = some (.int .u64 0) := Br.cell 2
      have cr3 : w2.cell? ⟨w.heap.size + 1 + 1, 3, none⟩ = some (.int .u64 0) := Br.cell 3
      have cr4 : w2.cell? ⟨w.heap.size + 1 + 1, 4, none⟩ = some (.int .i64 0) := Br.cell 4
      have cr5 : w2.cell? ⟨w.heap.size + 1 + 1, 5, none⟩ = some (.int .i64 0) := Br.cell 5
      have fr := Br.frozen
      have lr := Br.lt
      go_wp2_with fail
      refine (sany_c _).mono ?_
      rintro e w3 ⟨rfl, hb⟩
      clear ca0 ca1 ca2 ca3 ca4 ca5 fa la
      clear cb0 cb1 cb2 cb3 cb4 cb5 fb lb
      clear cr0 cr1 cr2 cr3 cr4 cr5 fr lr
      replace Ba := (Ba).next hb
      replace Bb := (Bb).next hb
      replace Br := (Br).next hb
      replace hB : Below w.heap.size w w3 := by repeat (first | exact hB | (refine Bl_set ?_ (by first | omega | (simp; omega)) _) | apply Bl_alloc | (refine Bl_trans ?_ hb))
      clear hb
      have ca0 : w3.cell? ⟨w.heap.size, 0, none⟩ = some (uv a.b.v) := Ba.cell 0
      have ca1 : w3.cell? ⟨w.heap.size, 1, none⟩ = some (uv a.b.m) := Ba.cell 1
      have ca2 : w3.cell? ⟨w.heap.size, 2, none⟩ = some (uv a.lo) := Ba.cell 2
      have ca3 : w3.cell? ⟨w.heap.size, 3, none⟩ = some (uv a.hi) := Ba.cell 3
      have ca4 : w3.cell? ⟨w.heap.size, 4, none⟩ = some (sv a.sl) := Ba.cell 4
      have ca5 : w3.cell? ⟨w.heap.size, 5, none⟩ = some (sv a.sh) := Ba.cell 5
      have fa := Ba.frozen
      have la := Ba.lt
      have cb0 : w3.cell? ⟨w.heap.size + 1, 0, none⟩ = some (uv b.b.v) := Bb.cell 0
      have cb1 : w3.cell? ⟨w.heap.size + 1, 1, none⟩ = some (uv b.b.m) := Bb.cell 1
      have cb2 : w3.cell? ⟨w.heap.size + 1, 2, none⟩ = some (uv b.lo) := Bb.cell 2
      have cb3 : w3.cell? ⟨w.heap.size + 1, 3, none⟩ = some (uv b.hi) := Bb.cell 3
      have cb4 : w3.cell? ⟨w.heap.size + 1, 4, none⟩ = some (sv b.sl) := Bb.cell 4
      have cb5 : w3.cell? ⟨w.heap.size + 1, 5, none⟩ = some (sv b.sh) := Bb.cell 5
      have fb := Bb.frozen
      have lb := Bb.lt
      have cr0 : w3.cell? ⟨w.heap.size + 1 + 1, 0, none⟩ = some (.int .u64 0) := Br.cell 0
      have cr1 : w3.cell? ⟨w.heap.size + 1 + 1, 1, none⟩ = some (.int .u64 0) := Br.cell 1
      have cr2 : w3.cell? ⟨w.heap.size + 1 + 1, 2, none⟩ = some (.int .u64 0) := Br.cell 2
      have cr3 : w3.cell? ⟨w.heap.size + 1 + 1, 3, none⟩ = some (.int .u64 0) := Br.cell 3
      have cr4 : w3.cell? ⟨w.heap.size + 1 + 1, 4, none⟩ = some (.int .i64 0) := Br.cell 4
      have cr5 : w3.cell? ⟨w.heap.size + 1 + 1, 5, none⟩ = some (.int .i64 0) := Br.cell 5
      have fr := Br.frozen
      have lr := Br.lt
      go_wp2
      exact bodyPost_ret (v := rv PlainScalar.any) (by simp [results, Try.results46, go_sem, cr0, cr1, cr2, cr3, cr4, cr5, lr]) rfl ⟨by rw [hs], by repeat (first | (with_reducible exact hB) | (with_reducible refine Bl_set ?_ (by first | omega | (simp; done) | (simp; omega)) _) | with_reducible apply Bl_alloc)⟩
  · have hal : ¬ ¬ PlainScalar.alone b = true := fun h => h q1
    cases l
    · by_cases h12 : op = 12
      · subst h12
        cases q3 : decide (2147483647 < T a.hi)
        · have hs : PlainScalar.moved 12 false a b = PlainScalar.shifted 12 (PlainScalar.count false b.lo) a := by unfold PlainScalar.moved; have := of_decide_eq_false q3; rw [if_neg hal, if_neg (fun h => this (by have := h.2.2; unfold T; omega))]
          have hc : PlainScalar.count false b.lo = b.lo.toNat % 32 := by unfold PlainScalar.count; simp
          rw [hc] at hs
          have hm : (T b.lo).tmod 32 = (b.lo.toNat : Int) % 32 := by rw [u_rem32]; omega
          have hu : IntKind.u64.wrap 32 = 32 := by decide
          have hw : IntKind.i64.wrap ((b.lo.toNat : Int) % 32) = (b.lo.toNat : Int) % 32 := IntWalk.i64_in _ (by omega)
          go_enter Try.func46, Try.ntmps46
          go_wp2_with fail
          obtain ⟨ga, hga⟩ : ∃ g, g = w.heap.size := ⟨_, rfl⟩
          obtain ⟨gb, hgb⟩ : ∃ g, g = w.heap.size + 1 := ⟨_, rfl⟩
          obtain ⟨gr, hgr⟩ : ∃ g, g = w.heap.size + 1 + 1 := ⟨_, rfl⟩
          have Ba : Blk (((w.alloc (.cells #[uv a.b.v, uv a.b.m, uv a.lo, uv a.hi, sv a.sl, sv a.sh] 39)).alloc (.cells #[uv b.b.v, uv b.b.m, uv b.lo, uv b.hi, sv b.sl, sv b.sh] 39)).alloc (.cells #[.int .u64 0, .int .u64 0, .int .u64 0, .int .u64 0, .int .i64 0, .int .i64 0] 39)) (w.heap.size) 39 #[uv a.b.v, uv a.b.m, uv a.lo, uv a.hi, sv a.sl, sv a.sh] := (((Blk.new w 39 #[uv a.b.v, uv a.b.m, uv a.lo, uv a.hi, sv a.sl, sv a.sh])).alloc _).alloc _
          have Bb : Blk (((w.alloc (.cells #[uv a.b.v, uv a.b.m, uv a.lo, uv a.hi, sv a.sl, sv a.sh] 39)).alloc (.cells #[uv b.b.v, uv b.b.m, uv b.lo, uv b.hi, sv b.sl, sv b.sh] 39)).alloc (.cells #[.int .u64 0, .int .u64 0, .int .u64 0, .int .u64 0, .int .i64 0, .int .i64 0] 39)) (w.heap.size + 1) 39 #[uv b.b.v, uv b.b.m, uv b.lo, uv b.hi, sv b.sl, sv b.sh] := ((by simpa using Blk.new (w.alloc (.cells #[uv a.b.v, uv a.b.m, uv a.lo, uv a.hi, sv a.sl, sv a.sh] 39)) 39 #[uv b.b.v, uv b.b.m, uv b.lo, uv b.hi, sv b.sl, sv b.sh] : Blk _ (w.heap.size + 1) 39 #[uv b.b.v, uv b.b.m, uv b.lo, uv b.hi, sv b.sl, sv b.sh])).alloc _
          have Br : Blk (((w.alloc (.cells #[uv a.b.v, uv a.b.m, uv a.lo, uv a.hi, sv a.sl, sv a.sh] 39)).alloc (.cells #[uv b.b.v, uv b.b.m, uv b.lo, uv b.hi, sv b.sl, sv b.sh] 39)).alloc (.cells #[.int .u64 0, .int .u64 0, .int .u64 0, .int .u64 0, .int .i64 0, .int .i64 0] 39)) (w.heap.size + 1 + 1) 39 #[.int .u64 0, .int .u64 0, .int .u64 0, .int .u64 0, .int .i64 0, .int .i64 0] := (by simpa using Blk.new ((w.alloc (.cells #[uv a.b.v, uv a.b.m, uv a.lo, uv a.hi, sv a.sl, sv a.sh] 39)).alloc (.cells #[uv b.b.v, uv b.b.m, uv b.lo, uv b.hi, sv b.sl, sv b.sh] 39)) 39 #[.int .u64 0, .int .u64 0, .int .u64 0, .int .u64 0, .int .i64 0, .int .i64 0] : Blk _ (w.heap.size + 1 + 1) 39 #[.int .u64 0, .int .u64 0, .int .u64 0, .int .u64 0, .int .i64 0, .int .i64 0])
          have hB : Below w.heap.size w (((w.alloc (.cells #[uv a.b.v, uv a.b.m, uv a.lo, uv a.hi, sv a.sl, sv a.sh] 39)).alloc (.cells #[uv b.b.v, uv b.b.m, uv b.lo, uv b.hi, sv b.sl, sv b.sh] 39)).alloc (.cells #[.int .u64 0, .int .u64 0, .int .u64 0, .int .u64 0, .int .i64 0, .int .i64 0] 39)) := (Bl_alloc (Bl_alloc (Bl_alloc (Bl_refl w) _) _) _)
          clear hga
          clear ga
          clear hgb
          clear gb
          clear hgr
          clear gr
          generalize (((w.alloc (.cells #[uv a.b.v, uv a.b.m, uv a.lo, uv a.hi, sv a.sl, sv a.sh] 39)).alloc (.cells #[uv b.b.v, uv b.b.m, uv b.lo, uv b.hi, sv b.sl, sv b.sh] 39)).alloc (.cells #[.int .u64 0, .int .u64 0, .int .u64 0, .int .u64 0, .int .i64 0, .int .i64 0] 39)) = w1 at *
          have ca0 : w1.cell? ⟨w.heap.size, 0, none⟩ = some (uv a.b.v) := Ba.cell 0
          have ca1 : w1.cell? ⟨w.heap.size, 1, none⟩ = some (uv a.b.m) := Ba.cell 1
          have ca2 : w1.cell? ⟨w.heap.size, 2, none⟩ = some (uv a.lo) := Ba.cell 2
          have ca3 : w1.cell? ⟨w.heap.size, 3, none⟩ = some (uv a.hi) := Ba.cell 3
          have ca4 : w1.cell? ⟨w.heap.size, 4, none⟩ = some (sv a.sl) := Ba.cell 4
          have ca5 : w1.cell? ⟨w.heap.size, 5, none⟩ = some (sv a.sh) := Ba.cell 5
          have fa := Ba.frozen
          have la := Ba.lt
          have cb0 : w1.cell? ⟨w.heap.size + 1, 0, none⟩ = some (uv b.b.v) := Bb.cell 0
          have cb1 : w1.cell? ⟨w.heap.size + 1, 1, none⟩ = some (uv b.b.m) := Bb.cell 1
          have cb2 : w1.cell? ⟨w.heap.size + 1, 2, none⟩ = some (uv b.lo) := Bb.cell 2
          have cb3 : w1.cell? ⟨w.heap.size + 1, 3, none⟩ = some (uv b.hi) := Bb.cell 3
          have cb4 : w1.cell? ⟨w.heap.size + 1, 4, none⟩ = some (sv b.sl) := Bb.cell 4
          have cb5 : w1.cell? ⟨w.heap.size + 1, 5, none⟩ = some (sv b.sh) := Bb.cell 5
          have fb := Bb.frozen
          have lb := Bb.lt
          have cr0 : w1.cell? ⟨w.heap.size + 1 + 1, 0, none⟩ = some (.int .u64 0) := Br.cell 0
          have cr1 : w1.cell? ⟨w.heap.size + 1 + 1, 1, none⟩ = some (.int .u64 0) := Br.cell 1
          have cr2 : w1.cell? ⟨w.heap.size + 1 + 1, 2, none⟩ = some (.int .u64 0) := Br.cell 2
          have cr3 : w1.cell? ⟨w.heap.size + 1 + 1, 3, none⟩ = some (.int .u64 0) := Br.cell 3
          have cr4 : w1.cell? ⟨w.heap.size + 1 + 1, 4, none⟩ = some (.int .i64 0) := Br.cell 4
          have cr5 : w1.cell? ⟨w.heap.size + 1 + 1, 5, none⟩ = some (.int .i64 0) := Br.cell 5
          have fr := Br.frozen
          have lr := Br.lt
          go_wp2_with fail
          refine (alone_b _ _ q1 _).mono ?_
          rintro e w2 ⟨rfl, hb⟩
          clear ca0 ca1 ca2 ca3 ca4 ca5 fa la
          clear cb0 cb1 cb2 cb3 cb4 cb5 fb lb
          clear cr0 cr1 cr2 cr3 cr4 cr5 fr lr
          replace Ba := (Ba).next hb
          replace Bb := (Bb).next hb
          replace Br := (Br).next hb
          replace hB : Below w.heap.size w w2 := by repeat (first | exact hB | (refine Bl_set ?_ (by first | omega | (simp; omega)) _) | apply Bl_alloc | (refine Bl_trans ?_ hb))
          clear hb
          have ca0 : w2.cell? ⟨w.heap.size, 0, none⟩ = some (uv a.b.v) := Ba.cell 0
          have ca1 : w2.cell? ⟨w.heap.size, 1, none⟩ = some (uv a.b.m) := Ba.cell 1
          have ca2 : w2.cell? ⟨w.heap.size, 2, none⟩ = some (uv a.lo) := Ba.cell 2
          have ca3 : w2.cell? ⟨w.heap.size, 3, none⟩ = some (uv a.hi) := Ba.cell 3
          have ca4 : w2.cell? ⟨w.heap.size, 4, none⟩ = some (sv a.sl) := Ba.cell 4
          have ca5 : w2.cell? ⟨w.heap.size, 5, none⟩ = some (sv a.sh) := Ba.cell 5
          have fa := Ba.frozen
          have la := Ba.lt
          have cb0 : w2.cell? ⟨w.heap.size + 1, 0, none⟩ = some (uv b.b.v) := Bb.cell 0
          have cb1 : w2.cell? ⟨w.heap.size + 1, 1, none⟩ = some (uv b.b.m) := Bb.cell 1
          have cb2 : w2.cell? ⟨w.heap.size + 1, 2, none⟩ = some (uv b.lo) := Bb.cell 2
          have cb3 : w2.cell? ⟨w.heap.size + 1, 3, none⟩ = some (uv b.hi) := Bb.cell 3
          have cb4 : w2.cell? ⟨w.heap.size + 1, 4, none⟩ = some (sv b.sl) := Bb.cell 4
          have cb5 : w2.cell? ⟨w.heap.size + 1, 5, none⟩ = some (sv b.sh) := Bb.cell 5
          have fb := Bb.frozen
          have lb := Bb.lt
          have cr0 : w2.cell? ⟨w.heap.size + 1 + 1, 0, none⟩ = some (.int .u64 0) := Br.cell 0
          have cr1 : w2.cell? ⟨w.heap.size + 1 + 1, 1, none⟩ = some (.int .u64 0) := Br.cell 1
          have cr2 : w2.cell? ⟨w.heap.size + 1 + 1, 2, none⟩ = some (.int .u64 0) := Br.cell 2
          have cr3 : w2.cell? ⟨w.heap.size + 1 + 1, 3, none⟩ = some (.int .u64 0) := Br.cell 3
          have cr4 : w2.cell? ⟨w.heap.size + 1 + 1, 4, none⟩ = some (.int .i64 0) := Br.cell 4
          have cr5 : w2.cell? ⟨w.heap.size + 1 + 1, 5, none⟩ = some (.int .i64 0) := Br.cell 5
          have fr := Br.frozen
          have lr := Br.lt
          go_wp2_with fail
          replace ca0 : ∀ g : Later w2, g.w.cell? ⟨w.heap.size, 0, none⟩ = some (uv a.b.v) := fun g => g.cell (Ba.cell 0)
          replace ca1 : ∀ g : Later w2, g.w.cell? ⟨w.heap.size, 1, none⟩ = some (uv a.b.m) := fun g => g.cell (Ba.cell 1)
          replace ca2 : ∀ g : Later w2, g.w.cell? ⟨w.heap.size, 2, none⟩ = some (uv a.lo) := fun g => g.cell (Ba.cell 2)
          replace ca3 : ∀ g : Later w2, g.w.cell? ⟨w.heap.size, 3, none⟩ = some (uv a.hi) := fun g => g.cell (Ba.cell 3)
          replace ca4 : ∀ g : Later w2, g.w.cell? ⟨w.heap.size, 4, none⟩ = some (sv a.sl) := fun g => g.cell (Ba.cell 4)
          replace ca5 : ∀ g : Later w2, g.w.cell? ⟨w.heap.size, 5, none⟩ = some (sv a.sh) := fun g => g.cell (Ba.cell 5)
          replace cb0 : ∀ g : Later w2, g.w.cell? ⟨w.heap.size + 1, 0, none⟩ = some (uv b.b.v) := fun g => g.cell (Bb.cell 0)
          replace cb1 : ∀ g : Later w2, g.w.cell? ⟨w.heap.size + 1, 1, none⟩ = some (uv b.b.m) := fun g => g.cell (Bb.cell 1)
          replace cb2 : ∀ g : Later w2, g.w.cell? ⟨w.heap.size + 1, 2, none⟩ = some (uv b.lo) := fun g => g.cell (Bb.cell 2)
          replace cb3 : ∀ g : Later w2, g.w.cell? ⟨w.heap.size + 1, 3, none⟩ = some (uv b.hi) := fun g => g.cell (Bb.cell 3)
          replace cb4 : ∀ g : Later w2, g.w.cell? ⟨w.heap.size + 1, 4, none⟩ = some (sv b.sl) := fun g => g.cell (Bb.cell 4)
          replace cb5 : ∀ g : Later w2, g.w.cell? ⟨w.heap.size + 1, 5, none⟩ = some (sv b.sh) := fun g => g.cell (Bb.cell 5)
          replace cr0 : ∀ g : Later w2, g.w.cell? ⟨w.heap.size + 1 + 1, 0, none⟩ = some (.int .u64 0) := fun g => g.cell (Br.cell 0)
          replace cr1 : ∀ g : Later w2, g.w.cell? ⟨w.heap.size + 1 + 1, 1, none⟩ = some (.int .u64 0) := fun g => g.cell (Br.cell 1)
          replace cr2 : ∀ g : Later w2, g.w.cell? ⟨w.heap.size + 1 + 1, 2, none⟩ = some (.int .u64 0) := fun g => g.cell (Br.cell 2)
          replace cr3 : ∀ g : Later w2, g.w.cell? ⟨w.heap.size + 1 + 1, 3, none⟩ = some (.int .u64 0) := fun g => g.cell (Br.cell 3)
          replace cr4 : ∀ g : Later w2, g.w.cell? ⟨w.heap.size + 1 + 1, 4, none⟩ = some (.int .i64 0) := fun g => g.cell (Br.cell 4)
          replace cr5 : ∀ g : Later w2, g.w.cell? ⟨w.heap.size + 1 + 1, 5, none⟩ = some (.int .i64 0) := fun g => g.cell (Br.cell 5)
          refine wp_region_mix 9 (fun _ => #[]) (by kernel_rfl) (by kernel_rfl) (no_alloc (by kernel_rfl)) ?_
          simp only [List.take_succ_cons, List.take_zero, List.drop_succ_cons, List.drop_zero]
          repeat (refine wpMix_step (fun K hK => ?_); go_simp; first | (refine hK _ ?_; clear hK K) | (apply Exists.intro; refine ⟨fun g => ?_, hK _ ?_⟩; (go_at_call 59; exact sshifted_32 _ b.lo a g.w); clear hK K))
          refine wpMix_nil ?_
          intro G w3 hgr hblk hdist
          have hb : Below w2.heap.size w2 w3 := hgr
          replace Ba := Ba.next hb
          replace Bb := Bb.next hb
          replace Br := Br.next hb
          clear ca0 ca1 ca2 ca3 ca4 ca5 fa la
          clear cb0 cb1 cb2 cb3 cb4 cb5 fb lb
          clear cr0 cr1 cr2 cr3 cr4 cr5 fr lr
          replace hB : Below w.heap.size w w3 := Bl_trans hB hb
          simp only [putAll, isAlloc]
          clear hb hgr hblk hdist
          have ca0 : w3.cell? ⟨w.heap.size, 0, none⟩ = some (uv a.b.v) := Ba.cell 0
          have ca1 : w3.cell? ⟨w.heap.size, 1, none⟩ = some (uv a.b.m) := Ba.cell 1
          have ca2 : w3.cell? ⟨w.heap.size, 2, none⟩ = some (uv a.lo) := Ba.cell 2
          have ca3 : w3.cell? ⟨w.heap.size, 3, none⟩ = some (uv a.hi) := Ba.cell 3
          have ca4 : w3.cell? ⟨w.heap.size, 4, none⟩ = some (sv a.sl) := Ba.cell 4
          have ca5 : w3.cell? ⟨w.heap.size, 5, none⟩ = some (sv a.sh) := Ba.cell 5
          have fa := Ba.frozen
          have la := Ba.lt
          have cb0 : w3.cell? ⟨w.heap.size + 1, 0, none⟩ = some (uv b.b.v) := Bb.cell 0
          have cb1 : w3.cell? ⟨w.heap.size + 1, 1, none⟩ = some (uv b.b.m) := Bb.cell 1
          have cb2 : w3.cell? ⟨w.heap.size + 1, 2, none⟩ = some (uv b.lo) := Bb.cell 2
          have cb3 : w3.cell? ⟨w.heap.size + 1, 3, none⟩ = some (uv b.hi) := Bb.cell 3
          have cb4 : w3.cell? ⟨w.heap.size + 1, 4, none⟩ = some (sv b.sl) := Bb.cell 4
          have cb5 : w3.cell? ⟨w.heap.size + 1, 5, none⟩ = some (sv b.sh) := Bb.cell 5
          have fb := Bb.frozen
          have lb := Bb.lt
          have cr0 : w3.cell? ⟨w.heap.size + 1 + 1, 0, none⟩ = some (.int .u64 0) := Br.cell 0
          have cr1 : w3.cell? ⟨w.heap.size + 1 + 1, 1, none⟩ = some (.int .u64 0) := Br.cell 1
          have cr2 : w3.cell? ⟨w.heap.size + 1 + 1, 2, none⟩ = some (.int .u64 0) := Br.cell 2
          have cr3 : w3.cell? ⟨w.heap.size + 1 + 1, 3, none⟩ = some (.int .u64 0) := Br.cell 3
          have cr4 : w3.cell? ⟨w.heap.size + 1 + 1, 4, none⟩ = some (.int .i64 0) := Br.cell 4
          have cr5 : w3.cell? ⟨w.heap.size + 1 + 1, 5, none⟩ = some (.int .i64 0) := Br.cell 5
          have fr := Br.frozen
          have lr := Br.lt
          go_wp2
          exact bodyPost_ret (v := rv (PlainScalar.shifted 12 (b.lo.toNat % 32) a)) (by simp [results, Try.results46, go_sem, cr0, cr1, cr2, cr3, cr4, cr5, lr]) rfl ⟨by rw [hs], by repeat (first | (with_reducible exact hB) | (with_reducible refine Bl_set ?_ (by first | omega | (simp; done) | (simp; omega)) _) | with_reducible apply Bl_alloc)⟩
        · have hs : PlainScalar.moved 12 false a b = PlainScalar.between 0#64 4294967295#64 := by unfold PlainScalar.moved; have := of_decide_eq_true q3; rw [if_neg hal, if_pos ⟨rfl, rfl, by unfold T at this; omega⟩]
          go_enter Try.func46, Try.ntmps46
          go_wp2_with fail
          obtain ⟨ga, hga⟩ : ∃ g, g = w.heap.size := ⟨_, rfl⟩
          obtain ⟨gb, hgb⟩ : ∃ g, g = w.heap.size + 1 := ⟨_, rfl⟩
          obtain ⟨gr, hgr⟩ : ∃ g, g = w.heap.size + 1 + 1 := ⟨_, rfl⟩
          have Ba : Blk (((w.alloc (.cells #[uv a.b.v, uv a.b.m, uv a.lo, uv a.hi, sv a.sl, sv a.sh] 39)).alloc (.cells #[uv b.b.v, uv b.b.m, uv b.lo, uv b.hi, sv b.sl, sv b.sh] 39)).alloc (.cells #[.int .u64 0, .int .u64 0, .int .u64 0, .int .u64 0, .int .i64 0, .int .i64 0] 39)) (w.heap.size) 39 #[uv a.b.v, uv a.b.m, uv a.lo, uv a.hi, sv a.sl, sv a.sh] := (((Blk.new w 39 #[uv a.b.v, uv a.b.m, uv a.lo, uv a.hi, sv a.sl, sv a.sh])).alloc _).alloc _
          have Bb : Blk (((w.alloc (.cells #[uv a.b.v, uv a.b.m, uv a.lo, uv a.hi, sv a.sl, sv a.sh] 39)).alloc (.cells #[uv b.b.v, uv b.b.m, uv b.lo, uv b.hi, sv b.sl, sv b.sh] 39)).alloc (.cells #[.int .u64 0, .int .u64 0, .int .u64 0, .int .u64 0, .int .i64 0, .int .i64 0] 39)) (w.heap.size + 1) 39 #[uv b.b.v, uv b.b.m, uv b.lo, uv b.hi, sv b.sl, sv b.sh] := ((by simpa using Blk.new (w.alloc (.cells #[uv a.b.v, uv a.b.m, uv a.lo, uv a.hi, sv a.sl, sv a.sh] 39)) 39 #[uv b.b.v, uv b.b.m, uv b.lo, uv b.hi, sv b.sl, sv b.sh] : Blk _ (w.heap.size + 1) 39 #[uv b.b.v, uv b.b.m, uv b.lo, uv b.hi, sv b.sl, sv b.sh])).alloc _
          have Br : Blk (((w.alloc (.cells #[uv a.b.v, uv a.b.m, uv a.lo, uv a.hi, sv a.sl, sv a.sh] 39)).alloc (.cells #[uv b.b.v, uv b.b.m, uv b.lo, uv b.hi, sv b.sl, sv b.sh] 39)).alloc (.cells #[.int .u64 0, .int .u64 0, .int .u64 0, .int .u64 0, .int .i64 0, .int .i64 0] 39)) (w.heap.size + 1 + 1) 39 #[.int .u64 0, .int .u64 0, .int .u64 0, .int .u64 0, .int .i64 0, .int .i64 0] := (by simpa using Blk.new ((w.alloc (.cells #[uv a.b.v, uv a.b.m, uv a.lo, uv a.hi, sv a.sl, sv a.sh] 39)).alloc (.cells #[uv b.b.v, uv b.b.m, uv b.lo, uv b.hi, sv b.sl, sv b.sh] 39)) 39 #[.int .u64 0, .int .u64 0, .int .u64 0, .int .u64 0, .int .i64 0, .int .i64 0] : Blk _ (w.heap.size + 1 + 1) 39 #[.int .u64 0, .int .u64 0, .int .u64 0, .int .u64 0, .int .i64 0, .int .i64 0])
          have hB : Below w.heap.size w (((w.alloc (.cells #[uv a.b.v, uv a.b.m, uv a.lo, uv a.hi, sv a.sl, sv a.sh] 39)).alloc (.cells #[uv b.b.v, uv b.b.m, uv b.lo, uv b.hi, sv b.sl, sv b.sh] 39)).alloc (.cells #[.int .u64 0, .int .u64 0, .int .u64 0, .int .u64 0, .int .i64 0, .int .i64 0] 39)) := (Bl_alloc (Bl_alloc (Bl_alloc (Bl_refl w) _) _) _)
          clear hga
          clear ga
          clear hgb
          clear gb
          clear hgr
          clear gr
          generalize (((w.alloc (.cells #[uv a.b.v, uv a.b.m, uv a.lo, uv a.hi, sv a.sl, sv a.sh] 39)).alloc (.cells #[uv b.b.v, uv b.b.m, uv b.lo, uv b.hi, sv b.sl, sv b.sh] 39)).alloc (.cells #[.int .u64 0, .int .u64 0, .int .u64 0, .int .u64 0, .int .i64 0, .int .i64 0] 39)) = w1 at *
          have ca0 : w1.cell? ⟨w.heap.size, 0, none⟩ = some (uv a.b.v) := Ba.cell 0
          have ca1 : w1.cell? ⟨w.heap.size, 1, none⟩ = some (uv a.b.m) := Ba.cell 1
          have ca2 : w1.cell? ⟨w.heap.size, 2, none⟩ = some (uv a.lo) := Ba.cell 2
          have ca3 : w1.cell? ⟨w.heap.size, 3, none⟩ = some (uv a.hi) := Ba.cell 3
          have ca4 : w1.cell? ⟨w.heap.size, 4, none⟩ = some (sv a.sl) := Ba.cell 4
          have ca5 : w1.cell? ⟨w.heap.size, 5, none⟩ = some (sv a.sh) := Ba.cell 5
          have fa := Ba.frozen
          have la := Ba.lt
          have cb0 : w1.cell? ⟨w.heap.size + 1, 0, none⟩ = some (uv b.b.v) := Bb.cell 0
          have cb1 : w1.cell? ⟨w.heap.size + 1, 1, none⟩ = some (uv b.b.m) := Bb.cell 1
          have cb2 : w1.cell? ⟨w.heap.size + 1, 2, none⟩ = some (uv b.lo) := Bb.cell 2
          have cb3 : w1.cell? ⟨w.heap.size + 1, 3, none⟩ = some (uv b.hi) := Bb.cell 3
          have cb4 : w1.cell? ⟨w.heap.size + 1, 4, none⟩ = some (sv b.sl) := Bb.cell 4
          have cb5 : w1.cell? ⟨w.heap.size + 1, 5, none⟩ = some (sv b.sh) := Bb.cell 5
          have fb := Bb.frozen
          have lb := Bb.lt
          have cr0 : w1.cell? ⟨w.heap.size + 1 + 1, 0, none⟩ = some (.int .u64 0) := Br.cell 0
          have cr1 : w1.cell? ⟨w.heap.size + 1 + 1, 1, none⟩ = some (.int .u64 0) := Br.cell 1
          have cr2 : w1.cell? ⟨w.heap.size + 1 + 1, 2, none⟩ = some (.int .u64 0) := Br.cell 2
          have cr3 : w1.cell? ⟨w.heap.size + 1 + 1, 3, none⟩ = some (.int .u64 0) := Br.cell 3
          have cr4 : w1.cell? ⟨w.heap.size + 1 + 1, 4, none⟩ = some (.int .i64 0) := Br.cell 4
          have cr5 : w1.cell? ⟨w.heap.size + 1 + 1, 5, none⟩ = some (.int .i64 0) := Br.cell 5
          have fr := Br.frozen
          have lr := Br.lt
          go_wp2_with fail
          refine (alone_b _ _ q1 _).mono ?_
          rintro e w2 ⟨rfl, hb⟩
          clear ca0 ca1 ca2 ca3 ca4 ca5 fa la
          clear cb0 cb1 cb2 cb3 cb4 cb5 fb lb
          clear cr0 cr1 cr2 cr3 cr4 cr5 fr lr
          replace Ba := (Ba).next hb
          replace Bb := (Bb).next hb
          replace Br := (Br).next hb
          replace hB : Below w.heap.size w w2 := by repeat (first | exact hB | (refine Bl_set ?_ (by first | omega | (simp; omega)) _) | apply Bl_alloc | (refine Bl_trans ?_ hb))
          clear hb
          have ca0 : w2.cell? ⟨w.heap.size, 0, none⟩ = some (uv a.b.v) := Ba.cell 0
          have ca1 : w2.cell? ⟨w.heap.size, 1, none⟩ = some (uv a.b.m) := Ba.cell 1
          have ca2 : w2.cell? ⟨w.heap.size, 2, none⟩ = some (uv a.lo) := Ba.cell 2
          have ca3 : w2.cell? ⟨w.heap.size, 3, none⟩ = some (uv a.hi) := Ba.cell 3
          have ca4 : w2.cell? ⟨w.heap.size, 4, none⟩ = some (sv a.sl) := Ba.cell 4
          have ca5 : w2.cell? ⟨w.heap.size, 5, none⟩ = some (sv a.sh) := Ba.cell 5
          have fa := Ba.frozen
          have la := Ba.lt
          have cb0 : w2.cell? ⟨w.heap.size + 1, 0, none⟩ = some (uv b.b.v) := Bb.cell 0
          have cb1 : w2.cell? ⟨w.heap.size + 1, 1, none⟩ = some (uv b.b.m) := Bb.cell 1
          have cb2 : w2.cell? ⟨w.heap.size + 1, 2, none⟩ = some (uv b.lo) := Bb.cell 2
          have cb3 : w2.cell? ⟨w.heap.size + 1, 3, none⟩ = some (uv b.hi) := Bb.cell 3
          have cb4 : w2.cell? ⟨w.heap.size + 1, 4, none⟩ = some (sv b.sl) := Bb.cell 4
          have cb5 : w2.cell? ⟨w.heap.size + 1, 5, none⟩ = some (sv b.sh) := Bb.cell 5
          have fb := Bb.frozen
          have lb := Bb.lt
          have cr0 : w2.cell? ⟨w.heap.size + 1 + 1, 0, none⟩ = some (.int .u64 0) := Br.cell 0
          have cr1 : w2.cell? ⟨w.heap.size + 1 + 1, 1, none⟩ = some (.int .u64 0) := Br.cell 1
          have cr2 : w2.cell? ⟨w.heap.size + 1 + 1, 2, none⟩ = some (.int .u64 0) := Br.cell 2
          have cr3 : w2.cell? ⟨w.heap.size + 1 + 1, 3, none⟩ = some (.int .u64 0) := Br.cell 3
          have cr4 : w2.cell? ⟨w.heap.size + 1 + 1, 4, none⟩ = some (.int .i64 0) := Br.cell 4
          have cr5 : w2.cell? ⟨w.heap.size + 1 + 1, 5, none⟩ = some (.int .i64 0) := Br.cell 5
          have fr := Br.frozen
          have lr := Br.lt
          go_wp2_with fail
          refine (between_c 0#64 4294967295#64 _).mono ?_
          rintro e w3 ⟨rfl, hb⟩
          clear ca0 ca1 ca2 ca3 ca4 ca5 fa la
          clear cb0 cb1 cb2 cb3 cb4 cb5 fb lb
          clear cr0 cr1 cr2 cr3 cr4 cr5 fr lr
          replace Ba := (Ba).next hb
          replace Bb := (Bb).next hb
          replace Br := (Br).next hb
          replace hB : Below w.heap.size w w3 := by repeat (first | exact hB | (refine Bl_set ?_ (by first | omega | (simp; omega)) _) | apply Bl_alloc | (refine Bl_trans ?_ hb))
          clear hb
          have ca0 : w3.cell? ⟨w.heap.size, 0, none⟩ = some (uv a.b.v) := Ba.cell 0
          have ca1 : w3.cell? ⟨w.heap.size, 1, none⟩ = some (uv a.b.m) := Ba.cell 1
          have ca2 : w3.cell? ⟨w.heap.size, 2, none⟩ = some (uv a.lo) := Ba.cell 2
          have ca3 : w3.cell? ⟨w.heap.size, 3, none⟩ = some (uv a.hi) := Ba.cell 3
          have ca4 : w3.cell? ⟨w.heap.size, 4, none⟩ = some (sv a.sl) := Ba.cell 4
          have ca5 : w3.cell? ⟨w.heap.size, 5, none⟩ = some (sv a.sh) := Ba.cell 5
          have fa := Ba.frozen
          have la := Ba.lt
          have cb0 : w3.cell? ⟨w.heap.size + 1, 0, none⟩ = some (uv b.b.v) := Bb.cell 0
          have cb1 : w3.cell? ⟨w.heap.size + 1, 1, none⟩ = some (uv b.b.m) := Bb.cell 1
          have cb2 : w3.cell? ⟨w.heap.size + 1, 2, none⟩ = some (uv b.lo) := Bb.cell 2
          have cb3 : w3.cell? ⟨w.heap.size + 1, 3, none⟩ = some (uv b.hi) := Bb.cell 3
          have cb4 : w3.cell? ⟨w.heap.size + 1, 4, none⟩ = some (sv b.sl) := Bb.cell 4
          have cb5 : w3.cell? ⟨w.heap.size + 1, 5, none⟩ = some (sv b.sh) := Bb.cell 5
          have fb := Bb.frozen
          have lb := Bb.lt
          have cr0 : w3.cell? ⟨w.heap.size + 1 + 1, 0, none⟩ = some (.int .u64 0) := Br.cell 0
          have cr1 : w3.cell? ⟨w.heap.size + 1 + 1, 1, none⟩ = some (.int .u64 0) := Br.cell 1
          have cr2 : w3.cell? ⟨w.heap.size + 1 + 1, 2, none⟩ = some (.int .u64 0) := Br.cell 2
          have cr3 : w3.cell? ⟨w.heap.size + 1 + 1, 3, none⟩ = some (.int .u64 0) := Br.cell 3
          have cr4 : w3.cell? ⟨w.heap.size + 1 + 1, 4, none⟩ = some (.int .i64 0) := Br.cell 4
          have cr5 : w3.cell? ⟨w.heap.size + 1 + 1, 5, none⟩ = some (.int .i64 0) := Br.cell 5
          have fr := Br.frozen
          have lr := Br.lt
          go_wp2
          exact bodyPost_ret (v := rv (PlainScalar.between 0#64 4294967295#64)) (by simp [results, Try.results46, go_sem, cr0, cr1, cr2, cr3, cr4, cr5, lr]) rfl ⟨by rw [hs], by repeat (first | (with_reducible exact hB) | (with_reducible refine Bl_set ?_ (by first | omega | (simp; done) | (simp; omega)) _) | with_reducible apply Bl_alloc)⟩
      · have e12 : (op == 12) = false := by simpa using h12
        have hs : PlainScalar.moved op false a b = PlainScalar.shifted op (PlainScalar.count false b.lo) a := by unfold PlainScalar.moved; rw [if_neg hal, if_neg (fun h => h12 h.1)]
        have hc : PlainScalar.count false b.lo = b.lo.toNat % 32 := by unfold PlainScalar.count; simp
        rw [hc] at hs
        have hm : (T b.lo).tmod 32 = (b.lo.toNat : Int) % 32 := by rw [u_rem32]; omega
        have hu : IntKind.u64.wrap 32 = 32 := by decide
        have hw : IntKind.i64.wrap ((b.lo.toNat : Int) % 32) = (b.lo.toNat : Int) % 32 := IntWalk.i64_in _ (by omega)
        go_enter Try.func46, Try.ntmps46
        go_wp2_with fail
        obtain ⟨ga, hga⟩ : ∃ g, g = w.heap.size := ⟨_, rfl⟩
        obtain ⟨gb, hgb⟩ : ∃ g, g = w.heap.size + 1 := ⟨_, rfl⟩
        obtain ⟨gr, hgr⟩ : ∃ g, g = w.heap.size + 1 + 1 := ⟨_, rfl⟩
        have Ba : Blk (((w.alloc (.cells #[uv a.b.v, uv a.b.m, uv a.lo, uv a.hi, sv a.sl, sv a.sh] 39)).alloc (.cells #[uv b.b.v, uv b.b.m, uv b.lo, uv b.hi, sv b.sl, sv b.sh] 39)).alloc (.cells #[.int .u64 0, .int .u64 0, .int .u64 0, .int .u64 0, .int .i64 0, .int .i64 0] 39)) (w.heap.size) 39 #[uv a.b.v, uv a.b.m, uv a.lo, uv a.hi, sv a.sl, sv a.sh] := (((Blk.new w 39 #[uv a.b.v, uv a.b.m, uv a.lo, uv a.hi, sv a.sl, sv a.sh])).alloc _).alloc _
        have Bb : Blk (((w.alloc (.cells #[uv a.b.v, uv a.b.m, uv a.lo, uv a.hi, sv a.sl, sv a.sh] 39)).alloc (.cells #[uv b.b.v, uv b.b.m, uv b.lo, uv b.hi, sv b.sl, sv b.sh] 39)).alloc (.cells #[.int .u64 0, .int .u64 0, .int .u64 0, .int .u64 0, .int .i64 0, .int .i64 0] 39)) (w.heap.size + 1) 39 #[uv b.b.v, uv b.b.m, uv b.lo, uv b.hi, sv b.sl, sv b.sh] := ((by simpa using Blk.new (w.alloc (.cells #[uv a.b.v, uv a.b.m, uv a.lo, uv a.hi, sv a.sl, sv a.sh] 39)) 39 #[uv b.b.v, uv b.b.m, uv b.lo, uv b.hi, sv b.sl, sv b.sh] : Blk _ (w.heap.size + 1) 39 #[uv b.b.v, uv b.b.m, uv b.lo, uv b.hi, sv b.sl, sv b.sh])).alloc _
        have Br : Blk (((w.alloc (.cells #[uv a.b.v, uv a.b.m, uv a.lo, uv a.hi, sv a.sl, sv a.sh] 39)).alloc (.cells #[uv b.b.v, uv b.b.m, uv b.lo, uv b.hi, sv b.sl, sv b.sh] 39)).alloc (.cells #[.int .u64 0, .int .u64 0, .int .u64 0, .int .u64 0, .int .i64 0, .int .i64 0] 39)) (w.heap.size + 1 + 1) 39 #[.int .u64 0, .int .u64 0, .int .u64 0, .int .u64 0, .int .i64 0, .int .i64 0] := (by simpa using Blk.new ((w.alloc (.cells #[uv a.b.v, uv a.b.m, uv a.lo, uv a.hi, sv a.sl, sv a.sh] 39)).alloc (.cells #[uv b.b.v, uv b.b.m, uv b.lo, uv b.hi, sv b.sl, sv b.sh] 39)) 39 #[.int .u64 0, .int .u64 0, .int .u64 0, .int .u64 0, .int .i64 0, .int .i64 0] : Blk _ (w.heap.size + 1 + 1) 39 #[.int .u64 0, .int .u64 0, .int .u64 0, .int .u64 0, .int .i64 0, .int .i64 0])
        have hB : Below w.heap.size w (((w.alloc (.cells #[uv a.b.v, uv a.b.m, uv a.lo, uv a.hi, sv a.sl, sv a.sh] 39)).alloc (.cells #[uv b.b.v, uv b.b.m, uv b.lo, uv b.hi, sv b.sl, sv b.sh] 39)).alloc (.cells #[.int .u64 0, .int .u64 0, .int .u64 0, .int .u64 0, .int .i64 0, .int .i64 0] 39)) := (Bl_alloc (Bl_alloc (Bl_alloc (Bl_refl w) _) _) _)
        clear hga
        clear ga
        clear hgb
        clear gb
        clear hgr
        clear gr
        generalize (((w.alloc (.cells #[uv a.b.v, uv a.b.m, uv a.lo, uv a.hi, sv a.sl, sv a.sh] 39)).alloc (.cells #[uv b.b.v, uv b.b.m, uv b.lo, uv b.hi, sv b.sl, sv b.sh] 39)).alloc (.cells #[.int .u64 0, .int .u64 0, .int .u64 0, .int .u64 0, .int .i64 0, .int .i64 0] 39)) = w1 at *
        have ca0 : w1.cell? ⟨w.heap.size, 0, none⟩ = some (uv a.b.v) := Ba.cell 0
        have ca1 : w1.cell? ⟨w.heap.size, 1, none⟩ = some (uv a.b.m) := Ba.cell 1
        have ca2 : w1.cell? ⟨w.heap.size, 2, none⟩ = some (uv a.lo) := Ba.cell 2
        have ca3 : w1.cell? ⟨w.heap.size, 3, none⟩ = some (uv a.hi) := Ba.cell 3
        have ca4 : w1.cell? ⟨w.heap.size, 4, none⟩ = some (sv a.sl) := Ba.cell 4
        have ca5 : w1.cell? ⟨w.heap.size, 5, none⟩ = some (sv a.sh) := Ba.cell 5
        have fa := Ba.frozen
        have la := Ba.lt
        have cb0 : w1.cell? ⟨w.heap.size + 1, 0, none⟩ = some (uv b.b.v) := Bb.cell 0
        have cb1 : w1.cell? ⟨w.heap.size + 1, 1, none⟩ = some (uv b.b.m) := Bb.cell 1
        have cb2 : w1.cell? ⟨w.heap.size + 1, 2, none⟩ = some (uv b.lo) := Bb.cell 2
        have cb3 : w1.cell? ⟨w.heap.size + 1, 3, none⟩ = some (uv b.hi) := Bb.cell 3
        have cb4 : w1.cell? ⟨w.heap.size + 1, 4, none⟩ = some (sv b.sl) := Bb.cell 4
        have cb5 : w1.cell? ⟨w.heap.size + 1, 5, none⟩ = some (sv b.sh) := Bb.cell 5
        have fb := Bb.frozen
        have lb := Bb.lt
        have cr0 : w1.cell? ⟨w.heap.size + 1 + 1, 0, none⟩ = some (.int .u64 0) := Br.cell 0
        have cr1 : w1.cell? ⟨w.heap.size + 1 + 1, 1, none⟩ = some (.int .u64 0) := Br.cell 1
        have cr2 : w1.cell? ⟨w.heap.size + 1 + 1, 2, none⟩ = some (.int .u64 0) := Br.cell 2
        have cr3 : w1.cell? ⟨w.heap.size + 1 + 1, 3, none⟩ = some (.int .u64 0) := Br.cell 3
        have cr4 : w1.cell? ⟨w.heap.size + 1 + 1, 4, none⟩ = some (.int .i64 0) := Br.cell 4
        have cr5 : w1.cell? ⟨w.heap.size + 1 + 1, 5, none⟩ = some (.int .i64 0) := Br.cell 5
        have fr := Br.frozen
        have lr := Br.lt
        go_wp2_with fail
        refine (alone_b _ _ q1 _).mono ?_
        rintro e w2 ⟨rfl, hb⟩
        clear ca0 ca1 ca2 ca3 ca4 ca5 fa la
        clear cb0 cb1 cb2 cb3 cb4 cb5 fb lb
        clear cr0 cr1 cr2 cr3 cr4 cr5 fr lr
        replace Ba := (Ba).next hb
        replace Bb := (Bb).next hb
        replace Br := (Br).next hb
        replace hB : Below w.heap.size w w2 := by repeat (first | exact hB | (refine Bl_set ?_ (by first | omega | (simp; omega)) _) | apply Bl_alloc | (refine Bl_trans ?_ hb))
        clear hb
        have ca0 : w2.cell? ⟨w.heap.size, 0, none⟩ = some (uv a.b.v) := Ba.cell 0
        have ca1 : w2.cell? ⟨w.heap.size, 1, none⟩ = some (uv a.b.m) := Ba.cell 1
        have ca2 : w2.cell? ⟨w.heap.size, 2, none⟩ = some (uv a.lo) := Ba.cell 2
        have ca3 : w2.cell? ⟨w.heap.size, 3, none⟩ = some (uv a.hi) := Ba.cell 3
        have ca4 : w2.cell? ⟨w.heap.size, 4, none⟩ = some (sv a.sl) := Ba.cell 4
        have ca5 : w2.cell? ⟨w.heap.size, 5, none⟩ = some (sv a.sh) := Ba.cell 5
        have fa := Ba.frozen
        have la := Ba.lt
        have cb0 : w2.cell? ⟨w.heap.size + 1, 0, none⟩ = some (uv b.b.v) := Bb.cell 0
        have cb1 : w2.cell? ⟨w.heap.size + 1, 1, none⟩ = some (uv b.b.m) := Bb.cell 1
        have cb2 : w2.cell? ⟨w.heap.size + 1, 2, none⟩ = some (uv b.lo) := Bb.cell 2
        have cb3 : w2.cell? ⟨w.heap.size + 1, 3, none⟩ = some (uv b.hi) := Bb.cell 3
        have cb4 : w2.cell? ⟨w.heap.size + 1, 4, none⟩ = some (sv b.sl) := Bb.cell 4
        have cb5 : w2.cell? ⟨w.heap.size + 1, 5, none⟩ = some (sv b.sh) := Bb.cell 5
        have fb := Bb.frozen
        have lb := Bb.lt
        have cr0 : w2.cell? ⟨w.heap.size + 1 + 1, 0, none⟩ = some (.int .u64 0) := Br.cell 0
        have cr1 : w2.cell? ⟨w.heap.size + 1 + 1, 1, none⟩ = some (.int .u64 0) := Br.cell 1
        have cr2 : w2.cell? ⟨w.heap.size + 1 + 1, 2, none⟩ = some (.int .u64 0) := Br.cell 2
        have cr3 : w2.cell? ⟨w.heap.size + 1 + 1, 3, none⟩ = some (.int .u64 0) := Br.cell 3
        have cr4 : w2.cell? ⟨w.heap.size + 1 + 1, 4, none⟩ = some (.int .i64 0) := Br.cell 4
        have cr5 : w2.cell? ⟨w.heap.size + 1 + 1, 5, none⟩ = some (.int .i64 0) := Br.cell 5
        have fr := Br.frozen
        have lr := Br.lt
        go_wp2_with fail
        replace ca0 : ∀ g : Later w2, g.w.cell? ⟨w.heap.size, 0, none⟩ = some (uv a.b.v) := fun g => g.cell (Ba.cell 0)
        replace ca1 : ∀ g : Later w2, g.w.cell? ⟨w.heap.size, 1, none⟩ = some (uv a.b.m) := fun g => g.cell (Ba.cell 1)
        replace ca2 : ∀ g : Later w2, g.w.cell? ⟨w.heap.size, 2, none⟩ = some (uv a.lo) := fun g => g.cell (Ba.cell 2)
        replace ca3 : ∀ g : Later w2, g.w.cell? ⟨w.heap.size, 3, none⟩ = some (uv a.hi) := fun g => g.cell (Ba.cell 3)
        replace ca4 : ∀ g : Later w2, g.w.cell? ⟨w.heap.size, 4, none⟩ = some (sv a.sl) := fun g => g.cell (Ba.cell 4)
        replace ca5 : ∀ g : Later w2, g.w.cell? ⟨w.heap.size, 5, none⟩ = some (sv a.sh) := fun g => g.cell (Ba.cell 5)
        replace cb0 : ∀ g : Later w2, g.w.cell? ⟨w.heap.size + 1, 0, none⟩ = some (uv b.b.v) := fun g => g.cell (Bb.cell 0)
        replace cb1 : ∀ g : Later w2, g.w.cell? ⟨w.heap.size + 1, 1, none⟩ = some (uv b.b.m) := fun g => g.cell (Bb.cell 1)
        replace cb2 : ∀ g : Later w2, g.w.cell? ⟨w.heap.size + 1, 2, none⟩ = some (uv b.lo) := fun g => g.cell (Bb.cell 2)
        replace cb3 : ∀ g : Later w2, g.w.cell? ⟨w.heap.size + 1, 3, none⟩ = some (uv b.hi) := fun g => g.cell (Bb.cell 3)
        replace cb4 : ∀ g : Later w2, g.w.cell? ⟨w.heap.size + 1, 4, none⟩ = some (sv b.sl) := fun g => g.cell (Bb.cell 4)
        replace cb5 : ∀ g : Later w2, g.w.cell? ⟨w.heap.size + 1, 5, none⟩ = some (sv b.sh) := fun g => g.cell (Bb.cell 5)
        replace cr0 : ∀ g : Later w2, g.w.cell? ⟨w.heap.size + 1 + 1, 0, none⟩ = some (.int .u64 0) := fun g => g.cell (Br.cell 0)
        replace cr1 : ∀ g : Later w2, g.w.cell? ⟨w.heap.size + 1 + 1, 1, none⟩ = some (.int .u64 0) := fun g => g.cell (Br.cell 1)
        replace cr2 : ∀ g : Later w2, g.w.cell? ⟨w.heap.size + 1 + 1, 2, none⟩ = some (.int .u64 0) := fun g => g.cell (Br.cell 2)
        replace cr3 : ∀ g : Later w2, g.w.cell? ⟨w.heap.size + 1 + 1, 3, none⟩ = some (.int .u64 0) := fun g => g.cell (Br.cell 3)
        replace cr4 : ∀ g : Later w2, g.w.cell? ⟨w.heap.size + 1 + 1, 4, none⟩ = some (.int .i64 0) := fun g => g.cell (Br.cell 4)
        replace cr5 : ∀ g : Later w2, g.w.cell? ⟨w.heap.size + 1 + 1, 5, none⟩ = some (.int .i64 0) := fun g => g.cell (Br.cell 5)
        refine wp_region_mix 9 (fun _ => #[]) (by kernel_rfl) (by kernel_rfl) (no_alloc (by kernel_rfl)) ?_
        simp only [List.take_succ_cons, List.take_zero, List.drop_succ_cons, List.drop_zero]
        repeat (refine wpMix_step (fun K hK => ?_); go_simp; first | (refine hK _ ?_; clear hK K) | (apply Exists.intro; refine ⟨fun g => ?_, hK _ ?_⟩; (go_at_call 59; exact sshifted_32 _ b.lo a g.w); clear hK K))
        refine wpMix_nil ?_
        intro G w3 hgr hblk hdist
        have hb : Below w2.heap.size w2 w3 := hgr
        replace Ba := Ba.next hb
        replace Bb := Bb.next hb
        replace Br := Br.next hb
        clear ca0 ca1 ca2 ca3 ca4 ca5 fa la
        clear cb0 cb1 cb2 cb3 cb4 cb5 fb lb
        clear cr0 cr1 cr2 cr3 cr4 cr5 fr lr
        replace hB : Below w.heap.size w w3 := Bl_trans hB hb
        simp only [putAll, isAlloc]
        clear hb hgr hblk hdist
        have ca0 : w3.cell? ⟨w.heap.size, 0, none⟩ = some (uv a.b.v) := Ba.cell 0
        have ca1 : w3.cell? ⟨w.heap.size, 1, none⟩ = some (uv a.b.m) := Ba.cell 1
        have ca2 : w3.cell? ⟨w.heap.size, 2, none⟩ = some (uv a.lo) := Ba.cell 2
        have ca3 : w3.cell? ⟨w.heap.size, 3, none⟩ = some (uv a.hi) := Ba.cell 3
        have ca4 : w3.cell? ⟨w.heap.size, 4, none⟩ = some (sv a.sl) := Ba.cell 4
        have ca5 : w3.cell? ⟨w.heap.size, 5, none⟩ = some (sv a.sh) := Ba.cell 5
        have fa := Ba.frozen
        have la := Ba.lt
        have cb0 : w3.cell? ⟨w.heap.size + 1, 0, none⟩ = some (uv b.b.v) := Bb.cell 0
        have cb1 : w3.cell? ⟨w.heap.size + 1, 1, none⟩ = some (uv b.b.m) := Bb.cell 1
        have cb2 : w3.cell? ⟨w.heap.size + 1, 2, none⟩ = some (uv b.lo) := Bb.cell 2
        have cb3 : w3.cell? ⟨w.heap.size + 1, 3, none⟩ = some (uv b.hi) := Bb.cell 3
        have cb4 : w3.cell? ⟨w.heap.size + 1, 4, none⟩ = some (sv b.sl) := Bb.cell 4
        have cb5 : w3.cell? ⟨w.heap.size + 1, 5, none⟩ = some (sv b.sh) := Bb.cell 5
        have fb := Bb.frozen
        have lb := Bb.lt
        have cr0 : w3.cell? ⟨w.heap.size + 1 + 1, 0, none⟩ = some (.int .u64 0) := Br.cell 0
        have cr1 : w3.cell? ⟨w.heap.size + 1 + 1, 1, none⟩ = some (.int .u64 0) := Br.cell 1
        have cr2 : w3.cell? ⟨w.heap.size + 1 + 1, 2, none⟩ = some (.int .u64 0) := Br.cell 2
        have cr3 : w3.cell? ⟨w.heap.size + 1 + 1, 3, none⟩ = some (.int .u64 0) := Br.cell 3
        have cr4 : w3.cell? ⟨w.heap.size + 1 + 1, 4, none⟩ = some (.int .i64 0) := Br.cell 4
        have cr5 : w3.cell? ⟨w.heap.size + 1 + 1, 5, none⟩ = some (.int .i64 0) := Br.cell 5
        have fr := Br.frozen
        have lr := Br.lt
        go_wp2
        exact bodyPost_ret (v := rv (PlainScalar.shifted op (b.lo.toNat % 32) a)) (by simp [results, Try.results46, go_sem, cr0, cr1, cr2, cr3, cr4, cr5, lr]) rfl ⟨by rw [hs], by repeat (first | (with_reducible exact hB) | (with_reducible refine Bl_set ?_ (by first | omega | (simp; done) | (simp; omega)) _) | with_reducible apply Bl_alloc)⟩
    · have hs : PlainScalar.moved op true a b = PlainScalar.shifted op (PlainScalar.count true b.lo) a := by unfold PlainScalar.moved; rw [if_neg hal, if_neg (fun h => absurd h.2.1 (by decide))]
      by_cases h12 : op = 12
      · subst h12
        have hc : PlainScalar.count true b.lo = b.lo.toNat % 64 := by unfold PlainScalar.count; simp
        rw [hc] at hs
        have hm : (T b.lo).tmod 64 = (b.lo.toNat : Int) % 64 := by rw [u_rem64]; omega
        have hu : IntKind.u64.wrap 64 = 64 := by decide
        have hw : IntKind.i64.wrap ((b.lo.toNat : Int) % 64) = (b.lo.toNat : Int) % 64 := IntWalk.i64_in _ (by omega)
        go_enter Try.func46, Try.ntmps46
        go_wp2_with fail
        obtain ⟨ga, hga⟩ : ∃ g, g = w.heap.size := ⟨_, rfl⟩
        obtain ⟨gb, hgb⟩ : ∃ g, g = w.heap.size + 1 := ⟨_, rfl⟩
        obtain ⟨gr, hgr⟩ : ∃ g, g = w.heap.size + 1 + 1 := ⟨_, rfl⟩
        have Ba : Blk (((w.alloc (.cells #[uv a.b.v, uv a.b.m, uv a.lo, uv a.hi, sv a.sl, sv a.sh] 39)).alloc (.cells #[uv b.b.v, uv b.b.m, uv b.lo, uv b.hi, sv b.sl, sv b.sh] 39)).alloc (.cells #[.int .u64 0, .int .u64 0, .int .u64 0, .int .u64 0, .int .i64 0, .int .i64 0] 39)) (w.heap.size) 39 #[uv a.b.v, uv a.b.m, uv a.lo, uv a.hi, sv a.sl, sv a.sh] := (((Blk.new w 39 #[uv a.b.v, uv a.b.m, uv a.lo, uv a.hi, sv a.sl, sv a.sh])).alloc _).alloc _
        have Bb : Blk (((w.alloc (.cells #[uv a.b.v, uv a.b.m, uv a.lo, uv a.hi, sv a.sl, sv a.sh] 39)).alloc (.cells #[uv b.b.v, uv b.b.m, uv b.lo, uv b.hi, sv b.sl, sv b.sh] 39)).alloc (.cells #[.int .u64 0, .int .u64 0, .int .u64 0, .int .u64 0, .int .i64 0, .int .i64 0] 39)) (w.heap.size + 1) 39 #[uv b.b.v, uv b.b.m, uv b.lo, uv b.hi, sv b.sl, sv b.sh] := ((by simpa using Blk.new (w.alloc (.cells #[uv a.b.v, uv a.b.m, uv a.lo, uv a.hi, sv a.sl, sv a.sh] 39)) 39 #[uv b.b.v, uv b.b.m, uv b.lo, uv b.hi, sv b.sl, sv b.sh] : Blk _ (w.heap.size + 1) 39 #[uv b.b.v, uv b.b.m, uv b.lo, uv b.hi, sv b.sl, sv b.sh])).alloc _
        have Br : Blk (((w.alloc (.cells #[uv a.b.v, uv a.b.m, uv a.lo, uv a.hi, sv a.sl, sv a.sh] 39)).alloc (.cells #[uv b.b.v, uv b.b.m, uv b.lo, uv b.hi, sv b.sl, sv b.sh] 39)).alloc (.cells #[.int .u64 0, .int .u64 0, .int .u64 0, .int .u64 0, .int .i64 0, .int .i64 0] 39)) (w.heap.size + 1 + 1) 39 #[.int .u64 0, .int .u64 0, .int .u64 0, .int .u64 0, .int .i64 0, .int .i64 0] := (by simpa using Blk.new ((w.alloc (.cells #[uv a.b.v, uv a.b.m, uv a.lo, uv a.hi, sv a.sl, sv a.sh] 39)).alloc (.cells #[uv b.b.v, uv b.b.m, uv b.lo, uv b.hi, sv b.sl, sv b.sh] 39)) 39 #[.int .u64 0, .int .u64 0, .int .u64 0, .int .u64 0, .int .i64 0, .int .i64 0] : Blk _ (w.heap.size + 1 + 1) 39 #[.int .u64 0, .int .u64 0, .int .u64 0, .int .u64 0, .int .i64 0, .int .i64 0])
        have hB : Below w.heap.size w (((w.alloc (.cells #[uv a.b.v, uv a.b.m, uv a.lo, uv a.hi, sv a.sl, sv a.sh] 39)).alloc (.cells #[uv b.b.v, uv b.b.m, uv b.lo, uv b.hi, sv b.sl, sv b.sh] 39)).alloc (.cells #[.int .u64 0, .int .u64 0, .int .u64 0, .int .u64 0, .int .i64 0, .int .i64 0] 39)) := (Bl_alloc (Bl_alloc (Bl_alloc (Bl_refl w) _) _) _)
        clear hga
        clear ga
        clear hgb
        clear gb
        clear hgr
        clear gr
        generalize (((w.alloc (.cells #[uv a.b.v, uv a.b.m, uv a.lo, uv a.hi, sv a.sl, sv a.sh] 39)).alloc (.cells #[uv b.b.v, uv b.b.m, uv b.lo, uv b.hi, sv b.sl, sv b.sh] 39)).alloc (.cells #[.int .u64 0, .int .u64 0, .int .u64 0, .int .u64 0, .int .i64 0, .int .i64 0] 39)) = w1 at *
        have ca0 : w1.cell? ⟨w.heap.size, 0, none⟩ = some (uv a.b.v) := Ba.cell 0
        have ca1 : w1.cell? ⟨w.heap.size, 1, none⟩ = some (uv a.b.m) := Ba.cell 1
        have ca2 : w1.cell? ⟨w.heap.size, 2, none⟩ = some (uv a.lo) := Ba.cell 2
        have ca3 : w1.cell? ⟨w.heap.size, 3, none⟩ = some (uv a.hi) := Ba.cell 3
        have ca4 : w1.cell? ⟨w.heap.size, 4, none⟩ = some (sv a.sl) := Ba.cell 4
        have ca5 : w1.cell? ⟨w.heap.size, 5, none⟩ = some (sv a.sh) := Ba.cell 5
        have fa := Ba.frozen
        have la := Ba.lt
        have cb0 : w1.cell? ⟨w.heap.size + 1, 0, none⟩ = some (uv b.b.v) := Bb.cell 0
        have cb1 : w1.cell? ⟨w.heap.size + 1, 1, none⟩ = some (uv b.b.m) := Bb.cell 1
        have cb2 : w1.cell? ⟨w.heap.size + 1, 2, none⟩ = some (uv b.lo) := Bb.cell 2
        have cb3 : w1.cell? ⟨w.heap.size + 1, 3, none⟩ = some (uv b.hi) := Bb.cell 3
        have cb4 : w1.cell? ⟨w.heap.size + 1, 4, none⟩ = some (sv b.sl) := Bb.cell 4
        have cb5 : w1.cell? ⟨w.heap.size + 1, 5, none⟩ = some (sv b.sh) := Bb.cell 5
        have fb := Bb.frozen
        have lb := Bb.lt
        have cr0 : w1.cell? ⟨w.heap.size + 1 + 1, 0, none⟩ = some (.int .u64 0) := Br.cell 0
        have cr1 : w1.cell? ⟨w.heap.size + 1 + 1, 1, none⟩ = some (.int .u64 0) := Br.cell 1
        have cr2 : w1.cell? ⟨w.heap.size + 1 + 1, 2, none⟩ = some (.int .u64 0) := Br.cell 2
        have cr3 : w1.cell? ⟨w.heap.size + 1 + 1, 3, none⟩ = some (.int .u64 0) := Br.cell 3
        have cr4 : w1.cell? ⟨w.heap.size + 1 + 1, 4, none⟩ = some (.int .i64 0) := Br.cell 4
        have cr5 : w1.cell? ⟨w.heap.size + 1 + 1, 5, none⟩ = some (.int .i64 0) := Br.cell 5
        have fr := Br.frozen
        have lr := Br.lt
        go_wp2_with fail
        refine (alone_b _ _ q1 _).mono ?_
        rintro e w2 ⟨rfl, hb⟩
        clear ca0 ca1 ca2 ca3 ca4 ca5 fa la
        clear cb0 cb1 cb2 cb3 cb4 cb5 fb lb
        clear cr0 cr1 cr2 cr3 cr4 cr5 fr lr
        replace Ba := (Ba).next hb
        replace Bb := (Bb).next hb
        replace Br := (Br).next hb
        replace hB : Below w.heap.size w w2 := by repeat (first | exact hB | (refine Bl_set ?_ (by first | omega | (simp; omega)) _) | apply Bl_alloc | (refine Bl_trans ?_ hb))
        clear hb
        have ca0 : w2.cell? ⟨w.heap.size, 0, none⟩ = some (uv a.b.v) := Ba.cell 0
        have ca1 : w2.cell? ⟨w.heap.size, 1, none⟩ = some (uv a.b.m) := Ba.cell 1
        have ca2 : w2.cell? ⟨w.heap.size, 2, none⟩ = some (uv a.lo) := Ba.cell 2
        have ca3 : w2.cell? ⟨w.heap.size, 3, none⟩ = some (uv a.hi) := Ba.cell 3
        have ca4 : w2.cell? ⟨w.heap.size, 4, none⟩ = some (sv a.sl) := Ba.cell 4
        have ca5 : w2.cell? ⟨w.heap.size, 5, none⟩ = some (sv a.sh) := Ba.cell 5
        have fa := Ba.frozen
        have la := Ba.lt
        have cb0 : w2.cell? ⟨w.heap.size + 1, 0, none⟩ = some (uv b.b.v) := Bb.cell 0
        have cb1 : w2.cell? ⟨w.heap.size + 1, 1, none⟩ = some (uv b.b.m) := Bb.cell 1
        have cb2 : w2.cell? ⟨w.heap.size + 1, 2, none⟩ = some (uv b.lo) := Bb.cell 2
        have cb3 : w2.cell? ⟨w.heap.size + 1, 3, none⟩ = some (uv b.hi) := Bb.cell 3
        have cb4 : w2.cell? ⟨w.heap.size + 1, 4, none⟩ = some (sv b.sl) := Bb.cell 4
        have cb5 : w2.cell? ⟨w.heap.size + 1, 5, none⟩ = some (sv b.sh) := Bb.cell 5
        have fb := Bb.frozen
        have lb := Bb.lt
        have cr0 : w2.cell? ⟨w.heap.size + 1 + 1, 0, none⟩ = some (.int .u64 0) := Br.cell 0
        have cr1 : w2.cell? ⟨w.heap.size + 1 + 1, 1, none⟩ = some (.int .u64 0) := Br.cell 1
        have cr2 : w2.cell? ⟨w.heap.size + 1 + 1, 2, none⟩ = some (.int .u64 0) := Br.cell 2
        have cr3 : w2.cell? ⟨w.heap.size + 1 + 1, 3, none⟩ = some (.int .u64 0) := Br.cell 3
        have cr4 : w2.cell? ⟨w.heap.size + 1 + 1, 4, none⟩ = some (.int .i64 0) := Br.cell 4
        have cr5 : w2.cell? ⟨w.heap.size + 1 + 1, 5, none⟩ = some (.int .i64 0) := Br.cell 5
        have fr := Br.frozen
        have lr := Br.lt
        go_wp2_with fail
        replace ca0 : ∀ g : Later w2, g.w.cell? ⟨w.heap.size, 0, none⟩ = some (uv a.b.v) := fun g => g.cell (Ba.cell 0)
        replace ca1 : ∀ g : Later w2, g.w.cell? ⟨w.heap.size, 1, none⟩ = some (uv a.b.m) := fun g => g.cell (Ba.cell 1)
        replace ca2 : ∀ g : Later w2, g.w.cell? ⟨w.heap.size, 2, none⟩ = some (uv a.lo) := fun g => g.cell (Ba.cell 2)
        replace ca3 : ∀ g : Later w2, g.w.cell? ⟨w.heap.size, 3, none⟩ = some (uv a.hi) := fun g => g.cell (Ba.cell 3)
        replace ca4 : ∀ g : Later w2, g.w.cell? ⟨w.heap.size, 4, none⟩ = some (sv a.sl) := fun g => g.cell (Ba.cell 4)
        replace ca5 : ∀ g : Later w2, g.w.cell? ⟨w.heap.size, 5, none⟩ = some (sv a.sh) := fun g => g.cell (Ba.cell 5)
        replace cb0 : ∀ g : Later w2, g.w.cell? ⟨w.heap.size + 1, 0, none⟩ = some (uv b.b.v) := fun g => g.cell (Bb.cell 0)
        replace cb1 : ∀ g : Later w2, g.w.cell? ⟨w.heap.size + 1, 1, none⟩ = some (uv b.b.m) := fun g => g.cell (Bb.cell 1)
        replace cb2 : ∀ g : Later w2, g.w.cell? ⟨w.heap.size + 1, 2, none⟩ = some (uv b.lo) := fun g => g.cell (Bb.cell 2)
        replace cb3 : ∀ g : Later w2, g.w.cell? ⟨w.heap.size + 1, 3, none⟩ = some (uv b.hi) := fun g => g.cell (Bb.cell 3)
        replace cb4 : ∀ g : Later w2, g.w.cell? ⟨w.heap.size + 1, 4, none⟩ = some (sv b.sl) := fun g => g.cell (Bb.cell 4)
        replace cb5 : ∀ g : Later w2, g.w.cell? ⟨w.heap.size + 1, 5, none⟩ = some (sv b.sh) := fun g => g.cell (Bb.cell 5)
        replace cr0 : ∀ g : Later w2, g.w.cell? ⟨w.heap.size + 1 + 1, 0, none⟩ = some (.int .u64 0) := fun g => g.cell (Br.cell 0)
        replace cr1 : ∀ g : Later w2, g.w.cell? ⟨w.heap.size + 1 + 1, 1, none⟩ = some (.int .u64 0) := fun g => g.cell (Br.cell 1)
        replace cr2 : ∀ g : Later w2, g.w.cell? ⟨w.heap.size + 1 + 1, 2, none⟩ = some (.int .u64 0) := fun g => g.cell (Br.cell 2)
        replace cr3 : ∀ g : Later w2, g.w.cell? ⟨w.heap.size + 1 + 1, 3, none⟩ = some (.int .u64 0) := fun g => g.cell (Br.cell 3)
        replace cr4 : ∀ g : Later w2, g.w.cell? ⟨w.heap.size + 1 + 1, 4, none⟩ = some (.int .i64 0) := fun g => g.cell (Br.cell 4)
        replace cr5 : ∀ g : Later w2, g.w.cell? ⟨w.heap.size + 1 + 1, 5, none⟩ = some (.int .i64 0) := fun g => g.cell (Br.cell 5)
        refine wp_region_mix 9 (fun _ => #[]) (by kernel_rfl) (by kernel_rfl) (no_alloc (by kernel_rfl)) ?_
        simp only [List.take_succ_cons, List.take_zero, List.drop_succ_cons, List.drop_zero]
        repeat (refine wpMix_step (fun K hK => ?_); go_simp; first | (refine hK _ ?_; clear hK K) | (apply Exists.intro; refine ⟨fun g => ?_, hK _ ?_⟩; (go_at_call 59; exact sshifted_64 _ b.lo a g.w); clear hK K))
        refine wpMix_nil ?_
        intro G w3 hgr hblk hdist
        have hb : Below w2.heap.size w2 w3 := hgr
        replace Ba := Ba.next hb
        replace Bb := Bb.next hb
        replace Br := Br.next hb
        clear ca0 ca1 ca2 ca3 ca4 ca5 fa la
        clear cb0 cb1 cb2 cb3 cb4 cb5 fb lb
        clear cr0 cr1 cr2 cr3 cr4 cr5 fr lr
        replace hB : Below w.heap.size w w3 := Bl_trans hB hb
        simp only [putAll, isAlloc]
        clear hb hgr hblk hdist
        have ca0 : w3.cell? ⟨w.heap.size, 0, none⟩ = some (uv a.b.v) := Ba.cell 0
        have ca1 : w3.cell? ⟨w.heap.size, 1, none⟩ = some (uv a.b.m) := Ba.cell 1
        have ca2 : w3.cell? ⟨w.heap.size, 2, none⟩ = some (uv a.lo) := Ba.cell 2
        have ca3 : w3.cell? ⟨w.heap.size, 3, none⟩ = some (uv a.hi) := Ba.cell 3
        have ca4 : w3.cell? ⟨w.heap.size, 4, none⟩ = some (sv a.sl) := Ba.cell 4
        have ca5 : w3.cell? ⟨w.heap.size, 5, none⟩ = some (sv a.sh) := Ba.cell 5
        have fa := Ba.frozen
        have la := Ba.lt
        have cb0 : w3.cell? ⟨w.heap.size + 1, 0, none⟩ = some (uv b.b.v) := Bb.cell 0
        have cb1 : w3.cell? ⟨w.heap.size + 1, 1, none⟩ = some (uv b.b.m) := Bb.cell 1
        have cb2 : w3.cell? ⟨w.heap.size + 1, 2, none⟩ = some (uv b.lo) := Bb.cell 2
        have cb3 : w3.cell? ⟨w.heap.size + 1, 3, none⟩ = some (uv b.hi) := Bb.cell 3
        have cb4 : w3.cell? ⟨w.heap.size + 1, 4, none⟩ = some (sv b.sl) := Bb.cell 4
        have cb5 : w3.cell? ⟨w.heap.size + 1, 5, none⟩ = some (sv b.sh) := Bb.cell 5
        have fb := Bb.frozen
        have lb := Bb.lt
        have cr0 : w3.cell? ⟨w.heap.size + 1 + 1, 0, none⟩ = some (.int .u64 0) := Br.cell 0
        have cr1 : w3.cell? ⟨w.heap.size + 1 + 1, 1, none⟩ = some (.int .u64 0) := Br.cell 1
        have cr2 : w3.cell? ⟨w.heap.size + 1 + 1, 2, none⟩ = some (.int .u64 0) := Br.cell 2
        have cr3 : w3.cell? ⟨w.heap.size + 1 + 1, 3, none⟩ = some (.int .u64 0) := Br.cell 3
        have cr4 : w3.cell? ⟨w.heap.size + 1 + 1, 4, none⟩ = some (.int .i64 0) := Br.cell 4
        have cr5 : w3.cell? ⟨w.heap.size + 1 + 1, 5, none⟩ = some (.int .i64 0) := Br.cell 5
        have fr := Br.frozen
        have lr := Br.lt
        go_wp2
        exact bodyPost_ret (v := rv (PlainScalar.shifted 12 (b.lo.toNat % 64) a)) (by simp [results, Try.results46, go_sem, cr0, cr1, cr2, cr3, cr4, cr5, lr]) rfl ⟨by rw [hs], by repeat (first | (with_reducible exact hB) | (with_reducible refine Bl_set ?_ (by first | omega | (simp; done) | (simp; omega)) _) | with_reducible apply Bl_alloc)⟩
      · have e12 : (op == 12) = false := by simpa using h12
        have hc : PlainScalar.count true b.lo = b.lo.toNat % 64 := by unfold PlainScalar.count; simp
        rw [hc] at hs
        have hm : (T b.lo).tmod 64 = (b.lo.toNat : Int) % 64 := by rw [u_rem64]; omega
        have hu : IntKind.u64.wrap 64 = 64 := by decide
        have hw : IntKind.i64.wrap ((b.lo.toNat : Int) % 64) = (b.lo.toNat : Int) % 64 := IntWalk.i64_in _ (by omega)
        go_enter Try.func46, Try.ntmps46
        go_wp2_with fail
        obtain ⟨ga, hga⟩ : ∃ g, g = w.heap.size := ⟨_, rfl⟩
        obtain ⟨gb, hgb⟩ : ∃ g, g = w.heap.size + 1 := ⟨_, rfl⟩
        obtain ⟨gr, hgr⟩ : ∃ g, g = w.heap.size + 1 + 1 := ⟨_, rfl⟩
        have Ba : Blk (((w.alloc (.cells #[uv a.b.v, uv a.b.m, uv a.lo, uv a.hi, sv a.sl, sv a.sh] 39)).alloc (.cells #[uv b.b.v, uv b.b.m, uv b.lo, uv b.hi, sv b.sl, sv b.sh] 39)).alloc (.cells #[.int .u64 0, .int .u64 0, .int .u64 0, .int .u64 0, .int .i64 0, .int .i64 0] 39)) (w.heap.size) 39 #[uv a.b.v, uv a.b.m, uv a.lo, uv a.hi, sv a.sl, sv a.sh] := (((Blk.new w 39 #[uv a.b.v, uv a.b.m, uv a.lo, uv a.hi, sv a.sl, sv a.sh])).alloc _).alloc _
        have Bb : Blk (((w.alloc (.cells #[uv a.b.v, uv a.b.m, uv a.lo, uv a.hi, sv a.sl, sv a.sh] 39)).alloc (.cells #[uv b.b.v, uv b.b.m, uv b.lo, uv b.hi, sv b.sl, sv b.sh] 39)).alloc (.cells #[.int .u64 0, .int .u64 0, .int .u64 0, .int .u64 0, .int .i64 0, .int .i64 0] 39)) (w.heap.size + 1) 39 #[uv b.b.v, uv b.b.m, uv b.lo, uv b.hi, sv b.sl, sv b.sh] := ((by simpa using Blk.new (w.alloc (.cells #[uv a.b.v, uv a.b.m, uv a.lo, uv a.hi, sv a.sl, sv a.sh] 39)) 39 #[uv b.b.v, uv b.b.m, uv b.lo, uv b.hi, sv b.sl, sv b.sh] : Blk _ (w.heap.size + 1) 39 #[uv b.b.v, uv b.b.m, uv b.lo, uv b.hi, sv b.sl, sv b.sh])).alloc _
        have Br : Blk (((w.alloc (.cells #[uv a.b.v, uv a.b.m, uv a.lo, uv a.hi, sv a.sl, sv a.sh] 39)).alloc (.cells #[uv b.b.v, uv b.b.m, uv b.lo, uv b.hi, sv b.sl, sv b.sh] 39)).alloc (.cells #[.int .u64 0, .int .u64 0, .int .u64 0, .int .u64 0, .int .i64 0, .int .i64 0] 39)) (w.heap.size + 1 + 1) 39 #[.int .u64 0, .int .u64 0, .int .u64 0, .int .u64 0, .int .i64 0, .int .i64 0] := (by simpa using Blk.new ((w.alloc (.cells #[uv a.b.v, uv a.b.m, uv a.lo, uv a.hi, sv a.sl, sv a.sh] 39)).alloc (.cells #[uv b.b.v, uv b.b.m, uv b.lo, uv b.hi, sv b.sl, sv b.sh] 39)) 39 #[.int .u64 0, .int .u64 0, .int .u64 0, .int .u64 0, .int .i64 0, .int .i64 0] : Blk _ (w.heap.size + 1 + 1) 39 #[.int .u64 0, .int .u64 0, .int .u64 0, .int .u64 0, .int .i64 0, .int .i64 0])
        have hB : Below w.heap.size w (((w.alloc (.cells #[uv a.b.v, uv a.b.m, uv a.lo, uv a.hi, sv a.sl, sv a.sh] 39)).alloc (.cells #[uv b.b.v, uv b.b.m, uv b.lo, uv b.hi, sv b.sl, sv b.sh] 39)).alloc (.cells #[.int .u64 0, .int .u64 0, .int .u64 0, .int .u64 0, .int .i64 0, .int .i64 0] 39)) := (Bl_alloc (Bl_alloc (Bl_alloc (Bl_refl w) _) _) _)
        clear hga
        clear ga
        clear hgb
        clear gb
        clear hgr
        clear gr
        generalize (((w.alloc (.cells #[uv a.b.v, uv a.b.m, uv a.lo, uv a.hi, sv a.sl, sv a.sh] 39)).alloc (.cells #[uv b.b.v, uv b.b.m, uv b.lo, uv b.hi, sv b.sl, sv b.sh] 39)).alloc (.cells #[.int .u64 0, .int .u64 0, .int .u64 0, .int .u64 0, .int .i64 0, .int .i64 0] 39)) = w1 at *
        have ca0 : w1.cell? ⟨w.heap.size, 0, none⟩ = some (uv a.b.v) := Ba.cell 0
        have ca1 : w1.cell? ⟨w.heap.size, 1, none⟩ = some (uv a.b.m) := Ba.cell 1
        have ca2 : w1.cell? ⟨w.heap.size, 2, none⟩ = some (uv a.lo) := Ba.cell 2
        have ca3 : w1.cell? ⟨w.heap.size, 3, none⟩ = some (uv a.hi) := Ba.cell 3
        have ca4 : w1.cell? ⟨w.heap.size, 4, none⟩ = some (sv a.sl) := Ba.cell 4
        have ca5 : w1.cell? ⟨w.heap.size, 5, none⟩ = some (sv a.sh) := Ba.cell 5
        have fa := Ba.frozen
        have la := Ba.lt
        have cb0 : w1.cell? ⟨w.heap.size + 1, 0, none⟩ = some (uv b.b.v) := Bb.cell 0
        have cb1 : w1.cell? ⟨w.heap.size + 1, 1, none⟩ = some (uv b.b.m) := Bb.cell 1
        have cb2 : w1.cell? ⟨w.heap.size + 1, 2, none⟩ = some (uv b.lo) := Bb.cell 2
        have cb3 : w1.cell? ⟨w.heap.size + 1, 3, none⟩ = some (uv b.hi) := Bb.cell 3
        have cb4 : w1.cell? ⟨w.heap.size + 1, 4, none⟩ = some (sv b.sl) := Bb.cell 4
        have cb5 : w1.cell? ⟨w.heap.size + 1, 5, none⟩ = some (sv b.sh) := Bb.cell 5
        have fb := Bb.frozen
        have lb := Bb.lt
        have cr0 : w1.cell? ⟨w.heap.size + 1 + 1, 0, none⟩ = some (.int .u64 0) := Br.cell 0
        have cr1 : w1.cell? ⟨w.heap.size + 1 + 1, 1, none⟩ = some (.int .u64 0) := Br.cell 1
        have cr2 : w1.cell? ⟨w.heap.size + 1 + 1, 2, none⟩ = some (.int .u64 0) := Br.cell 2
        have cr3 : w1.cell? ⟨w.heap.size + 1 + 1, 3, none⟩ = some (.int .u64 0) := Br.cell 3
        have cr4 : w1.cell? ⟨w.heap.size + 1 + 1, 4, none⟩ = some (.int .i64 0) := Br.cell 4
        have cr5 : w1.cell? ⟨w.heap.size + 1 + 1, 5, none⟩ = some (.int .i64 0) := Br.cell 5
        have fr := Br.frozen
        have lr := Br.lt
        go_wp2_with fail
        refine (alone_b _ _ q1 _).mono ?_
        rintro e w2 ⟨rfl, hb⟩
        clear ca0 ca1 ca2 ca3 ca4 ca5 fa la
        clear cb0 cb1 cb2 cb3 cb4 cb5 fb lb
        clear cr0 cr1 cr2 cr3 cr4 cr5 fr lr
        replace Ba := (Ba).next hb
        replace Bb := (Bb).next hb
        replace Br := (Br).next hb
        replace hB : Below w.heap.size w w2 := by repeat (first | exact hB | (refine Bl_set ?_ (by first | omega | (simp; omega)) _) | apply Bl_alloc | (refine Bl_trans ?_ hb))
        clear hb
        have ca0 : w2.cell? ⟨w.heap.size, 0, none⟩ = some (uv a.b.v) := Ba.cell 0
        have ca1 : w2.cell? ⟨w.heap.size, 1, none⟩ = some (uv a.b.m) := Ba.cell 1
        have ca2 : w2.cell? ⟨w.heap.size, 2, none⟩ = some (uv a.lo) := Ba.cell 2
        have ca3 : w2.cell? ⟨w.heap.size, 3, none⟩ = some (uv a.hi) := Ba.cell 3
        have ca4 : w2.cell? ⟨w.heap.size, 4, none⟩ = some (sv a.sl) := Ba.cell 4
        have ca5 : w2.cell? ⟨w.heap.size, 5, none⟩ = some (sv a.sh) := Ba.cell 5
        have fa := Ba.frozen
        have la := Ba.lt
        have cb0 : w2.cell? ⟨w.heap.size + 1, 0, none⟩ = some (uv b.b.v) := Bb.cell 0
        have cb1 : w2.cell? ⟨w.heap.size + 1, 1, none⟩ = some (uv b.b.m) := Bb.cell 1
        have cb2 : w2.cell? ⟨w.heap.size + 1, 2, none⟩ = some (uv b.lo) := Bb.cell 2
        have cb3 : w2.cell? ⟨w.heap.size + 1, 3, none⟩ = some (uv b.hi) := Bb.cell 3
        have cb4 : w2.cell? ⟨w.heap.size + 1, 4, none⟩ = some (sv b.sl) := Bb.cell 4
        have cb5 : w2.cell? ⟨w.heap.size + 1, 5, none⟩ = some (sv b.sh) := Bb.cell 5
        have fb := Bb.frozen
        have lb := Bb.lt
        have cr0 : w2.cell? ⟨w.heap.size + 1 + 1, 0, none⟩ = some (.int .u64 0) := Br.cell 0
        have cr1 : w2.cell? ⟨w.heap.size + 1 + 1, 1, none⟩ = some (.int .u64 0) := Br.cell 1
        have cr2 : w2.cell? ⟨w.heap.size + 1 + 1, 2, none⟩ = some (.int .u64 0) := Br.cell 2
        have cr3 : w2.cell? ⟨w.heap.size + 1 + 1, 3, none⟩ = some (.int .u64 0) := Br.cell 3
        have cr4 : w2.cell? ⟨w.heap.size + 1 + 1, 4, none⟩ = some (.int .i64 0) := Br.cell 4
        have cr5 : w2.cell? ⟨w.heap.size + 1 + 1, 5, none⟩ = some (.int .i64 0) := Br.cell 5
        have fr := Br.frozen
        have lr := Br.lt
        go_wp2_with fail
        replace ca0 : ∀ g : Later w2, g.w.cell? ⟨w.heap.size, 0, none⟩ = some (uv a.b.v) := fun g => g.cell (Ba.cell 0)
        replace ca1 : ∀ g : Later w2, g.w.cell? ⟨w.heap.size, 1, none⟩ = some (uv a.b.m) := fun g => g.cell (Ba.cell 1)
        replace ca2 : ∀ g : Later w2, g.w.cell? ⟨w.heap.size, 2, none⟩ = some (uv a.lo) := fun g => g.cell (Ba.cell 2)
        replace ca3 : ∀ g : Later w2, g.w.cell? ⟨w.heap.size, 3, none⟩ = some (uv a.hi) := fun g => g.cell (Ba.cell 3)
        replace ca4 : ∀ g : Later w2, g.w.cell? ⟨w.heap.size, 4, none⟩ = some (sv a.sl) := fun g => g.cell (Ba.cell 4)
        replace ca5 : ∀ g : Later w2, g.w.cell? ⟨w.heap.size, 5, none⟩ = some (sv a.sh) := fun g => g.cell (Ba.cell 5)
        replace cb0 : ∀ g : Later w2, g.w.cell? ⟨w.heap.size + 1, 0, none⟩ = some (uv b.b.v) := fun g => g.cell (Bb.cell 0)
        replace cb1 : ∀ g : Later w2, g.w.cell? ⟨w.heap.size + 1, 1, none⟩ = some (uv b.b.m) := fun g => g.cell (Bb.cell 1)
        replace cb2 : ∀ g : Later w2, g.w.cell? ⟨w.heap.size + 1, 2, none⟩ = some (uv b.lo) := fun g => g.cell (Bb.cell 2)
        replace cb3 : ∀ g : Later w2, g.w.cell? ⟨w.heap.size + 1, 3, none⟩ = some (uv b.hi) := fun g => g.cell (Bb.cell 3)
        replace cb4 : ∀ g : Later w2, g.w.cell? ⟨w.heap.size + 1, 4, none⟩ = some (sv b.sl) := fun g => g.cell (Bb.cell 4)
        replace cb5 : ∀ g : Later w2, g.w.cell? ⟨w.heap.size + 1, 5, none⟩ = some (sv b.sh) := fun g => g.cell (Bb.cell 5)
        replace cr0 : ∀ g : Later w2, g.w.cell? ⟨w.heap.size + 1 + 1, 0, none⟩ = some (.int .u64 0) := fun g => g.cell (Br.cell 0)
        replace cr1 : ∀ g : Later w2, g.w.cell? ⟨w.heap.size + 1 + 1, 1, none⟩ = some (.int .u64 0) := fun g => g.cell (Br.cell 1)
        replace cr2 : ∀ g : Later w2, g.w.cell? ⟨w.heap.size + 1 + 1, 2, none⟩ = some (.int .u64 0) := fun g => g.cell (Br.cell 2)
        replace cr3 : ∀ g : Later w2, g.w.cell? ⟨w.heap.size + 1 + 1, 3, none⟩ = some (.int .u64 0) := fun g => g.cell (Br.cell 3)
        replace cr4 : ∀ g : Later w2, g.w.cell? ⟨w.heap.size + 1 + 1, 4, none⟩ = some (.int .i64 0) := fun g => g.cell (Br.cell 4)
        replace cr5 : ∀ g : Later w2, g.w.cell? ⟨w.heap.size + 1 + 1, 5, none⟩ = some (.int .i64 0) := fun g => g.cell (Br.cell 5)
        refine wp_region_mix 9 (fun _ => #[]) (by kernel_rfl) (by kernel_rfl) (no_alloc (by kernel_rfl)) ?_
        simp only [List.take_succ_cons, List.take_zero, List.drop_succ_cons, List.drop_zero]
        repeat (refine wpMix_step (fun K hK => ?_); go_simp; first | (refine hK _ ?_; clear hK K) | (apply Exists.intro; refine ⟨fun g => ?_, hK _ ?_⟩; (go_at_call 59; exact sshifted_64 _ b.lo a g.w); clear hK K))
        refine wpMix_nil ?_
        intro G w3 hgr hblk hdist
        have hb : Below w2.heap.size w2 w3 := hgr
        replace Ba := Ba.next hb
        replace Bb := Bb.next hb
        replace Br := Br.next hb
        clear ca0 ca1 ca2 ca3 ca4 ca5 fa la
        clear cb0 cb1 cb2 cb3 cb4 cb5 fb lb
        clear cr0 cr1 cr2 cr3 cr4 cr5 fr lr
        replace hB : Below w.heap.size w w3 := Bl_trans hB hb
        simp only [putAll, isAlloc]
        clear hb hgr hblk hdist
        have ca0 : w3.cell? ⟨w.heap.size, 0, none⟩ = some (uv a.b.v) := Ba.cell 0
        have ca1 : w3.cell? ⟨w.heap.size, 1, none⟩ = some (uv a.b.m) := Ba.cell 1
        have ca2 : w3.cell? ⟨w.heap.size, 2, none⟩ = some (uv a.lo) := Ba.cell 2
        have ca3 : w3.cell? ⟨w.heap.size, 3, none⟩ = some (uv a.hi) := Ba.cell 3
        have ca4 : w3.cell? ⟨w.heap.size, 4, none⟩ = some (sv a.sl) := Ba.cell 4
        have ca5 : w3.cell? ⟨w.heap.size, 5, none⟩ = some (sv a.sh) := Ba.cell 5
        have fa := Ba.frozen
        have la := Ba.lt
        have cb0 : w3.cell? ⟨w.heap.size + 1, 0, none⟩ = some (uv b.b.v) := Bb.cell 0
        have cb1 : w3.cell? ⟨w.heap.size + 1, 1, none⟩ = some (uv b.b.m) := Bb.cell 1
        have cb2 : w3.cell? ⟨w.heap.size + 1, 2, none⟩ = some (uv b.lo) := Bb.cell 2
        have cb3 : w3.cell? ⟨w.heap.size + 1, 3, none⟩ = some (uv b.hi) := Bb.cell 3
        have cb4 : w3.cell? ⟨w.heap.size + 1, 4, none⟩ = some (sv b.sl) := Bb.cell 4
        have cb5 : w3.cell? ⟨w.heap.size + 1, 5, none⟩ = some (sv b.sh) := Bb.cell 5
        have fb := Bb.frozen
        have lb := Bb.lt
        have cr0 : w3.cell? ⟨w.heap.size + 1 + 1, 0, none⟩ = some (.int .u64 0) := Br.cell 0
        have cr1 : w3.cell? ⟨w.heap.size + 1 + 1, 1, none⟩ = some (.int .u64 0) := Br.cell 1
        have cr2 : w3.cell? ⟨w.heap.size + 1 + 1, 2, none⟩ = some (.int .u64 0) := Br.cell 2
        have cr3 : w3.cell? ⟨w.heap.size + 1 + 1, 3, none⟩ = some (.int .u64 0) := Br.cell 3
        have cr4 : w3.cell? ⟨w.heap.size + 1 + 1, 4, none⟩ = some (.int .i64 0) := Br.cell 4
        have cr5 : w3.cell? ⟨w.heap.size + 1 + 1, 5, none⟩ = some (.int .i64 0) := Br.cell 5
        have fr := Br.frozen
        have lr := Br.lt
        go_wp2
        exact bodyPost_ret (v := rv (PlainScalar.shifted op (b.lo.toNat % 64) a)) (by simp [results, Try.results46, go_sem, cr0, cr1, cr2, cr3, cr4, cr5, lr]) rfl ⟨by rw [hs], by repeat (first | (with_reducible exact hB) | (with_reducible refine Bl_set ?_ (by first | omega | (simp; done) | (simp; omega)) _) | with_reducible apply Bl_alloc)⟩
end Go.Proofs.Ytmghpoagpiljhac
