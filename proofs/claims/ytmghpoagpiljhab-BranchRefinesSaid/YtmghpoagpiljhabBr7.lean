/- Refine, and the small functions of the laws of layer 15. -/
import Derived.Test.YtmghpoagpiljhabBr6
set_option linter.unusedSimpArgs false
namespace Go.Proofs.Ytmghpoagpiljhab
open Go.RowKit
open PlainTnum (N)
open PlainScalar (Rng)
theorem new_rng14 {o : Oper} (h : isAlloc o = some 27) (ρ : Operand → Value) (w : World) : (execOp ρ o).run Try.prog w = .ok (.value (.pointer (some ⟨w.heap.size, 0, none⟩))) (w.alloc (.cells #[.int .u64 0, .int .u64 0, .int .u64 0, .int .u64 0, .int .i64 0, .int .i64 0] 27)) := by
  obtain ⟨dst, op, type, pos, after, guard⟩ := o
  have := alloc_is h
  simp only at this
  subst this
  go_simp
/-- Three results. -/
abbrev t3 (R : (Rng × Rng) × Bool) : Value := .tuple #[rv R.1.1, rv R.1.2, .bool R.2]
set_option maxRecDepth 100000 in
set_option maxHeartbeats 3200000 in
theorem ref_false (op : Int) (l : Bool) (a b : Rng) (h : Bool) (u v : Rng) (k_R : ∀ w : World, Calls Try.prog 63 #[.int .i64 op, .bool l, pv2 a b, .bool h] w fun e w' => e = .returned (.tuple #[pv2 u v, .bool false]) ∧ Below w.heap.size w w') (hs : PlainBranch.refine op l a b h = (PlainBranch.zero, false)) (w : World) : Calls Try.prog 38 #[.int .i64 op, .bool l, rv a, rv b, .bool h] w fun e w' => e = .returned (t3 (PlainBranch.refine op l a b h)) ∧ Below w.heap.size w w' := by
  go_enter Try.func38, Try.ntmps38
  go_wp2_with fail
  obtain ⟨ga, hga⟩ : ∃ g, g = w.heap.size := ⟨_, rfl⟩
  obtain ⟨gb, hgb⟩ : ∃ g, g = w.heap.size + 1 := ⟨_, rfl⟩
  obtain ⟨gr, hgr⟩ : ∃ g, g = w.heap.size + 1 + 1 := ⟨_, rfl⟩
  obtain ⟨gt, hgt⟩ : ∃ g, g = w.heap.size + 1 + 1 + 1 := ⟨_, rfl⟩
  have Ba : Blk ((((w.alloc (.cells #[uv a.b.v, uv a.b.m, uv a.lo, uv a.hi, sv a.sl, sv a.sh] 27)).alloc (.cells #[uv b.b.v, uv b.b.m, uv b.lo, uv b.hi, sv b.sl, sv b.sh] 27)).alloc (.cells #[.int .u64 0, .int .u64 0, .int .u64 0, .int .u64 0, .int .i64 0, .int .i64 0] 27)).alloc (.cells #[.int .u64 0, .int .u64 0, .int .u64 0, .int .u64 0, .int .i64 0, .int .i64 0] 27)) (w.heap.size) 27 #[uv a.b.v, uv a.b.m, uv a.lo, uv a.hi, sv a.sl, sv a.sh] := ((((Blk.new w 27 #[uv a.b.v, uv a.b.m, uv a.lo, uv a.hi, sv a.sl, sv a.sh])).alloc _).alloc _).alloc _
  have Bb : Blk ((((w.alloc (.cells #[uv a.b.v, uv a.b.m, uv a.lo, uv a.hi, sv a.sl, sv a.sh] 27)).alloc (.cells #[uv b.b.v, uv b.b.m, uv b.lo, uv b.hi, sv b.sl, sv b.sh] 27)).alloc (.cells #[.int .u64 0, .int .u64 0, .int .u64 0, .int .u64 0, .int .i64 0, .int .i64 0] 27)).alloc (.cells #[.int .u64 0, .int .u64 0, .int .u64 0, .int .u64 0, .int .i64 0, .int .i64 0] 27)) (w.heap.size + 1) 27 #[uv b.b.v, uv b.b.m, uv b.lo, uv b.hi, sv b.sl, sv b.sh] := (((by simpa using Blk.new (w.alloc (.cells #[uv a.b.v, uv a.b.m, uv a.lo, uv a.hi, sv a.sl, sv a.sh] 27)) 27 #[uv b.b.v, uv b.b.m, uv b.lo, uv b.hi, sv b.sl, sv b.sh] : Blk _ (w.heap.size + 1) 27 #[uv b.b.v, uv b.b.m, uv b.lo, uv b.hi, sv b.sl, sv b.sh])).alloc _).alloc _
  have Br : Blk ((((w.alloc (.cells #[uv a.b.v, uv a.b.m, uv a.lo, uv a.hi, sv a.sl, sv a.sh] 27)).alloc (.cells #[uv b.b.v, uv b.b.m, uv b.lo, uv b.hi, sv b.sl, sv b.sh] 27)).alloc (.cells #[.int .u64 0, .int .u64 0, .int .u64 0, .int .u64 0, .int .i64 0, .int .i64 0] 27)).alloc (.cells #[.int .u64 0, .int .u64 0, .int .u64 0, .int .u64 0, .int .i64 0, .int .i64 0] 27)) (w.heap.size + 1 + 1) 27 #[.int .u64 0, .int .u64 0, .int .u64 0, .int .u64 0, .int .i64 0, .int .i64 0] := ((by simpa using Blk.new ((w.alloc (.cells #[uv a.b.v, uv a.b.m, uv a.lo, uv a.hi, sv a.sl, sv a.sh] 27)).alloc (.cells #[uv b.b.v, uv b.b.m, uv b.lo, uv b.hi, sv b.sl, sv b.sh] 27)) 27 #[.int .u64 0, .int .u64 0, .int .u64 0, .int .u64 0, .int .i64 0, .int .i64 0] : Blk _ (w.heap.size + 1 + 1) 27 #[.int .u64 0, .int .u64 0, .int .u64 0, .int .u64 0, .int .i64 0, .int .i64 0])).alloc _
  have Bt : Blk ((((w.alloc (.cells #[uv a.b.v, uv a.b.m, uv a.lo, uv a.hi, sv a.sl, sv a.sh] 27)).alloc (.cells #[uv b.b.v, uv b.b.m, uv b.lo, uv b.hi, sv b.sl, sv b.sh] 27)).alloc (.cells #[.int .u64 0, .int .u64 0, .int .u64 0, .int .u64 0, .int .i64 0, .int .i64 0] 27)).alloc (.cells #[.int .u64 0, .int .u64 0, .int .u64 0, .int .u64 0, .int .i64 0, .int .i64 0] 27)) (w.heap.size + 1 + 1 + 1) 27 #[.int .u64 0, .int .u64 0, .int .u64 0, .int .u64 0, .int .i64 0, .int .i64 0] := (by simpa using Blk.new (((w.alloc (.cells #[uv a.b.v, uv a.b.m, uv a.lo, uv a.hi, sv a.sl, sv a.sh] 27)).alloc (.cells #[uv b.b.v, uv b.b.m, uv b.lo, uv b.hi, sv b.sl, sv b.sh] 27)).alloc (.cells #[.int .u64 0, .int .u64 0, .int .u64 0, .int .u64 0, .int .i64 0, .int .i64 0] 27)) 27 #[.int .u64 0, .int .u64 0, .int .u64 0, .int .u64 0, .int .i64 0, .int .i64 0] : Blk _ (w.heap.size + 1 + 1 + 1) 27 #[.int .u64 0, .int .u64 0, .int .u64 0, .int .u64 0, .int .i64 0, .int .i64 0])
  have hB : Below w.heap.size w ((((w.alloc (.cells #[uv a.b.v, uv a.b.m, uv a.lo, uv a.hi, sv a.sl, sv a.sh] 27)).alloc (.cells #[uv b.b.v, uv b.b.m, uv b.lo, uv b.hi, sv b.sl, sv b.sh] 27)).alloc (.cells #[.int .u64 0, .int .u64 0, .int .u64 0, .int .u64 0, .int .i64 0, .int .i64 0] 27)).alloc (.cells #[.int .u64 0, .int .u64 0, .int .u64 0, .int .u64 0, .int .i64 0, .int .i64 0] 27)) := (Bl_alloc (Bl_alloc (Bl_alloc (Bl_alloc (Bl_refl w) _) _) _) _)
  clear hga
  clear ga
  clear hgb
  clear gb
  clear hgr
  clear gr
  clear hgt
  clear gt
  generalize ((((w.alloc (.cells #[uv a.b.v, uv a.b.m, uv a.lo, uv a.hi, sv a.sl, sv a.sh] 27)).alloc (.cells #[uv b.b.v, uv b.b.m, uv b.lo, uv b.hi, sv b.sl, sv b.sh] 27)).alloc (.cells #[.int .u64 0, .int .u64 0, .int .u64 0, .int .u64 0, .int .i64 0, .int .i64 0] 27)).alloc (.cells #[.int .u64 0, .int .u64 0, .int .u64 0, .int .u64 0, .int .i64 0, .int .i64 0] 27)) = w1 at *
  obtain ⟨ca0, ca1, ca2, ca3, ca4, ca5⟩ := cells6 Ba
  have fa := Ba.frozen; have la := Ba.lt
  obtain ⟨cb0, cb1, cb2, cb3, cb4, cb5⟩ := cells6 Bb
  have fb := Bb.frozen; have lb := Bb.lt
  obtain ⟨cr0, cr1, cr2, cr3, cr4, cr5⟩ := cells6 Br
  have fr := Br.frozen; have lr := Br.lt
  obtain ⟨ct0, ct1, ct2, ct3, ct4, ct5⟩ := cells6 Bt
  have ft := Bt.frozen; have lt := Bt.lt
  go_wp2_with fail
  refine (k_R _).mono ?_
  rintro e w2 ⟨rfl, hb⟩
  clear ca0 ca1 ca2 ca3 ca4 ca5 fa la
  clear cb0 cb1 cb2 cb3 cb4 cb5 fb lb
  clear cr0 cr1 cr2 cr3 cr4 cr5 fr lr
  clear ct0 ct1 ct2 ct3 ct4 ct5 ft lt
  replace Ba := (Ba).next hb
  replace Bb := (Bb).next hb
  replace Br := (Br).next hb
  replace Bt := (Bt).next hb
  replace hB : Below w.heap.size w w2 := by repeat (first | exact hB | (refine Bl_set ?_ (by first | omega | (simp; omega)) _) | apply Bl_alloc | (refine Bl_trans ?_ hb))
  clear hb
  obtain ⟨ca0, ca1, ca2, ca3, ca4, ca5⟩ := cells6 Ba
  have fa := Ba.frozen; have la := Ba.lt
  obtain ⟨cb0, cb1, cb2, cb3, cb4, cb5⟩ := cells6 Bb
  have fb := Bb.frozen; have lb := Bb.lt
  obtain ⟨cr0, cr1, cr2, cr3, cr4, cr5⟩ := cells6 Br
  have fr := Br.frozen; have lr := Br.lt
  obtain ⟨ct0, ct1, ct2, ct3, ct4, ct5⟩ := cells6 Bt
  have ft := Bt.frozen; have lt := Bt.lt
  go_upto_region 2 with fail
  clear ca0 ca1 ca2 ca3 ca4 ca5 fa la
  clear cb0 cb1 cb2 cb3 cb4 cb5 fb lb
  clear cr0 cr1 cr2 cr3 cr4 cr5 fr lr
  clear ct0 ct1 ct2 ct3 ct4 ct5 ft lt
  have Bq := Blk.new w2 118 #[uv u.b.v, uv u.b.m, uv u.lo, uv u.hi, sv u.sl, sv u.sh, uv v.b.v, uv v.b.m, uv v.lo, uv v.hi, sv v.sl, sv v.sh]
  have hgq := hB.size
  have hnaq := Nat.ne_of_lt Ba.lt; have hltaq := Ba.lt
  have hnbq := Nat.ne_of_lt Bb.lt; have hltbq := Bb.lt
  have hnrq := Nat.ne_of_lt Br.lt; have hltrq := Br.lt
  have hntq := Nat.ne_of_lt Bt.lt; have hlttq := Bt.lt
  replace Ba : Blk (w2.alloc (.cells #[uv u.b.v, uv u.b.m, uv u.lo, uv u.hi, sv u.sl, sv u.sh, uv v.b.v, uv v.b.m, uv v.lo, uv v.hi, sv v.sl, sv v.sh] 118)) (w.heap.size) 27 #[uv a.b.v, uv a.b.m, uv a.lo, uv a.hi, sv a.sl, sv a.sh] := Ba.alloc _
  replace Bb : Blk (w2.alloc (.cells #[uv u.b.v, uv u.b.m, uv u.lo, uv u.hi, sv u.sl, sv u.sh, uv v.b.v, uv v.b.m, uv v.lo, uv v.hi, sv v.sl, sv v.sh] 118)) (w.heap.size + 1) 27 #[uv b.b.v, uv b.b.m, uv b.lo, uv b.hi, sv b.sl, sv b.sh] := Bb.alloc _
  replace Br : Blk (w2.alloc (.cells #[uv u.b.v, uv u.b.m, uv u.lo, uv u.hi, sv u.sl, sv u.sh, uv v.b.v, uv v.b.m, uv v.lo, uv v.hi, sv v.sl, sv v.sh] 118)) (w.heap.size + 1 + 1) 27 #[.int .u64 0, .int .u64 0, .int .u64 0, .int .u64 0, .int .i64 0, .int .i64 0] := Br.alloc _
  replace Bt : Blk (w2.alloc (.cells #[uv u.b.v, uv u.b.m, uv u.lo, uv u.hi, sv u.sl, sv u.sh, uv v.b.v, uv v.b.m, uv v.lo, uv v.hi, sv v.sl, sv v.sh] 118)) (w.heap.size + 1 + 1 + 1) 27 #[.int .u64 0, .int .u64 0, .int .u64 0, .int .u64 0, .int .i64 0, .int .i64 0] := Bt.alloc _
  replace hB : Below w.heap.size w (w2.alloc (.cells #[uv u.b.v, uv u.b.m, uv u.lo, uv u.hi, sv u.sl, sv u.sh, uv v.b.v, uv v.b.m, uv v.lo, uv v.hi, sv v.sl, sv v.sh] 118)) := Bl_alloc hB _
  generalize (w2.alloc (.cells #[uv u.b.v, uv u.b.m, uv u.lo, uv u.hi, sv u.sl, sv u.sh, uv v.b.v, uv v.b.m, uv v.lo, uv v.hi, sv v.sl, sv v.sh] 118)) = w3 at *
  generalize w2.heap.size = gq at *
  obtain ⟨ca0, ca1, ca2, ca3, ca4, ca5⟩ := cells6 Ba
  have fa := Ba.frozen; have la := Ba.lt
  obtain ⟨cb0, cb1, cb2, cb3, cb4, cb5⟩ := cells6 Bb
  have fb := Bb.frozen; have lb := Bb.lt
  obtain ⟨cr0, cr1, cr2, cr3, cr4, cr5⟩ := cells6 Br
  have fr := Br.frozen; have lr := Br.lt
  obtain ⟨ct0, ct1, ct2, ct3, ct4, ct5⟩ := cells6 Bt
  have ft := Bt.frozen; have lt := Bt.lt
  obtain ⟨cq0, cq1, cq2, cq3, cq4, cq5, cq6, cq7, cq8, cq9, cq10, cq11⟩ := cells12 Bq
  have fq := Bq.frozen; have lq := Bq.lt
  go_wp2
  exact bodyPost_ret (v := .tuple #[rv PlainScalar.none_, rv PlainScalar.none_, .bool false]) (by simp [results, Try.results38, go_sem, cr0, cr1, cr2, cr3, cr4, cr5, ct0, ct1, ct2, ct3, ct4, ct5, lr, lt, PlainScalar.none_, T, S]) rfl ⟨by rw [hs]; first | done | rfl, by repeat (first | (with_reducible exact hB) | (with_reducible refine Bl_set ?_ (by first | omega | (simp; done) | (simp; omega)) _) | with_reducible apply Bl_alloc)⟩
set_option maxRecDepth 100000 in
set_option maxHeartbeats 3200000 in
theorem ref_true (op : Int) (l : Bool) (a b : Rng) (h : Bool) (u v : Rng) (k_R : ∀ w : World, Calls Try.prog 63 #[.int .i64 op, .bool l, pv2 a b, .bool h] w fun e w' => e = .returned (.tuple #[pv2 u v, .bool true]) ∧ Below w.heap.size w w') (hs : PlainBranch.refine op l a b h = ((u, v), true)) (w : World) : Calls Try.prog 38 #[.int .i64 op, .bool l, rv a, rv b, .bool h] w fun e w' => e = .returned (t3 (PlainBranch.refine op l a b h)) ∧ Below w.heap.size w w' := by
  go_enter Try.func38, Try.ntmps38
  go_wp2_with fail
  obtain ⟨ga, hga⟩ : ∃ g, g = w.heap.size := ⟨_, rfl⟩
  obtain ⟨gb, hgb⟩ : ∃ g, g = w.heap.size + 1 := ⟨_, rfl⟩
  obtain ⟨gr, hgr⟩ : ∃ g, g = w.heap.size + 1 + 1 := ⟨_, rfl⟩
  obtain ⟨gt, hgt⟩ : ∃ g, g = w.heap.size + 1 + 1 + 1 := ⟨_, rfl⟩
  have Ba : Blk ((((w.alloc (.cells #[uv a.b.v, uv a.b.m, uv a.lo, uv a.hi, sv a.sl, sv a.sh] 27)).alloc (.cells #[uv b.b.v, uv b.b.m, uv b.lo, uv b.hi, sv b.sl, sv b.sh] 27)).alloc (.cells #[.int .u64 0, .int .u64 0, .int .u64 0, .int .u64 0, .int .i64 0, .int .i64 0] 27)).alloc (.cells #[.int .u64 0, .int .u64 0, .int .u64 0, .int .u64 0, .int .i64 0, .int .i64 0] 27)) (w.heap.size) 27 #[uv a.b.v, uv a.b.m, uv a.lo, uv a.hi, sv a.sl, sv a.sh] := ((((Blk.new w 27 #[uv a.b.v, uv a.b.m, uv a.lo, uv a.hi, sv a.sl, sv a.sh])).alloc _).alloc _).alloc _
  have Bb : Blk ((((w.alloc (.cells #[uv a.b.v, uv a.b.m, uv a.lo, uv a.hi, sv a.sl, sv a.sh] 27)).alloc (.cells #[uv b.b.v, uv b.b.m, uv b.lo, uv b.hi, sv b.sl, sv b.sh] 27)).alloc (.cells #[.int .u64 0, .int .u64 0, .int .u64 0, .int .u64 0, .int .i64 0, .int .i64 0] 27)).alloc (.cells #[.int .u64 0, .int .u64 0, .int .u64 0, .int .u64 0, .int .i64 0, .int .i64 0] 27)) (w.heap.size + 1) 27 #[uv b.b.v, uv b.b.m, uv b.lo, uv b.hi, sv b.sl, sv b.sh] := (((by simpa using Blk.new (w.alloc (.cells #[uv a.b.v, uv a.b.m, uv a.lo, uv a.hi, sv a.sl, sv a.sh] 27)) 27 #[uv b.b.v, uv b.b.m, uv b.lo, uv b.hi, sv b.sl, sv b.sh] : Blk _ (w.heap.size + 1) 27 #[uv b.b.v, uv b.b.m, uv b.lo, uv b.hi, sv b.sl, sv b.sh])).alloc _).alloc _
  have Br : Blk ((((w.alloc (.cells #[uv a.b.v, uv a.b.m, uv a.lo, uv a.hi, sv a.sl, sv a.sh] 27)).alloc (.cells #[uv b.b.v, uv b.b.m, uv b.lo, uv b.hi, sv b.sl, sv b.sh] 27)).alloc (.cells #[.int .u64 0, .int .u64 0, .int .u64 0, .int .u64 0, .int .i64 0, .int .i64 0] 27)).alloc (.cells #[.int .u64 0, .int .u64 0, .int .u64 0, .int .u64 0, .int .i64 0, .int .i64 0] 27)) (w.heap.size + 1 + 1) 27 #[.int .u64 0, .int .u64 0, .int .u64 0, .int .u64 0, .int .i64 0, .int .i64 0] := ((by simpa using Blk.new ((w.alloc (.cells #[uv a.b.v, uv a.b.m, uv a.lo, uv a.hi, sv a.sl, sv a.sh] 27)).alloc (.cells #[uv b.b.v, uv b.b.m, uv b.lo, uv b.hi, sv b.sl, sv b.sh] 27)) 27 #[.int .u64 0, .int .u64 0, .int .u64 0, .int .u64 0, .int .i64 0, .int .i64 0] : Blk _ (w.heap.size + 1 + 1) 27 #[.int .u64 0, .int .u64 0, .int .u64 0, .int .u64 0, .int .i64 0, .int .i64 0])).alloc _
  have Bt : Blk ((((w.alloc (.cells #[uv a.b.v, uv a.b.m, uv a.lo, uv a.hi, sv a.sl, sv a.sh] 27)).alloc (.cells #[uv b.b.v, uv b.b.m, uv b.lo, uv b.hi, sv b.sl, sv b.sh] 27)).alloc (.cells #[.int .u64 0, .int .u64 0, .int .u64 0, .int .u64 0, .int .i64 0, .int .i64 0] 27)).alloc (.cells #[.int .u64 0, .int .u64 0, .int .u64 0, .int .u64 0, .int .i64 0, .int .i64 0] 27)) (w.heap.size + 1 + 1 + 1) 27 #[.int .u64 0, .int .u64 0, .int .u64 0, .int .u64 0, .int .i64 0, .int .i64 0] := (by simpa using Blk.new (((w.alloc (.cells #[uv a.b.v, uv a.b.m, uv a.lo, uv a.hi, sv a.sl, sv a.sh] 27)).alloc (.cells #[uv b.b.v, uv b.b.m, uv b.lo, uv b.hi, sv b.sl, sv b.sh] 27)).alloc (.cells #[.int .u64 0, .int .u64 0, .int .u64 0, .int .u64 0, .int .i64 0, .int .i64 0] 27)) 27 #[.int .u64 0, .int .u64 0, .int .u64 0, .int .u64 0, .int .i64 0, .int .i64 0] : Blk _ (w.heap.size + 1 + 1 + 1) 27 #[.int .u64 0, .int .u64 0, .int .u64 0, .int .u64 0, .int .i64 0, .int .i64 0])
  have hB : Below w.heap.size w ((((w.alloc (.cells #[uv a.b.v, uv a.b.m, uv a.lo, uv a.hi, sv a.sl, sv a.sh] 27)).alloc (.cells #[uv b.b.v, uv b.b.m, uv b.lo, uv b.hi, sv b.sl, sv b.sh] 27)).alloc (.cells #[.int .u64 0, .int .u64 0, .int .u64 0, .int .u64 0, .int .i64 0, .int .i64 0] 27)).alloc (.cells #[.int .u64 0, .int .u64 0, .int .u64 0, .int .u64 0, .int .i64 0, .int .i64 0] 27)) := (Bl_alloc (Bl_alloc (Bl_alloc (Bl_alloc (Bl_refl w) _) _) _) _)
  clear hga
  clear ga
  clear hgb
  clear gb
  clear hgr
  clear gr
  clear hgt
  clear gt
  generalize ((((w.alloc (.cells #[uv a.b.v, uv a.b.m, uv a.lo, uv a.hi, sv a.sl, sv a.sh] 27)).alloc (.cells #[uv b.b.v, uv b.b.m, uv b.lo, uv b.hi, sv b.sl, sv b.sh] 27)).alloc (.cells #[.int .u64 0, .int .u64 0, .int .u64 0, .int .u64 0, .int .i64 0, .int .i64 0] 27)).alloc (.cells #[.int .u64 0, .int .u64 0, .int .u64 0, .int .u64 0, .int .i64 0, .int .i64 0] 27)) = w1 at *
  obtain ⟨ca0, ca1, ca2, ca3, ca4, ca5⟩ := cells6 Ba
  have fa := Ba.frozen; have la := Ba.lt
  obtain ⟨cb0, cb1, cb2, cb3, cb4, cb5⟩ := cells6 Bb
  have fb := Bb.frozen; have lb := Bb.lt
  obtain ⟨cr0, cr1, cr2, cr3, cr4, cr5⟩ := cells6 Br
  have fr := Br.frozen; have lr := Br.lt
  obtain ⟨ct0, ct1, ct2, ct3, ct4, ct5⟩ := cells6 Bt
  have ft := Bt.frozen; have lt := Bt.lt
  go_wp2_with fail
  refine (k_R _).mono ?_
  rintro e w2 ⟨rfl, hb⟩
  clear ca0 ca1 ca2 ca3 ca4 ca5 fa la
  clear cb0 cb1 cb2 cb3 cb4 cb5 fb lb
  clear cr0 cr1 cr2 cr3 cr4 cr5 fr lr
  clear ct0 ct1 ct2 ct3 ct4 ct5 ft lt
  replace Ba := (Ba).next hb
  replace Bb := (Bb).next hb
  replace Br := (Br).next hb
  replace Bt := (Bt).next hb
  replace hB : Below w.heap.size w w2 := by repeat (first | exact hB | (refine Bl_set ?_ (by first | omega | (simp; omega)) _) | apply Bl_alloc | (refine Bl_trans ?_ hb))
  clear hb
  obtain ⟨ca0, ca1, ca2, ca3, ca4, ca5⟩ := cells6 Ba
  have fa := Ba.frozen; have la := Ba.lt
  obtain ⟨cb0, cb1, cb2, cb3, cb4, cb5⟩ := cells6 Bb
  have fb := Bb.frozen; have lb := Bb.lt
  obtain ⟨cr0, cr1, cr2, cr3, cr4, cr5⟩ := cells6 Br
  have fr := Br.frozen; have lr := Br.lt
  obtain ⟨ct0, ct1, ct2, ct3, ct4, ct5⟩ := cells6 Bt
  have ft := Bt.frozen; have lt := Bt.lt
  go_upto_region 2 with fail
  clear ca0 ca1 ca2 ca3 ca4 ca5 fa la
  clear cb0 cb1 cb2 cb3 cb4 cb5 fb lb
  clear cr0 cr1 cr2 cr3 cr4 cr5 fr lr
  clear ct0 ct1 ct2 ct3 ct4 ct5 ft lt
  have Bq := Blk.new w2 118 #[uv u.b.v, uv u.b.m, uv u.lo, uv u.hi, sv u.sl, sv u.sh, uv v.b.v, uv v.b.m, uv v.lo, uv v.hi, sv v.sl, sv v.sh]
  have hgq := hB.size
  have hnaq := Nat.ne_of_lt Ba.lt; have hltaq := Ba.lt
  have hnbq := Nat.ne_of_lt Bb.lt; have hltbq := Bb.lt
  have hnrq := Nat.ne_of_lt Br.lt; have hltrq := Br.lt
  have hntq := Nat.ne_of_lt Bt.lt; have hlttq := Bt.lt
  replace Ba : Blk (w2.alloc (.cells #[uv u.b.v, uv u.b.m, uv u.lo, uv u.hi, sv u.sl, sv u.sh, uv v.b.v, uv v.b.m, uv v.lo, uv v.hi, sv v.sl, sv v.sh] 118)) (w.heap.size) 27 #[uv a.b.v, uv a.b.m, uv a.lo, uv a.hi, sv a.sl, sv a.sh] := Ba.alloc _
  replace Bb : Blk (w2.alloc (.cells #[uv u.b.v, uv u.b.m, uv u.lo, uv u.hi, sv u.sl, sv u.sh, uv v.b.v, uv v.b.m, uv v.lo, uv v.hi, sv v.sl, sv v.sh] 118)) (w.heap.size + 1) 27 #[uv b.b.v, uv b.b.m, uv b.lo, uv b.hi, sv b.sl, sv b.sh] := Bb.alloc _
  replace Br : Blk (w2.alloc (.cells #[uv u.b.v, uv u.b.m, uv u.lo, uv u.hi, sv u.sl, sv u.sh, uv v.b.v, uv v.b.m, uv v.lo, uv v.hi, sv v.sl, sv v.sh] 118)) (w.heap.size + 1 + 1) 27 #[.int .u64 0, .int .u64 0, .int .u64 0, .int .u64 0, .int .i64 0, .int .i64 0] := Br.alloc _
  replace Bt : Blk (w2.alloc (.cells #[uv u.b.v, uv u.b.m, uv u.lo, uv u.hi, sv u.sl, sv u.sh, uv v.b.v, uv v.b.m, uv v.lo, uv v.hi, sv v.sl, sv v.sh] 118)) (w.heap.size + 1 + 1 + 1) 27 #[.int .u64 0, .int .u64 0, .int .u64 0, .int .u64 0, .int .i64 0, .int .i64 0] := Bt.alloc _
  replace hB : Below w.heap.size w (w2.alloc (.cells #[uv u.b.v, uv u.b.m, uv u.lo, uv u.hi, sv u.sl, sv u.sh, uv v.b.v, uv v.b.m, uv v.lo, uv v.hi, sv v.sl, sv v.sh] 118)) := Bl_alloc hB _
  generalize (w2.alloc (.cells #[uv u.b.v, uv u.b.m, uv u.lo, uv u.hi, sv u.sl, sv u.sh, uv v.b.v, uv v.b.m, uv v.lo, uv v.hi, sv v.sl, sv v.sh] 118)) = w3 at *
  generalize w2.heap.size = gq at *
  obtain ⟨ca0, ca1, ca2, ca3, ca4, ca5⟩ := cells6 Ba
  have fa := Ba.frozen; have la := Ba.lt
  obtain ⟨cb0, cb1, cb2, cb3, cb4, cb5⟩ := cells6 Bb
  have fb := Bb.frozen; have lb := Bb.lt
  obtain ⟨cr0, cr1, cr2, cr3, cr4, cr5⟩ := cells6 Br
  have fr := Br.frozen; have lr := Br.lt
  obtain ⟨ct0, ct1, ct2, ct3, ct4, ct5⟩ := cells6 Bt
  have ft := Bt.frozen; have lt := Bt.lt
  obtain ⟨cq0, cq1, cq2, cq3, cq4, cq5, cq6, cq7, cq8, cq9, cq10, cq11⟩ := cells12 Bq
  have fq := Bq.frozen; have lq := Bq.lt
  go_wp2_with fail
  clear ca0 ca1 ca2 ca3 ca4 ca5; obtain ⟨ca0, ca1, ca2, ca3, ca4, ca5⟩ := lcells6 Ba
  clear cb0 cb1 cb2 cb3 cb4 cb5; obtain ⟨cb0, cb1, cb2, cb3, cb4, cb5⟩ := lcells6 Bb
  clear cr0 cr1 cr2 cr3 cr4 cr5; obtain ⟨cr0, cr1, cr2, cr3, cr4, cr5⟩ := lcells6 Br
  clear ct0 ct1 ct2 ct3 ct4 ct5; obtain ⟨ct0, ct1, ct2, ct3, ct4, ct5⟩ := lcells6 Bt
  clear cq0 cq1 cq2 cq3 cq4 cq5 cq6 cq7 cq8 cq9 cq10 cq11; obtain ⟨cq0, cq1, cq2, cq3, cq4, cq5, cq6, cq7, cq8, cq9, cq10, cq11⟩ := lcells12 Bq
  obtain ⟨S, hS⟩ : ∃ S : World → Prop, ∀ x, S x ↔ (x.cell? ⟨gq, 6, none⟩ = some (uv v.b.v) ∧ x.cell? ⟨gq, 7, none⟩ = some (uv v.b.m) ∧ x.cell? ⟨gq, 8, none⟩ = some (uv v.lo) ∧ x.cell? ⟨gq, 9, none⟩ = some (uv v.hi) ∧ x.cell? ⟨gq, 10, none⟩ = some (sv v.sl) ∧ x.cell? ⟨gq, 11, none⟩ = some (sv v.sh)) := ⟨_, fun _ => Iff.rfl⟩
  have u0 : ∀ g : Under S, g.w.cell? ⟨gq, 6, none⟩ = some (uv v.b.v) := fun g => ((hS _).1 g.is).1
  have u1 : ∀ g : Under S, g.w.cell? ⟨gq, 7, none⟩ = some (uv v.b.m) := fun g => ((hS _).1 g.is).2.1
  have u2 : ∀ g : Under S, g.w.cell? ⟨gq, 8, none⟩ = some (uv v.lo) := fun g => ((hS _).1 g.is).2.2.1
  have u3 : ∀ g : Under S, g.w.cell? ⟨gq, 9, none⟩ = some (uv v.hi) := fun g => ((hS _).1 g.is).2.2.2.1
  have u4 : ∀ g : Under S, g.w.cell? ⟨gq, 10, none⟩ = some (sv v.sl) := fun g => ((hS _).1 g.is).2.2.2.2.1
  have u5 : ∀ g : Under S, g.w.cell? ⟨gq, 11, none⟩ = some (sv v.sh) := fun g => ((hS _).1 g.is).2.2.2.2.2
  refine wp_region_mixS 4 (fun k => k == 2 || k == 3) (fun _ => #[]) S rfl (by kernel_rfl) (by kernel_rfl) (no_alloc (by kernel_rfl)) ?_
  simp only [List.take_succ_cons, List.take_zero, List.drop_succ_cons, List.drop_zero]
  repeat (refine wpMixS_step (fun K hK => ?_); go_simp; first | (refine hK _ ?_; clear hK K))
  refine wpMixS_nil ?_
  intro G w4 hgr hblk hdist
  have hb : Below w3.heap.size w3 w4 := hgr
  replace Ba := Ba.next hb
  replace Bb := Bb.next hb
  replace Br := Br.next hb
  replace Bt := Bt.next hb
  replace Bq := Bq.next hb
  clear ca0 ca1 ca2 ca3 ca4 ca5 fa la
  clear cb0 cb1 cb2 cb3 cb4 cb5 fb lb
  clear cr0 cr1 cr2 cr3 cr4 cr5 fr lr
  clear ct0 ct1 ct2 ct3 ct4 ct5 ft lt
  clear cq0 cq1 cq2 cq3 cq4 cq5 cq6 cq7 cq8 cq9 cq10 cq11 fq lq
  clear u0 u1 u2 u3 u4 u5
  replace hB : Below w.heap.size w w4 := Bl_trans hB hb
  simp only [putAll, isAlloc]
  clear hb hgr hblk hdist
  obtain ⟨ca0, ca1, ca2, ca3, ca4, ca5⟩ := cells6 Ba
  have fa := Ba.frozen; have la := Ba.lt
  obtain ⟨cb0, cb1, cb2, cb3, cb4, cb5⟩ := cells6 Bb
  have fb := Bb.frozen; have lb := Bb.lt
  obtain ⟨cr0, cr1, cr2, cr3, cr4, cr5⟩ := cells6 Br
  have fr := Br.frozen; have lr := Br.lt
  obtain ⟨ct0, ct1, ct2, ct3, ct4, ct5⟩ := cells6 Bt
  have ft := Bt.frozen; have lt := Bt.lt
  obtain ⟨cq0, cq1, cq2, cq3, cq4, cq5, cq6, cq7, cq8, cq9, cq10, cq11⟩ := cells12 Bq
  have fq := Bq.frozen; have lq := Bq.lt
  go_wp2_with fail
  refine ⟨by first | trivial | rfl, ?_, ?_⟩
  · refine (hS _).2 ?_; exact ⟨((((((Bq.far (by first | (simp; done) | (simp; omega) | (simp [*]; done) | (simp only [ne_eq]; constructor <;> omega)) _).far (by first | (simp; done) | (simp; omega) | (simp [*]; done) | (simp only [ne_eq]; constructor <;> omega)) _).far (by first | (simp; done) | (simp; omega) | (simp [*]; done) | (simp only [ne_eq]; constructor <;> omega)) _).far (by first | (simp; done) | (simp; omega) | (simp [*]; done) | (simp only [ne_eq]; constructor <;> omega)) _).far (by first | (simp; done) | (simp; omega) | (simp [*]; done) | (simp only [ne_eq]; constructor <;> omega)) _).far (by first | (simp; done) | (simp; omega) | (simp [*]; done) | (simp only [ne_eq]; constructor <;> omega)) _).cell 6, ((((((Bq.far (by first | (simp; done) | (simp; omega) | (simp [*]; done) | (simp only [ne_eq]; constructor <;> omega)) _).far (by first | (simp; done) | (simp; omega) | (simp [*]; done) | (simp only [ne_eq]; constructor <;> omega)) _).far (by first | (simp; done) | (simp; omega) | (simp [*]; done) | (simp only [ne_eq]; constructor <;> omega)) _).far (by first | (simp; done) | (simp; omega) | (simp [*]; done) | (simp only [ne_eq]; constructor <;> omega)) _).far (by first | (simp; done) | (simp; omega) | (simp [*]; done) | (simp only [ne_eq]; constructor <;> omega)) _).far (by first | (simp; done) | (simp; omega) | (simp [*]; done) | (simp only [ne_eq]; constructor <;> omega)) _).cell 7, ((((((Bq.far (by first | (simp; done) | (simp; omega) | (simp [*]; done) | (simp only [ne_eq]; constructor <;> omega)) _).far (by first | (simp; done) | (simp; omega) | (simp [*]; done) | (simp only [ne_eq]; constructor <;> omega)) _).far (by first | (simp; done) | (simp; omega) | (simp [*]; done) | (simp only [ne_eq]; constructor <;> omega)) _).far (by first | (simp; done) | (simp; omega) | (simp [*]; done) | (simp only [ne_eq]; constructor <;> omega)) _).far (by first | (simp; done) | (simp; omega) | (simp [*]; done) | (simp only [ne_eq]; constructor <;> omega)) _).far (by first | (simp; done) | (simp; omega) | (simp [*]; done) | (simp only [ne_eq]; constructor <;> omega)) _).cell 8, ((((((Bq.far (by first | (simp; done) | (simp; omega) | (simp [*]; done) | (simp only [ne_eq]; constructor <;> omega)) _).far (by first | (simp; done) | (simp; omega) | (simp [*]; done) | (simp only [ne_eq]; constructor <;> omega)) _).far (by first | (simp; done) | (simp; omega) | (simp [*]; done) | (simp only [ne_eq]; constructor <;> omega)) _).far (by first | (simp; done) | (simp; omega) | (simp [*]; done) | (simp only [ne_eq]; constructor <;> omega)) _).far (by first | (simp; done) | (simp; omega) | (simp [*]; done) | (simp only [ne_eq]; constructor <;> omega)) _).far (by first | (simp; done) | (simp; omega) | (simp [*]; done) | (simp only [ne_eq]; constructor <;> omega)) _).cell 9, ((((((Bq.far (by first | (simp; done) | (simp; omega) | (simp [*]; done) | (simp only [ne_eq]; constructor <;> omega)) _).far (by first | (simp; done) | (simp; omega) | (simp [*]; done) | (simp only [ne_eq]; constructor <;> omega)) _).far (by first | (simp; done) | (simp; omega) | (simp [*]; done) | (simp only [ne_eq]; constructor <;> omega)) _).far (by first | (simp; done) | (simp; omega) | (simp [*]; done) | (simp only [ne_eq]; constructor <;> omega)) _).far (by first | (simp; done) | (simp; omega) | (simp [*]; done) | (simp only [ne_eq]; constructor <;> omega)) _).far (by first | (simp; done) | (simp; omega) | (simp [*]; done) | (simp only [ne_eq]; constructor <;> omega)) _).cell 10, ((((((Bq.far (by first | (simp; done) | (simp; omega) | (simp [*]; done) | (simp only [ne_eq]; constructor <;> omega)) _).far (by first | (simp; done) | (simp; omega) | (simp [*]; done) | (simp only [ne_eq]; constructor <;> omega)) _).far (by first | (simp; done) | (simp; omega) | (simp [*]; done) | (simp only [ne_eq]; constructor <;> omega)) _).far (by first | (simp; done) | (simp; omega) | (simp [*]; done) | (simp only [ne_eq]; constructor <;> omega)) _).far (by first | (simp; done) | (simp; omega) | (simp [*]; done) | (simp only [ne_eq]; constructor <;> omega)) _).far (by first | (simp; done) | (simp; omega) | (simp [*]; done) | (simp only [ne_eq]; constructor <;> omega)) _).cell 11⟩
  clear hS S
  clear ca0 ca1 ca2 ca3 ca4 ca5 fa la
  clear cb0 cb1 cb2 cb3 cb4 cb5 fb lb
  clear cr0 cr1 cr2 cr3 cr4 cr5 fr lr
  clear ct0 ct1 ct2 ct3 ct4 ct5 ft lt
  clear cq0 cq1 cq2 cq3 cq4 cq5 cq6 cq7 cq8 cq9 cq10 cq11 fq lq
  replace Ba : Blk ((((((w4.setCell ⟨w.heap.size + 1 + 1, 0, none⟩ (uv u.b.v)).setCell ⟨w.heap.size + 1 + 1, 1, none⟩ (uv u.b.m)).setCell ⟨w.heap.size + 1 + 1, 2, none⟩ (uv u.lo)).setCell ⟨w.heap.size + 1 + 1, 3, none⟩ (uv u.hi)).setCell ⟨w.heap.size + 1 + 1, 4, none⟩ (sv u.sl)).setCell ⟨w.heap.size + 1 + 1, 5, none⟩ (sv u.sh)) (w.heap.size) 27 #[uv a.b.v, uv a.b.m, uv a.lo, uv a.hi, sv a.sl, sv a.sh] := ((((((Ba.far (by first | (simp; done) | (simp; omega) | (simp [*]; done) | (simp only [ne_eq]; constructor <;> omega)) _).far (by first | (simp; done) | (simp; omega) | (simp [*]; done) | (simp only [ne_eq]; constructor <;> omega)) _).far (by first | (simp; done) | (simp; omega) | (simp [*]; done) | (simp only [ne_eq]; constructor <;> omega)) _).far (by first | (simp; done) | (simp; omega) | (simp [*]; done) | (simp only [ne_eq]; constructor <;> omega)) _).far (by first | (simp; done) | (simp; omega) | (simp [*]; done) | (simp only [ne_eq]; constructor <;> omega)) _).far (by first | (simp; done) | (simp; omega) | (simp [*]; done) | (simp only [ne_eq]; constructor <;> omega)) _)
  replace Bb : Blk ((((((w4.setCell ⟨w.heap.size + 1 + 1, 0, none⟩ (uv u.b.v)).setCell ⟨w.heap.size + 1 + 1, 1, none⟩ (uv u.b.m)).setCell ⟨w.heap.size + 1 + 1, 2, none⟩ (uv u.lo)).setCell ⟨w.heap.size + 1 + 1, 3, none⟩ (uv u.hi)).setCell ⟨w.heap.size + 1 + 1, 4, none⟩ (sv u.sl)).setCell ⟨w.heap.size + 1 + 1, 5, none⟩ (sv u.sh)) (w.heap.size + 1) 27 #[uv b.b.v, uv b.b.m, uv b.lo, uv b.hi, sv b.sl, sv b.sh] := ((((((Bb.far (by first | (simp; done) | (simp; omega) | (simp [*]; done) | (simp only [ne_eq]; constructor <;> omega)) _).far (by first | (simp; done) | (simp; omega) | (simp [*]; done) | (simp only [ne_eq]; constructor <;> omega)) _).far (by first | (simp; done) | (simp; omega) | (simp [*]; done) | (simp only [ne_eq]; constructor <;> omega)) _).far (by first | (simp; done) | (simp; omega) | (simp [*]; done) | (simp only [ne_eq]; constructor <;> omega)) _).far (by first | (simp; done) | (simp; omega) | (simp [*]; done) | (simp only [ne_eq]; constructor <;> omega)) _).far (by first | (simp; done) | (simp; omega) | (simp [*]; done) | (simp only [ne_eq]; constructor <;> omega)) _)
  replace Br : Blk ((((((w4.setCell ⟨w.heap.size + 1 + 1, 0, none⟩ (uv u.b.v)).setCell ⟨w.heap.size + 1 + 1, 1, none⟩ (uv u.b.m)).setCell ⟨w.heap.size + 1 + 1, 2, none⟩ (uv u.lo)).setCell ⟨w.heap.size + 1 + 1, 3, none⟩ (uv u.hi)).setCell ⟨w.heap.size + 1 + 1, 4, none⟩ (sv u.sl)).setCell ⟨w.heap.size + 1 + 1, 5, none⟩ (sv u.sh)) (w.heap.size + 1 + 1) 27 #[uv u.b.v, uv u.b.m, uv u.lo, uv u.hi, sv u.sl, sv u.sh] := ((((((Br.set_ 0 _).set_ 1 _).set_ 2 _).set_ 3 _).set_ 4 _).set_ 5 _)
  replace Bt : Blk ((((((w4.setCell ⟨w.heap.size + 1 + 1, 0, none⟩ (uv u.b.v)).setCell ⟨w.heap.size + 1 + 1, 1, none⟩ (uv u.b.m)).setCell ⟨w.heap.size + 1 + 1, 2, none⟩ (uv u.lo)).setCell ⟨w.heap.size + 1 + 1, 3, none⟩ (uv u.hi)).setCell ⟨w.heap.size + 1 + 1, 4, none⟩ (sv u.sl)).setCell ⟨w.heap.size + 1 + 1, 5, none⟩ (sv u.sh)) (w.heap.size + 1 + 1 + 1) 27 #[.int .u64 0, .int .u64 0, .int .u64 0, .int .u64 0, .int .i64 0, .int .i64 0] := ((((((Bt.far (by first | (simp; done) | (simp; omega) | (simp [*]; done) | (simp only [ne_eq]; constructor <;> omega)) _).far (by first | (simp; done) | (simp; omega) | (simp [*]; done) | (simp only [ne_eq]; constructor <;> omega)) _).far (by first | (simp; done) | (simp; omega) | (simp [*]; done) | (simp only [ne_eq]; constructor <;> omega)) _).far (by first | (simp; done) | (simp; omega) | (simp [*]; done) | (simp only [ne_eq]; constructor <;> omega)) _).far (by first | (simp; done) | (simp; omega) | (simp [*]; done) | (simp only [ne_eq]; constructor <;> omega)) _).far (by first | (simp; done) | (simp; omega) | (simp [*]; done) | (simp only [ne_eq]; constructor <;> omega)) _)
  replace Bq : Blk ((((((w4.setCell ⟨w.heap.size + 1 + 1, 0, none⟩ (uv u.b.v)).setCell ⟨w.heap.size + 1 + 1, 1, none⟩ (uv u.b.m)).setCell ⟨w.heap.size + 1 + 1, 2, none⟩ (uv u.lo)).setCell ⟨w.heap.size + 1 + 1, 3, none⟩ (uv u.hi)).setCell ⟨w.heap.size + 1 + 1, 4, none⟩ (sv u.sl)).setCell ⟨w.heap.size + 1 + 1, 5, none⟩ (sv u.sh)) (gq) 118 #[uv u.b.v, uv u.b.m, uv u.lo, uv u.hi, sv u.sl, sv u.sh, uv v.b.v, uv v.b.m, uv v.lo, uv v.hi, sv v.sl, sv v.sh] := ((((((Bq.far (by first | (simp; done) | (simp; omega) | (simp [*]; done) | (simp only [ne_eq]; constructor <;> omega)) _).far (by first | (simp; done) | (simp; omega) | (simp [*]; done) | (simp only [ne_eq]; constructor <;> omega)) _).far (by first | (simp; done) | (simp; omega) | (simp [*]; done) | (simp only [ne_eq]; constructor <;> omega)) _).far (by first | (simp; done) | (simp; omega) | (simp [*]; done) | (simp only [ne_eq]; constructor <;> omega)) _).far (by first | (simp; done) | (simp; omega) | (simp [*]; done) | (simp only [ne_eq]; constructor <;> omega)) _).far (by first | (simp; done) | (simp; omega) | (simp [*]; done) | (simp only [ne_eq]; constructor <;> omega)) _)
  replace hB : Below w.heap.size w ((((((w4.setCell ⟨w.heap.size + 1 + 1, 0, none⟩ (uv u.b.v)).setCell ⟨w.heap.size + 1 + 1, 1, none⟩ (uv u.b.m)).setCell ⟨w.heap.size + 1 + 1, 2, none⟩ (uv u.lo)).setCell ⟨w.heap.size + 1 + 1, 3, none⟩ (uv u.hi)).setCell ⟨w.heap.size + 1 + 1, 4, none⟩ (sv u.sl)).setCell ⟨w.heap.size + 1 + 1, 5, none⟩ (sv u.sh)) := (Bl_set (Bl_set (Bl_set (Bl_set (Bl_set (Bl_set hB (by first | omega | (simp; done) | (simp; omega)) _) (by first | omega | (simp; done) | (simp; omega)) _) (by first | omega | (simp; done) | (simp; omega)) _) (by first | omega | (simp; done) | (simp; omega)) _) (by first | omega | (simp; done) | (simp; omega)) _) (by first | omega | (simp; done) | (simp; omega)) _)
  generalize ((((((w4.setCell ⟨w.heap.size + 1 + 1, 0, none⟩ (uv u.b.v)).setCell ⟨w.heap.size + 1 + 1, 1, none⟩ (uv u.b.m)).setCell ⟨w.heap.size + 1 + 1, 2, none⟩ (uv u.lo)).setCell ⟨w.heap.size + 1 + 1, 3, none⟩ (uv u.hi)).setCell ⟨w.heap.size + 1 + 1, 4, none⟩ (sv u.sl)).setCell ⟨w.heap.size + 1 + 1, 5, none⟩ (sv u.sh)) = w5 at *
  obtain ⟨ca0, ca1, ca2, ca3, ca4, ca5⟩ := cells6 Ba
  have fa := Ba.frozen; have la := Ba.lt
  obtain ⟨cb0, cb1, cb2, cb3, cb4, cb5⟩ := cells6 Bb
  have fb := Bb.frozen; have lb := Bb.lt
  obtain ⟨cr0, cr1, cr2, cr3, cr4, cr5⟩ := cells6 Br
  have fr := Br.frozen; have lr := Br.lt
  obtain ⟨ct0, ct1, ct2, ct3, ct4, ct5⟩ := cells6 Bt
  have ft := Bt.frozen; have lt := Bt.lt
  obtain ⟨cq0, cq1, cq2, cq3, cq4, cq5, cq6, cq7, cq8, cq9, cq10, cq11⟩ := cells12 Bq
  have fq := Bq.frozen; have lq := Bq.lt
  go_wp2
  exact bodyPost_ret (v := .tuple #[rv u, rv v, .bool true]) (by simp [results, Try.results38, go_sem, cr0, cr1, cr2, cr3, cr4, cr5, ct0, ct1, ct2, ct3, ct4, ct5, lr, lt]) rfl ⟨by rw [hs]; first | done | rfl, by repeat (first | (with_reducible exact hB) | (with_reducible refine Bl_set ?_ (by first | omega | (simp; done) | (simp; omega)) _) | with_reducible apply Bl_alloc)⟩
theorem refine_c (op : Int) (l : Bool) (a b : Rng) (h : Bool) (w : World) : Calls Try.prog 38 #[.int .i64 op, .bool l, rv a, rv b, .bool h] w fun e w' => e = .returned (t3 (PlainBranch.refine op l a b h)) ∧ Below w.heap.size w w' := by
  have k_R := refineP_c op l a b h
  have hq : PlainBranch.refine op l a b h = if (PlainBranch.refineP op l (a, b) h).2 = true then ((PlainBranch.refineP op l (a, b) h).1, true) else (PlainBranch.zero, false) := rfl
  generalize PlainBranch.refineP op l (a, b) h = Q at k_R hq
  obtain ⟨⟨u, v⟩, ok⟩ := Q
  cases ok
  · exact ref_false op l a b h u v k_R (by rw [hq]; simp) w
  · exact ref_true op l a b h u v k_R (by rw [hq]; simp) w
theorem tells_is : (PlainBranch.refine 10 true PlainScalar.any (PlainScalar.const 10#64) true).2 = true ∧ (PlainBranch.refine 10 true PlainScalar.any (PlainScalar.const 10#64) true).1.1.hi = 9#64 := by decide +kernel
theorem tells_h (w : World) : Calls Try.prog 36 #[.int .i64 6, .bool true, .int .u64 0, .int .u64 18446744073709551615] w fun e w' => e = .returned (.bool true) ∧ Below w.heap.size w w' := by
  have := holds_c 6 true 0#64 (BitVec.allOnes 64) w
  rwa [show PlainBranch.holds 6 true 0#64 (BitVec.allOnes 64) = true by decide] at this
set_option maxRecDepth 100000 in
set_option maxHeartbeats 3200000 in
theorem tells_c  (w : World) : Calls Try.prog 35 #[] w fun e w' => e = .returned (.bool true) ∧ Below w.heap.size w w' := by
  obtain ⟨ht1, ht2⟩ := tells_is
  have k_R := refine_c 10 true PlainScalar.any (PlainScalar.const 10#64) true
  generalize PlainBranch.refine 10 true PlainScalar.any (PlainScalar.const 10#64) true = R at k_R ht1 ht2
  have k_10 : ∀ w : World, Calls Try.prog 34 #[.int .u64 10] w fun e w' => e = .returned (rv (PlainScalar.const 10#64)) ∧ Below w.heap.size w w' := fun w => sconst_c 10#64 w
  generalize PlainScalar.const 10#64 = c10 at k_10 k_R
  obtain ⟨⟨u, v⟩, ok⟩ := R
  replace ht1 : ok = true := ht1
  subst ht1
  replace ht2 : T u.hi = 9 := by rw [show u.hi = 9#64 from ht2]; rfl
  replace k_R : ∀ w : World, Calls Try.prog 38 #[.int .i64 10, .bool true, rv PlainScalar.any, rv c10, .bool true] w fun e w' => e = .returned (.tuple #[rv u, rv v, .bool true]) ∧ Below w.heap.size w w' := k_R
  have Ht2 := Lib.hid ht2; clear ht2
  go_enter Try.func35, Try.ntmps35
  go_wp2_with fail
  have hB : Below w.heap.size w w := (Bl_refl w)
  go_wp2_with fail
  refine (sany_c _).mono ?_
  rintro e w2 ⟨rfl, hb⟩
  replace hB : Below w.heap.size w w2 := by repeat (first | exact hB | (refine Bl_set ?_ (by first | omega | (simp; omega)) _) | apply Bl_alloc | (refine Bl_trans ?_ hb))
  clear hb
  go_wp2_with fail
  refine (k_10 _).mono ?_
  rintro e w3 ⟨rfl, hb⟩
  replace hB : Below w.heap.size w w3 := by repeat (first | exact hB | (refine Bl_set ?_ (by first | omega | (simp; omega)) _) | apply Bl_alloc | (refine Bl_trans ?_ hb))
  clear hb
  go_wp2_with fail
  refine (k_R _).mono ?_
  rintro e w4 ⟨rfl, hb⟩
  replace hB : Below w.heap.size w w4 := by repeat (first | exact hB | (refine Bl_set ?_ (by first | omega | (simp; omega)) _) | apply Bl_alloc | (refine Bl_trans ?_ hb))
  clear hb
  go_upto_region 2 with fail
  have Bx := Blk.new w4 27 #[uv u.b.v, uv u.b.m, uv u.lo, uv u.hi, sv u.sl, sv u.sh]
  have hgx := hB.size
  replace hB : Below w.heap.size w (w4.alloc (.cells #[uv u.b.v, uv u.b.m, uv u.lo, uv u.hi, sv u.sl, sv u.sh] 27)) := Bl_alloc hB _
  have By := Blk.new (w4.alloc (.cells #[uv u.b.v, uv u.b.m, uv u.lo, uv u.hi, sv u.sl, sv u.sh] 27)) 27 #[uv v.b.v, uv v.b.m, uv v.lo, uv v.hi, sv v.sl, sv v.sh]
  have hgy := hB.size
  have hnxy := Nat.ne_of_lt Bx.lt; have hltxy := Bx.lt
  replace Bx : Blk ((w4.alloc (.cells #[uv u.b.v, uv u.b.m, uv u.lo, uv u.hi, sv u.sl, sv u.sh] 27)).alloc (.cells #[uv v.b.v, uv v.b.m, uv v.lo, uv v.hi, sv v.sl, sv v.sh] 27)) (w4.heap.size) 27 #[uv u.b.v, uv u.b.m, uv u.lo, uv u.hi, sv u.sl, sv u.sh] := Bx.alloc _
  replace hB : Below w.heap.size w ((w4.alloc (.cells #[uv u.b.v, uv u.b.m, uv u.lo, uv u.hi, sv u.sl, sv u.sh] 27)).alloc (.cells #[uv v.b.v, uv v.b.m, uv v.lo, uv v.hi, sv v.sl, sv v.sh] 27)) := Bl_alloc hB _
  generalize ((w4.alloc (.cells #[uv u.b.v, uv u.b.m, uv u.lo, uv u.hi, sv u.sl, sv u.sh] 27)).alloc (.cells #[uv v.b.v, uv v.b.m, uv v.lo, uv v.hi, sv v.sl, sv v.sh] 27)) = w5 at *
  generalize w4.heap.size = gx at *
  generalize (w4.alloc (.cells #[uv u.b.v, uv u.b.m, uv u.lo, uv u.hi, sv u.sl, sv u.sh] 27)).heap.size = gy at *
  obtain ⟨cx0, cx1, cx2, cx3, cx4, cx5⟩ := cells6 Bx
  have fx := Bx.frozen; have lx := Bx.lt
  obtain ⟨cy0, cy1, cy2, cy3, cy4, cy5⟩ := cells6 By
  have fy := By.frozen; have ly := By.lt
  have ht2 := Ht2.out
  go_wp2_with fail
  refine (tells_h _).mono ?_
  rintro e w6 ⟨rfl, hb⟩
  clear cx0 cx1 cx2 cx3 cx4 cx5 fx lx
  clear cy0 cy1 cy2 cy3 cy4 cy5 fy ly
  replace Bx := (Bx).next hb
  replace By := (By).next hb
  replace hB : Below w.heap.size w w6 := by repeat (first | exact hB | (refine Bl_set ?_ (by first | omega | (simp; omega)) _) | apply Bl_alloc | (refine Bl_trans ?_ hb))
  clear hb
  obtain ⟨cx0, cx1, cx2, cx3, cx4, cx5⟩ := cells6 Bx
  have fx := Bx.frozen; have lx := Bx.lt
  obtain ⟨cy0, cy1, cy2, cy3, cy4, cy5⟩ := cells6 By
  have fy := By.frozen; have ly := By.lt
  go_wp2
  go_ret
  exact ⟨rfl, by repeat (first | exact hB | (refine Bl_set ?_ (by first | omega | (simp; omega)) _) | apply Bl_alloc)⟩
set_option maxHeartbeats 400000 in
theorem to15_c (a : Rng) (w : World) : Calls Try.prog 40 #[rv a] w fun e w' => e = .returned (rv a) ∧ Below w.heap.size w w' := by
  go_enter Try.func40, Try.ntmps40
  go_wp2
  exact bodyPost_ret (v := rv a) (by simp [results, Try.results40, go_sem]) rfl ⟨rfl, (by repeat (first | (with_reducible exact Bl_refl _) | with_reducible apply Bl_alloc | with_reducible apply Bl_drew | with_reducible apply Bl_drewN | (with_reducible refine Bl_set ?_ (by first | omega | (simp; done) | (simp; omega)) _) | (with_reducible refine Bl_trans ?_ (by assumption))))⟩
@[go_sem] theorem u_xorAll (x : W) : bits .xor .u64 (T x) 18446744073709551615 = T (~~~x) := by
  rw [bits_xor, ofInt_T]
  have e : BitVec.ofInt 64 18446744073709551615 = BitVec.allOnes 64 := by decide
  rw [e, BitVec.xor_allOnes]
set_option maxHeartbeats 400000 in
theorem rhas_c (a : N) (x : W) (w : World) : Calls Try.prog 64 #[nv a, uv x] w fun e w' => e = .returned (.bool (PlainTnum.has a x)) ∧ Below w.heap.size w w' := by
  go_enter Try.func64, Try.ntmps64
  go_wp2
  go_ret
  exact ⟨by simp [PlainTnum.has, T_beq], (by repeat (first | (with_reducible exact Bl_refl _) | with_reducible apply Bl_alloc | with_reducible apply Bl_drew | with_reducible apply Bl_drewN | (with_reducible refine Bl_set ?_ (by first | omega | (simp; done) | (simp; omega)) _) | (with_reducible refine Bl_trans ?_ (by assumption))))⟩
set_option maxHeartbeats 800000 in
theorem r14has_c (a : Rng) (x : W) (w : World) : Calls Try.prog 41 #[rv a, uv x] w fun e w' => e = .returned (.bool (PlainScalar.has a x)) ∧ Below w.heap.size w w' := by
  go_enter Try.func41, Try.ntmps41
  go_wp2_with fail
  refine (rhas_c _ _ _).mono ?_
  rintro e w1 ⟨rfl, hb1⟩
  obtain ⟨hc1, hf1⟩ := bcell hb1
  have hz1 := hb1.size
  go_wp2
  all_goals
    go_ret
    refine ⟨?_, (by repeat (first | (with_reducible exact Bl_refl _) | with_reducible apply Bl_alloc | with_reducible apply Bl_drew | with_reducible apply Bl_drewN | (with_reducible refine Bl_set ?_ (by first | omega | (simp; done) | (simp; omega)) _) | (with_reducible refine Bl_trans ?_ (by assumption))))⟩
    simp_all [PlainScalar.has, PlainTnum.has, T_le, T_lt, T_eq, S_le, S_lt] <;> first | rfl | exact decide_eq_decide.2 Iff.rfl | (intros; omega)
theorem shast_c (a : Rng) (x : W) (h : PlainScalar.Has a x) (w : World) : Calls Try.prog 26 #[rv a, uv x] w fun e w' => e = .returned (.bool true) ∧ Below w.heap.size w w' := by
  rw [← PlainScalar.has_iff.2 h]; exact shas_c a x w
theorem rem_is (m : Nat) (h0 : 0 < m) (hm : m < 100) (k : Int) : ∃ n : Nat, n < m ∧ wrap64 ((IntKind.u64.wrap k).tmod m) = (n : Int) := by
  have h1 : 0 ≤ IntKind.u64.wrap k := by rw [wrap_u]; exact T_lo _
  refine ⟨(IntKind.u64.wrap k % m).toNat, ?_, ?_⟩
  · have := Int.emod_lt_of_pos (IntKind.u64.wrap k) (show (0 : Int) < m by omega); have := Int.emod_nonneg (IntKind.u64.wrap k) (show (m : Int) ≠ 0 by omega); omega
  · rw [Int.tmod_eq_emod_of_nonneg h1]
    have := Int.emod_lt_of_pos (IntKind.u64.wrap k) (show (0 : Int) < m by omega); have := Int.emod_nonneg (IntKind.u64.wrap k) (show (m : Int) ≠ 0 by omega)
    rw [IntWalk.wrap64_in _ (by omega)]; omega
end Go.Proofs.Ytmghpoagpiljhab
