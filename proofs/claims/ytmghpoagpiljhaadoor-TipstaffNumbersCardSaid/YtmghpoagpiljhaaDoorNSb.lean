/- The walks of package scalar that TipstaffNumbers needs: a shift to the left; wide; Do. -/
import Derived.Test.YtmghpoagpiljhaaDoorNSa
set_option linter.unusedSimpArgs false
set_option linter.unusedVariables false
namespace Go.Proofs.YtmghpoagpiljhaaDoor
open Go.RowKit
open PlainTnum (N)
open PlainScalar (Rng)
theorem new_rng {o : Oper} (h : isAlloc o = some 43) (ρ : Operand → Value) (w : World) : (execOp ρ o).run Tryd.prog w = .ok (.value (.pointer (some ⟨w.heap.size, 0, none⟩))) (w.alloc (.cells #[.int .u64 0, .int .u64 0, .int .u64 0, .int .u64 0, .int .i64 0, .int .i64 0] 43)) := by
  obtain ⟨dst, op, type, pos, after, guard⟩ := o
  have := alloc_is h
  simp only at this
  subst this
  go_simp
theorem byN_nat {k : Nat} (h : k < 64) : byN (k : Int) = k := by unfold byN; omega
theorem left_n (a : N) {k : Nat} (h : k < 64) (w : World) : Calls Tryd.prog 96 #[nv a, .int .i64 (k : Int)] w fun e w' => e = .returned (nv (PlainTnum.left a k)) ∧ Below w.heap.size w w' := by
  have := left_c a k w
  rwa [byN_nat h] at this
theorem alone_b (a : Rng) (b : Bool) (h : PlainScalar.alone a = b) (w : World) : Calls Tryd.prog 32 #[rv a] w fun e w' => e = .returned (.bool b) ∧ Below w.heap.size w w' := by
  rw [← h]; exact alone_c a w
set_option maxRecDepth 100000 in
set_option maxHeartbeats 3200000 in
theorem sshifted_6 (k : Nat) (hk : k < 64) (a : Rng) (w : World) : Calls Tryd.prog 84 #[.int .i64 6, .int .i64 (k : Int), rv a] w fun e w' => e = .returned (rv (PlainScalar.shifted 6 k a)) ∧ Below w.heap.size w w' := by
  have hn : ¬ ((k : Int) < 0) := by omega
  have hl := PlainScalar.len_le a.hi
  cases q : decide ((k : Int) ≤ 64 - (PlainScalar.len a.hi : Int))
  · have hs : PlainScalar.shifted 6 k a = PlainScalar.settled ⟨(PlainTnum.left a.b k), PlainScalar.any.lo, PlainScalar.any.hi, PlainScalar.any.sl, PlainScalar.any.sh⟩ := by unfold PlainScalar.shifted; have := of_decide_eq_false q; rw [if_pos rfl, if_neg (by omega)]
    go_enter Tryd.func84, Tryd.ntmps84
    go_wp2_with fail
    obtain ⟨ga, hga⟩ : ∃ g, g = w.heap.size := ⟨_, rfl⟩
    obtain ⟨gr, hgr⟩ : ∃ g, g = w.heap.size + 1 := ⟨_, rfl⟩
    have Ba : Blk ((w.alloc (.cells #[uv a.b.v, uv a.b.m, uv a.lo, uv a.hi, sv a.sl, sv a.sh] 43)).alloc (.cells #[.int .u64 0, .int .u64 0, .int .u64 0, .int .u64 0, .int .i64 0, .int .i64 0] 43)) (w.heap.size) 43 #[uv a.b.v, uv a.b.m, uv a.lo, uv a.hi, sv a.sl, sv a.sh] := ((Blk.new w 43 #[uv a.b.v, uv a.b.m, uv a.lo, uv a.hi, sv a.sl, sv a.sh])).alloc _
    have Br : Blk ((w.alloc (.cells #[uv a.b.v, uv a.b.m, uv a.lo, uv a.hi, sv a.sl, sv a.sh] 43)).alloc (.cells #[.int .u64 0, .int .u64 0, .int .u64 0, .int .u64 0, .int .i64 0, .int .i64 0] 43)) (w.heap.size + 1) 43 #[.int .u64 0, .int .u64 0, .int .u64 0, .int .u64 0, .int .i64 0, .int .i64 0] := (by simpa using Blk.new (w.alloc (.cells #[uv a.b.v, uv a.b.m, uv a.lo, uv a.hi, sv a.sl, sv a.sh] 43)) 43 #[.int .u64 0, .int .u64 0, .int .u64 0, .int .u64 0, .int .i64 0, .int .i64 0] : Blk _ (w.heap.size + 1) 43 #[.int .u64 0, .int .u64 0, .int .u64 0, .int .u64 0, .int .i64 0, .int .i64 0])
    have hB : Below w.heap.size w ((w.alloc (.cells #[uv a.b.v, uv a.b.m, uv a.lo, uv a.hi, sv a.sl, sv a.sh] 43)).alloc (.cells #[.int .u64 0, .int .u64 0, .int .u64 0, .int .u64 0, .int .i64 0, .int .i64 0] 43)) := (Bl_alloc (Bl_alloc (Bl_refl w) _) _)
    clear hga
    clear ga
    clear hgr
    clear gr
    generalize ((w.alloc (.cells #[uv a.b.v, uv a.b.m, uv a.lo, uv a.hi, sv a.sl, sv a.sh] 43)).alloc (.cells #[.int .u64 0, .int .u64 0, .int .u64 0, .int .u64 0, .int .i64 0, .int .i64 0] 43)) = w1 at *
    obtain ⟨ca0, ca1, ca2, ca3, ca4, ca5⟩ := cells6 Ba
    have fa := Ba.frozen; have la := Ba.lt
    obtain ⟨cr0, cr1, cr2, cr3, cr4, cr5⟩ := cells6 Br
    have fr := Br.frozen; have lr := Br.lt
    go_wp2_with fail
    refine (sany_c _).mono ?_
    rintro e w2 ⟨rfl, hb⟩
    clear ca0 ca1 ca2 ca3 ca4 ca5 fa la
    clear cr0 cr1 cr2 cr3 cr4 cr5 fr lr
    replace Ba := (Ba).next hb
    replace Br := (Br).next hb
    replace hB : Below w.heap.size w w2 := by repeat (first | exact hB | (refine Bl_set ?_ (by first | omega | (simp; omega)) _) | apply Bl_alloc | (refine Bl_trans ?_ hb))
    clear hb
    obtain ⟨ca0, ca1, ca2, ca3, ca4, ca5⟩ := cells6 Ba
    have fa := Ba.frozen; have la := Ba.lt
    obtain ⟨cr0, cr1, cr2, cr3, cr4, cr5⟩ := cells6 Br
    have fr := Br.frozen; have lr := Br.lt
    go_upto_region 4 with fail
    clear ca0 ca1 ca2 ca3 ca4 ca5 fa la
    clear cr0 cr1 cr2 cr3 cr4 cr5 fr lr
    have Bo := Blk.new w2 43 #[uv PlainScalar.any.b.v, uv PlainScalar.any.b.m, uv PlainScalar.any.lo, uv PlainScalar.any.hi, sv PlainScalar.any.sl, sv PlainScalar.any.sh]
    have hgo := hB.size
    have hnao := Nat.ne_of_lt Ba.lt; have hltao := Ba.lt
    have hnro := Nat.ne_of_lt Br.lt; have hltro := Br.lt
    replace Ba : Blk (w2.alloc (.cells #[uv PlainScalar.any.b.v, uv PlainScalar.any.b.m, uv PlainScalar.any.lo, uv PlainScalar.any.hi, sv PlainScalar.any.sl, sv PlainScalar.any.sh] 43)) (w.heap.size) 43 #[uv a.b.v, uv a.b.m, uv a.lo, uv a.hi, sv a.sl, sv a.sh] := Ba.alloc _
    replace Br : Blk (w2.alloc (.cells #[uv PlainScalar.any.b.v, uv PlainScalar.any.b.m, uv PlainScalar.any.lo, uv PlainScalar.any.hi, sv PlainScalar.any.sl, sv PlainScalar.any.sh] 43)) (w.heap.size + 1) 43 #[.int .u64 0, .int .u64 0, .int .u64 0, .int .u64 0, .int .i64 0, .int .i64 0] := Br.alloc _
    replace hB : Below w.heap.size w (w2.alloc (.cells #[uv PlainScalar.any.b.v, uv PlainScalar.any.b.m, uv PlainScalar.any.lo, uv PlainScalar.any.hi, sv PlainScalar.any.sl, sv PlainScalar.any.sh] 43)) := Bl_alloc hB _
    generalize (w2.alloc (.cells #[uv PlainScalar.any.b.v, uv PlainScalar.any.b.m, uv PlainScalar.any.lo, uv PlainScalar.any.hi, sv PlainScalar.any.sl, sv PlainScalar.any.sh] 43)) = w3 at *
    generalize w2.heap.size = go at *
    obtain ⟨ca0, ca1, ca2, ca3, ca4, ca5⟩ := cells6 Ba
    have fa := Ba.frozen; have la := Ba.lt
    obtain ⟨cr0, cr1, cr2, cr3, cr4, cr5⟩ := cells6 Br
    have fr := Br.frozen; have lr := Br.lt
    obtain ⟨co0, co1, co2, co3, co4, co5⟩ := cells6 Bo
    have fo := Bo.frozen; have lo := Bo.lt
    go_wp2_with fail
    refine (left_n _ hk _).mono ?_
    rintro e w4 ⟨rfl, hb⟩
    clear ca0 ca1 ca2 ca3 ca4 ca5 fa la
    clear cr0 cr1 cr2 cr3 cr4 cr5 fr lr
    clear co0 co1 co2 co3 co4 co5 fo lo
    replace Ba := (Ba).next hb
    replace Br := (Br).next hb
    replace Bo := (Bo).next hb
    replace hB : Below w.heap.size w w4 := by repeat (first | exact hB | (refine Bl_set ?_ (by first | omega | (simp; omega)) _) | apply Bl_alloc | (refine Bl_trans ?_ hb))
    clear hb
    obtain ⟨ca0, ca1, ca2, ca3, ca4, ca5⟩ := cells6 Ba
    have fa := Ba.frozen; have la := Ba.lt
    obtain ⟨cr0, cr1, cr2, cr3, cr4, cr5⟩ := cells6 Br
    have fr := Br.frozen; have lr := Br.lt
    obtain ⟨co0, co1, co2, co3, co4, co5⟩ := cells6 Bo
    have fo := Bo.frozen; have lo := Bo.lt
    go_upto_region 5 with fail
    clear ca0 ca1 ca2 ca3 ca4 ca5 fa la
    clear cr0 cr1 cr2 cr3 cr4 cr5 fr lr
    clear co0 co1 co2 co3 co4 co5 fo lo
    replace Ba : Blk (w4.setCell ⟨go, 0, none⟩ (uv (PlainTnum.left a.b k).v)) (w.heap.size) 43 #[uv a.b.v, uv a.b.m, uv a.lo, uv a.hi, sv a.sl, sv a.sh] := (Ba.far (by first | (simp; done) | (simp; omega) | (simp [*]; done) | (simp only [ne_eq]; constructor <;> omega)) _)
    replace Br : Blk (w4.setCell ⟨go, 0, none⟩ (uv (PlainTnum.left a.b k).v)) (w.heap.size + 1) 43 #[.int .u64 0, .int .u64 0, .int .u64 0, .int .u64 0, .int .i64 0, .int .i64 0] := (Br.far (by first | (simp; done) | (simp; omega) | (simp [*]; done) | (simp only [ne_eq]; constructor <;> omega)) _)
    replace Bo : Blk (w4.setCell ⟨go, 0, none⟩ (uv (PlainTnum.left a.b k).v)) (go) 43 #[uv (PlainTnum.left a.b k).v, uv PlainScalar.any.b.m, uv PlainScalar.any.lo, uv PlainScalar.any.hi, sv PlainScalar.any.sl, sv PlainScalar.any.sh] := Bo.set_ 0 _
    replace hB : Below w.heap.size w (w4.setCell ⟨go, 0, none⟩ (uv (PlainTnum.left a.b k).v)) := (Bl_set hB (by first | omega | (simp; done) | (simp; omega)) _)
    replace Ba : Blk ((w4.setCell ⟨go, 0, none⟩ (uv (PlainTnum.left a.b k).v)).setCell ⟨go, 1, none⟩ (uv (PlainTnum.left a.b k).m)) (w.heap.size) 43 #[uv a.b.v, uv a.b.m, uv a.lo, uv a.hi, sv a.sl, sv a.sh] := (Ba.far (by first | (simp; done) | (simp; omega) | (simp [*]; done) | (simp only [ne_eq]; constructor <;> omega)) _)
    replace Br : Blk ((w4.setCell ⟨go, 0, none⟩ (uv (PlainTnum.left a.b k).v)).setCell ⟨go, 1, none⟩ (uv (PlainTnum.left a.b k).m)) (w.heap.size + 1) 43 #[.int .u64 0, .int .u64 0, .int .u64 0, .int .u64 0, .int .i64 0, .int .i64 0] := (Br.far (by first | (simp; done) | (simp; omega) | (simp [*]; done) | (simp only [ne_eq]; constructor <;> omega)) _)
    replace Bo : Blk ((w4.setCell ⟨go, 0, none⟩ (uv (PlainTnum.left a.b k).v)).setCell ⟨go, 1, none⟩ (uv (PlainTnum.left a.b k).m)) (go) 43 #[uv (PlainTnum.left a.b k).v, uv (PlainTnum.left a.b k).m, uv PlainScalar.any.lo, uv PlainScalar.any.hi, sv PlainScalar.any.sl, sv PlainScalar.any.sh] := Bo.set_ 1 _
    replace hB : Below w.heap.size w ((w4.setCell ⟨go, 0, none⟩ (uv (PlainTnum.left a.b k).v)).setCell ⟨go, 1, none⟩ (uv (PlainTnum.left a.b k).m)) := (Bl_set hB (by first | omega | (simp; done) | (simp; omega)) _)
    generalize ((w4.setCell ⟨go, 0, none⟩ (uv (PlainTnum.left a.b k).v)).setCell ⟨go, 1, none⟩ (uv (PlainTnum.left a.b k).m)) = w5 at *
    obtain ⟨ca0, ca1, ca2, ca3, ca4, ca5⟩ := cells6 Ba
    have fa := Ba.frozen; have la := Ba.lt
    obtain ⟨cr0, cr1, cr2, cr3, cr4, cr5⟩ := cells6 Br
    have fr := Br.frozen; have lr := Br.lt
    obtain ⟨co0, co1, co2, co3, co4, co5⟩ := cells6 Bo
    have fo := Bo.frozen; have lo := Bo.lt
    go_wp2_with fail
    refine (lz64_c _ _).mono ?_
    rintro e w' ⟨rfl, rfl⟩
    go_wp2_with fail
    refine (settled_c (⟨(PlainTnum.left a.b k), PlainScalar.any.lo, PlainScalar.any.hi, PlainScalar.any.sl, PlainScalar.any.sh⟩ : Rng) _).mono ?_
    rintro e w6 ⟨rfl, hb⟩
    clear ca0 ca1 ca2 ca3 ca4 ca5 fa la
    clear cr0 cr1 cr2 cr3 cr4 cr5 fr lr
    clear co0 co1 co2 co3 co4 co5 fo lo
    replace Ba := (Ba).next hb
    replace Br := (Br).next hb
    replace Bo := (Bo).next hb
    replace hB : Below w.heap.size w w6 := by repeat (first | exact hB | (refine Bl_set ?_ (by first | omega | (simp; omega)) _) | apply Bl_alloc | (refine Bl_trans ?_ hb))
    clear hb
    obtain ⟨ca0, ca1, ca2, ca3, ca4, ca5⟩ := cells6 Ba
    have fa := Ba.frozen; have la := Ba.lt
    obtain ⟨cr0, cr1, cr2, cr3, cr4, cr5⟩ := cells6 Br
    have fr := Br.frozen; have lr := Br.lt
    obtain ⟨co0, co1, co2, co3, co4, co5⟩ := cells6 Bo
    have fo := Bo.frozen; have lo := Bo.lt
    go_wp2
    exact bodyPost_ret (v := rv (PlainScalar.settled ⟨(PlainTnum.left a.b k), PlainScalar.any.lo, PlainScalar.any.hi, PlainScalar.any.sl, PlainScalar.any.sh⟩)) (by simp [results, Tryd.results84, go_sem, cr0, cr1, cr2, cr3, cr4, cr5, lr]) rfl ⟨by rw [hs], by repeat (first | (with_reducible exact hB) | (with_reducible refine Bl_set ?_ (by first | omega | (simp; done) | (simp; omega)) _) | with_reducible apply Bl_alloc)⟩
  · have hs : PlainScalar.shifted 6 k a = PlainScalar.settled ⟨(PlainTnum.left a.b k), (a.lo <<< k), (a.hi <<< k), PlainScalar.any.sl, PlainScalar.any.sh⟩ := by unfold PlainScalar.shifted; have := of_decide_eq_true q; rw [if_pos rfl, if_pos (by omega)]
    go_enter Tryd.func84, Tryd.ntmps84
    go_wp2_with fail
    obtain ⟨ga, hga⟩ : ∃ g, g = w.heap.size := ⟨_, rfl⟩
    obtain ⟨gr, hgr⟩ : ∃ g, g = w.heap.size + 1 := ⟨_, rfl⟩
    have Ba : Blk ((w.alloc (.cells #[uv a.b.v, uv a.b.m, uv a.lo, uv a.hi, sv a.sl, sv a.sh] 43)).alloc (.cells #[.int .u64 0, .int .u64 0, .int .u64 0, .int .u64 0, .int .i64 0, .int .i64 0] 43)) (w.heap.size) 43 #[uv a.b.v, uv a.b.m, uv a.lo, uv a.hi, sv a.sl, sv a.sh] := ((Blk.new w 43 #[uv a.b.v, uv a.b.m, uv a.lo, uv a.hi, sv a.sl, sv a.sh])).alloc _
    have Br : Blk ((w.alloc (.cells #[uv a.b.v, uv a.b.m, uv a.lo, uv a.hi, sv a.sl, sv a.sh] 43)).alloc (.cells #[.int .u64 0, .int .u64 0, .int .u64 0, .int .u64 0, .int .i64 0, .int .i64 0] 43)) (w.heap.size + 1) 43 #[.int .u64 0, .int .u64 0, .int .u64 0, .int .u64 0, .int .i64 0, .int .i64 0] := (by simpa using Blk.new (w.alloc (.cells #[uv a.b.v, uv a.b.m, uv a.lo, uv a.hi, sv a.sl, sv a.sh] 43)) 43 #[.int .u64 0, .int .u64 0, .int .u64 0, .int .u64 0, .int .i64 0, .int .i64 0] : Blk _ (w.heap.size + 1) 43 #[.int .u64 0, .int .u64 0, .int .u64 0, .int .u64 0, .int .i64 0, .int .i64 0])
    have hB : Below w.heap.size w ((w.alloc (.cells #[uv a.b.v, uv a.b.m, uv a.lo, uv a.hi, sv a.sl, sv a.sh] 43)).alloc (.cells #[.int .u64 0, .int .u64 0, .int .u64 0, .int .u64 0, .int .i64 0, .int .i64 0] 43)) := (Bl_alloc (Bl_alloc (Bl_refl w) _) _)
    clear hga
    clear ga
    clear hgr
    clear gr
    generalize ((w.alloc (.cells #[uv a.b.v, uv a.b.m, uv a.lo, uv a.hi, sv a.sl, sv a.sh] 43)).alloc (.cells #[.int .u64 0, .int .u64 0, .int .u64 0, .int .u64 0, .int .i64 0, .int .i64 0] 43)) = w1 at *
    obtain ⟨ca0, ca1, ca2, ca3, ca4, ca5⟩ := cells6 Ba
    have fa := Ba.frozen; have la := Ba.lt
    obtain ⟨cr0, cr1, cr2, cr3, cr4, cr5⟩ := cells6 Br
    have fr := Br.frozen; have lr := Br.lt
    go_wp2_with fail
    refine (sany_c _).mono ?_
    rintro e w2 ⟨rfl, hb⟩
    clear ca0 ca1 ca2 ca3 ca4 ca5 fa la
    clear cr0 cr1 cr2 cr3 cr4 cr5 fr lr
    replace Ba := (Ba).next hb
    replace Br := (Br).next hb
    replace hB : Below w.heap.size w w2 := by repeat (first | exact hB | (refine Bl_set ?_ (by first | omega | (simp; omega)) _) | apply Bl_alloc | (refine Bl_trans ?_ hb))
    clear hb
    obtain ⟨ca0, ca1, ca2, ca3, ca4, ca5⟩ := cells6 Ba
    have fa := Ba.frozen; have la := Ba.lt
    obtain ⟨cr0, cr1, cr2, cr3, cr4, cr5⟩ := cells6 Br
    have fr := Br.frozen; have lr := Br.lt
    go_upto_region 4 with fail
    clear ca0 ca1 ca2 ca3 ca4 ca5 fa la
    clear cr0 cr1 cr2 cr3 cr4 cr5 fr lr
    have Bo := Blk.new w2 43 #[uv PlainScalar.any.b.v, uv PlainScalar.any.b.m, uv PlainScalar.any.lo, uv PlainScalar.any.hi, sv PlainScalar.any.sl, sv PlainScalar.any.sh]
    have hgo := hB.size
    have hnao := Nat.ne_of_lt Ba.lt; have hltao := Ba.lt
    have hnro := Nat.ne_of_lt Br.lt; have hltro := Br.lt
    replace Ba : Blk (w2.alloc (.cells #[uv PlainScalar.any.b.v, uv PlainScalar.any.b.m, uv PlainScalar.any.lo, uv PlainScalar.any.hi, sv PlainScalar.any.sl, sv PlainScalar.any.sh] 43)) (w.heap.size) 43 #[uv a.b.v, uv a.b.m, uv a.lo, uv a.hi, sv a.sl, sv a.sh] := Ba.alloc _
    replace Br : Blk (w2.alloc (.cells #[uv PlainScalar.any.b.v, uv PlainScalar.any.b.m, uv PlainScalar.any.lo, uv PlainScalar.any.hi, sv PlainScalar.any.sl, sv PlainScalar.any.sh] 43)) (w.heap.size + 1) 43 #[.int .u64 0, .int .u64 0, .int .u64 0, .int .u64 0, .int .i64 0, .int .i64 0] := Br.alloc _
    replace hB : Below w.heap.size w (w2.alloc (.cells #[uv PlainScalar.any.b.v, uv PlainScalar.any.b.m, uv PlainScalar.any.lo, uv PlainScalar.any.hi, sv PlainScalar.any.sl, sv PlainScalar.any.sh] 43)) := Bl_alloc hB _
    generalize (w2.alloc (.cells #[uv PlainScalar.any.b.v, uv PlainScalar.any.b.m, uv PlainScalar.any.lo, uv PlainScalar.any.hi, sv PlainScalar.any.sl, sv PlainScalar.any.sh] 43)) = w3 at *
    generalize w2.heap.size = go at *
    obtain ⟨ca0, ca1, ca2, ca3, ca4, ca5⟩ := cells6 Ba
    have fa := Ba.frozen; have la := Ba.lt
    obtain ⟨cr0, cr1, cr2, cr3, cr4, cr5⟩ := cells6 Br
    have fr := Br.frozen; have lr := Br.lt
    obtain ⟨co0, co1, co2, co3, co4, co5⟩ := cells6 Bo
    have fo := Bo.frozen; have lo := Bo.lt
    go_wp2_with fail
    refine (left_n _ hk _).mono ?_
    rintro e w4 ⟨rfl, hb⟩
    clear ca0 ca1 ca2 ca3 ca4 ca5 fa la
    clear cr0 cr1 cr2 cr3 cr4 cr5 fr lr
    clear co0 co1 co2 co3 co4 co5 fo lo
    replace Ba := (Ba).next hb
    replace Br := (Br).next hb
    replace Bo := (Bo).next hb
    replace hB : Below w.heap.size w w4 := by repeat (first | exact hB | (refine Bl_set ?_ (by first | omega | (simp; omega)) _) | apply Bl_alloc | (refine Bl_trans ?_ hb))
    clear hb
    obtain ⟨ca0, ca1, ca2, ca3, ca4, ca5⟩ := cells6 Ba
    have fa := Ba.frozen; have la := Ba.lt
    obtain ⟨cr0, cr1, cr2, cr3, cr4, cr5⟩ := cells6 Br
    have fr := Br.frozen; have lr := Br.lt
    obtain ⟨co0, co1, co2, co3, co4, co5⟩ := cells6 Bo
    have fo := Bo.frozen; have lo := Bo.lt
    go_upto_region 5 with fail
    clear ca0 ca1 ca2 ca3 ca4 ca5 fa la
    clear cr0 cr1 cr2 cr3 cr4 cr5 fr lr
    clear co0 co1 co2 co3 co4 co5 fo lo
    replace Ba : Blk (w4.setCell ⟨go, 0, none⟩ (uv (PlainTnum.left a.b k).v)) (w.heap.size) 43 #[uv a.b.v, uv a.b.m, uv a.lo, uv a.hi, sv a.sl, sv a.sh] := (Ba.far (by first | (simp; done) | (simp; omega) | (simp [*]; done) | (simp only [ne_eq]; constructor <;> omega)) _)
    replace Br : Blk (w4.setCell ⟨go, 0, none⟩ (uv (PlainTnum.left a.b k).v)) (w.heap.size + 1) 43 #[.int .u64 0, .int .u64 0, .int .u64 0, .int .u64 0, .int .i64 0, .int .i64 0] := (Br.far (by first | (simp; done) | (simp; omega) | (simp [*]; done) | (simp only [ne_eq]; constructor <;> omega)) _)
    replace Bo : Blk (w4.setCell ⟨go, 0, none⟩ (uv (PlainTnum.left a.b k).v)) (go) 43 #[uv (PlainTnum.left a.b k).v, uv PlainScalar.any.b.m, uv PlainScalar.any.lo, uv PlainScalar.any.hi, sv PlainScalar.any.sl, sv PlainScalar.any.sh] := Bo.set_ 0 _
    replace hB : Below w.heap.size w (w4.setCell ⟨go, 0, none⟩ (uv (PlainTnum.left a.b k).v)) := (Bl_set hB (by first | omega | (simp; done) | (simp; omega)) _)
    replace Ba : Blk ((w4.setCell ⟨go, 0, none⟩ (uv (PlainTnum.left a.b k).v)).setCell ⟨go, 1, none⟩ (uv (PlainTnum.left a.b k).m)) (w.heap.size) 43 #[uv a.b.v, uv a.b.m, uv a.lo, uv a.hi, sv a.sl, sv a.sh] := (Ba.far (by first | (simp; done) | (simp; omega) | (simp [*]; done) | (simp only [ne_eq]; constructor <;> omega)) _)
    replace Br : Blk ((w4.setCell ⟨go, 0, none⟩ (uv (PlainTnum.left a.b k).v)).setCell ⟨go, 1, none⟩ (uv (PlainTnum.left a.b k).m)) (w.heap.size + 1) 43 #[.int .u64 0, .int .u64 0, .int .u64 0, .int .u64 0, .int .i64 0, .int .i64 0] := (Br.far (by first | (simp; done) | (simp; omega) | (simp [*]; done) | (simp only [ne_eq]; constructor <;> omega)) _)
    replace Bo : Blk ((w4.setCell ⟨go, 0, none⟩ (uv (PlainTnum.left a.b k).v)).setCell ⟨go, 1, none⟩ (uv (PlainTnum.left a.b k).m)) (go) 43 #[uv (PlainTnum.left a.b k).v, uv (PlainTnum.left a.b k).m, uv PlainScalar.any.lo, uv PlainScalar.any.hi, sv PlainScalar.any.sl, sv PlainScalar.any.sh] := Bo.set_ 1 _
    replace hB : Below w.heap.size w ((w4.setCell ⟨go, 0, none⟩ (uv (PlainTnum.left a.b k).v)).setCell ⟨go, 1, none⟩ (uv (PlainTnum.left a.b k).m)) := (Bl_set hB (by first | omega | (simp; done) | (simp; omega)) _)
    generalize ((w4.setCell ⟨go, 0, none⟩ (uv (PlainTnum.left a.b k).v)).setCell ⟨go, 1, none⟩ (uv (PlainTnum.left a.b k).m)) = w5 at *
    obtain ⟨ca0, ca1, ca2, ca3, ca4, ca5⟩ := cells6 Ba
    have fa := Ba.frozen; have la := Ba.lt
    obtain ⟨cr0, cr1, cr2, cr3, cr4, cr5⟩ := cells6 Br
    have fr := Br.frozen; have lr := Br.lt
    obtain ⟨co0, co1, co2, co3, co4, co5⟩ := cells6 Bo
    have fo := Bo.frozen; have lo := Bo.lt
    go_wp2_with fail
    refine (lz64_c _ _).mono ?_
    rintro e w' ⟨rfl, rfl⟩
    go_wp2_with fail
    clear ca0 ca1 ca2 ca3 ca4 ca5; obtain ⟨ca0, ca1, ca2, ca3, ca4, ca5⟩ := lcells6 Ba
    clear cr0 cr1 cr2 cr3 cr4 cr5; obtain ⟨cr0, cr1, cr2, cr3, cr4, cr5⟩ := lcells6 Br
    clear co0 co1 co2 co3 co4 co5; obtain ⟨co0, co1, co2, co3, co4, co5⟩ := lcells6 Bo
    obtain ⟨S, hS⟩ : ∃ S : World → Prop, ∀ x, S x ↔ (x.cell? ⟨w.heap.size, 3, none⟩ = some (uv a.hi)) := ⟨_, fun _ => Iff.rfl⟩
    have u0 : ∀ g : Under S, g.w.cell? ⟨w.heap.size, 3, none⟩ = some (uv a.hi) := fun g => ((hS _).1 g.is)
    refine wp_region_mixS 9 (fun k => k == 4 || k == 5 || k == 6 || k == 7) (fun _ => #[]) S rfl (by kernel_rfl) (by kernel_rfl) (no_alloc (by kernel_rfl)) ?_
    simp only [List.take_succ_cons, List.take_zero, List.drop_succ_cons, List.drop_zero]
    repeat (refine wpMixS_step (fun K hK => ?_); go_simp; first | (refine hK _ ?_; clear hK K))
    refine wpMixS_nil ?_
    intro G w6 hgr hblk hdist
    have hb : Below w5.heap.size w5 w6 := hgr
    replace Ba := Ba.next hb
    replace Br := Br.next hb
    replace Bo := Bo.next hb
    clear ca0 ca1 ca2 ca3 ca4 ca5 fa la
    clear cr0 cr1 cr2 cr3 cr4 cr5 fr lr
    clear co0 co1 co2 co3 co4 co5 fo lo
    clear u0
    replace hB : Below w.heap.size w w6 := Bl_trans hB hb
    simp only [putAll, isAlloc]
    clear hb hgr hblk hdist
    obtain ⟨ca0, ca1, ca2, ca3, ca4, ca5⟩ := cells6 Ba
    have fa := Ba.frozen; have la := Ba.lt
    obtain ⟨cr0, cr1, cr2, cr3, cr4, cr5⟩ := cells6 Br
    have fr := Br.frozen; have lr := Br.lt
    obtain ⟨co0, co1, co2, co3, co4, co5⟩ := cells6 Bo
    have fo := Bo.frozen; have lo := Bo.lt
    go_wp2_with fail
    refine ⟨by first | trivial | rfl, ?_, ?_⟩
    · refine (hS _).2 ?_; exact (Ba.far (by first | (simp; done) | (simp; omega) | (simp [*]; done) | (simp only [ne_eq]; constructor <;> omega)) _).cell 3
    clear hS S
    clear ca0 ca1 ca2 ca3 ca4 ca5 fa la
    clear cr0 cr1 cr2 cr3 cr4 cr5 fr lr
    clear co0 co1 co2 co3 co4 co5 fo lo
    replace Ba : Blk (w6.setCell ⟨go, 2, none⟩ (uv (a.lo <<< k))) (w.heap.size) 43 #[uv a.b.v, uv a.b.m, uv a.lo, uv a.hi, sv a.sl, sv a.sh] := (Ba.far (by first | (simp; done) | (simp; omega) | (simp [*]; done) | (simp only [ne_eq]; constructor <;> omega)) _)
    replace Br : Blk (w6.setCell ⟨go, 2, none⟩ (uv (a.lo <<< k))) (w.heap.size + 1) 43 #[.int .u64 0, .int .u64 0, .int .u64 0, .int .u64 0, .int .i64 0, .int .i64 0] := (Br.far (by first | (simp; done) | (simp; omega) | (simp [*]; done) | (simp only [ne_eq]; constructor <;> omega)) _)
    replace Bo : Blk (w6.setCell ⟨go, 2, none⟩ (uv (a.lo <<< k))) (go) 43 #[uv (PlainTnum.left a.b k).v, uv (PlainTnum.left a.b k).m, uv (a.lo <<< k), uv PlainScalar.any.hi, sv PlainScalar.any.sl, sv PlainScalar.any.sh] := Bo.set_ 2 _
    replace hB : Below w.heap.size w (w6.setCell ⟨go, 2, none⟩ (uv (a.lo <<< k))) := (Bl_set hB (by first | omega | (simp; done) | (simp; omega)) _)
    generalize (w6.setCell ⟨go, 2, none⟩ (uv (a.lo <<< k))) = w7 at *
    obtain ⟨ca0, ca1, ca2, ca3, ca4, ca5⟩ := cells6 Ba
    have fa := Ba.frozen; have la := Ba.lt
    obtain ⟨cr0, cr1, cr2, cr3, cr4, cr5⟩ := cells6 Br
    have fr := Br.frozen; have lr := Br.lt
    obtain ⟨co0, co1, co2, co3, co4, co5⟩ := cells6 Bo
    have fo := Bo.frozen; have lo := Bo.lt
    go_upto_region 7 with fail
    clear ca0 ca1 ca2 ca3 ca4 ca5 fa la
    clear cr0 cr1 cr2 cr3 cr4 cr5 fr lr
    clear co0 co1 co2 co3 co4 co5 fo lo
    replace Ba : Blk (w7.setCell ⟨go, 3, none⟩ (uv (a.hi <<< k))) (w.heap.size) 43 #[uv a.b.v, uv a.b.m, uv a.lo, uv a.hi, sv a.sl, sv a.sh] := (Ba.far (by first | (simp; done) | (simp; omega) | (simp [*]; done) | (simp only [ne_eq]; constructor <;> omega)) _)
    replace Br : Blk (w7.setCell ⟨go, 3, none⟩ (uv (a.hi <<< k))) (w.heap.size + 1) 43 #[.int .u64 0, .int .u64 0, .int .u64 0, .int .u64 0, .int .i64 0, .int .i64 0] := (Br.far (by first | (simp; done) | (simp; omega) | (simp [*]; done) | (simp only [ne_eq]; constructor <;> omega)) _)
    replace Bo : Blk (w7.setCell ⟨go, 3, none⟩ (uv (a.hi <<< k))) (go) 43 #[uv (PlainTnum.left a.b k).v, uv (PlainTnum.left a.b k).m, uv (a.lo <<< k), uv (a.hi <<< k), sv PlainScalar.any.sl, sv PlainScalar.any.sh] := Bo.set_ 3 _
    replace hB : Below w.heap.size w (w7.setCell ⟨go, 3, none⟩ (uv (a.hi <<< k))) := (Bl_set hB (by first | omega | (simp; done) | (simp; omega)) _)
    generalize (w7.setCell ⟨go, 3, none⟩ (uv (a.hi <<< k))) = w8 at *
    obtain ⟨ca0, ca1, ca2, ca3, ca4, ca5⟩ := cells6 Ba
    have fa := Ba.frozen; have la := Ba.lt
    obtain ⟨cr0, cr1, cr2, cr3, cr4, cr5⟩ := cells6 Br
    have fr := Br.frozen; have lr := Br.lt
    obtain ⟨co0, co1, co2, co3, co4, co5⟩ := cells6 Bo
    have fo := Bo.frozen; have lo := Bo.lt
    go_wp2_with fail
    refine (settled_c (⟨(PlainTnum.left a.b k), (a.lo <<< k), (a.hi <<< k), PlainScalar.any.sl, PlainScalar.any.sh⟩ : Rng) _).mono ?_
    rintro e w9 ⟨rfl, hb⟩
    clear ca0 ca1 ca2 ca3 ca4 ca5 fa la
    clear cr0 cr1 cr2 cr3 cr4 cr5 fr lr
    clear co0 co1 co2 co3 co4 co5 fo lo
    replace Ba := (Ba).next hb
    replace Br := (Br).next hb
    replace Bo := (Bo).next hb
    replace hB : Below w.heap.size w w9 := by repeat (first | exact hB | (refine Bl_set ?_ (by first | omega | (simp; omega)) _) | apply Bl_alloc | (refine Bl_trans ?_ hb))
    clear hb
    obtain ⟨ca0, ca1, ca2, ca3, ca4, ca5⟩ := cells6 Ba
    have fa := Ba.frozen; have la := Ba.lt
    obtain ⟨cr0, cr1, cr2, cr3, cr4, cr5⟩ := cells6 Br
    have fr := Br.frozen; have lr := Br.lt
    obtain ⟨co0, co1, co2, co3, co4, co5⟩ := cells6 Bo
    have fo := Bo.frozen; have lo := Bo.lt
    go_wp2
    exact bodyPost_ret (v := rv (PlainScalar.settled ⟨(PlainTnum.left a.b k), (a.lo <<< k), (a.hi <<< k), PlainScalar.any.sl, PlainScalar.any.sh⟩)) (by simp [results, Tryd.results84, go_sem, cr0, cr1, cr2, cr3, cr4, cr5, lr]) rfl ⟨by rw [hs], by repeat (first | (with_reducible exact hB) | (with_reducible refine Bl_set ?_ (by first | omega | (simp; done) | (simp; omega)) _) | with_reducible apply Bl_alloc)⟩
theorem sshifted_64 (x : W) (a : Rng) (w : World) : Calls Tryd.prog 84 #[.int .i64 6, .int .i64 ((x.toNat : Int) % 64), rv a] w fun e w' => e = .returned (rv (PlainScalar.shifted 6 (x.toNat % 64) a)) ∧ Below w.heap.size w w' := by
  have := sshifted_6 (x.toNat % 64) (by omega) a w
  rwa [show ((x.toNat % 64 : Nat) : Int) = (x.toNat : Int) % 64 from by omega] at this
set_option maxRecDepth 100000 in
set_option maxHeartbeats 3200000 in
theorem smoved_6 (a b : Rng) (w : World) : Calls Tryd.prog 62 #[.int .i64 6, .bool true, rv a, rv b] w fun e w' => e = .returned (rv (PlainScalar.moved 6 true a b)) ∧ Below w.heap.size w w' := by
  cases q1 : PlainScalar.alone b
  · have hs : PlainScalar.moved 6 true a b = PlainScalar.any := by unfold PlainScalar.moved; rw [if_pos (by rw [q1]; decide)]
    go_enter Tryd.func62, Tryd.ntmps62
    go_wp2_with fail
    obtain ⟨ga, hga⟩ : ∃ g, g = w.heap.size := ⟨_, rfl⟩
    obtain ⟨gb, hgb⟩ : ∃ g, g = w.heap.size + 1 := ⟨_, rfl⟩
    obtain ⟨gr, hgr⟩ : ∃ g, g = w.heap.size + 1 + 1 := ⟨_, rfl⟩
    have Ba : Blk (((w.alloc (.cells #[uv a.b.v, uv a.b.m, uv a.lo, uv a.hi, sv a.sl, sv a.sh] 43)).alloc (.cells #[uv b.b.v, uv b.b.m, uv b.lo, uv b.hi, sv b.sl, sv b.sh] 43)).alloc (.cells #[.int .u64 0, .int .u64 0, .int .u64 0, .int .u64 0, .int .i64 0, .int .i64 0] 43)) (w.heap.size) 43 #[uv a.b.v, uv a.b.m, uv a.lo, uv a.hi, sv a.sl, sv a.sh] := (((Blk.new w 43 #[uv a.b.v, uv a.b.m, uv a.lo, uv a.hi, sv a.sl, sv a.sh])).alloc _).alloc _
    have Bb : Blk (((w.alloc (.cells #[uv a.b.v, uv a.b.m, uv a.lo, uv a.hi, sv a.sl, sv a.sh] 43)).alloc (.cells #[uv b.b.v, uv b.b.m, uv b.lo, uv b.hi, sv b.sl, sv b.sh] 43)).alloc (.cells #[.int .u64 0, .int .u64 0, .int .u64 0, .int .u64 0, .int .i64 0, .int .i64 0] 43)) (w.heap.size + 1) 43 #[uv b.b.v, uv b.b.m, uv b.lo, uv b.hi, sv b.sl, sv b.sh] := ((by simpa using Blk.new (w.alloc (.cells #[uv a.b.v, uv a.b.m, uv a.lo, uv a.hi, sv a.sl, sv a.sh] 43)) 43 #[uv b.b.v, uv b.b.m, uv b.lo, uv b.hi, sv b.sl, sv b.sh] : Blk _ (w.heap.size + 1) 43 #[uv b.b.v, uv b.b.m, uv b.lo, uv b.hi, sv b.sl, sv b.sh])).alloc _
    have Br : Blk (((w.alloc (.cells #[uv a.b.v, uv a.b.m, uv a.lo, uv a.hi, sv a.sl, sv a.sh] 43)).alloc (.cells #[uv b.b.v, uv b.b.m, uv b.lo, uv b.hi, sv b.sl, sv b.sh] 43)).alloc (.cells #[.int .u64 0, .int .u64 0, .int .u64 0, .int .u64 0, .int .i64 0, .int .i64 0] 43)) (w.heap.size + 1 + 1) 43 #[.int .u64 0, .int .u64 0, .int .u64 0, .int .u64 0, .int .i64 0, .int .i64 0] := (by simpa using Blk.new ((w.alloc (.cells #[uv a.b.v, uv a.b.m, uv a.lo, uv a.hi, sv a.sl, sv a.sh] 43)).alloc (.cells #[uv b.b.v, uv b.b.m, uv b.lo, uv b.hi, sv b.sl, sv b.sh] 43)) 43 #[.int .u64 0, .int .u64 0, .int .u64 0, .int .u64 0, .int .i64 0, .int .i64 0] : Blk _ (w.heap.size + 1 + 1) 43 #[.int .u64 0, .int .u64 0, .int .u64 0, .int .u64 0, .int .i64 0, .int .i64 0])
    have hB : Below w.heap.size w (((w.alloc (.cells #[uv a.b.v, uv a.b.m, uv a.lo, uv a.hi, sv a.sl, sv a.sh] 43)).alloc (.cells #[uv b.b.v, uv b.b.m, uv b.lo, uv b.hi, sv b.sl, sv b.sh] 43)).alloc (.cells #[.int .u64 0, .int .u64 0, .int .u64 0, .int .u64 0, .int .i64 0, .int .i64 0] 43)) := (Bl_alloc (Bl_alloc (Bl_alloc (Bl_refl w) _) _) _)
    clear hga
    clear ga
    clear hgb
    clear gb
    clear hgr
    clear gr
    generalize (((w.alloc (.cells #[uv a.b.v, uv a.b.m, uv a.lo, uv a.hi, sv a.sl, sv a.sh] 43)).alloc (.cells #[uv b.b.v, uv b.b.m, uv b.lo, uv b.hi, sv b.sl, sv b.sh] 43)).alloc (.cells #[.int .u64 0, .int .u64 0, .int .u64 0, .int .u64 0, .int .i64 0, .int .i64 0] 43)) = w1 at *
    obtain ⟨ca0, ca1, ca2, ca3, ca4, ca5⟩ := cells6 Ba
    have fa := Ba.frozen; have la := Ba.lt
    obtain ⟨cb0, cb1, cb2, cb3, cb4, cb5⟩ := cells6 Bb
    have fb := Bb.frozen; have lb := Bb.lt
    obtain ⟨cr0, cr1, cr2, cr3, cr4, cr5⟩ := cells6 Br
    have fr := Br.frozen; have lr := Br.lt
    go_wp2_with fail
    refine (alone_b _ _ q1 _).mono ?_
    rintro e w2 ⟨rfl, hb⟩
    clear ca0 ca1 ca2 ca3 ca4 ca5 fa la
    clear cb0 cb1 cb2 cb3 cb4 cb5 fb lb
    clear cr0 cr1 cr2 cr3 cr4 cr5 fr lr
    replace Ba := (Ba).next hb
    replace Bb := (Bb).next hb
    replace Br := (Br).next hb
    replace hB : Below w.heap.size w w2 := by repeat (first | exact hB | (refine Bl_set ?_ (by first | omega | (simp; omega)) _) | apply Bl_alloc | (refine Bl_trans ?_ hb))
    clear hb
    obtain ⟨ca0, ca1, ca2, ca3, ca4, ca5⟩ := cells6 Ba
    have fa := Ba.frozen; have la := Ba.lt
    obtain ⟨cb0, cb1, cb2, cb3, cb4, cb5⟩ := cells6 Bb
    have fb := Bb.frozen; have lb := Bb.lt
    obtain ⟨cr0, cr1, cr2, cr3, cr4, cr5⟩ := cells6 Br
    have fr := Br.frozen; have lr := Br.lt
    go_wp2_with fail
    refine (sany_c _).mono ?_
    rintro e w3 ⟨rfl, hb⟩
    clear ca0 ca1 ca2 ca3 ca4 ca5 fa la
    clear cb0 cb1 cb2 cb3 cb4 cb5 fb lb
    clear cr0 cr1 cr2 cr3 cr4 cr5 fr lr
    replace Ba := (Ba).next hb
    replace Bb := (Bb).next hb
    replace Br := (Br).next hb
    replace hB : Below w.heap.size w w3 := by repeat (first | exact hB | (refine Bl_set ?_ (by first | omega | (simp; omega)) _) | apply Bl_alloc | (refine Bl_trans ?_ hb))
    clear hb
    obtain ⟨ca0, ca1, ca2, ca3, ca4, ca5⟩ := cells6 Ba
    have fa := Ba.frozen; have la := Ba.lt
    obtain ⟨cb0, cb1, cb2, cb3, cb4, cb5⟩ := cells6 Bb
    have fb := Bb.frozen; have lb := Bb.lt
    obtain ⟨cr0, cr1, cr2, cr3, cr4, cr5⟩ := cells6 Br
    have fr := Br.frozen; have lr := Br.lt
    go_wp2
    exact bodyPost_ret (v := rv PlainScalar.any) (by simp [results, Tryd.results62, go_sem, cr0, cr1, cr2, cr3, cr4, cr5, lr]) rfl ⟨by rw [hs], by repeat (first | (with_reducible exact hB) | (with_reducible refine Bl_set ?_ (by first | omega | (simp; done) | (simp; omega)) _) | with_reducible apply Bl_alloc)⟩
  · have hal : ¬ ¬ PlainScalar.alone b = true := fun h => h q1
    have hs : PlainScalar.moved 6 true a b = PlainScalar.shifted 6 (PlainScalar.count true b.lo) a := by unfold PlainScalar.moved; rw [if_neg hal, if_neg (fun h => absurd h.2.1 (by decide))]
    have hc : PlainScalar.count true b.lo = b.lo.toNat % 64 := by unfold PlainScalar.count; simp
    rw [hc] at hs
    have hm : (T b.lo).tmod 64 = (b.lo.toNat : Int) % 64 := by rw [u_rem64]; omega
    have hu : IntKind.u64.wrap 64 = 64 := by decide
    have hw : IntKind.i64.wrap ((b.lo.toNat : Int) % 64) = (b.lo.toNat : Int) % 64 := IntWalk.i64_in _ (by omega)
    go_enter Tryd.func62, Tryd.ntmps62
    go_wp2_with fail
    obtain ⟨ga, hga⟩ : ∃ g, g = w.heap.size := ⟨_, rfl⟩
    obtain ⟨gb, hgb⟩ : ∃ g, g = w.heap.size + 1 := ⟨_, rfl⟩
    obtain ⟨gr, hgr⟩ : ∃ g, g = w.heap.size + 1 + 1 := ⟨_, rfl⟩
    have Ba : Blk (((w.alloc (.cells #[uv a.b.v, uv a.b.m, uv a.lo, uv a.hi, sv a.sl, sv a.sh] 43)).alloc (.cells #[uv b.b.v, uv b.b.m, uv b.lo, uv b.hi, sv b.sl, sv b.sh] 43)).alloc (.cells #[.int .u64 0, .int .u64 0, .int .u64 0, .int .u64 0, .int .i64 0, .int .i64 0] 43)) (w.heap.size) 43 #[uv a.b.v, uv a.b.m, uv a.lo, uv a.hi, sv a.sl, sv a.sh] := (((Blk.new w 43 #[uv a.b.v, uv a.b.m, uv a.lo, uv a.hi, sv a.sl, sv a.sh])).alloc _).alloc _
    have Bb : Blk (((w.alloc (.cells #[uv a.b.v, uv a.b.m, uv a.lo, uv a.hi, sv a.sl, sv a.sh] 43)).alloc (.cells #[uv b.b.v, uv b.b.m, uv b.lo, uv b.hi, sv b.sl, sv b.sh] 43)).alloc (.cells #[.int .u64 0, .int .u64 0, .int .u64 0, .int .u64 0, .int .i64 0, .int .i64 0] 43)) (w.heap.size + 1) 43 #[uv b.b.v, uv b.b.m, uv b.lo, uv b.hi, sv b.sl, sv b.sh] := ((by simpa using Blk.new (w.alloc (.cells #[uv a.b.v, uv a.b.m, uv a.lo, uv a.hi, sv a.sl, sv a.sh] 43)) 43 #[uv b.b.v, uv b.b.m, uv b.lo, uv b.hi, sv b.sl, sv b.sh] : Blk _ (w.heap.size + 1) 43 #[uv b.b.v, uv b.b.m, uv b.lo, uv b.hi, sv b.sl, sv b.sh])).alloc _
    have Br : Blk (((w.alloc (.cells #[uv a.b.v, uv a.b.m, uv a.lo, uv a.hi, sv a.sl, sv a.sh] 43)).alloc (.cells #[uv b.b.v, uv b.b.m, uv b.lo, uv b.hi, sv b.sl, sv b.sh] 43)).alloc (.cells #[.int .u64 0, .int .u64 0, .int .u64 0, .int .u64 0, .int .i64 0, .int .i64 0] 43)) (w.heap.size + 1 + 1) 43 #[.int .u64 0, .int .u64 0, .int .u64 0, .int .u64 0, .int .i64 0, .int .i64 0] := (by simpa using Blk.new ((w.alloc (.cells #[uv a.b.v, uv a.b.m, uv a.lo, uv a.hi, sv a.sl, sv a.sh] 43)).alloc (.cells #[uv b.b.v, uv b.b.m, uv b.lo, uv b.hi, sv b.sl, sv b.sh] 43)) 43 #[.int .u64 0, .int .u64 0, .int .u64 0, .int .u64 0, .int .i64 0, .int .i64 0] : Blk _ (w.heap.size + 1 + 1) 43 #[.int .u64 0, .int .u64 0, .int .u64 0, .int .u64 0, .int .i64 0, .int .i64 0])
    have hB : Below w.heap.size w (((w.alloc (.cells #[uv a.b.v, uv a.b.m, uv a.lo, uv a.hi, sv a.sl, sv a.sh] 43)).alloc (.cells #[uv b.b.v, uv b.b.m, uv b.lo, uv b.hi, sv b.sl, sv b.sh] 43)).alloc (.cells #[.int .u64 0, .int .u64 0, .int .u64 0, .int .u64 0, .int .i64 0, .int .i64 0] 43)) := (Bl_alloc (Bl_alloc (Bl_alloc (Bl_refl w) _) _) _)
    clear hga
    clear ga
    clear hgb
    clear gb
    clear hgr
    clear gr
    generalize (((w.alloc (.cells #[uv a.b.v, uv a.b.m, uv a.lo, uv a.hi, sv a.sl, sv a.sh] 43)).alloc (.cells #[uv b.b.v, uv b.b.m, uv b.lo, uv b.hi, sv b.sl, sv b.sh] 43)).alloc (.cells #[.int .u64 0, .int .u64 0, .int .u64 0, .int .u64 0, .int .i64 0, .int .i64 0] 43)) = w1 at *
    obtain ⟨ca0, ca1, ca2, ca3, ca4, ca5⟩ := cells6 Ba
    have fa := Ba.frozen; have la := Ba.lt
    obtain ⟨cb0, cb1, cb2, cb3, cb4, cb5⟩ := cells6 Bb
    have fb := Bb.frozen; have lb := Bb.lt
    obtain ⟨cr0, cr1, cr2, cr3, cr4, cr5⟩ := cells6 Br
    have fr := Br.frozen; have lr := Br.lt
    go_wp2_with fail
    refine (alone_b _ _ q1 _).mono ?_
    rintro e w2 ⟨rfl, hb⟩
    clear ca0 ca1 ca2 ca3 ca4 ca5 fa la
    clear cb0 cb1 cb2 cb3 cb4 cb5 fb lb
    clear cr0 cr1 cr2 cr3 cr4 cr5 fr lr
    replace Ba := (Ba).next hb
    replace Bb := (Bb).next hb
    replace Br := (Br).next hb
    replace hB : Below w.heap.size w w2 := by repeat (first | exact hB | (refine Bl_set ?_ (by first | omega | (simp; omega)) _) | apply Bl_alloc | (refine Bl_trans ?_ hb))
    clear hb
    obtain ⟨ca0, ca1, ca2, ca3, ca4, ca5⟩ := cells6 Ba
    have fa := Ba.frozen; have la := Ba.lt
    obtain ⟨cb0, cb1, cb2, cb3, cb4, cb5⟩ := cells6 Bb
    have fb := Bb.frozen; have lb := Bb.lt
    obtain ⟨cr0, cr1, cr2, cr3, cr4, cr5⟩ := cells6 Br
    have fr := Br.frozen; have lr := Br.lt
    go_wp2_with fail
    clear ca0 ca1 ca2 ca3 ca4 ca5; obtain ⟨ca0, ca1, ca2, ca3, ca4, ca5⟩ := lcells6 Ba
    clear cb0 cb1 cb2 cb3 cb4 cb5; obtain ⟨cb0, cb1, cb2, cb3, cb4, cb5⟩ := lcells6 Bb
    clear cr0 cr1 cr2 cr3 cr4 cr5; obtain ⟨cr0, cr1, cr2, cr3, cr4, cr5⟩ := lcells6 Br
    refine wp_region_mix 9 (fun _ => #[]) (by kernel_rfl) (by kernel_rfl) (no_alloc (by kernel_rfl)) ?_
    simp only [List.take_succ_cons, List.take_zero, List.drop_succ_cons, List.drop_zero]
    repeat (refine wpMix_step (fun K hK => ?_); go_simp; first | (refine hK _ ?_; clear hK K) | (apply Exists.intro; refine ⟨fun g => ?_, hK _ ?_⟩; (go_at_call 84; exact sshifted_64 b.lo a g.w); clear hK K))
    refine wpMix_nil ?_
    intro G w3 hgr hblk hdist
    have hb : Below w2.heap.size w2 w3 := hgr
    replace Ba := Ba.next hb
    replace Bb := Bb.next hb
    replace Br := Br.next hb
    clear ca0 ca1 ca2 ca3 ca4 ca5 fa la
    clear cb0 cb1 cb2 cb3 cb4 cb5 fb lb
    clear cr0 cr1 cr2 cr3 cr4 cr5 fr lr
    replace hB : Below w.heap.size w w3 := Bl_trans hB hb
    simp only [putAll, isAlloc]
    clear hb hgr hblk hdist
    obtain ⟨ca0, ca1, ca2, ca3, ca4, ca5⟩ := cells6 Ba
    have fa := Ba.frozen; have la := Ba.lt
    obtain ⟨cb0, cb1, cb2, cb3, cb4, cb5⟩ := cells6 Bb
    have fb := Bb.frozen; have lb := Bb.lt
    obtain ⟨cr0, cr1, cr2, cr3, cr4, cr5⟩ := cells6 Br
    have fr := Br.frozen; have lr := Br.lt
    go_wp2
    exact bodyPost_ret (v := rv (PlainScalar.shifted 6 (b.lo.toNat % 64) a)) (by simp [results, Tryd.results62, go_sem, cr0, cr1, cr2, cr3, cr4, cr5, lr]) rfl ⟨by rw [hs], by repeat (first | (with_reducible exact hB) | (with_reducible refine Bl_set ?_ (by first | omega | (simp; done) | (simp; omega)) _) | with_reducible apply Bl_alloc)⟩
set_option maxRecDepth 100000 in
set_option maxHeartbeats 3200000 in
theorem swide_0 (a b : Rng) (w : World) : Calls Tryd.prog 34 #[.int .i64 0, .bool true, rv a, rv b] w fun e w' => e = .returned (rv (PlainScalar.wideF 0 true a b)) ∧ Below w.heap.size w w' := by
  have hs : PlainScalar.wideF 0 true a b = PlainScalar.sum a b := by unfold PlainScalar.wideF; simp
  go_enter Tryd.func34, Tryd.ntmps34
  go_wp2_with fail
  obtain ⟨ga, hga⟩ : ∃ g, g = w.heap.size := ⟨_, rfl⟩
  obtain ⟨gb, hgb⟩ : ∃ g, g = w.heap.size + 1 := ⟨_, rfl⟩
  obtain ⟨gr, hgr⟩ : ∃ g, g = w.heap.size + 1 + 1 := ⟨_, rfl⟩
  have Ba : Blk (((w.alloc (.cells #[uv a.b.v, uv a.b.m, uv a.lo, uv a.hi, sv a.sl, sv a.sh] 43)).alloc (.cells #[uv b.b.v, uv b.b.m, uv b.lo, uv b.hi, sv b.sl, sv b.sh] 43)).alloc (.cells #[.int .u64 0, .int .u64 0, .int .u64 0, .int .u64 0, .int .i64 0, .int .i64 0] 43)) (w.heap.size) 43 #[uv a.b.v, uv a.b.m, uv a.lo, uv a.hi, sv a.sl, sv a.sh] := (((Blk.new w 43 #[uv a.b.v, uv a.b.m, uv a.lo, uv a.hi, sv a.sl, sv a.sh])).alloc _).alloc _
  have Bb : Blk (((w.alloc (.cells #[uv a.b.v, uv a.b.m, uv a.lo, uv a.hi, sv a.sl, sv a.sh] 43)).alloc (.cells #[uv b.b.v, uv b.b.m, uv b.lo, uv b.hi, sv b.sl, sv b.sh] 43)).alloc (.cells #[.int .u64 0, .int .u64 0, .int .u64 0, .int .u64 0, .int .i64 0, .int .i64 0] 43)) (w.heap.size + 1) 43 #[uv b.b.v, uv b.b.m, uv b.lo, uv b.hi, sv b.sl, sv b.sh] := ((by simpa using Blk.new (w.alloc (.cells #[uv a.b.v, uv a.b.m, uv a.lo, uv a.hi, sv a.sl, sv a.sh] 43)) 43 #[uv b.b.v, uv b.b.m, uv b.lo, uv b.hi, sv b.sl, sv b.sh] : Blk _ (w.heap.size + 1) 43 #[uv b.b.v, uv b.b.m, uv b.lo, uv b.hi, sv b.sl, sv b.sh])).alloc _
  have Br : Blk (((w.alloc (.cells #[uv a.b.v, uv a.b.m, uv a.lo, uv a.hi, sv a.sl, sv a.sh] 43)).alloc (.cells #[uv b.b.v, uv b.b.m, uv b.lo, uv b.hi, sv b.sl, sv b.sh] 43)).alloc (.cells #[.int .u64 0, .int .u64 0, .int .u64 0, .int .u64 0, .int .i64 0, .int .i64 0] 43)) (w.heap.size + 1 + 1) 43 #[.int .u64 0, .int .u64 0, .int .u64 0, .int .u64 0, .int .i64 0, .int .i64 0] := (by simpa using Blk.new ((w.alloc (.cells #[uv a.b.v, uv a.b.m, uv a.lo, uv a.hi, sv a.sl, sv a.sh] 43)).alloc (.cells #[uv b.b.v, uv b.b.m, uv b.lo, uv b.hi, sv b.sl, sv b.sh] 43)) 43 #[.int .u64 0, .int .u64 0, .int .u64 0, .int .u64 0, .int .i64 0, .int .i64 0] : Blk _ (w.heap.size + 1 + 1) 43 #[.int .u64 0, .int .u64 0, .int .u64 0, .int .u64 0, .int .i64 0, .int .i64 0])
  have hB : Below w.heap.size w (((w.alloc (.cells #[uv a.b.v, uv a.b.m, uv a.lo, uv a.hi, sv a.sl, sv a.sh] 43)).alloc (.cells #[uv b.b.v, uv b.b.m, uv b.lo, uv b.hi, sv b.sl, sv b.sh] 43)).alloc (.cells #[.int .u64 0, .int .u64 0, .int .u64 0, .int .u64 0, .int .i64 0, .int .i64 0] 43)) := (Bl_alloc (Bl_alloc (Bl_alloc (Bl_refl w) _) _) _)
  clear hga
  clear ga
  clear hgb
  clear gb
  clear hgr
  clear gr
  generalize (((w.alloc (.cells #[uv a.b.v, uv a.b.m, uv a.lo, uv a.hi, sv a.sl, sv a.sh] 43)).alloc (.cells #[uv b.b.v, uv b.b.m, uv b.lo, uv b.hi, sv b.sl, sv b.sh] 43)).alloc (.cells #[.int .u64 0, .int .u64 0, .int .u64 0, .int .u64 0, .int .i64 0, .int .i64 0] 43)) = w1 at *
  obtain ⟨ca0, ca1, ca2, ca3, ca4, ca5⟩ := cells6 Ba
  have fa := Ba.frozen; have la := Ba.lt
  obtain ⟨cb0, cb1, cb2, cb3, cb4, cb5⟩ := cells6 Bb
  have fb := Bb.frozen; have lb := Bb.lt
  obtain ⟨cr0, cr1, cr2, cr3, cr4, cr5⟩ := cells6 Br
  have fr := Br.frozen; have lr := Br.lt
  go_wp2_with fail
  refine (ssum_c a b _).mono ?_
  rintro e w2 ⟨rfl, hb⟩
  clear ca0 ca1 ca2 ca3 ca4 ca5 fa la
  clear cb0 cb1 cb2 cb3 cb4 cb5 fb lb
  clear cr0 cr1 cr2 cr3 cr4 cr5 fr lr
  replace Ba := (Ba).next hb
  replace Bb := (Bb).next hb
  replace Br := (Br).next hb
  replace hB : Below w.heap.size w w2 := by repeat (first | exact hB | (refine Bl_set ?_ (by first | omega | (simp; omega)) _) | apply Bl_alloc | (refine Bl_trans ?_ hb))
  clear hb
  obtain ⟨ca0, ca1, ca2, ca3, ca4, ca5⟩ := cells6 Ba
  have fa := Ba.frozen; have la := Ba.lt
  obtain ⟨cb0, cb1, cb2, cb3, cb4, cb5⟩ := cells6 Bb
  have fb := Bb.frozen; have lb := Bb.lt
  obtain ⟨cr0, cr1, cr2, cr3, cr4, cr5⟩ := cells6 Br
  have fr := Br.frozen; have lr := Br.lt
  go_wp2
  exact bodyPost_ret (v := rv (PlainScalar.sum a b)) (by simp [results, Tryd.results34, go_sem, cr0, cr1, cr2, cr3, cr4, cr5, lr]) rfl ⟨by rw [hs], by repeat (first | (with_reducible exact hB) | (with_reducible refine Bl_set ?_ (by first | omega | (simp; done) | (simp; omega)) _) | with_reducible apply Bl_alloc)⟩
set_option maxRecDepth 100000 in
set_option maxHeartbeats 3200000 in
theorem swide_1 (a b : Rng) (w : World) : Calls Tryd.prog 34 #[.int .i64 1, .bool false, rv a, rv b] w fun e w' => e = .returned (rv (PlainScalar.wideF 1 false a b)) ∧ Below w.heap.size w w' := by
  have hs : PlainScalar.wideF 1 false a b = PlainScalar.difference a b := by unfold PlainScalar.wideF; simp
  go_enter Tryd.func34, Tryd.ntmps34
  go_wp2_with fail
  obtain ⟨ga, hga⟩ : ∃ g, g = w.heap.size := ⟨_, rfl⟩
  obtain ⟨gb, hgb⟩ : ∃ g, g = w.heap.size + 1 := ⟨_, rfl⟩
  obtain ⟨gr, hgr⟩ : ∃ g, g = w.heap.size + 1 + 1 := ⟨_, rfl⟩
  have Ba : Blk (((w.alloc (.cells #[uv a.b.v, uv a.b.m, uv a.lo, uv a.hi, sv a.sl, sv a.sh] 43)).alloc (.cells #[uv b.b.v, uv b.b.m, uv b.lo, uv b.hi, sv b.sl, sv b.sh] 43)).alloc (.cells #[.int .u64 0, .int .u64 0, .int .u64 0, .int .u64 0, .int .i64 0, .int .i64 0] 43)) (w.heap.size) 43 #[uv a.b.v, uv a.b.m, uv a.lo, uv a.hi, sv a.sl, sv a.sh] := (((Blk.new w 43 #[uv a.b.v, uv a.b.m, uv a.lo, uv a.hi, sv a.sl, sv a.sh])).alloc _).alloc _
  have Bb : Blk (((w.alloc (.cells #[uv a.b.v, uv a.b.m, uv a.lo, uv a.hi, sv a.sl, sv a.sh] 43)).alloc (.cells #[uv b.b.v, uv b.b.m, uv b.lo, uv b.hi, sv b.sl, sv b.sh] 43)).alloc (.cells #[.int .u64 0, .int .u64 0, .int .u64 0, .int .u64 0, .int .i64 0, .int .i64 0] 43)) (w.heap.size + 1) 43 #[uv b.b.v, uv b.b.m, uv b.lo, uv b.hi, sv b.sl, sv b.sh] := ((by simpa using Blk.new (w.alloc (.cells #[uv a.b.v, uv a.b.m, uv a.lo, uv a.hi, sv a.sl, sv a.sh] 43)) 43 #[uv b.b.v, uv b.b.m, uv b.lo, uv b.hi, sv b.sl, sv b.sh] : Blk _ (w.heap.size + 1) 43 #[uv b.b.v, uv b.b.m, uv b.lo, uv b.hi, sv b.sl, sv b.sh])).alloc _
  have Br : Blk (((w.alloc (.cells #[uv a.b.v, uv a.b.m, uv a.lo, uv a.hi, sv a.sl, sv a.sh] 43)).alloc (.cells #[uv b.b.v, uv b.b.m, uv b.lo, uv b.hi, sv b.sl, sv b.sh] 43)).alloc (.cells #[.int .u64 0, .int .u64 0, .int .u64 0, .int .u64 0, .int .i64 0, .int .i64 0] 43)) (w.heap.size + 1 + 1) 43 #[.int .u64 0, .int .u64 0, .int .u64 0, .int .u64 0, .int .i64 0, .int .i64 0] := (by simpa using Blk.new ((w.alloc (.cells #[uv a.b.v, uv a.b.m, uv a.lo, uv a.hi, sv a.sl, sv a.sh] 43)).alloc (.cells #[uv b.b.v, uv b.b.m, uv b.lo, uv b.hi, sv b.sl, sv b.sh] 43)) 43 #[.int .u64 0, .int .u64 0, .int .u64 0, .int .u64 0, .int .i64 0, .int .i64 0] : Blk _ (w.heap.size + 1 + 1) 43 #[.int .u64 0, .int .u64 0, .int .u64 0, .int .u64 0, .int .i64 0, .int .i64 0])
  have hB : Below w.heap.size w (((w.alloc (.cells #[uv a.b.v, uv a.b.m, uv a.lo, uv a.hi, sv a.sl, sv a.sh] 43)).alloc (.cells #[uv b.b.v, uv b.b.m, uv b.lo, uv b.hi, sv b.sl, sv b.sh] 43)).alloc (.cells #[.int .u64 0, .int .u64 0, .int .u64 0, .int .u64 0, .int .i64 0, .int .i64 0] 43)) := (Bl_alloc (Bl_alloc (Bl_alloc (Bl_refl w) _) _) _)
  clear hga
  clear ga
  clear hgb
  clear gb
  clear hgr
  clear gr
  generalize (((w.alloc (.cells #[uv a.b.v, uv a.b.m, uv a.lo, uv a.hi, sv a.sl, sv a.sh] 43)).alloc (.cells #[uv b.b.v, uv b.b.m, uv b.lo, uv b.hi, sv b.sl, sv b.sh] 43)).alloc (.cells #[.int .u64 0, .int .u64 0, .int .u64 0, .int .u64 0, .int .i64 0, .int .i64 0] 43)) = w1 at *
  obtain ⟨ca0, ca1, ca2, ca3, ca4, ca5⟩ := cells6 Ba
  have fa := Ba.frozen; have la := Ba.lt
  obtain ⟨cb0, cb1, cb2, cb3, cb4, cb5⟩ := cells6 Bb
  have fb := Bb.frozen; have lb := Bb.lt
  obtain ⟨cr0, cr1, cr2, cr3, cr4, cr5⟩ := cells6 Br
  have fr := Br.frozen; have lr := Br.lt
  go_wp2_with fail
  refine (sdiff_c a b _).mono ?_
  rintro e w2 ⟨rfl, hb⟩
  clear ca0 ca1 ca2 ca3 ca4 ca5 fa la
  clear cb0 cb1 cb2 cb3 cb4 cb5 fb lb
  clear cr0 cr1 cr2 cr3 cr4 cr5 fr lr
  replace Ba := (Ba).next hb
  replace Bb := (Bb).next hb
  replace Br := (Br).next hb
  replace hB : Below w.heap.size w w2 := by repeat (first | exact hB | (refine Bl_set ?_ (by first | omega | (simp; omega)) _) | apply Bl_alloc | (refine Bl_trans ?_ hb))
  clear hb
  obtain ⟨ca0, ca1, ca2, ca3, ca4, ca5⟩ := cells6 Ba
  have fa := Ba.frozen; have la := Ba.lt
  obtain ⟨cb0, cb1, cb2, cb3, cb4, cb5⟩ := cells6 Bb
  have fb := Bb.frozen; have lb := Bb.lt
  obtain ⟨cr0, cr1, cr2, cr3, cr4, cr5⟩ := cells6 Br
  have fr := Br.frozen; have lr := Br.lt
  go_wp2
  exact bodyPost_ret (v := rv (PlainScalar.difference a b)) (by simp [results, Tryd.results34, go_sem, cr0, cr1, cr2, cr3, cr4, cr5, lr]) rfl ⟨by rw [hs], by repeat (first | (with_reducible exact hB) | (with_reducible refine Bl_set ?_ (by first | omega | (simp; done) | (simp; omega)) _) | with_reducible apply Bl_alloc)⟩
set_option maxRecDepth 100000 in
set_option maxHeartbeats 3200000 in
theorem swide_5 (a b : Rng) (w : World) : Calls Tryd.prog 34 #[.int .i64 5, .bool true, rv a, rv b] w fun e w' => e = .returned (rv (PlainScalar.wideF 5 true a b)) ∧ Below w.heap.size w w' := by
  have hs : PlainScalar.wideF 5 true a b = PlainScalar.bitwise 5 a b := by unfold PlainScalar.wideF; simp
  go_enter Tryd.func34, Tryd.ntmps34
  go_wp2_with fail
  obtain ⟨ga, hga⟩ : ∃ g, g = w.heap.size := ⟨_, rfl⟩
  obtain ⟨gb, hgb⟩ : ∃ g, g = w.heap.size + 1 := ⟨_, rfl⟩
  obtain ⟨gr, hgr⟩ : ∃ g, g = w.heap.size + 1 + 1 := ⟨_, rfl⟩
  have Ba : Blk (((w.alloc (.cells #[uv a.b.v, uv a.b.m, uv a.lo, uv a.hi, sv a.sl, sv a.sh] 43)).alloc (.cells #[uv b.b.v, uv b.b.m, uv b.lo, uv b.hi, sv b.sl, sv b.sh] 43)).alloc (.cells #[.int .u64 0, .int .u64 0, .int .u64 0, .int .u64 0, .int .i64 0, .int .i64 0] 43)) (w.heap.size) 43 #[uv a.b.v, uv a.b.m, uv a.lo, uv a.hi, sv a.sl, sv a.sh] := (((Blk.new w 43 #[uv a.b.v, uv a.b.m, uv a.lo, uv a.hi, sv a.sl, sv a.sh])).alloc _).alloc _
  have Bb : Blk (((w.alloc (.cells #[uv a.b.v, uv a.b.m, uv a.lo, uv a.hi, sv a.sl, sv a.sh] 43)).alloc (.cells #[uv b.b.v, uv b.b.m, uv b.lo, uv b.hi, sv b.sl, sv b.sh] 43)).alloc (.cells #[.int .u64 0, .int .u64 0, .int .u64 0, .int .u64 0, .int .i64 0, .int .i64 0] 43)) (w.heap.size + 1) 43 #[uv b.b.v, uv b.b.m, uv b.lo, uv b.hi, sv b.sl, sv b.sh] := ((by simpa using Blk.new (w.alloc (.cells #[uv a.b.v, uv a.b.m, uv a.lo, uv a.hi, sv a.sl, sv a.sh] 43)) 43 #[uv b.b.v, uv b.b.m, uv b.lo, uv b.hi, sv b.sl, sv b.sh] : Blk _ (w.heap.size + 1) 43 #[uv b.b.v, uv b.b.m, uv b.lo, uv b.hi, sv b.sl, sv b.sh])).alloc _
  have Br : Blk (((w.alloc (.cells #[uv a.b.v, uv a.b.m, uv a.lo, uv a.hi, sv a.sl, sv a.sh] 43)).alloc (.cells #[uv b.b.v, uv b.b.m, uv b.lo, uv b.hi, sv b.sl, sv b.sh] 43)).alloc (.cells #[.int .u64 0, .int .u64 0, .int .u64 0, .int .u64 0, .int .i64 0, .int .i64 0] 43)) (w.heap.size + 1 + 1) 43 #[.int .u64 0, .int .u64 0, .int .u64 0, .int .u64 0, .int .i64 0, .int .i64 0] := (by simpa using Blk.new ((w.alloc (.cells #[uv a.b.v, uv a.b.m, uv a.lo, uv a.hi, sv a.sl, sv a.sh] 43)).alloc (.cells #[uv b.b.v, uv b.b.m, uv b.lo, uv b.hi, sv b.sl, sv b.sh] 43)) 43 #[.int .u64 0, .int .u64 0, .int .u64 0, .int .u64 0, .int .i64 0, .int .i64 0] : Blk _ (w.heap.size + 1 + 1) 43 #[.int .u64 0, .int .u64 0, .int .u64 0, .int .u64 0, .int .i64 0, .int .i64 0])
  have hB : Below w.heap.size w (((w.alloc (.cells #[uv a.b.v, uv a.b.m, uv a.lo, uv a.hi, sv a.sl, sv a.sh] 43)).alloc (.cells #[uv b.b.v, uv b.b.m, uv b.lo, uv b.hi, sv b.sl, sv b.sh] 43)).alloc (.cells #[.int .u64 0, .int .u64 0, .int .u64 0, .int .u64 0, .int .i64 0, .int .i64 0] 43)) := (Bl_alloc (Bl_alloc (Bl_alloc (Bl_refl w) _) _) _)
  clear hga
  clear ga
  clear hgb
  clear gb
  clear hgr
  clear gr
  generalize (((w.alloc (.cells #[uv a.b.v, uv a.b.m, uv a.lo, uv a.hi, sv a.sl, sv a.sh] 43)).alloc (.cells #[uv b.b.v, uv b.b.m, uv b.lo, uv b.hi, sv b.sl, sv b.sh] 43)).alloc (.cells #[.int .u64 0, .int .u64 0, .int .u64 0, .int .u64 0, .int .i64 0, .int .i64 0] 43)) = w1 at *
  obtain ⟨ca0, ca1, ca2, ca3, ca4, ca5⟩ := cells6 Ba
  have fa := Ba.frozen; have la := Ba.lt
  obtain ⟨cb0, cb1, cb2, cb3, cb4, cb5⟩ := cells6 Bb
  have fb := Bb.frozen; have lb := Bb.lt
  obtain ⟨cr0, cr1, cr2, cr3, cr4, cr5⟩ := cells6 Br
  have fr := Br.frozen; have lr := Br.lt
  go_wp2_with fail
  refine (sbit_5 a b _).mono ?_
  rintro e w2 ⟨rfl, hb⟩
  clear ca0 ca1 ca2 ca3 ca4 ca5 fa la
  clear cb0 cb1 cb2 cb3 cb4 cb5 fb lb
  clear cr0 cr1 cr2 cr3 cr4 cr5 fr lr
  replace Ba := (Ba).next hb
  replace Bb := (Bb).next hb
  replace Br := (Br).next hb
  replace hB : Below w.heap.size w w2 := by repeat (first | exact hB | (refine Bl_set ?_ (by first | omega | (simp; omega)) _) | apply Bl_alloc | (refine Bl_trans ?_ hb))
  clear hb
  obtain ⟨ca0, ca1, ca2, ca3, ca4, ca5⟩ := cells6 Ba
  have fa := Ba.frozen; have la := Ba.lt
  obtain ⟨cb0, cb1, cb2, cb3, cb4, cb5⟩ := cells6 Bb
  have fb := Bb.frozen; have lb := Bb.lt
  obtain ⟨cr0, cr1, cr2, cr3, cr4, cr5⟩ := cells6 Br
  have fr := Br.frozen; have lr := Br.lt
  go_wp2
  exact bodyPost_ret (v := rv (PlainScalar.bitwise 5 a b)) (by simp [results, Tryd.results34, go_sem, cr0, cr1, cr2, cr3, cr4, cr5, lr]) rfl ⟨by rw [hs], by repeat (first | (with_reducible exact hB) | (with_reducible refine Bl_set ?_ (by first | omega | (simp; done) | (simp; omega)) _) | with_reducible apply Bl_alloc)⟩
set_option maxRecDepth 100000 in
set_option maxHeartbeats 3200000 in
theorem swide_6 (a b : Rng) (w : World) : Calls Tryd.prog 34 #[.int .i64 6, .bool true, rv a, rv b] w fun e w' => e = .returned (rv (PlainScalar.wideF 6 true a b)) ∧ Below w.heap.size w w' := by
  have hs : PlainScalar.wideF 6 true a b = PlainScalar.moved 6 true a b := by unfold PlainScalar.wideF; simp
  go_enter Tryd.func34, Tryd.ntmps34
  go_wp2_with fail
  obtain ⟨ga, hga⟩ : ∃ g, g = w.heap.size := ⟨_, rfl⟩
  obtain ⟨gb, hgb⟩ : ∃ g, g = w.heap.size + 1 := ⟨_, rfl⟩
  obtain ⟨gr, hgr⟩ : ∃ g, g = w.heap.size + 1 + 1 := ⟨_, rfl⟩
  have Ba : Blk (((w.alloc (.cells #[uv a.b.v, uv a.b.m, uv a.lo, uv a.hi, sv a.sl, sv a.sh] 43)).alloc (.cells #[uv b.b.v, uv b.b.m, uv b.lo, uv b.hi, sv b.sl, sv b.sh] 43)).alloc (.cells #[.int .u64 0, .int .u64 0, .int .u64 0, .int .u64 0, .int .i64 0, .int .i64 0] 43)) (w.heap.size) 43 #[uv a.b.v, uv a.b.m, uv a.lo, uv a.hi, sv a.sl, sv a.sh] := (((Blk.new w 43 #[uv a.b.v, uv a.b.m, uv a.lo, uv a.hi, sv a.sl, sv a.sh])).alloc _).alloc _
  have Bb : Blk (((w.alloc (.cells #[uv a.b.v, uv a.b.m, uv a.lo, uv a.hi, sv a.sl, sv a.sh] 43)).alloc (.cells #[uv b.b.v, uv b.b.m, uv b.lo, uv b.hi, sv b.sl, sv b.sh] 43)).alloc (.cells #[.int .u64 0, .int .u64 0, .int .u64 0, .int .u64 0, .int .i64 0, .int .i64 0] 43)) (w.heap.size + 1) 43 #[uv b.b.v, uv b.b.m, uv b.lo, uv b.hi, sv b.sl, sv b.sh] := ((by simpa using Blk.new (w.alloc (.cells #[uv a.b.v, uv a.b.m, uv a.lo, uv a.hi, sv a.sl, sv a.sh] 43)) 43 #[uv b.b.v, uv b.b.m, uv b.lo, uv b.hi, sv b.sl, sv b.sh] : Blk _ (w.heap.size + 1) 43 #[uv b.b.v, uv b.b.m, uv b.lo, uv b.hi, sv b.sl, sv b.sh])).alloc _
  have Br : Blk (((w.alloc (.cells #[uv a.b.v, uv a.b.m, uv a.lo, uv a.hi, sv a.sl, sv a.sh] 43)).alloc (.cells #[uv b.b.v, uv b.b.m, uv b.lo, uv b.hi, sv b.sl, sv b.sh] 43)).alloc (.cells #[.int .u64 0, .int .u64 0, .int .u64 0, .int .u64 0, .int .i64 0, .int .i64 0] 43)) (w.heap.size + 1 + 1) 43 #[.int .u64 0, .int .u64 0, .int .u64 0, .int .u64 0, .int .i64 0, .int .i64 0] := (by simpa using Blk.new ((w.alloc (.cells #[uv a.b.v, uv a.b.m, uv a.lo, uv a.hi, sv a.sl, sv a.sh] 43)).alloc (.cells #[uv b.b.v, uv b.b.m, uv b.lo, uv b.hi, sv b.sl, sv b.sh] 43)) 43 #[.int .u64 0, .int .u64 0, .int .u64 0, .int .u64 0, .int .i64 0, .int .i64 0] : Blk _ (w.heap.size + 1 + 1) 43 #[.int .u64 0, .int .u64 0, .int .u64 0, .int .u64 0, .int .i64 0, .int .i64 0])
  have hB : Below w.heap.size w (((w.alloc (.cells #[uv a.b.v, uv a.b.m, uv a.lo, uv a.hi, sv a.sl, sv a.sh] 43)).alloc (.cells #[uv b.b.v, uv b.b.m, uv b.lo, uv b.hi, sv b.sl, sv b.sh] 43)).alloc (.cells #[.int .u64 0, .int .u64 0, .int .u64 0, .int .u64 0, .int .i64 0, .int .i64 0] 43)) := (Bl_alloc (Bl_alloc (Bl_alloc (Bl_refl w) _) _) _)
  clear hga
  clear ga
  clear hgb
  clear gb
  clear hgr
  clear gr
  generalize (((w.alloc (.cells #[uv a.b.v, uv a.b.m, uv a.lo, uv a.hi, sv a.sl, sv a.sh] 43)).alloc (.cells #[uv b.b.v, uv b.b.m, uv b.lo, uv b.hi, sv b.sl, sv b.sh] 43)).alloc (.cells #[.int .u64 0, .int .u64 0, .int .u64 0, .int .u64 0, .int .i64 0, .int .i64 0] 43)) = w1 at *
  obtain ⟨ca0, ca1, ca2, ca3, ca4, ca5⟩ := cells6 Ba
  have fa := Ba.frozen; have la := Ba.lt
  obtain ⟨cb0, cb1, cb2, cb3, cb4, cb5⟩ := cells6 Bb
  have fb := Bb.frozen; have lb := Bb.lt
  obtain ⟨cr0, cr1, cr2, cr3, cr4, cr5⟩ := cells6 Br
  have fr := Br.frozen; have lr := Br.lt
  go_wp2_with fail
  refine (smoved_6 a b _).mono ?_
  rintro e w2 ⟨rfl, hb⟩
  clear ca0 ca1 ca2 ca3 ca4 ca5 fa la
  clear cb0 cb1 cb2 cb3 cb4 cb5 fb lb
  clear cr0 cr1 cr2 cr3 cr4 cr5 fr lr
  replace Ba := (Ba).next hb
  replace Bb := (Bb).next hb
  replace Br := (Br).next hb
  replace hB : Below w.heap.size w w2 := by repeat (first | exact hB | (refine Bl_set ?_ (by first | omega | (simp; omega)) _) | apply Bl_alloc | (refine Bl_trans ?_ hb))
  clear hb
  obtain ⟨ca0, ca1, ca2, ca3, ca4, ca5⟩ := cells6 Ba
  have fa := Ba.frozen; have la := Ba.lt
  obtain ⟨cb0, cb1, cb2, cb3, cb4, cb5⟩ := cells6 Bb
  have fb := Bb.frozen; have lb := Bb.lt
  obtain ⟨cr0, cr1, cr2, cr3, cr4, cr5⟩ := cells6 Br
  have fr := Br.frozen; have lr := Br.lt
  go_wp2
  exact bodyPost_ret (v := rv (PlainScalar.moved 6 true a b)) (by simp [results, Tryd.results34, go_sem, cr0, cr1, cr2, cr3, cr4, cr5, lr]) rfl ⟨by rw [hs], by repeat (first | (with_reducible exact hB) | (with_reducible refine Bl_set ?_ (by first | omega | (simp; done) | (simp; omega)) _) | with_reducible apply Bl_alloc)⟩
set_option maxRecDepth 100000 in
set_option maxHeartbeats 3200000 in
theorem sdo_t (op : Int) (a b : Rng) (hwide : ∀ w : World, Calls Tryd.prog 34 #[.int .i64 op, .bool true, rv a, rv b] w fun e w' => e = .returned (rv (PlainScalar.wideF op true a b)) ∧ Below w.heap.size w w') (w : World) : Calls Tryd.prog 16 #[.int .i64 op, .bool true, rv a, rv b] w fun e w' => e = .returned (rv (PlainScalar.doF op true a b)) ∧ Below w.heap.size w w' := by
  cases q1 : PlainScalar.alone a
  · have hs : PlainScalar.doF op true a b = PlainScalar.wideF op true a b := by unfold PlainScalar.doF; rw [if_neg (fun h => by rw [q1] at h; exact absurd h.1 (by decide))]; simp only [Bool.false_eq_true, if_false, if_true]
    go_enter Tryd.func16, Tryd.ntmps16
    go_wp2_with fail
    obtain ⟨ga, hga⟩ : ∃ g, g = w.heap.size := ⟨_, rfl⟩
    obtain ⟨gb, hgb⟩ : ∃ g, g = w.heap.size + 1 := ⟨_, rfl⟩
    obtain ⟨gr, hgr⟩ : ∃ g, g = w.heap.size + 1 + 1 := ⟨_, rfl⟩
    have Ba : Blk (((w.alloc (.cells #[uv a.b.v, uv a.b.m, uv a.lo, uv a.hi, sv a.sl, sv a.sh] 43)).alloc (.cells #[uv b.b.v, uv b.b.m, uv b.lo, uv b.hi, sv b.sl, sv b.sh] 43)).alloc (.cells #[.int .u64 0, .int .u64 0, .int .u64 0, .int .u64 0, .int .i64 0, .int .i64 0] 43)) (w.heap.size) 43 #[uv a.b.v, uv a.b.m, uv a.lo, uv a.hi, sv a.sl, sv a.sh] := (((Blk.new w 43 #[uv a.b.v, uv a.b.m, uv a.lo, uv a.hi, sv a.sl, sv a.sh])).alloc _).alloc _
    have Bb : Blk (((w.alloc (.cells #[uv a.b.v, uv a.b.m, uv a.lo, uv a.hi, sv a.sl, sv a.sh] 43)).alloc (.cells #[uv b.b.v, uv b.b.m, uv b.lo, uv b.hi, sv b.sl, sv b.sh] 43)).alloc (.cells #[.int .u64 0, .int .u64 0, .int .u64 0, .int .u64 0, .int .i64 0, .int .i64 0] 43)) (w.heap.size + 1) 43 #[uv b.b.v, uv b.b.m, uv b.lo, uv b.hi, sv b.sl, sv b.sh] := ((by simpa using Blk.new (w.alloc (.cells #[uv a.b.v, uv a.b.m, uv a.lo, uv a.hi, sv a.sl, sv a.sh] 43)) 43 #[uv b.b.v, uv b.b.m, uv b.lo, uv b.hi, sv b.sl, sv b.sh] : Blk _ (w.heap.size + 1) 43 #[uv b.b.v, uv b.b.m, uv b.lo, uv b.hi, sv b.sl, sv b.sh])).alloc _
    have Br : Blk (((w.alloc (.cells #[uv a.b.v, uv a.b.m, uv a.lo, uv a.hi, sv a.sl, sv a.sh] 43)).alloc (.cells #[uv b.b.v, uv b.b.m, uv b.lo, uv b.hi, sv b.sl, sv b.sh] 43)).alloc (.cells #[.int .u64 0, .int .u64 0, .int .u64 0, .int .u64 0, .int .i64 0, .int .i64 0] 43)) (w.heap.size + 1 + 1) 43 #[.int .u64 0, .int .u64 0, .int .u64 0, .int .u64 0, .int .i64 0, .int .i64 0] := (by simpa using Blk.new ((w.alloc (.cells #[uv a.b.v, uv a.b.m, uv a.lo, uv a.hi, sv a.sl, sv a.sh] 43)).alloc (.cells #[uv b.b.v, uv b.b.m, uv b.lo, uv b.hi, sv b.sl, sv b.sh] 43)) 43 #[.int .u64 0, .int .u64 0, .int .u64 0, .int .u64 0, .int .i64 0, .int .i64 0] : Blk _ (w.heap.size + 1 + 1) 43 #[.int .u64 0, .int .u64 0, .int .u64 0, .int .u64 0, .int .i64 0, .int .i64 0])
    have hB : Below w.heap.size w (((w.alloc (.cells #[uv a.b.v, uv a.b.m, uv a.lo, uv a.hi, sv a.sl, sv a.sh] 43)).alloc (.cells #[uv b.b.v, uv b.b.m, uv b.lo, uv b.hi, sv b.sl, sv b.sh] 43)).alloc (.cells #[.int .u64 0, .int .u64 0, .int .u64 0, .int .u64 0, .int .i64 0, .int .i64 0] 43)) := (Bl_alloc (Bl_alloc (Bl_alloc (Bl_refl w) _) _) _)
    clear hga
    clear ga
    clear hgb
    clear gb
    clear hgr
    clear gr
    generalize (((w.alloc (.cells #[uv a.b.v, uv a.b.m, uv a.lo, uv a.hi, sv a.sl, sv a.sh] 43)).alloc (.cells #[uv b.b.v, uv b.b.m, uv b.lo, uv b.hi, sv b.sl, sv b.sh] 43)).alloc (.cells #[.int .u64 0, .int .u64 0, .int .u64 0, .int .u64 0, .int .i64 0, .int .i64 0] 43)) = w1 at *
    obtain ⟨ca0, ca1, ca2, ca3, ca4, ca5⟩ := cells6 Ba
    have fa := Ba.frozen; have la := Ba.lt
    obtain ⟨cb0, cb1, cb2, cb3, cb4, cb5⟩ := cells6 Bb
    have fb := Bb.frozen; have lb := Bb.lt
    obtain ⟨cr0, cr1, cr2, cr3, cr4, cr5⟩ := cells6 Br
    have fr := Br.frozen; have lr := Br.lt
    go_wp2_with fail
    refine (alone_b _ _ q1 _).mono ?_
    rintro e w2 ⟨rfl, hb⟩
    clear ca0 ca1 ca2 ca3 ca4 ca5 fa la
    clear cb0 cb1 cb2 cb3 cb4 cb5 fb lb
    clear cr0 cr1 cr2 cr3 cr4 cr5 fr lr
    replace Ba := (Ba).next hb
    replace Bb := (Bb).next hb
    replace Br := (Br).next hb
    replace hB : Below w.heap.size w w2 := by repeat (first | exact hB | (refine Bl_set ?_ (by first | omega | (simp; omega)) _) | apply Bl_alloc | (refine Bl_trans ?_ hb))
    clear hb
    obtain ⟨ca0, ca1, ca2, ca3, ca4, ca5⟩ := cells6 Ba
    have fa := Ba.frozen; have la := Ba.lt
    obtain ⟨cb0, cb1, cb2, cb3, cb4, cb5⟩ := cells6 Bb
    have fb := Bb.frozen; have lb := Bb.lt
    obtain ⟨cr0, cr1, cr2, cr3, cr4, cr5⟩ := cells6 Br
    have fr := Br.frozen; have lr := Br.lt
    go_wp2_with fail
    refine (hwide _).mono ?_
    rintro e w3 ⟨rfl, hb⟩
    clear ca0 ca1 ca2 ca3 ca4 ca5 fa la
    clear cb0 cb1 cb2 cb3 cb4 cb5 fb lb
    clear cr0 cr1 cr2 cr3 cr4 cr5 fr lr
    replace Ba := (Ba).next hb
    replace Bb := (Bb).next hb
    replace Br := (Br).next hb
    replace hB : Below w.heap.size w w3 := by repeat (first | exact hB | (refine Bl_set ?_ (by first | omega | (simp; omega)) _) | apply Bl_alloc | (refine Bl_trans ?_ hb))
    clear hb
    obtain ⟨ca0, ca1, ca2, ca3, ca4, ca5⟩ := cells6 Ba
    have fa := Ba.frozen; have la := Ba.lt
    obtain ⟨cb0, cb1, cb2, cb3, cb4, cb5⟩ := cells6 Bb
    have fb := Bb.frozen; have lb := Bb.lt
    obtain ⟨cr0, cr1, cr2, cr3, cr4, cr5⟩ := cells6 Br
    have fr := Br.frozen; have lr := Br.lt
    go_wp2
    exact bodyPost_ret (v := rv (PlainScalar.wideF op true a b)) (by simp [results, Tryd.results16, go_sem, cr0, cr1, cr2, cr3, cr4, cr5, lr]) rfl ⟨by rw [hs], by repeat (first | (with_reducible exact hB) | (with_reducible refine Bl_set ?_ (by first | omega | (simp; done) | (simp; omega)) _) | with_reducible apply Bl_alloc)⟩
  · cases q2 : PlainScalar.alone b
    · have hs : PlainScalar.doF op true a b = PlainScalar.wideF op true a b := by unfold PlainScalar.doF; rw [if_neg (fun h => by rw [q2] at h; exact absurd h.2 (by decide))]; simp only [Bool.false_eq_true, if_false, if_true]
      go_enter Tryd.func16, Tryd.ntmps16
      go_wp2_with fail
      obtain ⟨ga, hga⟩ : ∃ g, g = w.heap.size := ⟨_, rfl⟩
      obtain ⟨gb, hgb⟩ : ∃ g, g = w.heap.size + 1 := ⟨_, rfl⟩
      obtain ⟨gr, hgr⟩ : ∃ g, g = w.heap.size + 1 + 1 := ⟨_, rfl⟩
      have Ba : Blk (((w.alloc (.cells #[uv a.b.v, uv a.b.m, uv a.lo, uv a.hi, sv a.sl, sv a.sh] 43)).alloc (.cells #[uv b.b.v, uv b.b.m, uv b.lo, uv b.hi, sv b.sl, sv b.sh] 43)).alloc (.cells #[.int .u64 0, .int .u64 0, .int .u64 0, .int .u64 0, .int .i64 0, .int .i64 0] 43)) (w.heap.size) 43 #[uv a.b.v, uv a.b.m, uv a.lo, uv a.hi, sv a.sl, sv a.sh] := (((Blk.new w 43 #[uv a.b.v, uv a.b.m, uv a.lo, uv a.hi, sv a.sl, sv a.sh])).alloc _).alloc _
      have Bb : Blk (((w.alloc (.cells #[uv a.b.v, uv a.b.m, uv a.lo, uv a.hi, sv a.sl, sv a.sh] 43)).alloc (.cells #[uv b.b.v, uv b.b.m, uv b.lo, uv b.hi, sv b.sl, sv b.sh] 43)).alloc (.cells #[.int .u64 0, .int .u64 0, .int .u64 0, .int .u64 0, .int .i64 0, .int .i64 0] 43)) (w.heap.size + 1) 43 #[uv b.b.v, uv b.b.m, uv b.lo, uv b.hi, sv b.sl, sv b.sh] := ((by simpa using Blk.new (w.alloc (.cells #[uv a.b.v, uv a.b.m, uv a.lo, uv a.hi, sv a.sl, sv a.sh] 43)) 43 #[uv b.b.v, uv b.b.m, uv b.lo, uv b.hi, sv b.sl, sv b.sh] : Blk _ (w.heap.size + 1) 43 #[uv b.b.v, uv b.b.m, uv b.lo, uv b.hi, sv b.sl, sv b.sh])).alloc _
      have Br : Blk (((w.alloc (.cells #[uv a.b.v, uv a.b.m, uv a.lo, uv a.hi, sv a.sl, sv a.sh] 43)).alloc (.cells #[uv b.b.v, uv b.b.m, uv b.lo, uv b.hi, sv b.sl, sv b.sh] 43)).alloc (.cells #[.int .u64 0, .int .u64 0, .int .u64 0, .int .u64 0, .int .i64 0, .int .i64 0] 43)) (w.heap.size + 1 + 1) 43 #[.int .u64 0, .int .u64 0, .int .u64 0, .int .u64 0, .int .i64 0, .int .i64 0] := (by simpa using Blk.new ((w.alloc (.cells #[uv a.b.v, uv a.b.m, uv a.lo, uv a.hi, sv a.sl, sv a.sh] 43)).alloc (.cells #[uv b.b.v, uv b.b.m, uv b.lo, uv b.hi, sv b.sl, sv b.sh] 43)) 43 #[.int .u64 0, .int .u64 0, .int .u64 0, .int .u64 0, .int .i64 0, .int .i64 0] : Blk _ (w.heap.size + 1 + 1) 43 #[.int .u64 0, .int .u64 0, .int .u64 0, .int .u64 0, .int .i64 0, .int .i64 0])
      have hB : Below w.heap.size w (((w.alloc (.cells #[uv a.b.v, uv a.b.m, uv a.lo, uv a.hi, sv a.sl, sv a.sh] 43)).alloc (.cells #[uv b.b.v, uv b.b.m, uv b.lo, uv b.hi, sv b.sl, sv b.sh] 43)).alloc (.cells #[.int .u64 0, .int .u64 0, .int .u64 0, .int .u64 0, .int .i64 0, .int .i64 0] 43)) := (Bl_alloc (Bl_alloc (Bl_alloc (Bl_refl w) _) _) _)
      clear hga
      clear ga
      clear hgb
      clear gb
      clear hgr
      clear gr
      generalize (((w.alloc (.cells #[uv a.b.v, uv a.b.m, uv a.lo, uv a.hi, sv a.sl, sv a.sh] 43)).alloc (.cells #[uv b.b.v, uv b.b.m, uv b.lo, uv b.hi, sv b.sl, sv b.sh] 43)).alloc (.cells #[.int .u64 0, .int .u64 0, .int .u64 0, .int .u64 0, .int .i64 0, .int .i64 0] 43)) = w1 at *
      obtain ⟨ca0, ca1, ca2, ca3, ca4, ca5⟩ := cells6 Ba
      have fa := Ba.frozen; have la := Ba.lt
      obtain ⟨cb0, cb1, cb2, cb3, cb4, cb5⟩ := cells6 Bb
      have fb := Bb.frozen; have lb := Bb.lt
      obtain ⟨cr0, cr1, cr2, cr3, cr4, cr5⟩ := cells6 Br
      have fr := Br.frozen; have lr := Br.lt
      go_wp2_with fail
      refine (alone_b _ _ q1 _).mono ?_
      rintro e w2 ⟨rfl, hb⟩
      clear ca0 ca1 ca2 ca3 ca4 ca5 fa la
      clear cb0 cb1 cb2 cb3 cb4 cb5 fb lb
      clear cr0 cr1 cr2 cr3 cr4 cr5 fr lr
      replace Ba := (Ba).next hb
      replace Bb := (Bb).next hb
      replace Br := (Br).next hb
      replace hB : Below w.heap.size w w2 := by repeat (first | exact hB | (refine Bl_set ?_ (by first | omega | (simp; omega)) _) | apply Bl_alloc | (refine Bl_trans ?_ hb))
      clear hb
      obtain ⟨ca0, ca1, ca2, ca3, ca4, ca5⟩ := cells6 Ba
      have fa := Ba.frozen; have la := Ba.lt
      obtain ⟨cb0, cb1, cb2, cb3, cb4, cb5⟩ := cells6 Bb
      have fb := Bb.frozen; have lb := Bb.lt
      obtain ⟨cr0, cr1, cr2, cr3, cr4, cr5⟩ := cells6 Br
      have fr := Br.frozen; have lr := Br.lt
      go_wp2_with fail
      refine (alone_b _ _ q2 _).mono ?_
      rintro e w3 ⟨rfl, hb⟩
      clear ca0 ca1 ca2 ca3 ca4 ca5 fa la
      clear cb0 cb1 cb2 cb3 cb4 cb5 fb lb
      clear cr0 cr1 cr2 cr3 cr4 cr5 fr lr
      replace Ba := (Ba).next hb
      replace Bb := (Bb).next hb
      replace Br := (Br).next hb
      replace hB : Below w.heap.size w w3 := by repeat (first | exact hB | (refine Bl_set ?_ (by first | omega | (simp; omega)) _) | apply Bl_alloc | (refine Bl_trans ?_ hb))
      clear hb
      obtain ⟨ca0, ca1, ca2, ca3, ca4, ca5⟩ := cells6 Ba
      have fa := Ba.frozen; have la := Ba.lt
      obtain ⟨cb0, cb1, cb2, cb3, cb4, cb5⟩ := cells6 Bb
      have fb := Bb.frozen; have lb := Bb.lt
      obtain ⟨cr0, cr1, cr2, cr3, cr4, cr5⟩ := cells6 Br
      have fr := Br.frozen; have lr := Br.lt
      go_wp2_with fail
      refine (hwide _).mono ?_
      rintro e w4 ⟨rfl, hb⟩
      clear ca0 ca1 ca2 ca3 ca4 ca5 fa la
      clear cb0 cb1 cb2 cb3 cb4 cb5 fb lb
      clear cr0 cr1 cr2 cr3 cr4 cr5 fr lr
      replace Ba := (Ba).next hb
      replace Bb := (Bb).next hb
      replace Br := (Br).next hb
      replace hB : Below w.heap.size w w4 := by repeat (first | exact hB | (refine Bl_set ?_ (by first | omega | (simp; omega)) _) | apply Bl_alloc | (refine Bl_trans ?_ hb))
      clear hb
      obtain ⟨ca0, ca1, ca2, ca3, ca4, ca5⟩ := cells6 Ba
      have fa := Ba.frozen; have la := Ba.lt
      obtain ⟨cb0, cb1, cb2, cb3, cb4, cb5⟩ := cells6 Bb
      have fb := Bb.frozen; have lb := Bb.lt
      obtain ⟨cr0, cr1, cr2, cr3, cr4, cr5⟩ := cells6 Br
      have fr := Br.frozen; have lr := Br.lt
      go_wp2
      exact bodyPost_ret (v := rv (PlainScalar.wideF op true a b)) (by simp [results, Tryd.results16, go_sem, cr0, cr1, cr2, cr3, cr4, cr5, lr]) rfl ⟨by rw [hs], by repeat (first | (with_reducible exact hB) | (with_reducible refine Bl_set ?_ (by first | omega | (simp; done) | (simp; omega)) _) | with_reducible apply Bl_alloc)⟩
    · have hs : PlainScalar.doF op true a b = PlainScalar.const (PlainScalar.eval op true a.lo b.lo) := by unfold PlainScalar.doF; rw [if_pos ⟨q1, q2⟩]
      clear hwide
      go_enter Tryd.func16, Tryd.ntmps16
      go_wp2_with fail
      obtain ⟨ga, hga⟩ : ∃ g, g = w.heap.size := ⟨_, rfl⟩
      obtain ⟨gb, hgb⟩ : ∃ g, g = w.heap.size + 1 := ⟨_, rfl⟩
      obtain ⟨gr, hgr⟩ : ∃ g, g = w.heap.size + 1 + 1 := ⟨_, rfl⟩
      have Ba : Blk (((w.alloc (.cells #[uv a.b.v, uv a.b.m, uv a.lo, uv a.hi, sv a.sl, sv a.sh] 43)).alloc (.cells #[uv b.b.v, uv b.b.m, uv b.lo, uv b.hi, sv b.sl, sv b.sh] 43)).alloc (.cells #[.int .u64 0, .int .u64 0, .int .u64 0, .int .u64 0, .int .i64 0, .int .i64 0] 43)) (w.heap.size) 43 #[uv a.b.v, uv a.b.m, uv a.lo, uv a.hi, sv a.sl, sv a.sh] := (((Blk.new w 43 #[uv a.b.v, uv a.b.m, uv a.lo, uv a.hi, sv a.sl, sv a.sh])).alloc _).alloc _
      have Bb : Blk (((w.alloc (.cells #[uv a.b.v, uv a.b.m, uv a.lo, uv a.hi, sv a.sl, sv a.sh] 43)).alloc (.cells #[uv b.b.v, uv b.b.m, uv b.lo, uv b.hi, sv b.sl, sv b.sh] 43)).alloc (.cells #[.int .u64 0, .int .u64 0, .int .u64 0, .int .u64 0, .int .i64 0, .int .i64 0] 43)) (w.heap.size + 1) 43 #[uv b.b.v, uv b.b.m, uv b.lo, uv b.hi, sv b.sl, sv b.sh] := ((by simpa using Blk.new (w.alloc (.cells #[uv a.b.v, uv a.b.m, uv a.lo, uv a.hi, sv a.sl, sv a.sh] 43)) 43 #[uv b.b.v, uv b.b.m, uv b.lo, uv b.hi, sv b.sl, sv b.sh] : Blk _ (w.heap.size + 1) 43 #[uv b.b.v, uv b.b.m, uv b.lo, uv b.hi, sv b.sl, sv b.sh])).alloc _
      have Br : Blk (((w.alloc (.cells #[uv a.b.v, uv a.b.m, uv a.lo, uv a.hi, sv a.sl, sv a.sh] 43)).alloc (.cells #[uv b.b.v, uv b.b.m, uv b.lo, uv b.hi, sv b.sl, sv b.sh] 43)).alloc (.cells #[.int .u64 0, .int .u64 0, .int .u64 0, .int .u64 0, .int .i64 0, .int .i64 0] 43)) (w.heap.size + 1 + 1) 43 #[.int .u64 0, .int .u64 0, .int .u64 0, .int .u64 0, .int .i64 0, .int .i64 0] := (by simpa using Blk.new ((w.alloc (.cells #[uv a.b.v, uv a.b.m, uv a.lo, uv a.hi, sv a.sl, sv a.sh] 43)).alloc (.cells #[uv b.b.v, uv b.b.m, uv b.lo, uv b.hi, sv b.sl, sv b.sh] 43)) 43 #[.int .u64 0, .int .u64 0, .int .u64 0, .int .u64 0, .int .i64 0, .int .i64 0] : Blk _ (w.heap.size + 1 + 1) 43 #[.int .u64 0, .int .u64 0, .int .u64 0, .int .u64 0, .int .i64 0, .int .i64 0])
      have hB : Below w.heap.size w (((w.alloc (.cells #[uv a.b.v, uv a.b.m, uv a.lo, uv a.hi, sv a.sl, sv a.sh] 43)).alloc (.cells #[uv b.b.v, uv b.b.m, uv b.lo, uv b.hi, sv b.sl, sv b.sh] 43)).alloc (.cells #[.int .u64 0, .int .u64 0, .int .u64 0, .int .u64 0, .int .i64 0, .int .i64 0] 43)) := (Bl_alloc (Bl_alloc (Bl_alloc (Bl_refl w) _) _) _)
      clear hga
      clear ga
      clear hgb
      clear gb
      clear hgr
      clear gr
      generalize (((w.alloc (.cells #[uv a.b.v, uv a.b.m, uv a.lo, uv a.hi, sv a.sl, sv a.sh] 43)).alloc (.cells #[uv b.b.v, uv b.b.m, uv b.lo, uv b.hi, sv b.sl, sv b.sh] 43)).alloc (.cells #[.int .u64 0, .int .u64 0, .int .u64 0, .int .u64 0, .int .i64 0, .int .i64 0] 43)) = w1 at *
      obtain ⟨ca0, ca1, ca2, ca3, ca4, ca5⟩ := cells6 Ba
      have fa := Ba.frozen; have la := Ba.lt
      obtain ⟨cb0, cb1, cb2, cb3, cb4, cb5⟩ := cells6 Bb
      have fb := Bb.frozen; have lb := Bb.lt
      obtain ⟨cr0, cr1, cr2, cr3, cr4, cr5⟩ := cells6 Br
      have fr := Br.frozen; have lr := Br.lt
      go_wp2_with fail
      refine (alone_b _ _ q1 _).mono ?_
      rintro e w2 ⟨rfl, hb⟩
      clear ca0 ca1 ca2 ca3 ca4 ca5 fa la
      clear cb0 cb1 cb2 cb3 cb4 cb5 fb lb
      clear cr0 cr1 cr2 cr3 cr4 cr5 fr lr
      replace Ba := (Ba).next hb
      replace Bb := (Bb).next hb
      replace Br := (Br).next hb
      replace hB : Below w.heap.size w w2 := by repeat (first | exact hB | (refine Bl_set ?_ (by first | omega | (simp; omega)) _) | apply Bl_alloc | (refine Bl_trans ?_ hb))
      clear hb
      obtain ⟨ca0, ca1, ca2, ca3, ca4, ca5⟩ := cells6 Ba
      have fa := Ba.frozen; have la := Ba.lt
      obtain ⟨cb0, cb1, cb2, cb3, cb4, cb5⟩ := cells6 Bb
      have fb := Bb.frozen; have lb := Bb.lt
      obtain ⟨cr0, cr1, cr2, cr3, cr4, cr5⟩ := cells6 Br
      have fr := Br.frozen; have lr := Br.lt
      go_wp2_with fail
      refine (alone_b _ _ q2 _).mono ?_
      rintro e w3 ⟨rfl, hb⟩
      clear ca0 ca1 ca2 ca3 ca4 ca5 fa la
      clear cb0 cb1 cb2 cb3 cb4 cb5 fb lb
      clear cr0 cr1 cr2 cr3 cr4 cr5 fr lr
      replace Ba := (Ba).next hb
      replace Bb := (Bb).next hb
      replace Br := (Br).next hb
      replace hB : Below w.heap.size w w3 := by repeat (first | exact hB | (refine Bl_set ?_ (by first | omega | (simp; omega)) _) | apply Bl_alloc | (refine Bl_trans ?_ hb))
      clear hb
      obtain ⟨ca0, ca1, ca2, ca3, ca4, ca5⟩ := cells6 Ba
      have fa := Ba.frozen; have la := Ba.lt
      obtain ⟨cb0, cb1, cb2, cb3, cb4, cb5⟩ := cells6 Bb
      have fb := Bb.frozen; have lb := Bb.lt
      obtain ⟨cr0, cr1, cr2, cr3, cr4, cr5⟩ := cells6 Br
      have fr := Br.frozen; have lr := Br.lt
      go_wp2_with fail
      refine (seval_c op true a.lo b.lo _).mono ?_
      rintro e w4 ⟨rfl, hb⟩
      clear ca0 ca1 ca2 ca3 ca4 ca5 fa la
      clear cb0 cb1 cb2 cb3 cb4 cb5 fb lb
      clear cr0 cr1 cr2 cr3 cr4 cr5 fr lr
      replace Ba := (Ba).next hb
      replace Bb := (Bb).next hb
      replace Br := (Br).next hb
      replace hB : Below w.heap.size w w4 := by repeat (first | exact hB | (refine Bl_set ?_ (by first | omega | (simp; omega)) _) | apply Bl_alloc | (refine Bl_trans ?_ hb))
      clear hb
      obtain ⟨ca0, ca1, ca2, ca3, ca4, ca5⟩ := cells6 Ba
      have fa := Ba.frozen; have la := Ba.lt
      obtain ⟨cb0, cb1, cb2, cb3, cb4, cb5⟩ := cells6 Bb
      have fb := Bb.frozen; have lb := Bb.lt
      obtain ⟨cr0, cr1, cr2, cr3, cr4, cr5⟩ := cells6 Br
      have fr := Br.frozen; have lr := Br.lt
      go_wp2_with fail
      refine (sconst_c (PlainScalar.eval op true a.lo b.lo) _).mono ?_
      rintro e w5 ⟨rfl, hb⟩
      clear ca0 ca1 ca2 ca3 ca4 ca5 fa la
      clear cb0 cb1 cb2 cb3 cb4 cb5 fb lb
      clear cr0 cr1 cr2 cr3 cr4 cr5 fr lr
      replace Ba := (Ba).next hb
      replace Bb := (Bb).next hb
      replace Br := (Br).next hb
      replace hB : Below w.heap.size w w5 := by repeat (first | exact hB | (refine Bl_set ?_ (by first | omega | (simp; omega)) _) | apply Bl_alloc | (refine Bl_trans ?_ hb))
      clear hb
      obtain ⟨ca0, ca1, ca2, ca3, ca4, ca5⟩ := cells6 Ba
      have fa := Ba.frozen; have la := Ba.lt
      obtain ⟨cb0, cb1, cb2, cb3, cb4, cb5⟩ := cells6 Bb
      have fb := Bb.frozen; have lb := Bb.lt
      obtain ⟨cr0, cr1, cr2, cr3, cr4, cr5⟩ := cells6 Br
      have fr := Br.frozen; have lr := Br.lt
      go_wp2
      exact bodyPost_ret (v := rv (PlainScalar.const (PlainScalar.eval op true a.lo b.lo))) (by simp [results, Tryd.results16, go_sem, cr0, cr1, cr2, cr3, cr4, cr5, lr]) rfl ⟨by rw [hs], by repeat (first | (with_reducible exact hB) | (with_reducible refine Bl_set ?_ (by first | omega | (simp; done) | (simp; omega)) _) | with_reducible apply Bl_alloc)⟩
set_option maxRecDepth 100000 in
set_option maxHeartbeats 3200000 in
theorem sdo_f (op : Int) (a b : Rng) (hwide : ∀ w : World, Calls Tryd.prog 34 #[.int .i64 op, .bool false, rv (PlainScalar.low a 4), rv (PlainScalar.low b 4)] w fun e w' => e = .returned (rv (PlainScalar.wideF op false (PlainScalar.low a 4) (PlainScalar.low b 4))) ∧ Below w.heap.size w w') (w : World) : Calls Tryd.prog 16 #[.int .i64 op, .bool false, rv a, rv b] w fun e w' => e = .returned (rv (PlainScalar.doF op false a b)) ∧ Below w.heap.size w w' := by
  cases q1 : PlainScalar.alone a
  · have hs : PlainScalar.doF op false a b = PlainScalar.low (PlainScalar.wideF op false (PlainScalar.low a 4) (PlainScalar.low b 4)) 4 := by unfold PlainScalar.doF; rw [if_neg (fun h => by rw [q1] at h; exact absurd h.1 (by decide))]; simp only [Bool.false_eq_true, if_false, if_true]
    have cwd := hwide; clear hwide
    have cra : ∀ w : World, Calls Tryd.prog 17 #[rv a, .int .i64 4] w fun e w' => e = .returned (rv (PlainScalar.low a 4)) ∧ Below w.heap.size w w' := fun w => slow_c a 4 w
    generalize (PlainScalar.low a 4) = ra at cra cwd hs
    have crb : ∀ w : World, Calls Tryd.prog 17 #[rv b, .int .i64 4] w fun e w' => e = .returned (rv (PlainScalar.low b 4)) ∧ Below w.heap.size w w' := fun w => slow_c b 4 w
    generalize (PlainScalar.low b 4) = rb at crb cwd hs
    generalize PlainScalar.wideF op false ra rb = wd at cwd hs
    have clw : ∀ w : World, Calls Tryd.prog 17 #[rv wd, .int .i64 4] w fun e w' => e = .returned (rv (PlainScalar.low wd 4)) ∧ Below w.heap.size w w' := fun w => slow_c wd 4 w
    generalize PlainScalar.low wd 4 = lw at clw hs
    go_enter Tryd.func16, Tryd.ntmps16
    go_wp2_with fail
    obtain ⟨ga, hga⟩ : ∃ g, g = w.heap.size := ⟨_, rfl⟩
    obtain ⟨gb, hgb⟩ : ∃ g, g = w.heap.size + 1 := ⟨_, rfl⟩
    obtain ⟨gr, hgr⟩ : ∃ g, g = w.heap.size + 1 + 1 := ⟨_, rfl⟩
    have Ba : Blk (((w.alloc (.cells #[uv a.b.v, uv a.b.m, uv a.lo, uv a.hi, sv a.sl, sv a.sh] 43)).alloc (.cells #[uv b.b.v, uv b.b.m, uv b.lo, uv b.hi, sv b.sl, sv b.sh] 43)).alloc (.cells #[.int .u64 0, .int .u64 0, .int .u64 0, .int .u64 0, .int .i64 0, .int .i64 0] 43)) (w.heap.size) 43 #[uv a.b.v, uv a.b.m, uv a.lo, uv a.hi, sv a.sl, sv a.sh] := (((Blk.new w 43 #[uv a.b.v, uv a.b.m, uv a.lo, uv a.hi, sv a.sl, sv a.sh])).alloc _).alloc _
    have Bb : Blk (((w.alloc (.cells #[uv a.b.v, uv a.b.m, uv a.lo, uv a.hi, sv a.sl, sv a.sh] 43)).alloc (.cells #[uv b.b.v, uv b.b.m, uv b.lo, uv b.hi, sv b.sl, sv b.sh] 43)).alloc (.cells #[.int .u64 0, .int .u64 0, .int .u64 0, .int .u64 0, .int .i64 0, .int .i64 0] 43)) (w.heap.size + 1) 43 #[uv b.b.v, uv b.b.m, uv b.lo, uv b.hi, sv b.sl, sv b.sh] := ((by simpa using Blk.new (w.alloc (.cells #[uv a.b.v, uv a.b.m, uv a.lo, uv a.hi, sv a.sl, sv a.sh] 43)) 43 #[uv b.b.v, uv b.b.m, uv b.lo, uv b.hi, sv b.sl, sv b.sh] : Blk _ (w.heap.size + 1) 43 #[uv b.b.v, uv b.b.m, uv b.lo, uv b.hi, sv b.sl, sv b.sh])).alloc _
    have Br : Blk (((w.alloc (.cells #[uv a.b.v, uv a.b.m, uv a.lo, uv a.hi, sv a.sl, sv a.sh] 43)).alloc (.cells #[uv b.b.v, uv b.b.m, uv b.lo, uv b.hi, sv b.sl, sv b.sh] 43)).alloc (.cells #[.int .u64 0, .int .u64 0, .int .u64 0, .int .u64 0, .int .i64 0, .int .i64 0] 43)) (w.heap.size + 1 + 1) 43 #[.int .u64 0, .int .u64 0, .int .u64 0, .int .u64 0, .int .i64 0, .int .i64 0] := (by simpa using Blk.new ((w.alloc (.cells #[uv a.b.v, uv a.b.m, uv a.lo, uv a.hi, sv a.sl, sv a.sh] 43)).alloc (.cells #[uv b.b.v, uv b.b.m, uv b.lo, uv b.hi, sv b.sl, sv b.sh] 43)) 43 #[.int .u64 0, .int .u64 0, .int .u64 0, .int .u64 0, .int .i64 0, .int .i64 0] : Blk _ (w.heap.size + 1 + 1) 43 #[.int .u64 0, .int .u64 0, .int .u64 0, .int .u64 0, .int .i64 0, .int .i64 0])
    have hB : Below w.heap.size w (((w.alloc (.cells #[uv a.b.v, uv a.b.m, uv a.lo, uv a.hi, sv a.sl, sv a.sh] 43)).alloc (.cells #[uv b.b.v, uv b.b.m, uv b.lo, uv b.hi, sv b.sl, sv b.sh] 43)).alloc (.cells #[.int .u64 0, .int .u64 0, .int .u64 0, .int .u64 0, .int .i64 0, .int .i64 0] 43)) := (Bl_alloc (Bl_alloc (Bl_alloc (Bl_refl w) _) _) _)
    clear hga
    clear ga
    clear hgb
    clear gb
    clear hgr
    clear gr
    generalize (((w.alloc (.cells #[uv a.b.v, uv a.b.m, uv a.lo, uv a.hi, sv a.sl, sv a.sh] 43)).alloc (.cells #[uv b.b.v, uv b.b.m, uv b.lo, uv b.hi, sv b.sl, sv b.sh] 43)).alloc (.cells #[.int .u64 0, .int .u64 0, .int .u64 0, .int .u64 0, .int .i64 0, .int .i64 0] 43)) = w1 at *
    obtain ⟨ca0, ca1, ca2, ca3, ca4, ca5⟩ := cells6 Ba
    have fa := Ba.frozen; have la := Ba.lt
    obtain ⟨cb0, cb1, cb2, cb3, cb4, cb5⟩ := cells6 Bb
    have fb := Bb.frozen; have lb := Bb.lt
    obtain ⟨cr0, cr1, cr2, cr3, cr4, cr5⟩ := cells6 Br
    have fr := Br.frozen; have lr := Br.lt
    go_wp2_with fail
    refine (alone_b _ _ q1 _).mono ?_
    rintro e w2 ⟨rfl, hb⟩
    clear ca0 ca1 ca2 ca3 ca4 ca5 fa la
    clear cb0 cb1 cb2 cb3 cb4 cb5 fb lb
    clear cr0 cr1 cr2 cr3 cr4 cr5 fr lr
    replace Ba := (Ba).next hb
    replace Bb := (Bb).next hb
    replace Br := (Br).next hb
    replace hB : Below w.heap.size w w2 := by repeat (first | exact hB | (refine Bl_set ?_ (by first | omega | (simp; omega)) _) | apply Bl_alloc | (refine Bl_trans ?_ hb))
    clear hb
    obtain ⟨ca0, ca1, ca2, ca3, ca4, ca5⟩ := cells6 Ba
    have fa := Ba.frozen; have la := Ba.lt
    obtain ⟨cb0, cb1, cb2, cb3, cb4, cb5⟩ := cells6 Bb
    have fb := Bb.frozen; have lb := Bb.lt
    obtain ⟨cr0, cr1, cr2, cr3, cr4, cr5⟩ := cells6 Br
    have fr := Br.frozen; have lr := Br.lt
    go_wp2_with fail
    clear ca0 ca1 ca2 ca3 ca4 ca5; obtain ⟨ca0, ca1, ca2, ca3, ca4, ca5⟩ := lcells6 Ba
    clear cb0 cb1 cb2 cb3 cb4 cb5; obtain ⟨cb0, cb1, cb2, cb3, cb4, cb5⟩ := lcells6 Bb
    clear cr0 cr1 cr2 cr3 cr4 cr5; obtain ⟨cr0, cr1, cr2, cr3, cr4, cr5⟩ := lcells6 Br
    refine wp_region_mix 7 (fun _ => #[]) (by kernel_rfl) (by kernel_rfl) (no_alloc (by kernel_rfl)) ?_
    simp only [List.take_succ_cons, List.take_zero, List.drop_succ_cons, List.drop_zero]
    repeat (refine wpMix_step (fun K hK => ?_); go_simp; first | (refine hK _ ?_; clear hK K) | (apply Exists.intro; refine ⟨fun g => ?_, hK _ ?_⟩; ((with_reducible refine Calls.mono (cra g.w) ?_); exact fun _ _ h => h); clear hK K) | (apply Exists.intro; refine ⟨fun g => ?_, hK _ ?_⟩; ((with_reducible refine Calls.mono (crb g.w) ?_); exact fun _ _ h => h); clear hK K) | (apply Exists.intro; refine ⟨fun g => ?_, hK _ ?_⟩; ((with_reducible refine Calls.mono (cwd g.w) ?_); exact fun _ _ h => h); clear hK K) | (apply Exists.intro; refine ⟨fun g => ?_, hK _ ?_⟩; ((with_reducible refine Calls.mono (clw g.w) ?_); exact fun _ _ h => h); clear hK K))
    refine wpMix_nil ?_
    intro G w3 hgr hblk hdist
    have hb : Below w2.heap.size w2 w3 := hgr
    replace Ba := Ba.next hb
    replace Bb := Bb.next hb
    replace Br := Br.next hb
    clear ca0 ca1 ca2 ca3 ca4 ca5 fa la
    clear cb0 cb1 cb2 cb3 cb4 cb5 fb lb
    clear cr0 cr1 cr2 cr3 cr4 cr5 fr lr
    replace hB : Below w.heap.size w w3 := Bl_trans hB hb
    simp only [putAll, isAlloc]
    clear hb hgr hblk hdist
    obtain ⟨ca0, ca1, ca2, ca3, ca4, ca5⟩ := cells6 Ba
    have fa := Ba.frozen; have la := Ba.lt
    obtain ⟨cb0, cb1, cb2, cb3, cb4, cb5⟩ := cells6 Bb
    have fb := Bb.frozen; have lb := Bb.lt
    obtain ⟨cr0, cr1, cr2, cr3, cr4, cr5⟩ := cells6 Br
    have fr := Br.frozen; have lr := Br.lt
    go_wp2
    exact bodyPost_ret (v := rv (lw)) (by simp [results, Tryd.results16, go_sem, cr0, cr1, cr2, cr3, cr4, cr5, lr]) rfl ⟨by rw [hs], by repeat (first | (with_reducible exact hB) | (with_reducible refine Bl_set ?_ (by first | omega | (simp; done) | (simp; omega)) _) | with_reducible apply Bl_alloc)⟩
  · cases q2 : PlainScalar.alone b
    · have hs : PlainScalar.doF op false a b = PlainScalar.low (PlainScalar.wideF op false (PlainScalar.low a 4) (PlainScalar.low b 4)) 4 := by unfold PlainScalar.doF; rw [if_neg (fun h => by rw [q2] at h; exact absurd h.2 (by decide))]; simp only [Bool.false_eq_true, if_false, if_true]
      have cwd := hwide; clear hwide
      have cra : ∀ w : World, Calls Tryd.prog 17 #[rv a, .int .i64 4] w fun e w' => e = .returned (rv (PlainScalar.low a 4)) ∧ Below w.heap.size w w' := fun w => slow_c a 4 w
      generalize (PlainScalar.low a 4) = ra at cra cwd hs
      have crb : ∀ w : World, Calls Tryd.prog 17 #[rv b, .int .i64 4] w fun e w' => e = .returned (rv (PlainScalar.low b 4)) ∧ Below w.heap.size w w' := fun w => slow_c b 4 w
      generalize (PlainScalar.low b 4) = rb at crb cwd hs
      generalize PlainScalar.wideF op false ra rb = wd at cwd hs
      have clw : ∀ w : World, Calls Tryd.prog 17 #[rv wd, .int .i64 4] w fun e w' => e = .returned (rv (PlainScalar.low wd 4)) ∧ Below w.heap.size w w' := fun w => slow_c wd 4 w
      generalize PlainScalar.low wd 4 = lw at clw hs
      go_enter Tryd.func16, Tryd.ntmps16
      go_wp2_with fail
      obtain ⟨ga, hga⟩ : ∃ g, g = w.heap.size := ⟨_, rfl⟩
      obtain ⟨gb, hgb⟩ : ∃ g, g = w.heap.size + 1 := ⟨_, rfl⟩
      obtain ⟨gr, hgr⟩ : ∃ g, g = w.heap.size + 1 + 1 := ⟨_, rfl⟩
      have Ba : Blk (((w.alloc (.cells #[uv a.b.v, uv a.b.m, uv a.lo, uv a.hi, sv a.sl, sv a.sh] 43)).alloc (.cells #[uv b.b.v, uv b.b.m, uv b.lo, uv b.hi, sv b.sl, sv b.sh] 43)).alloc (.cells #[.int .u64 0, .int .u64 0, .int .u64 0, .int .u64 0, .int .i64 0, .int .i64 0] 43)) (w.heap.size) 43 #[uv a.b.v, uv a.b.m, uv a.lo, uv a.hi, sv a.sl, sv a.sh] := (((Blk.new w 43 #[uv a.b.v, uv a.b.m, uv a.lo, uv a.hi, sv a.sl, sv a.sh])).alloc _).alloc _
      have Bb : Blk (((w.alloc (.cells #[uv a.b.v, uv a.b.m, uv a.lo, uv a.hi, sv a.sl, sv a.sh] 43)).alloc (.cells #[uv b.b.v, uv b.b.m, uv b.lo, uv b.hi, sv b.sl, sv b.sh] 43)).alloc (.cells #[.int .u64 0, .int .u64 0, .int .u64 0, .int .u64 0, .int .i64 0, .int .i64 0] 43)) (w.heap.size + 1) 43 #[uv b.b.v, uv b.b.m, uv b.lo, uv b.hi, sv b.sl, sv b.sh] := ((by simpa using Blk.new (w.alloc (.cells #[uv a.b.v, uv a.b.m, uv a.lo, uv a.hi, sv a.sl, sv a.sh] 43)) 43 #[uv b.b.v, uv b.b.m, uv b.lo, uv b.hi, sv b.sl, sv b.sh] : Blk _ (w.heap.size + 1) 43 #[uv b.b.v, uv b.b.m, uv b.lo, uv b.hi, sv b.sl, sv b.sh])).alloc _
      have Br : Blk (((w.alloc (.cells #[uv a.b.v, uv a.b.m, uv a.lo, uv a.hi, sv a.sl, sv a.sh] 43)).alloc (.cells #[uv b.b.v, uv b.b.m, uv b.lo, uv b.hi, sv b.sl, sv b.sh] 43)).alloc (.cells #[.int .u64 0, .int .u64 0, .int .u64 0, .int .u64 0, .int .i64 0, .int .i64 0] 43)) (w.heap.size + 1 + 1) 43 #[.int .u64 0, .int .u64 0, .int .u64 0, .int .u64 0, .int .i64 0, .int .i64 0] := (by simpa using Blk.new ((w.alloc (.cells #[uv a.b.v, uv a.b.m, uv a.lo, uv a.hi, sv a.sl, sv a.sh] 43)).alloc (.cells #[uv b.b.v, uv b.b.m, uv b.lo, uv b.hi, sv b.sl, sv b.sh] 43)) 43 #[.int .u64 0, .int .u64 0, .int .u64 0, .int .u64 0, .int .i64 0, .int .i64 0] : Blk _ (w.heap.size + 1 + 1) 43 #[.int .u64 0, .int .u64 0, .int .u64 0, .int .u64 0, .int .i64 0, .int .i64 0])
      have hB : Below w.heap.size w (((w.alloc (.cells #[uv a.b.v, uv a.b.m, uv a.lo, uv a.hi, sv a.sl, sv a.sh] 43)).alloc (.cells #[uv b.b.v, uv b.b.m, uv b.lo, uv b.hi, sv b.sl, sv b.sh] 43)).alloc (.cells #[.int .u64 0, .int .u64 0, .int .u64 0, .int .u64 0, .int .i64 0, .int .i64 0] 43)) := (Bl_alloc (Bl_alloc (Bl_alloc (Bl_refl w) _) _) _)
      clear hga
      clear ga
      clear hgb
      clear gb
      clear hgr
      clear gr
      generalize (((w.alloc (.cells #[uv a.b.v, uv a.b.m, uv a.lo, uv a.hi, sv a.sl, sv a.sh] 43)).alloc (.cells #[uv b.b.v, uv b.b.m, uv b.lo, uv b.hi, sv b.sl, sv b.sh] 43)).alloc (.cells #[.int .u64 0, .int .u64 0, .int .u64 0, .int .u64 0, .int .i64 0, .int .i64 0] 43)) = w1 at *
      obtain ⟨ca0, ca1, ca2, ca3, ca4, ca5⟩ := cells6 Ba
      have fa := Ba.frozen; have la := Ba.lt
      obtain ⟨cb0, cb1, cb2, cb3, cb4, cb5⟩ := cells6 Bb
      have fb := Bb.frozen; have lb := Bb.lt
      obtain ⟨cr0, cr1, cr2, cr3, cr4, cr5⟩ := cells6 Br
      have fr := Br.frozen; have lr := Br.lt
      go_wp2_with fail
      refine (alone_b _ _ q1 _).mono ?_
      rintro e w2 ⟨rfl, hb⟩
      clear ca0 ca1 ca2 ca3 ca4 ca5 fa la
      clear cb0 cb1 cb2 cb3 cb4 cb5 fb lb
      clear cr0 cr1 cr2 cr3 cr4 cr5 fr lr
      replace Ba := (Ba).next hb
      replace Bb := (Bb).next hb
      replace Br := (Br).next hb
      replace hB : Below w.heap.size w w2 := by repeat (first | exact hB | (refine Bl_set ?_ (by first | omega | (simp; omega)) _) | apply Bl_alloc | (refine Bl_trans ?_ hb))
      clear hb
      obtain ⟨ca0, ca1, ca2, ca3, ca4, ca5⟩ := cells6 Ba
      have fa := Ba.frozen; have la := Ba.lt
      obtain ⟨cb0, cb1, cb2, cb3, cb4, cb5⟩ := cells6 Bb
      have fb := Bb.frozen; have lb := Bb.lt
      obtain ⟨cr0, cr1, cr2, cr3, cr4, cr5⟩ := cells6 Br
      have fr := Br.frozen; have lr := Br.lt
      go_wp2_with fail
      refine (alone_b _ _ q2 _).mono ?_
      rintro e w3 ⟨rfl, hb⟩
      clear ca0 ca1 ca2 ca3 ca4 ca5 fa la
      clear cb0 cb1 cb2 cb3 cb4 cb5 fb lb
      clear cr0 cr1 cr2 cr3 cr4 cr5 fr lr
      replace Ba := (Ba).next hb
      replace Bb := (Bb).next hb
      replace Br := (Br).next hb
      replace hB : Below w.heap.size w w3 := by repeat (first | exact hB | (refine Bl_set ?_ (by first | omega | (simp; omega)) _) | apply Bl_alloc | (refine Bl_trans ?_ hb))
      clear hb
      obtain ⟨ca0, ca1, ca2, ca3, ca4, ca5⟩ := cells6 Ba
      have fa := Ba.frozen; have la := Ba.lt
      obtain ⟨cb0, cb1, cb2, cb3, cb4, cb5⟩ := cells6 Bb
      have fb := Bb.frozen; have lb := Bb.lt
      obtain ⟨cr0, cr1, cr2, cr3, cr4, cr5⟩ := cells6 Br
      have fr := Br.frozen; have lr := Br.lt
      go_wp2_with fail
      clear ca0 ca1 ca2 ca3 ca4 ca5; obtain ⟨ca0, ca1, ca2, ca3, ca4, ca5⟩ := lcells6 Ba
      clear cb0 cb1 cb2 cb3 cb4 cb5; obtain ⟨cb0, cb1, cb2, cb3, cb4, cb5⟩ := lcells6 Bb
      clear cr0 cr1 cr2 cr3 cr4 cr5; obtain ⟨cr0, cr1, cr2, cr3, cr4, cr5⟩ := lcells6 Br
      refine wp_region_mix 7 (fun _ => #[]) (by kernel_rfl) (by kernel_rfl) (no_alloc (by kernel_rfl)) ?_
      simp only [List.take_succ_cons, List.take_zero, List.drop_succ_cons, List.drop_zero]
      repeat (refine wpMix_step (fun K hK => ?_); go_simp; first | (refine hK _ ?_; clear hK K) | (apply Exists.intro; refine ⟨fun g => ?_, hK _ ?_⟩; ((with_reducible refine Calls.mono (cra g.w) ?_); exact fun _ _ h => h); clear hK K) | (apply Exists.intro; refine ⟨fun g => ?_, hK _ ?_⟩; ((with_reducible refine Calls.mono (crb g.w) ?_); exact fun _ _ h => h); clear hK K) | (apply Exists.intro; refine ⟨fun g => ?_, hK _ ?_⟩; ((with_reducible refine Calls.mono (cwd g.w) ?_); exact fun _ _ h => h); clear hK K) | (apply Exists.intro; refine ⟨fun g => ?_, hK _ ?_⟩; ((with_reducible refine Calls.mono (clw g.w) ?_); exact fun _ _ h => h); clear hK K))
      refine wpMix_nil ?_
      intro G w4 hgr hblk hdist
      have hb : Below w3.heap.size w3 w4 := hgr
      replace Ba := Ba.next hb
      replace Bb := Bb.next hb
      replace Br := Br.next hb
      clear ca0 ca1 ca2 ca3 ca4 ca5 fa la
      clear cb0 cb1 cb2 cb3 cb4 cb5 fb lb
      clear cr0 cr1 cr2 cr3 cr4 cr5 fr lr
      replace hB : Below w.heap.size w w4 := Bl_trans hB hb
      simp only [putAll, isAlloc]
      clear hb hgr hblk hdist
      obtain ⟨ca0, ca1, ca2, ca3, ca4, ca5⟩ := cells6 Ba
      have fa := Ba.frozen; have la := Ba.lt
      obtain ⟨cb0, cb1, cb2, cb3, cb4, cb5⟩ := cells6 Bb
      have fb := Bb.frozen; have lb := Bb.lt
      obtain ⟨cr0, cr1, cr2, cr3, cr4, cr5⟩ := cells6 Br
      have fr := Br.frozen; have lr := Br.lt
      go_wp2
      exact bodyPost_ret (v := rv (lw)) (by simp [results, Tryd.results16, go_sem, cr0, cr1, cr2, cr3, cr4, cr5, lr]) rfl ⟨by rw [hs], by repeat (first | (with_reducible exact hB) | (with_reducible refine Bl_set ?_ (by first | omega | (simp; done) | (simp; omega)) _) | with_reducible apply Bl_alloc)⟩
    · have hs : PlainScalar.doF op false a b = PlainScalar.const (PlainScalar.eval op false a.lo b.lo) := by unfold PlainScalar.doF; rw [if_pos ⟨q1, q2⟩]
      clear hwide
      go_enter Tryd.func16, Tryd.ntmps16
      go_wp2_with fail
      obtain ⟨ga, hga⟩ : ∃ g, g = w.heap.size := ⟨_, rfl⟩
      obtain ⟨gb, hgb⟩ : ∃ g, g = w.heap.size + 1 := ⟨_, rfl⟩
      obtain ⟨gr, hgr⟩ : ∃ g, g = w.heap.size + 1 + 1 := ⟨_, rfl⟩
      have Ba : Blk (((w.alloc (.cells #[uv a.b.v, uv a.b.m, uv a.lo, uv a.hi, sv a.sl, sv a.sh] 43)).alloc (.cells #[uv b.b.v, uv b.b.m, uv b.lo, uv b.hi, sv b.sl, sv b.sh] 43)).alloc (.cells #[.int .u64 0, .int .u64 0, .int .u64 0, .int .u64 0, .int .i64 0, .int .i64 0] 43)) (w.heap.size) 43 #[uv a.b.v, uv a.b.m, uv a.lo, uv a.hi, sv a.sl, sv a.sh] := (((Blk.new w 43 #[uv a.b.v, uv a.b.m, uv a.lo, uv a.hi, sv a.sl, sv a.sh])).alloc _).alloc _
      have Bb : Blk (((w.alloc (.cells #[uv a.b.v, uv a.b.m, uv a.lo, uv a.hi, sv a.sl, sv a.sh] 43)).alloc (.cells #[uv b.b.v, uv b.b.m, uv b.lo, uv b.hi, sv b.sl, sv b.sh] 43)).alloc (.cells #[.int .u64 0, .int .u64 0, .int .u64 0, .int .u64 0, .int .i64 0, .int .i64 0] 43)) (w.heap.size + 1) 43 #[uv b.b.v, uv b.b.m, uv b.lo, uv b.hi, sv b.sl, sv b.sh] := ((by simpa using Blk.new (w.alloc (.cells #[uv a.b.v, uv a.b.m, uv a.lo, uv a.hi, sv a.sl, sv a.sh] 43)) 43 #[uv b.b.v, uv b.b.m, uv b.lo, uv b.hi, sv b.sl, sv b.sh] : Blk _ (w.heap.size + 1) 43 #[uv b.b.v, uv b.b.m, uv b.lo, uv b.hi, sv b.sl, sv b.sh])).alloc _
      have Br : Blk (((w.alloc (.cells #[uv a.b.v, uv a.b.m, uv a.lo, uv a.hi, sv a.sl, sv a.sh] 43)).alloc (.cells #[uv b.b.v, uv b.b.m, uv b.lo, uv b.hi, sv b.sl, sv b.sh] 43)).alloc (.cells #[.int .u64 0, .int .u64 0, .int .u64 0, .int .u64 0, .int .i64 0, .int .i64 0] 43)) (w.heap.size + 1 + 1) 43 #[.int .u64 0, .int .u64 0, .int .u64 0, .int .u64 0, .int .i64 0, .int .i64 0] := (by simpa using Blk.new ((w.alloc (.cells #[uv a.b.v, uv a.b.m, uv a.lo, uv a.hi, sv a.sl, sv a.sh] 43)).alloc (.cells #[uv b.b.v, uv b.b.m, uv b.lo, uv b.hi, sv b.sl, sv b.sh] 43)) 43 #[.int .u64 0, .int .u64 0, .int .u64 0, .int .u64 0, .int .i64 0, .int .i64 0] : Blk _ (w.heap.size + 1 + 1) 43 #[.int .u64 0, .int .u64 0, .int .u64 0, .int .u64 0, .int .i64 0, .int .i64 0])
      have hB : Below w.heap.size w (((w.alloc (.cells #[uv a.b.v, uv a.b.m, uv a.lo, uv a.hi, sv a.sl, sv a.sh] 43)).alloc (.cells #[uv b.b.v, uv b.b.m, uv b.lo, uv b.hi, sv b.sl, sv b.sh] 43)).alloc (.cells #[.int .u64 0, .int .u64 0, .int .u64 0, .int .u64 0, .int .i64 0, .int .i64 0] 43)) := (Bl_alloc (Bl_alloc (Bl_alloc (Bl_refl w) _) _) _)
      clear hga
      clear ga
      clear hgb
      clear gb
      clear hgr
      clear gr
      generalize (((w.alloc (.cells #[uv a.b.v, uv a.b.m, uv a.lo, uv a.hi, sv a.sl, sv a.sh] 43)).alloc (.cells #[uv b.b.v, uv b.b.m, uv b.lo, uv b.hi, sv b.sl, sv b.sh] 43)).alloc (.cells #[.int .u64 0, .int .u64 0, .int .u64 0, .int .u64 0, .int .i64 0, .int .i64 0] 43)) = w1 at *
      obtain ⟨ca0, ca1, ca2, ca3, ca4, ca5⟩ := cells6 Ba
      have fa := Ba.frozen; have la := Ba.lt
      obtain ⟨cb0, cb1, cb2, cb3, cb4, cb5⟩ := cells6 Bb
      have fb := Bb.frozen; have lb := Bb.lt
      obtain ⟨cr0, cr1, cr2, cr3, cr4, cr5⟩ := cells6 Br
      have fr := Br.frozen; have lr := Br.lt
      go_wp2_with fail
      refine (alone_b _ _ q1 _).mono ?_
      rintro e w2 ⟨rfl, hb⟩
      clear ca0 ca1 ca2 ca3 ca4 ca5 fa la
      clear cb0 cb1 cb2 cb3 cb4 cb5 fb lb
      clear cr0 cr1 cr2 cr3 cr4 cr5 fr lr
      replace Ba := (Ba).next hb
      replace Bb := (Bb).next hb
      replace Br := (Br).next hb
      replace hB : Below w.heap.size w w2 := by repeat (first | exact hB | (refine Bl_set ?_ (by first | omega | (simp; omega)) _) | apply Bl_alloc | (refine Bl_trans ?_ hb))
      clear hb
      obtain ⟨ca0, ca1, ca2, ca3, ca4, ca5⟩ := cells6 Ba
      have fa := Ba.frozen; have la := Ba.lt
      obtain ⟨cb0, cb1, cb2, cb3, cb4, cb5⟩ := cells6 Bb
      have fb := Bb.frozen; have lb := Bb.lt
      obtain ⟨cr0, cr1, cr2, cr3, cr4, cr5⟩ := cells6 Br
      have fr := Br.frozen; have lr := Br.lt
      go_wp2_with fail
      refine (alone_b _ _ q2 _).mono ?_
      rintro e w3 ⟨rfl, hb⟩
      clear ca0 ca1 ca2 ca3 ca4 ca5 fa la
      clear cb0 cb1 cb2 cb3 cb4 cb5 fb lb
      clear cr0 cr1 cr2 cr3 cr4 cr5 fr lr
      replace Ba := (Ba).next hb
      replace Bb := (Bb).next hb
      replace Br := (Br).next hb
      replace hB : Below w.heap.size w w3 := by repeat (first | exact hB | (refine Bl_set ?_ (by first | omega | (simp; omega)) _) | apply Bl_alloc | (refine Bl_trans ?_ hb))
      clear hb
      obtain ⟨ca0, ca1, ca2, ca3, ca4, ca5⟩ := cells6 Ba
      have fa := Ba.frozen; have la := Ba.lt
      obtain ⟨cb0, cb1, cb2, cb3, cb4, cb5⟩ := cells6 Bb
      have fb := Bb.frozen; have lb := Bb.lt
      obtain ⟨cr0, cr1, cr2, cr3, cr4, cr5⟩ := cells6 Br
      have fr := Br.frozen; have lr := Br.lt
      go_wp2_with fail
      refine (seval_c op false a.lo b.lo _).mono ?_
      rintro e w4 ⟨rfl, hb⟩
      clear ca0 ca1 ca2 ca3 ca4 ca5 fa la
      clear cb0 cb1 cb2 cb3 cb4 cb5 fb lb
      clear cr0 cr1 cr2 cr3 cr4 cr5 fr lr
      replace Ba := (Ba).next hb
      replace Bb := (Bb).next hb
      replace Br := (Br).next hb
      replace hB : Below w.heap.size w w4 := by repeat (first | exact hB | (refine Bl_set ?_ (by first | omega | (simp; omega)) _) | apply Bl_alloc | (refine Bl_trans ?_ hb))
      clear hb
      obtain ⟨ca0, ca1, ca2, ca3, ca4, ca5⟩ := cells6 Ba
      have fa := Ba.frozen; have la := Ba.lt
      obtain ⟨cb0, cb1, cb2, cb3, cb4, cb5⟩ := cells6 Bb
      have fb := Bb.frozen; have lb := Bb.lt
      obtain ⟨cr0, cr1, cr2, cr3, cr4, cr5⟩ := cells6 Br
      have fr := Br.frozen; have lr := Br.lt
      go_wp2_with fail
      refine (sconst_c (PlainScalar.eval op false a.lo b.lo) _).mono ?_
      rintro e w5 ⟨rfl, hb⟩
      clear ca0 ca1 ca2 ca3 ca4 ca5 fa la
      clear cb0 cb1 cb2 cb3 cb4 cb5 fb lb
      clear cr0 cr1 cr2 cr3 cr4 cr5 fr lr
      replace Ba := (Ba).next hb
      replace Bb := (Bb).next hb
      replace Br := (Br).next hb
      replace hB : Below w.heap.size w w5 := by repeat (first | exact hB | (refine Bl_set ?_ (by first | omega | (simp; omega)) _) | apply Bl_alloc | (refine Bl_trans ?_ hb))
      clear hb
      obtain ⟨ca0, ca1, ca2, ca3, ca4, ca5⟩ := cells6 Ba
      have fa := Ba.frozen; have la := Ba.lt
      obtain ⟨cb0, cb1, cb2, cb3, cb4, cb5⟩ := cells6 Bb
      have fb := Bb.frozen; have lb := Bb.lt
      obtain ⟨cr0, cr1, cr2, cr3, cr4, cr5⟩ := cells6 Br
      have fr := Br.frozen; have lr := Br.lt
      go_wp2
      exact bodyPost_ret (v := rv (PlainScalar.const (PlainScalar.eval op false a.lo b.lo))) (by simp [results, Tryd.results16, go_sem, cr0, cr1, cr2, cr3, cr4, cr5, lr]) rfl ⟨by rw [hs], by repeat (first | (with_reducible exact hB) | (with_reducible refine Bl_set ?_ (by first | omega | (simp; done) | (simp; omega)) _) | with_reducible apply Bl_alloc)⟩
theorem do_0 (a b : Rng) (w : World) : Calls Tryd.prog 16 #[.int .i64 0, .bool true, rv a, rv b] w fun e w' => e = .returned (rv (PlainScalar.doF 0 true a b)) ∧ Below w.heap.size w w' := sdo_t 0 a b (swide_0 a b) w
theorem do_1 (a b : Rng) (w : World) : Calls Tryd.prog 16 #[.int .i64 1, .bool false, rv a, rv b] w fun e w' => e = .returned (rv (PlainScalar.doF 1 false a b)) ∧ Below w.heap.size w w' := sdo_f 1 a b (swide_1 _ _) w
theorem do_5 (a b : Rng) (w : World) : Calls Tryd.prog 16 #[.int .i64 5, .bool true, rv a, rv b] w fun e w' => e = .returned (rv (PlainScalar.doF 5 true a b)) ∧ Below w.heap.size w w' := sdo_t 5 a b (swide_5 a b) w
theorem do_6 (a b : Rng) (w : World) : Calls Tryd.prog 16 #[.int .i64 6, .bool true, rv a, rv b] w fun e w' => e = .returned (rv (PlainScalar.doF 6 true a b)) ∧ Below w.heap.size w w' := sdo_t 6 a b (swide_6 a b) w
end Go.Proofs.YtmghpoagpiljhaaDoor
