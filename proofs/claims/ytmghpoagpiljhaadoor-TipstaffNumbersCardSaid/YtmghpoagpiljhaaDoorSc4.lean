/- The walks of package scalar, fourth part: settled, ofBits, between, Low. -/
import Derived.Test.YtmghpoagpiljhaaDoorSc3
set_option linter.unusedSimpArgs false
namespace Go.Proofs.YtmghpoagpiljhaaDoor
open Go.RowKit
open PlainTnum (N)
open PlainScalar (Rng)
theorem T_le_nat {x y : W} (h : decide (T x ≤ T y) = true) : x.toNat ≤ y.toNat := by have := of_decide_eq_true h; rwa [T_le] at this
theorem T_nle_nat {x y : W} (h : decide (T x ≤ T y) = false) : ¬ x.toNat ≤ y.toNat := by have := of_decide_eq_false h; rwa [T_le] at this
set_option maxRecDepth 100000 in
set_option maxHeartbeats 3200000 in
theorem settled_c (a : Rng) (w : World) : Calls Tryd.prog 37 #[rv a] w fun e w' => e = .returned (rv (PlainScalar.settled a)) ∧ Below w.heap.size w w' := by
  cases q : (PlainScalar.settle a).2
  · have hs : PlainScalar.settled a = a := by unfold PlainScalar.settled; rw [if_neg (by rw [q]; decide)]
    go_enter Tryd.func37, Tryd.ntmps37
    go_wp2_with fail
    obtain ⟨ga, hga⟩ : ∃ g, g = w.heap.size := ⟨_, rfl⟩
    obtain ⟨gr, hgr⟩ : ∃ g, g = w.heap.size + 1 := ⟨_, rfl⟩
    have Ba : Blk ((w.alloc (.cells #[uv a.b.v, uv a.b.m, uv a.lo, uv a.hi, sv a.sl, sv a.sh] 43)).alloc (.cells #[.int .u64 0, .int .u64 0, .int .u64 0, .int .u64 0, .int .i64 0, .int .i64 0] 43)) (w.heap.size) 43 #[uv a.b.v, uv a.b.m, uv a.lo, uv a.hi, sv a.sl, sv a.sh] := ((Blk.new w 43 #[uv a.b.v, uv a.b.m, uv a.lo, uv a.hi, sv a.sl, sv a.sh])).alloc _
    have Br : Blk ((w.alloc (.cells #[uv a.b.v, uv a.b.m, uv a.lo, uv a.hi, sv a.sl, sv a.sh] 43)).alloc (.cells #[.int .u64 0, .int .u64 0, .int .u64 0, .int .u64 0, .int .i64 0, .int .i64 0] 43)) (w.heap.size + 1) 43 #[.int .u64 0, .int .u64 0, .int .u64 0, .int .u64 0, .int .i64 0, .int .i64 0] := (by simpa using Blk.new (w.alloc (.cells #[uv a.b.v, uv a.b.m, uv a.lo, uv a.hi, sv a.sl, sv a.sh] 43)) 43 #[.int .u64 0, .int .u64 0, .int .u64 0, .int .u64 0, .int .i64 0, .int .i64 0] : Blk _ (w.heap.size + 1) 43 #[.int .u64 0, .int .u64 0, .int .u64 0, .int .u64 0, .int .i64 0, .int .i64 0])
    have hB : Below w.heap.size w ((w.alloc (.cells #[uv a.b.v, uv a.b.m, uv a.lo, uv a.hi, sv a.sl, sv a.sh] 43)).alloc (.cells #[.int .u64 0, .int .u64 0, .int .u64 0, .int .u64 0, .int .i64 0, .int .i64 0] 43)) := (Bl_alloc (Bl_alloc (Bl_refl w) _) _)
    clear hga
    clear ga
    clear hgr
    clear gr
    generalize ((w.alloc (.cells #[uv a.b.v, uv a.b.m, uv a.lo, uv a.hi, sv a.sl, sv a.sh] 43)).alloc (.cells #[.int .u64 0, .int .u64 0, .int .u64 0, .int .u64 0, .int .i64 0, .int .i64 0] 43)) = w1 at *
    obtain ⟨ca0, ca1, ca2, ca3, ca4, ca5⟩ := cells6 Ba
    have fa := Ba.frozen; have la := Ba.lt
    obtain ⟨cr0, cr1, cr2, cr3, cr4, cr5⟩ := cells6 Br
    have fr := Br.frozen; have lr := Br.lt
    go_wp2_with fail
    refine (settle_c _ _).mono ?_
    rintro e w2 ⟨rfl, hb⟩
    clear ca0 ca1 ca2 ca3 ca4 ca5 fa la
    clear cr0 cr1 cr2 cr3 cr4 cr5 fr lr
    replace Ba := (Ba).next hb
    replace Br := (Br).next hb
    replace hB : Below w.heap.size w w2 := by repeat (first | exact hB | (refine Bl_set ?_ (by first | omega | (simp; omega)) _) | apply Bl_alloc | (refine Bl_trans ?_ hb))
    clear hb
    obtain ⟨ca0, ca1, ca2, ca3, ca4, ca5⟩ := cells6 Ba
    have fa := Ba.frozen; have la := Ba.lt
    obtain ⟨cr0, cr1, cr2, cr3, cr4, cr5⟩ := cells6 Br
    have fr := Br.frozen; have lr := Br.lt
    rw [q]
    go_wp2
    exact bodyPost_ret (v := rv a) (by simp [results, Tryd.results37, go_sem, ca0, ca1, ca2, ca3, ca4, ca5, cr0, cr1, cr2, cr3, cr4, cr5, la, lr]) rfl ⟨by rw [hs], by repeat (first | (with_reducible exact hB) | (with_reducible refine Bl_set ?_ (by first | omega | (simp; done) | (simp; omega)) _) | with_reducible apply Bl_alloc)⟩
  · have hs : PlainScalar.settled a = (PlainScalar.settle a).1 := by unfold PlainScalar.settled; rw [if_pos q]
    go_enter Tryd.func37, Tryd.ntmps37
    go_wp2_with fail
    obtain ⟨ga, hga⟩ : ∃ g, g = w.heap.size := ⟨_, rfl⟩
    obtain ⟨gr, hgr⟩ : ∃ g, g = w.heap.size + 1 := ⟨_, rfl⟩
    have Ba : Blk ((w.alloc (.cells #[uv a.b.v, uv a.b.m, uv a.lo, uv a.hi, sv a.sl, sv a.sh] 43)).alloc (.cells #[.int .u64 0, .int .u64 0, .int .u64 0, .int .u64 0, .int .i64 0, .int .i64 0] 43)) (w.heap.size) 43 #[uv a.b.v, uv a.b.m, uv a.lo, uv a.hi, sv a.sl, sv a.sh] := ((Blk.new w 43 #[uv a.b.v, uv a.b.m, uv a.lo, uv a.hi, sv a.sl, sv a.sh])).alloc _
    have Br : Blk ((w.alloc (.cells #[uv a.b.v, uv a.b.m, uv a.lo, uv a.hi, sv a.sl, sv a.sh] 43)).alloc (.cells #[.int .u64 0, .int .u64 0, .int .u64 0, .int .u64 0, .int .i64 0, .int .i64 0] 43)) (w.heap.size + 1) 43 #[.int .u64 0, .int .u64 0, .int .u64 0, .int .u64 0, .int .i64 0, .int .i64 0] := (by simpa using Blk.new (w.alloc (.cells #[uv a.b.v, uv a.b.m, uv a.lo, uv a.hi, sv a.sl, sv a.sh] 43)) 43 #[.int .u64 0, .int .u64 0, .int .u64 0, .int .u64 0, .int .i64 0, .int .i64 0] : Blk _ (w.heap.size + 1) 43 #[.int .u64 0, .int .u64 0, .int .u64 0, .int .u64 0, .int .i64 0, .int .i64 0])
    have hB : Below w.heap.size w ((w.alloc (.cells #[uv a.b.v, uv a.b.m, uv a.lo, uv a.hi, sv a.sl, sv a.sh] 43)).alloc (.cells #[.int .u64 0, .int .u64 0, .int .u64 0, .int .u64 0, .int .i64 0, .int .i64 0] 43)) := (Bl_alloc (Bl_alloc (Bl_refl w) _) _)
    clear hga
    clear ga
    clear hgr
    clear gr
    generalize ((w.alloc (.cells #[uv a.b.v, uv a.b.m, uv a.lo, uv a.hi, sv a.sl, sv a.sh] 43)).alloc (.cells #[.int .u64 0, .int .u64 0, .int .u64 0, .int .u64 0, .int .i64 0, .int .i64 0] 43)) = w1 at *
    obtain ⟨ca0, ca1, ca2, ca3, ca4, ca5⟩ := cells6 Ba
    have fa := Ba.frozen; have la := Ba.lt
    obtain ⟨cr0, cr1, cr2, cr3, cr4, cr5⟩ := cells6 Br
    have fr := Br.frozen; have lr := Br.lt
    go_wp2_with fail
    refine (settle_c _ _).mono ?_
    rintro e w2 ⟨rfl, hb⟩
    clear ca0 ca1 ca2 ca3 ca4 ca5 fa la
    clear cr0 cr1 cr2 cr3 cr4 cr5 fr lr
    replace Ba := (Ba).next hb
    replace Br := (Br).next hb
    replace hB : Below w.heap.size w w2 := by repeat (first | exact hB | (refine Bl_set ?_ (by first | omega | (simp; omega)) _) | apply Bl_alloc | (refine Bl_trans ?_ hb))
    clear hb
    obtain ⟨ca0, ca1, ca2, ca3, ca4, ca5⟩ := cells6 Ba
    have fa := Ba.frozen; have la := Ba.lt
    obtain ⟨cr0, cr1, cr2, cr3, cr4, cr5⟩ := cells6 Br
    have fr := Br.frozen; have lr := Br.lt
    rw [q]
    go_wp2
    exact bodyPost_ret (v := rv (PlainScalar.settle a).1) (by simp [results, Tryd.results37, go_sem, ca0, ca1, ca2, ca3, ca4, ca5, cr0, cr1, cr2, cr3, cr4, cr5, la, lr]) rfl ⟨by rw [hs], by repeat (first | (with_reducible exact hB) | (with_reducible refine Bl_set ?_ (by first | omega | (simp; done) | (simp; omega)) _) | with_reducible apply Bl_alloc)⟩
set_option maxRecDepth 100000 in
set_option maxHeartbeats 3200000 in
theorem ofBits_c (t : N) (w : World) : Calls Tryd.prog 38 #[nv t] w fun e w' => e = .returned (rv (PlainScalar.ofBits t)) ∧ Below w.heap.size w w' := by
  go_enter Tryd.func38, Tryd.ntmps38
  go_wp2_with fail
  obtain ⟨gt, hgt⟩ : ∃ g, g = w.heap.size := ⟨_, rfl⟩
  obtain ⟨gr, hgr⟩ : ∃ g, g = w.heap.size + 1 := ⟨_, rfl⟩
  have Bt : Blk ((w.alloc (.cells #[uv t.v, uv t.m] 41)).alloc (.cells #[.int .u64 0, .int .u64 0, .int .u64 0, .int .u64 0, .int .i64 0, .int .i64 0] 43)) (w.heap.size) 41 #[uv t.v, uv t.m] := ((Blk.new w 41 #[uv t.v, uv t.m])).alloc _
  have Br : Blk ((w.alloc (.cells #[uv t.v, uv t.m] 41)).alloc (.cells #[.int .u64 0, .int .u64 0, .int .u64 0, .int .u64 0, .int .i64 0, .int .i64 0] 43)) (w.heap.size + 1) 43 #[.int .u64 0, .int .u64 0, .int .u64 0, .int .u64 0, .int .i64 0, .int .i64 0] := (by simpa using Blk.new (w.alloc (.cells #[uv t.v, uv t.m] 41)) 43 #[.int .u64 0, .int .u64 0, .int .u64 0, .int .u64 0, .int .i64 0, .int .i64 0] : Blk _ (w.heap.size + 1) 43 #[.int .u64 0, .int .u64 0, .int .u64 0, .int .u64 0, .int .i64 0, .int .i64 0])
  have hB : Below w.heap.size w ((w.alloc (.cells #[uv t.v, uv t.m] 41)).alloc (.cells #[.int .u64 0, .int .u64 0, .int .u64 0, .int .u64 0, .int .i64 0, .int .i64 0] 43)) := (Bl_alloc (Bl_alloc (Bl_refl w) _) _)
  clear hgt
  clear gt
  clear hgr
  clear gr
  generalize ((w.alloc (.cells #[uv t.v, uv t.m] 41)).alloc (.cells #[.int .u64 0, .int .u64 0, .int .u64 0, .int .u64 0, .int .i64 0, .int .i64 0] 43)) = w1 at *
  obtain ⟨ct0, ct1⟩ := cells2 Bt
  have ft := Bt.frozen; have lt := Bt.lt
  obtain ⟨cr0, cr1, cr2, cr3, cr4, cr5⟩ := cells6 Br
  have fr := Br.frozen; have lr := Br.lt
  go_wp2_with fail
  refine (sany_c _).mono ?_
  rintro e w2 ⟨rfl, hb⟩
  clear ct0 ct1 ft lt
  clear cr0 cr1 cr2 cr3 cr4 cr5 fr lr
  replace Bt := (Bt).next hb
  replace Br := (Br).next hb
  replace hB : Below w.heap.size w w2 := by repeat (first | exact hB | (refine Bl_set ?_ (by first | omega | (simp; omega)) _) | apply Bl_alloc | (refine Bl_trans ?_ hb))
  clear hb
  obtain ⟨ct0, ct1⟩ := cells2 Bt
  have ft := Bt.frozen; have lt := Bt.lt
  obtain ⟨cr0, cr1, cr2, cr3, cr4, cr5⟩ := cells6 Br
  have fr := Br.frozen; have lr := Br.lt
  go_wp2_with fail
  refine (settled_c (⟨t, PlainScalar.any.lo, PlainScalar.any.hi, PlainScalar.any.sl, PlainScalar.any.sh⟩ : Rng) _).mono ?_
  rintro e w3 ⟨rfl, hb⟩
  clear ct0 ct1 ft lt
  clear cr0 cr1 cr2 cr3 cr4 cr5 fr lr
  replace Bt := (Bt.alloc _).next hb
  replace Br := (Br.alloc _).next hb
  replace hB : Below w.heap.size w w3 := by repeat (first | exact hB | (refine Bl_set ?_ (by first | omega | (simp; omega)) _) | apply Bl_alloc | (refine Bl_trans ?_ hb))
  clear hb
  obtain ⟨ct0, ct1⟩ := cells2 Bt
  have ft := Bt.frozen; have lt := Bt.lt
  obtain ⟨cr0, cr1, cr2, cr3, cr4, cr5⟩ := cells6 Br
  have fr := Br.frozen; have lr := Br.lt
  go_wp2
  exact bodyPost_ret (v := rv (PlainScalar.ofBits t)) (by simp [results, Tryd.results38, go_sem, cr0, cr1, cr2, cr3, cr4, cr5, lr, PlainScalar.ofBits]) rfl ⟨rfl, by repeat (first | (with_reducible exact hB) | (with_reducible refine Bl_set ?_ (by first | omega | (simp; done) | (simp; omega)) _) | with_reducible apply Bl_alloc)⟩
set_option maxRecDepth 100000 in
set_option maxHeartbeats 3200000 in
theorem between_c (lo hi : W) (w : World) : Calls Tryd.prog 36 #[uv lo, uv hi] w fun e w' => e = .returned (rv (PlainScalar.between lo hi)) ∧ Below w.heap.size w w' := by
  go_enter Tryd.func36, Tryd.ntmps36
  go_wp2_with fail
  obtain ⟨gr, hgr⟩ : ∃ g, g = w.heap.size := ⟨_, rfl⟩
  have Br : Blk (w.alloc (.cells #[.int .u64 0, .int .u64 0, .int .u64 0, .int .u64 0, .int .i64 0, .int .i64 0] 43)) (w.heap.size) 43 #[.int .u64 0, .int .u64 0, .int .u64 0, .int .u64 0, .int .i64 0, .int .i64 0] := (Blk.new w 43 #[.int .u64 0, .int .u64 0, .int .u64 0, .int .u64 0, .int .i64 0, .int .i64 0])
  have hB : Below w.heap.size w (w.alloc (.cells #[.int .u64 0, .int .u64 0, .int .u64 0, .int .u64 0, .int .i64 0, .int .i64 0] 43)) := (Bl_alloc (Bl_refl w) _)
  clear hgr
  clear gr
  generalize (w.alloc (.cells #[.int .u64 0, .int .u64 0, .int .u64 0, .int .u64 0, .int .i64 0, .int .i64 0] 43)) = w1 at *
  obtain ⟨cr0, cr1, cr2, cr3, cr4, cr5⟩ := cells6 Br
  have fr := Br.frozen; have lr := Br.lt
  go_wp2_with fail
  refine (sany_c _).mono ?_
  rintro e w2 ⟨rfl, hb⟩
  clear cr0 cr1 cr2 cr3 cr4 cr5 fr lr
  replace Br := (Br).next hb
  replace hB : Below w.heap.size w w2 := by repeat (first | exact hB | (refine Bl_set ?_ (by first | omega | (simp; omega)) _) | apply Bl_alloc | (refine Bl_trans ?_ hb))
  clear hb
  obtain ⟨cr0, cr1, cr2, cr3, cr4, cr5⟩ := cells6 Br
  have fr := Br.frozen; have lr := Br.lt
  go_wp2_with fail
  refine (settled_c (⟨PlainScalar.any.b, lo, hi, PlainScalar.any.sl, PlainScalar.any.sh⟩ : Rng) _).mono ?_
  rintro e w3 ⟨rfl, hb⟩
  clear cr0 cr1 cr2 cr3 cr4 cr5 fr lr
  replace Br := (Br.alloc _).next hb
  replace hB : Below w.heap.size w w3 := by repeat (first | exact hB | (refine Bl_set ?_ (by first | omega | (simp; omega)) _) | apply Bl_alloc | (refine Bl_trans ?_ hb))
  clear hb
  obtain ⟨cr0, cr1, cr2, cr3, cr4, cr5⟩ := cells6 Br
  have fr := Br.frozen; have lr := Br.lt
  go_wp2
  exact bodyPost_ret (v := rv (PlainScalar.between lo hi)) (by simp [results, Tryd.results36, go_sem, cr0, cr1, cr2, cr3, cr4, cr5, lr, PlainScalar.between]) rfl ⟨rfl, by repeat (first | (with_reducible exact hB) | (with_reducible refine Bl_set ?_ (by first | omega | (simp; done) | (simp; omega)) _) | with_reducible apply Bl_alloc)⟩
set_option maxRecDepth 100000 in
set_option maxHeartbeats 3200000 in
theorem slow_c (a : Rng) (k : Int) (w : World) : Calls Tryd.prog 17 #[rv a, .int .i64 k] w fun e w' => e = .returned (rv (PlainScalar.low a k)) ∧ Below w.heap.size w w' := by
  by_cases h1 : k = 1
  · subst h1
    cases q : decide (T a.hi ≤ 255)
    · have hs : PlainScalar.low a 1 = PlainScalar.ofBits (PlainTnum.low a.b 1) := by unfold PlainScalar.low; rw [if_pos (by decide), if_neg (show ¬ a.hi.toNat ≤ (PlainScalar.most 1).toNat from (T_nle_nat (y := 255#64) q))]
      go_enter Tryd.func17, Tryd.ntmps17
      go_wp2_with fail
      obtain ⟨ga, hga⟩ : ∃ g, g = w.heap.size := ⟨_, rfl⟩
      obtain ⟨gr, hgr⟩ : ∃ g, g = w.heap.size + 1 := ⟨_, rfl⟩
      have Ba : Blk ((w.alloc (.cells #[uv a.b.v, uv a.b.m, uv a.lo, uv a.hi, sv a.sl, sv a.sh] 43)).alloc (.cells #[.int .u64 0, .int .u64 0, .int .u64 0, .int .u64 0, .int .i64 0, .int .i64 0] 43)) (w.heap.size) 43 #[uv a.b.v, uv a.b.m, uv a.lo, uv a.hi, sv a.sl, sv a.sh] := ((Blk.new w 43 #[uv a.b.v, uv a.b.m, uv a.lo, uv a.hi, sv a.sl, sv a.sh])).alloc _
      have Br : Blk ((w.alloc (.cells #[uv a.b.v, uv a.b.m, uv a.lo, uv a.hi, sv a.sl, sv a.sh] 43)).alloc (.cells #[.int .u64 0, .int .u64 0, .int .u64 0, .int .u64 0, .int .i64 0, .int .i64 0] 43)) (w.heap.size + 1) 43 #[.int .u64 0, .int .u64 0, .int .u64 0, .int .u64 0, .int .i64 0, .int .i64 0] := (by simpa using Blk.new (w.alloc (.cells #[uv a.b.v, uv a.b.m, uv a.lo, uv a.hi, sv a.sl, sv a.sh] 43)) 43 #[.int .u64 0, .int .u64 0, .int .u64 0, .int .u64 0, .int .i64 0, .int .i64 0] : Blk _ (w.heap.size + 1) 43 #[.int .u64 0, .int .u64 0, .int .u64 0, .int .u64 0, .int .i64 0, .int .i64 0])
      have hB : Below w.heap.size w ((w.alloc (.cells #[uv a.b.v, uv a.b.m, uv a.lo, uv a.hi, sv a.sl, sv a.sh] 43)).alloc (.cells #[.int .u64 0, .int .u64 0, .int .u64 0, .int .u64 0, .int .i64 0, .int .i64 0] 43)) := (Bl_alloc (Bl_alloc (Bl_refl w) _) _)
      clear hga
      clear ga
      clear hgr
      clear gr
      generalize ((w.alloc (.cells #[uv a.b.v, uv a.b.m, uv a.lo, uv a.hi, sv a.sl, sv a.sh] 43)).alloc (.cells #[.int .u64 0, .int .u64 0, .int .u64 0, .int .u64 0, .int .i64 0, .int .i64 0] 43)) = w1 at *
      obtain ⟨ca0, ca1, ca2, ca3, ca4, ca5⟩ := cells6 Ba
      have fa := Ba.frozen; have la := Ba.lt
      obtain ⟨cr0, cr1, cr2, cr3, cr4, cr5⟩ := cells6 Br
      have fr := Br.frozen; have lr := Br.lt
      go_wp2_with fail
      refine (low_c a.b 1 _).mono ?_
      rintro e w2 ⟨rfl, hb⟩
      clear ca0 ca1 ca2 ca3 ca4 ca5 fa la
      clear cr0 cr1 cr2 cr3 cr4 cr5 fr lr
      replace Ba := (Ba).next hb
      replace Br := (Br).next hb
      replace hB : Below w.heap.size w w2 := by repeat (first | exact hB | (refine Bl_set ?_ (by first | omega | (simp; omega)) _) | apply Bl_alloc | (refine Bl_trans ?_ hb))
      clear hb
      obtain ⟨ca0, ca1, ca2, ca3, ca4, ca5⟩ := cells6 Ba
      have fa := Ba.frozen; have la := Ba.lt
      obtain ⟨cr0, cr1, cr2, cr3, cr4, cr5⟩ := cells6 Br
      have fr := Br.frozen; have lr := Br.lt
      go_upto_region 8 with fail
      clear ca0 ca1 ca2 ca3 ca4 ca5 fa la
      clear cr0 cr1 cr2 cr3 cr4 cr5 fr lr
      have Bt := Blk.new w2 41 #[uv (PlainTnum.low a.b 1).v, uv (PlainTnum.low a.b 1).m]
      have hgt := hB.size
      have hnat := Nat.ne_of_lt Ba.lt; have hltat := Ba.lt
      have hnrt := Nat.ne_of_lt Br.lt; have hltrt := Br.lt
      replace Ba : Blk (w2.alloc (.cells #[uv (PlainTnum.low a.b 1).v, uv (PlainTnum.low a.b 1).m] 41)) (w.heap.size) 43 #[uv a.b.v, uv a.b.m, uv a.lo, uv a.hi, sv a.sl, sv a.sh] := Ba.alloc _
      replace Br : Blk (w2.alloc (.cells #[uv (PlainTnum.low a.b 1).v, uv (PlainTnum.low a.b 1).m] 41)) (w.heap.size + 1) 43 #[.int .u64 0, .int .u64 0, .int .u64 0, .int .u64 0, .int .i64 0, .int .i64 0] := Br.alloc _
      replace hB : Below w.heap.size w (w2.alloc (.cells #[uv (PlainTnum.low a.b 1).v, uv (PlainTnum.low a.b 1).m] 41)) := Bl_alloc hB _
      generalize (w2.alloc (.cells #[uv (PlainTnum.low a.b 1).v, uv (PlainTnum.low a.b 1).m] 41)) = w3 at *
      generalize w2.heap.size = gt at *
      obtain ⟨ca0, ca1, ca2, ca3, ca4, ca5⟩ := cells6 Ba
      have fa := Ba.frozen; have la := Ba.lt
      obtain ⟨cr0, cr1, cr2, cr3, cr4, cr5⟩ := cells6 Br
      have fr := Br.frozen; have lr := Br.lt
      obtain ⟨ct0, ct1⟩ := cells2 Bt
      have ft := Bt.frozen; have lt := Bt.lt
      go_wp2_with fail
      refine (ofBits_c (PlainTnum.low a.b 1) _).mono ?_
      rintro e w4 ⟨rfl, hb⟩
      clear ca0 ca1 ca2 ca3 ca4 ca5 fa la
      clear cr0 cr1 cr2 cr3 cr4 cr5 fr lr
      clear ct0 ct1 ft lt
      replace Ba := (Ba).next hb
      replace Br := (Br).next hb
      replace Bt := (Bt).next hb
      replace hB : Below w.heap.size w w4 := by repeat (first | exact hB | (refine Bl_set ?_ (by first | omega | (simp; omega)) _) | apply Bl_alloc | (refine Bl_trans ?_ hb))
      clear hb
      obtain ⟨ca0, ca1, ca2, ca3, ca4, ca5⟩ := cells6 Ba
      have fa := Ba.frozen; have la := Ba.lt
      obtain ⟨cr0, cr1, cr2, cr3, cr4, cr5⟩ := cells6 Br
      have fr := Br.frozen; have lr := Br.lt
      obtain ⟨ct0, ct1⟩ := cells2 Bt
      have ft := Bt.frozen; have lt := Bt.lt
      go_wp2
      exact bodyPost_ret (v := rv (PlainScalar.ofBits (PlainTnum.low a.b 1))) (by simp [results, Tryd.results17, go_sem, cr0, cr1, cr2, cr3, cr4, cr5, lr]) rfl ⟨by rw [hs], by repeat (first | (with_reducible exact hB) | (with_reducible refine Bl_set ?_ (by first | omega | (simp; done) | (simp; omega)) _) | with_reducible apply Bl_alloc)⟩
    · have hs : PlainScalar.low a 1 = PlainScalar.settled ⟨(PlainTnum.low a.b 1), (PlainScalar.between a.lo a.hi).lo, (PlainScalar.between a.lo a.hi).hi, (PlainScalar.between a.lo a.hi).sl, (PlainScalar.between a.lo a.hi).sh⟩ := by unfold PlainScalar.low; rw [if_pos (by decide), if_pos (show a.hi.toNat ≤ (PlainScalar.most 1).toNat from (T_le_nat (y := 255#64) q))]
      go_enter Tryd.func17, Tryd.ntmps17
      go_wp2_with fail
      obtain ⟨ga, hga⟩ : ∃ g, g = w.heap.size := ⟨_, rfl⟩
      obtain ⟨gr, hgr⟩ : ∃ g, g = w.heap.size + 1 := ⟨_, rfl⟩
      have Ba : Blk ((w.alloc (.cells #[uv a.b.v, uv a.b.m, uv a.lo, uv a.hi, sv a.sl, sv a.sh] 43)).alloc (.cells #[.int .u64 0, .int .u64 0, .int .u64 0, .int .u64 0, .int .i64 0, .int .i64 0] 43)) (w.heap.size) 43 #[uv a.b.v, uv a.b.m, uv a.lo, uv a.hi, sv a.sl, sv a.sh] := ((Blk.new w 43 #[uv a.b.v, uv a.b.m, uv a.lo, uv a.hi, sv a.sl, sv a.sh])).alloc _
      have Br : Blk ((w.alloc (.cells #[uv a.b.v, uv a.b.m, uv a.lo, uv a.hi, sv a.sl, sv a.sh] 43)).alloc (.cells #[.int .u64 0, .int .u64 0, .int .u64 0, .int .u64 0, .int .i64 0, .int .i64 0] 43)) (w.heap.size + 1) 43 #[.int .u64 0, .int .u64 0, .int .u64 0, .int .u64 0, .int .i64 0, .int .i64 0] := (by simpa using Blk.new (w.alloc (.cells #[uv a.b.v, uv a.b.m, uv a.lo, uv a.hi, sv a.sl, sv a.sh] 43)) 43 #[.int .u64 0, .int .u64 0, .int .u64 0, .int .u64 0, .int .i64 0, .int .i64 0] : Blk _ (w.heap.size + 1) 43 #[.int .u64 0, .int .u64 0, .int .u64 0, .int .u64 0, .int .i64 0, .int .i64 0])
      have hB : Below w.heap.size w ((w.alloc (.cells #[uv a.b.v, uv a.b.m, uv a.lo, uv a.hi, sv a.sl, sv a.sh] 43)).alloc (.cells #[.int .u64 0, .int .u64 0, .int .u64 0, .int .u64 0, .int .i64 0, .int .i64 0] 43)) := (Bl_alloc (Bl_alloc (Bl_refl w) _) _)
      clear hga
      clear ga
      clear hgr
      clear gr
      generalize ((w.alloc (.cells #[uv a.b.v, uv a.b.m, uv a.lo, uv a.hi, sv a.sl, sv a.sh] 43)).alloc (.cells #[.int .u64 0, .int .u64 0, .int .u64 0, .int .u64 0, .int .i64 0, .int .i64 0] 43)) = w1 at *
      obtain ⟨ca0, ca1, ca2, ca3, ca4, ca5⟩ := cells6 Ba
      have fa := Ba.frozen; have la := Ba.lt
      obtain ⟨cr0, cr1, cr2, cr3, cr4, cr5⟩ := cells6 Br
      have fr := Br.frozen; have lr := Br.lt
      go_wp2_with fail
      refine (low_c a.b 1 _).mono ?_
      rintro e w2 ⟨rfl, hb⟩
      clear ca0 ca1 ca2 ca3 ca4 ca5 fa la
      clear cr0 cr1 cr2 cr3 cr4 cr5 fr lr
      replace Ba := (Ba).next hb
      replace Br := (Br).next hb
      replace hB : Below w.heap.size w w2 := by repeat (first | exact hB | (refine Bl_set ?_ (by first | omega | (simp; omega)) _) | apply Bl_alloc | (refine Bl_trans ?_ hb))
      clear hb
      obtain ⟨ca0, ca1, ca2, ca3, ca4, ca5⟩ := cells6 Ba
      have fa := Ba.frozen; have la := Ba.lt
      obtain ⟨cr0, cr1, cr2, cr3, cr4, cr5⟩ := cells6 Br
      have fr := Br.frozen; have lr := Br.lt
      go_upto_region 8 with fail
      clear ca0 ca1 ca2 ca3 ca4 ca5 fa la
      clear cr0 cr1 cr2 cr3 cr4 cr5 fr lr
      have Bt := Blk.new w2 41 #[uv (PlainTnum.low a.b 1).v, uv (PlainTnum.low a.b 1).m]
      have hgt := hB.size
      have hnat := Nat.ne_of_lt Ba.lt; have hltat := Ba.lt
      have hnrt := Nat.ne_of_lt Br.lt; have hltrt := Br.lt
      replace Ba : Blk (w2.alloc (.cells #[uv (PlainTnum.low a.b 1).v, uv (PlainTnum.low a.b 1).m] 41)) (w.heap.size) 43 #[uv a.b.v, uv a.b.m, uv a.lo, uv a.hi, sv a.sl, sv a.sh] := Ba.alloc _
      replace Br : Blk (w2.alloc (.cells #[uv (PlainTnum.low a.b 1).v, uv (PlainTnum.low a.b 1).m] 41)) (w.heap.size + 1) 43 #[.int .u64 0, .int .u64 0, .int .u64 0, .int .u64 0, .int .i64 0, .int .i64 0] := Br.alloc _
      replace hB : Below w.heap.size w (w2.alloc (.cells #[uv (PlainTnum.low a.b 1).v, uv (PlainTnum.low a.b 1).m] 41)) := Bl_alloc hB _
      generalize (w2.alloc (.cells #[uv (PlainTnum.low a.b 1).v, uv (PlainTnum.low a.b 1).m] 41)) = w3 at *
      generalize w2.heap.size = gt at *
      obtain ⟨ca0, ca1, ca2, ca3, ca4, ca5⟩ := cells6 Ba
      have fa := Ba.frozen; have la := Ba.lt
      obtain ⟨cr0, cr1, cr2, cr3, cr4, cr5⟩ := cells6 Br
      have fr := Br.frozen; have lr := Br.lt
      obtain ⟨ct0, ct1⟩ := cells2 Bt
      have ft := Bt.frozen; have lt := Bt.lt
      go_wp2_with fail
      refine (between_c _ _ _).mono ?_
      rintro e w4 ⟨rfl, hb⟩
      clear ca0 ca1 ca2 ca3 ca4 ca5 fa la
      clear cr0 cr1 cr2 cr3 cr4 cr5 fr lr
      clear ct0 ct1 ft lt
      replace Ba := (Ba).next hb
      replace Br := (Br).next hb
      replace Bt := (Bt).next hb
      replace hB : Below w.heap.size w w4 := by repeat (first | exact hB | (refine Bl_set ?_ (by first | omega | (simp; omega)) _) | apply Bl_alloc | (refine Bl_trans ?_ hb))
      clear hb
      obtain ⟨ca0, ca1, ca2, ca3, ca4, ca5⟩ := cells6 Ba
      have fa := Ba.frozen; have la := Ba.lt
      obtain ⟨cr0, cr1, cr2, cr3, cr4, cr5⟩ := cells6 Br
      have fr := Br.frozen; have lr := Br.lt
      obtain ⟨ct0, ct1⟩ := cells2 Bt
      have ft := Bt.frozen; have lt := Bt.lt
      go_wp2_with fail
      refine (settled_c (⟨(PlainTnum.low a.b 1), (PlainScalar.between a.lo a.hi).lo, (PlainScalar.between a.lo a.hi).hi, (PlainScalar.between a.lo a.hi).sl, (PlainScalar.between a.lo a.hi).sh⟩ : Rng) _).mono ?_
      rintro e w5 ⟨rfl, hb⟩
      clear ca0 ca1 ca2 ca3 ca4 ca5 fa la
      clear cr0 cr1 cr2 cr3 cr4 cr5 fr lr
      clear ct0 ct1 ft lt
      replace Ba := (Ba.alloc _).next hb
      replace Br := (Br.alloc _).next hb
      replace Bt := (Bt.alloc _).next hb
      replace hB : Below w.heap.size w w5 := by repeat (first | exact hB | (refine Bl_set ?_ (by first | omega | (simp; omega)) _) | apply Bl_alloc | (refine Bl_trans ?_ hb))
      clear hb
      obtain ⟨ca0, ca1, ca2, ca3, ca4, ca5⟩ := cells6 Ba
      have fa := Ba.frozen; have la := Ba.lt
      obtain ⟨cr0, cr1, cr2, cr3, cr4, cr5⟩ := cells6 Br
      have fr := Br.frozen; have lr := Br.lt
      obtain ⟨ct0, ct1⟩ := cells2 Bt
      have ft := Bt.frozen; have lt := Bt.lt
      go_wp2
      exact bodyPost_ret (v := rv (PlainScalar.settled ⟨(PlainTnum.low a.b 1), (PlainScalar.between a.lo a.hi).lo, (PlainScalar.between a.lo a.hi).hi, (PlainScalar.between a.lo a.hi).sl, (PlainScalar.between a.lo a.hi).sh⟩)) (by simp [results, Tryd.results17, go_sem, cr0, cr1, cr2, cr3, cr4, cr5, lr]) rfl ⟨by rw [hs], by repeat (first | (with_reducible exact hB) | (with_reducible refine Bl_set ?_ (by first | omega | (simp; done) | (simp; omega)) _) | with_reducible apply Bl_alloc)⟩
  by_cases h2 : k = 2
  · subst h2
    cases q : decide (T a.hi ≤ 65535)
    · have hs : PlainScalar.low a 2 = PlainScalar.ofBits (PlainTnum.low a.b 2) := by unfold PlainScalar.low; rw [if_pos (by decide), if_neg (show ¬ a.hi.toNat ≤ (PlainScalar.most 2).toNat from (T_nle_nat (y := 65535#64) q))]
      go_enter Tryd.func17, Tryd.ntmps17
      go_wp2_with fail
      obtain ⟨ga, hga⟩ : ∃ g, g = w.heap.size := ⟨_, rfl⟩
      obtain ⟨gr, hgr⟩ : ∃ g, g = w.heap.size + 1 := ⟨_, rfl⟩
      have Ba : Blk ((w.alloc (.cells #[uv a.b.v, uv a.b.m, uv a.lo, uv a.hi, sv a.sl, sv a.sh] 43)).alloc (.cells #[.int .u64 0, .int .u64 0, .int .u64 0, .int .u64 0, .int .i64 0, .int .i64 0] 43)) (w.heap.size) 43 #[uv a.b.v, uv a.b.m, uv a.lo, uv a.hi, sv a.sl, sv a.sh] := ((Blk.new w 43 #[uv a.b.v, uv a.b.m, uv a.lo, uv a.hi, sv a.sl, sv a.sh])).alloc _
      have Br : Blk ((w.alloc (.cells #[uv a.b.v, uv a.b.m, uv a.lo, uv a.hi, sv a.sl, sv a.sh] 43)).alloc (.cells #[.int .u64 0, .int .u64 0, .int .u64 0, .int .u64 0, .int .i64 0, .int .i64 0] 43)) (w.heap.size + 1) 43 #[.int .u64 0, .int .u64 0, .int .u64 0, .int .u64 0, .int .i64 0, .int .i64 0] := (by simpa using Blk.new (w.alloc (.cells #[uv a.b.v, uv a.b.m, uv a.lo, uv a.hi, sv a.sl, sv a.sh] 43)) 43 #[.int .u64 0, .int .u64 0, .int .u64 0, .int .u64 0, .int .i64 0, .int .i64 0] : Blk _ (w.heap.size + 1) 43 #[.int .u64 0, .int .u64 0, .int .u64 0, .int .u64 0, .int .i64 0, .int .i64 0])
      have hB : Below w.heap.size w ((w.alloc (.cells #[uv a.b.v, uv a.b.m, uv a.lo, uv a.hi, sv a.sl, sv a.sh] 43)).alloc (.cells #[.int .u64 0, .int .u64 0, .int .u64 0, .int .u64 0, .int .i64 0, .int .i64 0] 43)) := (Bl_alloc (Bl_alloc (Bl_refl w) _) _)
      clear hga
      clear ga
      clear hgr
      clear gr
      generalize ((w.alloc (.cells #[uv a.b.v, uv a.b.m, uv a.lo, uv a.hi, sv a.sl, sv a.sh] 43)).alloc (.cells #[.int .u64 0, .int .u64 0, .int .u64 0, .int .u64 0, .int .i64 0, .int .i64 0] 43)) = w1 at *
      obtain ⟨ca0, ca1, ca2, ca3, ca4, ca5⟩ := cells6 Ba
      have fa := Ba.frozen; have la := Ba.lt
      obtain ⟨cr0, cr1, cr2, cr3, cr4, cr5⟩ := cells6 Br
      have fr := Br.frozen; have lr := Br.lt
      go_wp2_with fail
      refine (low_c a.b 2 _).mono ?_
      rintro e w2 ⟨rfl, hb⟩
      clear ca0 ca1 ca2 ca3 ca4 ca5 fa la
      clear cr0 cr1 cr2 cr3 cr4 cr5 fr lr
      replace Ba := (Ba).next hb
      replace Br := (Br).next hb
      replace hB : Below w.heap.size w w2 := by repeat (first | exact hB | (refine Bl_set ?_ (by first | omega | (simp; omega)) _) | apply Bl_alloc | (refine Bl_trans ?_ hb))
      clear hb
      obtain ⟨ca0, ca1, ca2, ca3, ca4, ca5⟩ := cells6 Ba
      have fa := Ba.frozen; have la := Ba.lt
      obtain ⟨cr0, cr1, cr2, cr3, cr4, cr5⟩ := cells6 Br
      have fr := Br.frozen; have lr := Br.lt
      go_upto_region 8 with fail
      clear ca0 ca1 ca2 ca3 ca4 ca5 fa la
      clear cr0 cr1 cr2 cr3 cr4 cr5 fr lr
      have Bt := Blk.new w2 41 #[uv (PlainTnum.low a.b 2).v, uv (PlainTnum.low a.b 2).m]
      have hgt := hB.size
      have hnat := Nat.ne_of_lt Ba.lt; have hltat := Ba.lt
      have hnrt := Nat.ne_of_lt Br.lt; have hltrt := Br.lt
      replace Ba : Blk (w2.alloc (.cells #[uv (PlainTnum.low a.b 2).v, uv (PlainTnum.low a.b 2).m] 41)) (w.heap.size) 43 #[uv a.b.v, uv a.b.m, uv a.lo, uv a.hi, sv a.sl, sv a.sh] := Ba.alloc _
      replace Br : Blk (w2.alloc (.cells #[uv (PlainTnum.low a.b 2).v, uv (PlainTnum.low a.b 2).m] 41)) (w.heap.size + 1) 43 #[.int .u64 0, .int .u64 0, .int .u64 0, .int .u64 0, .int .i64 0, .int .i64 0] := Br.alloc _
      replace hB : Below w.heap.size w (w2.alloc (.cells #[uv (PlainTnum.low a.b 2).v, uv (PlainTnum.low a.b 2).m] 41)) := Bl_alloc hB _
      generalize (w2.alloc (.cells #[uv (PlainTnum.low a.b 2).v, uv (PlainTnum.low a.b 2).m] 41)) = w3 at *
      generalize w2.heap.size = gt at *
      obtain ⟨ca0, ca1, ca2, ca3, ca4, ca5⟩ := cells6 Ba
      have fa := Ba.frozen; have la := Ba.lt
      obtain ⟨cr0, cr1, cr2, cr3, cr4, cr5⟩ := cells6 Br
      have fr := Br.frozen; have lr := Br.lt
      obtain ⟨ct0, ct1⟩ := cells2 Bt
      have ft := Bt.frozen; have lt := Bt.lt
      go_wp2_with fail
      refine (ofBits_c (PlainTnum.low a.b 2) _).mono ?_
      rintro e w4 ⟨rfl, hb⟩
      clear ca0 ca1 ca2 ca3 ca4 ca5 fa la
      clear cr0 cr1 cr2 cr3 cr4 cr5 fr lr
      clear ct0 ct1 ft lt
      replace Ba := (Ba).next hb
      replace Br := (Br).next hb
      replace Bt := (Bt).next hb
      replace hB : Below w.heap.size w w4 := by repeat (first | exact hB | (refine Bl_set ?_ (by first | omega | (simp; omega)) _) | apply Bl_alloc | (refine Bl_trans ?_ hb))
      clear hb
      obtain ⟨ca0, ca1, ca2, ca3, ca4, ca5⟩ := cells6 Ba
      have fa := Ba.frozen; have la := Ba.lt
      obtain ⟨cr0, cr1, cr2, cr3, cr4, cr5⟩ := cells6 Br
      have fr := Br.frozen; have lr := Br.lt
      obtain ⟨ct0, ct1⟩ := cells2 Bt
      have ft := Bt.frozen; have lt := Bt.lt
      go_wp2
      exact bodyPost_ret (v := rv (PlainScalar.ofBits (PlainTnum.low a.b 2))) (by simp [results, Tryd.results17, go_sem, cr0, cr1, cr2, cr3, cr4, cr5, lr]) rfl ⟨by rw [hs], by repeat (first | (with_reducible exact hB) | (with_reducible refine Bl_set ?_ (by first | omega | (simp; done) | (simp; omega)) _) | with_reducible apply Bl_alloc)⟩
    · have hs : PlainScalar.low a 2 = PlainScalar.settled ⟨(PlainTnum.low a.b 2), (PlainScalar.between a.lo a.hi).lo, (PlainScalar.between a.lo a.hi).hi, (PlainScalar.between a.lo a.hi).sl, (PlainScalar.between a.lo a.hi).sh⟩ := by unfold PlainScalar.low; rw [if_pos (by decide), if_pos (show a.hi.toNat ≤ (PlainScalar.most 2).toNat from (T_le_nat (y := 65535#64) q))]
      go_enter Tryd.func17, Tryd.ntmps17
      go_wp2_with fail
      obtain ⟨ga, hga⟩ : ∃ g, g = w.heap.size := ⟨_, rfl⟩
      obtain ⟨gr, hgr⟩ : ∃ g, g = w.heap.size + 1 := ⟨_, rfl⟩
      have Ba : Blk ((w.alloc (.cells #[uv a.b.v, uv a.b.m, uv a.lo, uv a.hi, sv a.sl, sv a.sh] 43)).alloc (.cells #[.int .u64 0, .int .u64 0, .int .u64 0, .int .u64 0, .int .i64 0, .int .i64 0] 43)) (w.heap.size) 43 #[uv a.b.v, uv a.b.m, uv a.lo, uv a.hi, sv a.sl, sv a.sh] := ((Blk.new w 43 #[uv a.b.v, uv a.b.m, uv a.lo, uv a.hi, sv a.sl, sv a.sh])).alloc _
      have Br : Blk ((w.alloc (.cells #[uv a.b.v, uv a.b.m, uv a.lo, uv a.hi, sv a.sl, sv a.sh] 43)).alloc (.cells #[.int .u64 0, .int .u64 0, .int .u64 0, .int .u64 0, .int .i64 0, .int .i64 0] 43)) (w.heap.size + 1) 43 #[.int .u64 0, .int .u64 0, .int .u64 0, .int .u64 0, .int .i64 0, .int .i64 0] := (by simpa using Blk.new (w.alloc (.cells #[uv a.b.v, uv a.b.m, uv a.lo, uv a.hi, sv a.sl, sv a.sh] 43)) 43 #[.int .u64 0, .int .u64 0, .int .u64 0, .int .u64 0, .int .i64 0, .int .i64 0] : Blk _ (w.heap.size + 1) 43 #[.int .u64 0, .int .u64 0, .int .u64 0, .int .u64 0, .int .i64 0, .int .i64 0])
      have hB : Below w.heap.size w ((w.alloc (.cells #[uv a.b.v, uv a.b.m, uv a.lo, uv a.hi, sv a.sl, sv a.sh] 43)).alloc (.cells #[.int .u64 0, .int .u64 0, .int .u64 0, .int .u64 0, .int .i64 0, .int .i64 0] 43)) := (Bl_alloc (Bl_alloc (Bl_refl w) _) _)
      clear hga
      clear ga
      clear hgr
      clear gr
      generalize ((w.alloc (.cells #[uv a.b.v, uv a.b.m, uv a.lo, uv a.hi, sv a.sl, sv a.sh] 43)).alloc (.cells #[.int .u64 0, .int .u64 0, .int .u64 0, .int .u64 0, .int .i64 0, .int .i64 0] 43)) = w1 at *
      obtain ⟨ca0, ca1, ca2, ca3, ca4, ca5⟩ := cells6 Ba
      have fa := Ba.frozen; have la := Ba.lt
      obtain ⟨cr0, cr1, cr2, cr3, cr4, cr5⟩ := cells6 Br
      have fr := Br.frozen; have lr := Br.lt
      go_wp2_with fail
      refine (low_c a.b 2 _).mono ?_
      rintro e w2 ⟨rfl, hb⟩
      clear ca0 ca1 ca2 ca3 ca4 ca5 fa la
      clear cr0 cr1 cr2 cr3 cr4 cr5 fr lr
      replace Ba := (Ba).next hb
      replace Br := (Br).next hb
      replace hB : Below w.heap.size w w2 := by repeat (first | exact hB | (refine Bl_set ?_ (by first | omega | (simp; omega)) _) | apply Bl_alloc | (refine Bl_trans ?_ hb))
      clear hb
      obtain ⟨ca0, ca1, ca2, ca3, ca4, ca5⟩ := cells6 Ba
      have fa := Ba.frozen; have la := Ba.lt
      obtain ⟨cr0, cr1, cr2, cr3, cr4, cr5⟩ := cells6 Br
      have fr := Br.frozen; have lr := Br.lt
      go_upto_region 8 with fail
      clear ca0 ca1 ca2 ca3 ca4 ca5 fa la
      clear cr0 cr1 cr2 cr3 cr4 cr5 fr lr
      have Bt := Blk.new w2 41 #[uv (PlainTnum.low a.b 2).v, uv (PlainTnum.low a.b 2).m]
      have hgt := hB.size
      have hnat := Nat.ne_of_lt Ba.lt; have hltat := Ba.lt
      have hnrt := Nat.ne_of_lt Br.lt; have hltrt := Br.lt
      replace Ba : Blk (w2.alloc (.cells #[uv (PlainTnum.low a.b 2).v, uv (PlainTnum.low a.b 2).m] 41)) (w.heap.size) 43 #[uv a.b.v, uv a.b.m, uv a.lo, uv a.hi, sv a.sl, sv a.sh] := Ba.alloc _
      replace Br : Blk (w2.alloc (.cells #[uv (PlainTnum.low a.b 2).v, uv (PlainTnum.low a.b 2).m] 41)) (w.heap.size + 1) 43 #[.int .u64 0, .int .u64 0, .int .u64 0, .int .u64 0, .int .i64 0, .int .i64 0] := Br.alloc _
      replace hB : Below w.heap.size w (w2.alloc (.cells #[uv (PlainTnum.low a.b 2).v, uv (PlainTnum.low a.b 2).m] 41)) := Bl_alloc hB _
      generalize (w2.alloc (.cells #[uv (PlainTnum.low a.b 2).v, uv (PlainTnum.low a.b 2).m] 41)) = w3 at *
      generalize w2.heap.size = gt at *
      obtain ⟨ca0, ca1, ca2, ca3, ca4, ca5⟩ := cells6 Ba
      have fa := Ba.frozen; have la := Ba.lt
      obtain ⟨cr0, cr1, cr2, cr3, cr4, cr5⟩ := cells6 Br
      have fr := Br.frozen; have lr := Br.lt
      obtain ⟨ct0, ct1⟩ := cells2 Bt
      have ft := Bt.frozen; have lt := Bt.lt
      go_wp2_with fail
      refine (between_c _ _ _).mono ?_
      rintro e w4 ⟨rfl, hb⟩
      clear ca0 ca1 ca2 ca3 ca4 ca5 fa la
      clear cr0 cr1 cr2 cr3 cr4 cr5 fr lr
      clear ct0 ct1 ft lt
      replace Ba := (Ba).next hb
      replace Br := (Br).next hb
      replace Bt := (Bt).next hb
      replace hB : Below w.heap.size w w4 := by repeat (first | exact hB | (refine Bl_set ?_ (by first | omega | (simp; omega)) _) | apply Bl_alloc | (refine Bl_trans ?_ hb))
      clear hb
      obtain ⟨ca0, ca1, ca2, ca3, ca4, ca5⟩ := cells6 Ba
      have fa := Ba.frozen; have la := Ba.lt
      obtain ⟨cr0, cr1, cr2, cr3, cr4, cr5⟩ := cells6 Br
      have fr := Br.frozen; have lr := Br.lt
      obtain ⟨ct0, ct1⟩ := cells2 Bt
      have ft := Bt.frozen; have lt := Bt.lt
      go_wp2_with fail
      refine (settled_c (⟨(PlainTnum.low a.b 2), (PlainScalar.between a.lo a.hi).lo, (PlainScalar.between a.lo a.hi).hi, (PlainScalar.between a.lo a.hi).sl, (PlainScalar.between a.lo a.hi).sh⟩ : Rng) _).mono ?_
      rintro e w5 ⟨rfl, hb⟩
      clear ca0 ca1 ca2 ca3 ca4 ca5 fa la
      clear cr0 cr1 cr2 cr3 cr4 cr5 fr lr
      clear ct0 ct1 ft lt
      replace Ba := (Ba.alloc _).next hb
      replace Br := (Br.alloc _).next hb
      replace Bt := (Bt.alloc _).next hb
      replace hB : Below w.heap.size w w5 := by repeat (first | exact hB | (refine Bl_set ?_ (by first | omega | (simp; omega)) _) | apply Bl_alloc | (refine Bl_trans ?_ hb))
      clear hb
      obtain ⟨ca0, ca1, ca2, ca3, ca4, ca5⟩ := cells6 Ba
      have fa := Ba.frozen; have la := Ba.lt
      obtain ⟨cr0, cr1, cr2, cr3, cr4, cr5⟩ := cells6 Br
      have fr := Br.frozen; have lr := Br.lt
      obtain ⟨ct0, ct1⟩ := cells2 Bt
      have ft := Bt.frozen; have lt := Bt.lt
      go_wp2
      exact bodyPost_ret (v := rv (PlainScalar.settled ⟨(PlainTnum.low a.b 2), (PlainScalar.between a.lo a.hi).lo, (PlainScalar.between a.lo a.hi).hi, (PlainScalar.between a.lo a.hi).sl, (PlainScalar.between a.lo a.hi).sh⟩)) (by simp [results, Tryd.results17, go_sem, cr0, cr1, cr2, cr3, cr4, cr5, lr]) rfl ⟨by rw [hs], by repeat (first | (with_reducible exact hB) | (with_reducible refine Bl_set ?_ (by first | omega | (simp; done) | (simp; omega)) _) | with_reducible apply Bl_alloc)⟩
  by_cases h4 : k = 4
  · subst h4
    cases q : decide (T a.hi ≤ 4294967295)
    · have hs : PlainScalar.low a 4 = PlainScalar.ofBits (PlainTnum.low a.b 4) := by unfold PlainScalar.low; rw [if_pos (by decide), if_neg (show ¬ a.hi.toNat ≤ (PlainScalar.most 4).toNat from (T_nle_nat (y := 4294967295#64) q))]
      go_enter Tryd.func17, Tryd.ntmps17
      go_wp2_with fail
      obtain ⟨ga, hga⟩ : ∃ g, g = w.heap.size := ⟨_, rfl⟩
      obtain ⟨gr, hgr⟩ : ∃ g, g = w.heap.size + 1 := ⟨_, rfl⟩
      have Ba : Blk ((w.alloc (.cells #[uv a.b.v, uv a.b.m, uv a.lo, uv a.hi, sv a.sl, sv a.sh] 43)).alloc (.cells #[.int .u64 0, .int .u64 0, .int .u64 0, .int .u64 0, .int .i64 0, .int .i64 0] 43)) (w.heap.size) 43 #[uv a.b.v, uv a.b.m, uv a.lo, uv a.hi, sv a.sl, sv a.sh] := ((Blk.new w 43 #[uv a.b.v, uv a.b.m, uv a.lo, uv a.hi, sv a.sl, sv a.sh])).alloc _
      have Br : Blk ((w.alloc (.cells #[uv a.b.v, uv a.b.m, uv a.lo, uv a.hi, sv a.sl, sv a.sh] 43)).alloc (.cells #[.int .u64 0, .int .u64 0, .int .u64 0, .int .u64 0, .int .i64 0, .int .i64 0] 43)) (w.heap.size + 1) 43 #[.int .u64 0, .int .u64 0, .int .u64 0, .int .u64 0, .int .i64 0, .int .i64 0] := (by simpa using Blk.new (w.alloc (.cells #[uv a.b.v, uv a.b.m, uv a.lo, uv a.hi, sv a.sl, sv a.sh] 43)) 43 #[.int .u64 0, .int .u64 0, .int .u64 0, .int .u64 0, .int .i64 0, .int .i64 0] : Blk _ (w.heap.size + 1) 43 #[.int .u64 0, .int .u64 0, .int .u64 0, .int .u64 0, .int .i64 0, .int .i64 0])
      have hB : Below w.heap.size w ((w.alloc (.cells #[uv a.b.v, uv a.b.m, uv a.lo, uv a.hi, sv a.sl, sv a.sh] 43)).alloc (.cells #[.int .u64 0, .int .u64 0, .int .u64 0, .int .u64 0, .int .i64 0, .int .i64 0] 43)) := (Bl_alloc (Bl_alloc (Bl_refl w) _) _)
      clear hga
      clear ga
      clear hgr
      clear gr
      generalize ((w.alloc (.cells #[uv a.b.v, uv a.b.m, uv a.lo, uv a.hi, sv a.sl, sv a.sh] 43)).alloc (.cells #[.int .u64 0, .int .u64 0, .int .u64 0, .int .u64 0, .int .i64 0, .int .i64 0] 43)) = w1 at *
      obtain ⟨ca0, ca1, ca2, ca3, ca4, ca5⟩ := cells6 Ba
      have fa := Ba.frozen; have la := Ba.lt
      obtain ⟨cr0, cr1, cr2, cr3, cr4, cr5⟩ := cells6 Br
      have fr := Br.frozen; have lr := Br.lt
      go_wp2_with fail
      refine (low_c a.b 4 _).mono ?_
      rintro e w2 ⟨rfl, hb⟩
      clear ca0 ca1 ca2 ca3 ca4 ca5 fa la
      clear cr0 cr1 cr2 cr3 cr4 cr5 fr lr
      replace Ba := (Ba).next hb
      replace Br := (Br).next hb
      replace hB : Below w.heap.size w w2 := by repeat (first | exact hB | (refine Bl_set ?_ (by first | omega | (simp; omega)) _) | apply Bl_alloc | (refine Bl_trans ?_ hb))
      clear hb
      obtain ⟨ca0, ca1, ca2, ca3, ca4, ca5⟩ := cells6 Ba
      have fa := Ba.frozen; have la := Ba.lt
      obtain ⟨cr0, cr1, cr2, cr3, cr4, cr5⟩ := cells6 Br
      have fr := Br.frozen; have lr := Br.lt
      go_upto_region 8 with fail
      clear ca0 ca1 ca2 ca3 ca4 ca5 fa la
      clear cr0 cr1 cr2 cr3 cr4 cr5 fr lr
      have Bt := Blk.new w2 41 #[uv (PlainTnum.low a.b 4).v, uv (PlainTnum.low a.b 4).m]
      have hgt := hB.size
      have hnat := Nat.ne_of_lt Ba.lt; have hltat := Ba.lt
      have hnrt := Nat.ne_of_lt Br.lt; have hltrt := Br.lt
      replace Ba : Blk (w2.alloc (.cells #[uv (PlainTnum.low a.b 4).v, uv (PlainTnum.low a.b 4).m] 41)) (w.heap.size) 43 #[uv a.b.v, uv a.b.m, uv a.lo, uv a.hi, sv a.sl, sv a.sh] := Ba.alloc _
      replace Br : Blk (w2.alloc (.cells #[uv (PlainTnum.low a.b 4).v, uv (PlainTnum.low a.b 4).m] 41)) (w.heap.size + 1) 43 #[.int .u64 0, .int .u64 0, .int .u64 0, .int .u64 0, .int .i64 0, .int .i64 0] := Br.alloc _
      replace hB : Below w.heap.size w (w2.alloc (.cells #[uv (PlainTnum.low a.b 4).v, uv (PlainTnum.low a.b 4).m] 41)) := Bl_alloc hB _
      generalize (w2.alloc (.cells #[uv (PlainTnum.low a.b 4).v, uv (PlainTnum.low a.b 4).m] 41)) = w3 at *
      generalize w2.heap.size = gt at *
      obtain ⟨ca0, ca1, ca2, ca3, ca4, ca5⟩ := cells6 Ba
      have fa := Ba.frozen; have la := Ba.lt
      obtain ⟨cr0, cr1, cr2, cr3, cr4, cr5⟩ := cells6 Br
      have fr := Br.frozen; have lr := Br.lt
      obtain ⟨ct0, ct1⟩ := cells2 Bt
      have ft := Bt.frozen; have lt := Bt.lt
      go_wp2_with fail
      refine (ofBits_c (PlainTnum.low a.b 4) _).mono ?_
      rintro e w4 ⟨rfl, hb⟩
      clear ca0 ca1 ca2 ca3 ca4 ca5 fa la
      clear cr0 cr1 cr2 cr3 cr4 cr5 fr lr
      clear ct0 ct1 ft lt
      replace Ba := (Ba).next hb
      replace Br := (Br).next hb
      replace Bt := (Bt).next hb
      replace hB : Below w.heap.size w w4 := by repeat (first | exact hB | (refine Bl_set ?_ (by first | omega | (simp; omega)) _) | apply Bl_alloc | (refine Bl_trans ?_ hb))
      clear hb
      obtain ⟨ca0, ca1, ca2, ca3, ca4, ca5⟩ := cells6 Ba
      have fa := Ba.frozen; have la := Ba.lt
      obtain ⟨cr0, cr1, cr2, cr3, cr4, cr5⟩ := cells6 Br
      have fr := Br.frozen; have lr := Br.lt
      obtain ⟨ct0, ct1⟩ := cells2 Bt
      have ft := Bt.frozen; have lt := Bt.lt
      go_wp2
      exact bodyPost_ret (v := rv (PlainScalar.ofBits (PlainTnum.low a.b 4))) (by simp [results, Tryd.results17, go_sem, cr0, cr1, cr2, cr3, cr4, cr5, lr]) rfl ⟨by rw [hs], by repeat (first | (with_reducible exact hB) | (with_reducible refine Bl_set ?_ (by first | omega | (simp; done) | (simp; omega)) _) | with_reducible apply Bl_alloc)⟩
    · have hs : PlainScalar.low a 4 = PlainScalar.settled ⟨(PlainTnum.low a.b 4), (PlainScalar.between a.lo a.hi).lo, (PlainScalar.between a.lo a.hi).hi, (PlainScalar.between a.lo a.hi).sl, (PlainScalar.between a.lo a.hi).sh⟩ := by unfold PlainScalar.low; rw [if_pos (by decide), if_pos (show a.hi.toNat ≤ (PlainScalar.most 4).toNat from (T_le_nat (y := 4294967295#64) q))]
      go_enter Tryd.func17, Tryd.ntmps17
      go_wp2_with fail
      obtain ⟨ga, hga⟩ : ∃ g, g = w.heap.size := ⟨_, rfl⟩
      obtain ⟨gr, hgr⟩ : ∃ g, g = w.heap.size + 1 := ⟨_, rfl⟩
      have Ba : Blk ((w.alloc (.cells #[uv a.b.v, uv a.b.m, uv a.lo, uv a.hi, sv a.sl, sv a.sh] 43)).alloc (.cells #[.int .u64 0, .int .u64 0, .int .u64 0, .int .u64 0, .int .i64 0, .int .i64 0] 43)) (w.heap.size) 43 #[uv a.b.v, uv a.b.m, uv a.lo, uv a.hi, sv a.sl, sv a.sh] := ((Blk.new w 43 #[uv a.b.v, uv a.b.m, uv a.lo, uv a.hi, sv a.sl, sv a.sh])).alloc _
      have Br : Blk ((w.alloc (.cells #[uv a.b.v, uv a.b.m, uv a.lo, uv a.hi, sv a.sl, sv a.sh] 43)).alloc (.cells #[.int .u64 0, .int .u64 0, .int .u64 0, .int .u64 0, .int .i64 0, .int .i64 0] 43)) (w.heap.size + 1) 43 #[.int .u64 0, .int .u64 0, .int .u64 0, .int .u64 0, .int .i64 0, .int .i64 0] := (by simpa using Blk.new (w.alloc (.cells #[uv a.b.v, uv a.b.m, uv a.lo, uv a.hi, sv a.sl, sv a.sh] 43)) 43 #[.int .u64 0, .int .u64 0, .int .u64 0, .int .u64 0, .int .i64 0, .int .i64 0] : Blk _ (w.heap.size + 1) 43 #[.int .u64 0, .int .u64 0, .int .u64 0, .int .u64 0, .int .i64 0, .int .i64 0])
      have hB : Below w.heap.size w ((w.alloc (.cells #[uv a.b.v, uv a.b.m, uv a.lo, uv a.hi, sv a.sl, sv a.sh] 43)).alloc (.cells #[.int .u64 0, .int .u64 0, .int .u64 0, .int .u64 0, .int .i64 0, .int .i64 0] 43)) := (Bl_alloc (Bl_alloc (Bl_refl w) _) _)
      clear hga
      clear ga
      clear hgr
      clear gr
      generalize ((w.alloc (.cells #[uv a.b.v, uv a.b.m, uv a.lo, uv a.hi, sv a.sl, sv a.sh] 43)).alloc (.cells #[.int .u64 0, .int .u64 0, .int .u64 0, .int .u64 0, .int .i64 0, .int .i64 0] 43)) = w1 at *
      obtain ⟨ca0, ca1, ca2, ca3, ca4, ca5⟩ := cells6 Ba
      have fa := Ba.frozen; have la := Ba.lt
      obtain ⟨cr0, cr1, cr2, cr3, cr4, cr5⟩ := cells6 Br
      have fr := Br.frozen; have lr := Br.lt
      go_wp2_with fail
      refine (low_c a.b 4 _).mono ?_
      rintro e w2 ⟨rfl, hb⟩
      clear ca0 ca1 ca2 ca3 ca4 ca5 fa la
      clear cr0 cr1 cr2 cr3 cr4 cr5 fr lr
      replace Ba := (Ba).next hb
      replace Br := (Br).next hb
      replace hB : Below w.heap.size w w2 := by repeat (first | exact hB | (refine Bl_set ?_ (by first | omega | (simp; omega)) _) | apply Bl_alloc | (refine Bl_trans ?_ hb))
      clear hb
      obtain ⟨ca0, ca1, ca2, ca3, ca4, ca5⟩ := cells6 Ba
      have fa := Ba.frozen; have la := Ba.lt
      obtain ⟨cr0, cr1, cr2, cr3, cr4, cr5⟩ := cells6 Br
      have fr := Br.frozen; have lr := Br.lt
      go_upto_region 8 with fail
      clear ca0 ca1 ca2 ca3 ca4 ca5 fa la
      clear cr0 cr1 cr2 cr3 cr4 cr5 fr lr
      have Bt := Blk.new w2 41 #[uv (PlainTnum.low a.b 4).v, uv (PlainTnum.low a.b 4).m]
      have hgt := hB.size
      have hnat := Nat.ne_of_lt Ba.lt; have hltat := Ba.lt
      have hnrt := Nat.ne_of_lt Br.lt; have hltrt := Br.lt
      replace Ba : Blk (w2.alloc (.cells #[uv (PlainTnum.low a.b 4).v, uv (PlainTnum.low a.b 4).m] 41)) (w.heap.size) 43 #[uv a.b.v, uv a.b.m, uv a.lo, uv a.hi, sv a.sl, sv a.sh] := Ba.alloc _
      replace Br : Blk (w2.alloc (.cells #[uv (PlainTnum.low a.b 4).v, uv (PlainTnum.low a.b 4).m] 41)) (w.heap.size + 1) 43 #[.int .u64 0, .int .u64 0, .int .u64 0, .int .u64 0, .int .i64 0, .int .i64 0] := Br.alloc _
      replace hB : Below w.heap.size w (w2.alloc (.cells #[uv (PlainTnum.low a.b 4).v, uv (PlainTnum.low a.b 4).m] 41)) := Bl_alloc hB _
      generalize (w2.alloc (.cells #[uv (PlainTnum.low a.b 4).v, uv (PlainTnum.low a.b 4).m] 41)) = w3 at *
      generalize w2.heap.size = gt at *
      obtain ⟨ca0, ca1, ca2, ca3, ca4, ca5⟩ := cells6 Ba
      have fa := Ba.frozen; have la := Ba.lt
      obtain ⟨cr0, cr1, cr2, cr3, cr4, cr5⟩ := cells6 Br
      have fr := Br.frozen; have lr := Br.lt
      obtain ⟨ct0, ct1⟩ := cells2 Bt
      have ft := Bt.frozen; have lt := Bt.lt
      go_wp2_with fail
      refine (between_c _ _ _).mono ?_
      rintro e w4 ⟨rfl, hb⟩
      clear ca0 ca1 ca2 ca3 ca4 ca5 fa la
      clear cr0 cr1 cr2 cr3 cr4 cr5 fr lr
      clear ct0 ct1 ft lt
      replace Ba := (Ba).next hb
      replace Br := (Br).next hb
      replace Bt := (Bt).next hb
      replace hB : Below w.heap.size w w4 := by repeat (first | exact hB | (refine Bl_set ?_ (by first | omega | (simp; omega)) _) | apply Bl_alloc | (refine Bl_trans ?_ hb))
      clear hb
      obtain ⟨ca0, ca1, ca2, ca3, ca4, ca5⟩ := cells6 Ba
      have fa := Ba.frozen; have la := Ba.lt
      obtain ⟨cr0, cr1, cr2, cr3, cr4, cr5⟩ := cells6 Br
      have fr := Br.frozen; have lr := Br.lt
      obtain ⟨ct0, ct1⟩ := cells2 Bt
      have ft := Bt.frozen; have lt := Bt.lt
      go_wp2_with fail
      refine (settled_c (⟨(PlainTnum.low a.b 4), (PlainScalar.between a.lo a.hi).lo, (PlainScalar.between a.lo a.hi).hi, (PlainScalar.between a.lo a.hi).sl, (PlainScalar.between a.lo a.hi).sh⟩ : Rng) _).mono ?_
      rintro e w5 ⟨rfl, hb⟩
      clear ca0 ca1 ca2 ca3 ca4 ca5 fa la
      clear cr0 cr1 cr2 cr3 cr4 cr5 fr lr
      clear ct0 ct1 ft lt
      replace Ba := (Ba.alloc _).next hb
      replace Br := (Br.alloc _).next hb
      replace Bt := (Bt.alloc _).next hb
      replace hB : Below w.heap.size w w5 := by repeat (first | exact hB | (refine Bl_set ?_ (by first | omega | (simp; omega)) _) | apply Bl_alloc | (refine Bl_trans ?_ hb))
      clear hb
      obtain ⟨ca0, ca1, ca2, ca3, ca4, ca5⟩ := cells6 Ba
      have fa := Ba.frozen; have la := Ba.lt
      obtain ⟨cr0, cr1, cr2, cr3, cr4, cr5⟩ := cells6 Br
      have fr := Br.frozen; have lr := Br.lt
      obtain ⟨ct0, ct1⟩ := cells2 Bt
      have ft := Bt.frozen; have lt := Bt.lt
      go_wp2
      exact bodyPost_ret (v := rv (PlainScalar.settled ⟨(PlainTnum.low a.b 4), (PlainScalar.between a.lo a.hi).lo, (PlainScalar.between a.lo a.hi).hi, (PlainScalar.between a.lo a.hi).sl, (PlainScalar.between a.lo a.hi).sh⟩)) (by simp [results, Tryd.results17, go_sem, cr0, cr1, cr2, cr3, cr4, cr5, lr]) rfl ⟨by rw [hs], by repeat (first | (with_reducible exact hB) | (with_reducible refine Bl_set ?_ (by first | omega | (simp; done) | (simp; omega)) _) | with_reducible apply Bl_alloc)⟩
  have hs : PlainScalar.low a k = a := by unfold PlainScalar.low; rw [if_neg (by omega)]
  have e1 : (k == 1) = false := by simpa using h1
  have e2 : (k == 2) = false := by simpa using h2
  have e4 : (k == 4) = false := by simpa using h4
  go_enter Tryd.func17, Tryd.ntmps17
  go_upto_region 1 with fail
  obtain ⟨ga, hga⟩ : ∃ g, g = w.heap.size := ⟨_, rfl⟩
  obtain ⟨gr, hgr⟩ : ∃ g, g = w.heap.size + 1 := ⟨_, rfl⟩
  have Ba : Blk ((w.alloc (.cells #[uv a.b.v, uv a.b.m, uv a.lo, uv a.hi, sv a.sl, sv a.sh] 43)).alloc (.cells #[.int .u64 0, .int .u64 0, .int .u64 0, .int .u64 0, .int .i64 0, .int .i64 0] 43)) (w.heap.size) 43 #[uv a.b.v, uv a.b.m, uv a.lo, uv a.hi, sv a.sl, sv a.sh] := ((Blk.new w 43 #[uv a.b.v, uv a.b.m, uv a.lo, uv a.hi, sv a.sl, sv a.sh])).alloc _
  have Br : Blk ((w.alloc (.cells #[uv a.b.v, uv a.b.m, uv a.lo, uv a.hi, sv a.sl, sv a.sh] 43)).alloc (.cells #[.int .u64 0, .int .u64 0, .int .u64 0, .int .u64 0, .int .i64 0, .int .i64 0] 43)) (w.heap.size + 1) 43 #[.int .u64 0, .int .u64 0, .int .u64 0, .int .u64 0, .int .i64 0, .int .i64 0] := (by simpa using Blk.new (w.alloc (.cells #[uv a.b.v, uv a.b.m, uv a.lo, uv a.hi, sv a.sl, sv a.sh] 43)) 43 #[.int .u64 0, .int .u64 0, .int .u64 0, .int .u64 0, .int .i64 0, .int .i64 0] : Blk _ (w.heap.size + 1) 43 #[.int .u64 0, .int .u64 0, .int .u64 0, .int .u64 0, .int .i64 0, .int .i64 0])
  have hB : Below w.heap.size w ((w.alloc (.cells #[uv a.b.v, uv a.b.m, uv a.lo, uv a.hi, sv a.sl, sv a.sh] 43)).alloc (.cells #[.int .u64 0, .int .u64 0, .int .u64 0, .int .u64 0, .int .i64 0, .int .i64 0] 43)) := (Bl_alloc (Bl_alloc (Bl_refl w) _) _)
  clear hga
  clear ga
  clear hgr
  clear gr
  generalize ((w.alloc (.cells #[uv a.b.v, uv a.b.m, uv a.lo, uv a.hi, sv a.sl, sv a.sh] 43)).alloc (.cells #[.int .u64 0, .int .u64 0, .int .u64 0, .int .u64 0, .int .i64 0, .int .i64 0] 43)) = w1 at *
  obtain ⟨ca0, ca1, ca2, ca3, ca4, ca5⟩ := cells6 Ba
  have fa := Ba.frozen; have la := Ba.lt
  obtain ⟨cr0, cr1, cr2, cr3, cr4, cr5⟩ := cells6 Br
  have fr := Br.frozen; have lr := Br.lt
  go_wp2
  exact bodyPost_ret (v := rv a) (by simp [results, Tryd.results17, go_sem, ca0, ca1, ca2, ca3, ca4, ca5, cr0, cr1, cr2, cr3, cr4, cr5, la, lr]) rfl ⟨by rw [hs], by repeat (first | (with_reducible exact hB) | (with_reducible refine Bl_set ?_ (by first | omega | (simp; done) | (simp; omega)) _) | with_reducible apply Bl_alloc)⟩
end Go.Proofs.YtmghpoagpiljhaaDoor
