/- The walks of package scalar, third part: Settle. -/
import Derived.Test.YtmghpoagpiljhaaDoorSc2
set_option linter.unusedSimpArgs false
namespace Go.Proofs.YtmghpoagpiljhaaDoor
open Go.RowKit
open PlainTnum (N)
open PlainScalar (Rng)
theorem new_num {o : Oper} (h : isAlloc o = some 41) (ρ : Operand → Value) (w : World) : (execOp ρ o).run Tryd.prog w = .ok (.value (.pointer (some ⟨w.heap.size, 0, none⟩))) (w.alloc (.cells #[.int .u64 0, .int .u64 0] 41)) := by
  obtain ⟨dst, op, type, pos, after, guard⟩ := o
  have := alloc_is h
  simp only at this
  subst this
  go_simp
theorem right_b (a : N) (b : Bool) (h : PlainTnum.rightN a = b) (w : World) : Calls Tryd.prog 85 #[nv a] w fun e w' => e = .returned (.bool b) ∧ Below w.heap.size w w' := by
  rw [← h]; exact right_c a w
theorem settle_walk {a x : Rng} (hx : PlainScalar.signs (PlainScalar.bound a) = x) : PlainScalar.settle a =
    if ¬ (PlainTnum.rightN a.b = true ∧ a.lo.toNat ≤ a.hi.toNat ∧ a.sl.toInt ≤ a.sh.toInt) then (PlainScalar.none_, false) else
    if (PlainScalar.minU a.hi (a.b.v ||| a.b.m)).toNat < (PlainScalar.maxU a.lo a.b.v).toNat then (PlainScalar.none_, false) else
    if x.hi.toNat < x.lo.toNat ∨ x.sh.toInt < x.sl.toInt then (PlainScalar.none_, false) else
    if (PlainTnum.meet x.b (PlainScalar.common x.lo x.hi)).2 = true then (⟨(PlainTnum.meet x.b (PlainScalar.common x.lo x.hi)).1, x.lo, x.hi, x.sl, x.sh⟩, true) else (PlainScalar.none_, false) := by
  subst hx; rfl
theorem T_lt_of {x y : W} (h : decide (T x < T y) = true) : x.toNat < y.toNat := by have := of_decide_eq_true h; rwa [T_lt] at this
theorem T_le_of {x y : W} (h : decide (T x < T y) = false) : y.toNat ≤ x.toNat := by have := of_decide_eq_false h; rw [T_lt] at this; omega
theorem T_nlt_of {x y : W} (h : decide (T x < T y) = false) : ¬ x.toNat < y.toNat := by have := of_decide_eq_false h; rwa [T_lt] at this
theorem S_lt_of {x y : W} (h : decide (S x < S y) = true) : x.toInt < y.toInt := of_decide_eq_true h
theorem S_le_of {x y : W} (h : decide (S x < S y) = false) : y.toInt ≤ x.toInt := by have : ¬ x.toInt < y.toInt := of_decide_eq_false h; omega
theorem S_nlt_of {x y : W} (h : decide (S x < S y) = false) : ¬ x.toInt < y.toInt := of_decide_eq_false h
set_option maxRecDepth 100000 in
set_option maxHeartbeats 3200000 in
theorem settle_c (a : Rng) (w : World) : Calls Tryd.prog 64 #[rv a] w fun e w' => e = .returned (.tuple #[rv (PlainScalar.settle a).1, .bool (PlainScalar.settle a).2]) ∧ Below w.heap.size w w' := by
  generalize hx : PlainScalar.signs (PlainScalar.bound a) = x
  have hw := settle_walk hx
  cases q1 : PlainTnum.rightN a.b
  · go_enter Tryd.func64, Tryd.ntmps64
    go_wp2_with fail
    obtain ⟨ga, hga⟩ : ∃ g, g = w.heap.size := ⟨_, rfl⟩
    obtain ⟨gr, hgr⟩ : ∃ g, g = w.heap.size + 1 := ⟨_, rfl⟩
    have Ba : Blk ((w.alloc (.cells #[uv a.b.v, uv a.b.m, uv a.lo, uv a.hi, sv a.sl, sv a.sh] 43)).alloc (.cells #[.int .u64 0, .int .u64 0, .int .u64 0, .int .u64 0, .int .i64 0, .int .i64 0] 43)) (w.heap.size) 43 #[uv a.b.v, uv a.b.m, uv a.lo, uv a.hi, sv a.sl, sv a.sh] := ((Blk.new w 43 #[uv a.b.v, uv a.b.m, uv a.lo, uv a.hi, sv a.sl, sv a.sh])).alloc _
    have Br : Blk ((w.alloc (.cells #[uv a.b.v, uv a.b.m, uv a.lo, uv a.hi, sv a.sl, sv a.sh] 43)).alloc (.cells #[.int .u64 0, .int .u64 0, .int .u64 0, .int .u64 0, .int .i64 0, .int .i64 0] 43)) (w.heap.size + 1) 43 #[.int .u64 0, .int .u64 0, .int .u64 0, .int .u64 0, .int .i64 0, .int .i64 0] := (by simpa using Blk.new (w.alloc (.cells #[uv a.b.v, uv a.b.m, uv a.lo, uv a.hi, sv a.sl, sv a.sh] 43)) 43 #[.int .u64 0, .int .u64 0, .int .u64 0, .int .u64 0, .int .i64 0, .int .i64 0] : Blk _ (w.heap.size + 1) 43 #[.int .u64 0, .int .u64 0, .int .u64 0, .int .u64 0, .int .i64 0, .int .i64 0])
    have hB : Below w.heap.size w ((w.alloc (.cells #[uv a.b.v, uv a.b.m, uv a.lo, uv a.hi, sv a.sl, sv a.sh] 43)).alloc (.cells #[.int .u64 0, .int .u64 0, .int .u64 0, .int .u64 0, .int .i64 0, .int .i64 0] 43)) := (Bl_alloc (Bl_alloc (Bl_refl w) _) _)
    clear hga
    clear ga
    clear hgr
    clear gr
    generalize ((w.alloc (.cells #[uv a.b.v, uv a.b.m, uv a.lo, uv a.hi, sv a.sl, sv a.sh] 43)).alloc (.cells #[.int .u64 0, .int .u64 0, .int .u64 0, .int .u64 0, .int .i64 0, .int .i64 0] 43)) = w1 at *
    obtain ⟨ca0, ca1, ca2, ca3, ca4, ca5⟩ := cells6 Ba
    have fa := Ba.frozen; have la := Ba.lt
    obtain ⟨cr0, cr1, cr2, cr3, cr4, cr5⟩ := cells6 Br
    have fr := Br.frozen; have lr := Br.lt
    go_wp2_with fail
    refine (right_b _ _ q1 _).mono ?_
    rintro e w2 ⟨rfl, hb⟩
    clear ca0 ca1 ca2 ca3 ca4 ca5 fa la
    clear cr0 cr1 cr2 cr3 cr4 cr5 fr lr
    replace Ba := (Ba).next hb
    replace Br := (Br).next hb
    replace hB : Below w.heap.size w w2 := by repeat (first | exact hB | (refine Bl_set ?_ (by first | omega | (simp; omega)) _) | apply Bl_alloc | (refine Bl_trans ?_ hb))
    clear hb
    obtain ⟨ca0, ca1, ca2, ca3, ca4, ca5⟩ := cells6 Ba
    have fa := Ba.frozen; have la := Ba.lt
    obtain ⟨cr0, cr1, cr2, cr3, cr4, cr5⟩ := cells6 Br
    have fr := Br.frozen; have lr := Br.lt
    have hs : PlainScalar.settle a = (PlainScalar.none_, false) := by rw [hw, if_pos (fun h => by rw [q1] at h; exact absurd h.1 (by decide))]
    go_wp2
    exact bodyPost_ret (v := .tuple #[rv PlainScalar.none_, .bool false]) (by simp [results, Tryd.results64, go_sem, cr0, cr1, cr2, cr3, cr4, cr5, lr, PlainScalar.none_, T, S]) rfl ⟨by rw [hs], by repeat (first | (with_reducible exact hB) | (with_reducible refine Bl_set ?_ (by first | omega | (simp; done) | (simp; omega)) _) | with_reducible apply Bl_alloc)⟩
  · cases q2 : decide (T a.hi < T a.lo)
    · cases q3 : decide (S a.sh < S a.sl)
      · go_enter Tryd.func64, Tryd.ntmps64
        go_wp2_with fail
        obtain ⟨ga, hga⟩ : ∃ g, g = w.heap.size := ⟨_, rfl⟩
        obtain ⟨gr, hgr⟩ : ∃ g, g = w.heap.size + 1 := ⟨_, rfl⟩
        have Ba : Blk ((w.alloc (.cells #[uv a.b.v, uv a.b.m, uv a.lo, uv a.hi, sv a.sl, sv a.sh] 43)).alloc (.cells #[.int .u64 0, .int .u64 0, .int .u64 0, .int .u64 0, .int .i64 0, .int .i64 0] 43)) (w.heap.size) 43 #[uv a.b.v, uv a.b.m, uv a.lo, uv a.hi, sv a.sl, sv a.sh] := ((Blk.new w 43 #[uv a.b.v, uv a.b.m, uv a.lo, uv a.hi, sv a.sl, sv a.sh])).alloc _
        have Br : Blk ((w.alloc (.cells #[uv a.b.v, uv a.b.m, uv a.lo, uv a.hi, sv a.sl, sv a.sh] 43)).alloc (.cells #[.int .u64 0, .int .u64 0, .int .u64 0, .int .u64 0, .int .i64 0, .int .i64 0] 43)) (w.heap.size + 1) 43 #[.int .u64 0, .int .u64 0, .int .u64 0, .int .u64 0, .int .i64 0, .int .i64 0] := (by simpa using Blk.new (w.alloc (.cells #[uv a.b.v, uv a.b.m, uv a.lo, uv a.hi, sv a.sl, sv a.sh] 43)) 43 #[.int .u64 0, .int .u64 0, .int .u64 0, .int .u64 0, .int .i64 0, .int .i64 0] : Blk _ (w.heap.size + 1) 43 #[.int .u64 0, .int .u64 0, .int .u64 0, .int .u64 0, .int .i64 0, .int .i64 0])
        have hB : Below w.heap.size w ((w.alloc (.cells #[uv a.b.v, uv a.b.m, uv a.lo, uv a.hi, sv a.sl, sv a.sh] 43)).alloc (.cells #[.int .u64 0, .int .u64 0, .int .u64 0, .int .u64 0, .int .i64 0, .int .i64 0] 43)) := (Bl_alloc (Bl_alloc (Bl_refl w) _) _)
        clear hga
        clear ga
        clear hgr
        clear gr
        generalize ((w.alloc (.cells #[uv a.b.v, uv a.b.m, uv a.lo, uv a.hi, sv a.sl, sv a.sh] 43)).alloc (.cells #[.int .u64 0, .int .u64 0, .int .u64 0, .int .u64 0, .int .i64 0, .int .i64 0] 43)) = w1 at *
        obtain ⟨ca0, ca1, ca2, ca3, ca4, ca5⟩ := cells6 Ba
        have fa := Ba.frozen; have la := Ba.lt
        obtain ⟨cr0, cr1, cr2, cr3, cr4, cr5⟩ := cells6 Br
        have fr := Br.frozen; have lr := Br.lt
        go_wp2_with fail
        refine (right_b _ _ q1 _).mono ?_
        rintro e w2 ⟨rfl, hb⟩
        clear ca0 ca1 ca2 ca3 ca4 ca5 fa la
        clear cr0 cr1 cr2 cr3 cr4 cr5 fr lr
        replace Ba := (Ba).next hb
        replace Br := (Br).next hb
        replace hB : Below w.heap.size w w2 := by repeat (first | exact hB | (refine Bl_set ?_ (by first | omega | (simp; omega)) _) | apply Bl_alloc | (refine Bl_trans ?_ hb))
        clear hb
        obtain ⟨ca0, ca1, ca2, ca3, ca4, ca5⟩ := cells6 Ba
        have fa := Ba.frozen; have la := Ba.lt
        obtain ⟨cr0, cr1, cr2, cr3, cr4, cr5⟩ := cells6 Br
        have fr := Br.frozen; have lr := Br.lt
        go_upto_region 5 with fail
        clear ca0 ca1 ca2 ca3 ca4 ca5 fa la
        clear cr0 cr1 cr2 cr3 cr4 cr5 fr lr
        have Bb := Blk.new w2 43 #[uv a.b.v, uv a.b.m, uv (PlainScalar.maxU a.lo a.b.v), uv (PlainScalar.minU a.hi (a.b.v ||| a.b.m)), sv a.sl, sv a.sh]
        have hgb := hB.size
        have hnab := Nat.ne_of_lt Ba.lt; have hltab := Ba.lt
        have hnrb := Nat.ne_of_lt Br.lt; have hltrb := Br.lt
        replace Ba : Blk (w2.alloc (.cells #[uv a.b.v, uv a.b.m, uv (PlainScalar.maxU a.lo a.b.v), uv (PlainScalar.minU a.hi (a.b.v ||| a.b.m)), sv a.sl, sv a.sh] 43)) (w.heap.size) 43 #[uv a.b.v, uv a.b.m, uv a.lo, uv a.hi, sv a.sl, sv a.sh] := Ba.alloc _
        replace Br : Blk (w2.alloc (.cells #[uv a.b.v, uv a.b.m, uv (PlainScalar.maxU a.lo a.b.v), uv (PlainScalar.minU a.hi (a.b.v ||| a.b.m)), sv a.sl, sv a.sh] 43)) (w.heap.size + 1) 43 #[.int .u64 0, .int .u64 0, .int .u64 0, .int .u64 0, .int .i64 0, .int .i64 0] := Br.alloc _
        replace hB : Below w.heap.size w (w2.alloc (.cells #[uv a.b.v, uv a.b.m, uv (PlainScalar.maxU a.lo a.b.v), uv (PlainScalar.minU a.hi (a.b.v ||| a.b.m)), sv a.sl, sv a.sh] 43)) := Bl_alloc hB _
        generalize (w2.alloc (.cells #[uv a.b.v, uv a.b.m, uv (PlainScalar.maxU a.lo a.b.v), uv (PlainScalar.minU a.hi (a.b.v ||| a.b.m)), sv a.sl, sv a.sh] 43)) = w3 at *
        generalize w2.heap.size = gb at *
        obtain ⟨ca0, ca1, ca2, ca3, ca4, ca5⟩ := cells6 Ba
        have fa := Ba.frozen; have la := Ba.lt
        obtain ⟨cr0, cr1, cr2, cr3, cr4, cr5⟩ := cells6 Br
        have fr := Br.frozen; have lr := Br.lt
        obtain ⟨cb0, cb1, cb2, cb3, cb4, cb5⟩ := cells6 Bb
        have fb := Bb.frozen; have lb := Bb.lt
        cases q4 : decide (T (PlainScalar.minU a.hi (a.b.v ||| a.b.m)) < T (PlainScalar.maxU a.lo a.b.v))
        · have hx' : PlainScalar.signs (⟨a.b, (PlainScalar.maxU a.lo a.b.v), (PlainScalar.minU a.hi (a.b.v ||| a.b.m)), a.sl, a.sh⟩ : Rng) = x := hx
          go_wp2_with fail
          refine (signs_c (⟨a.b, (PlainScalar.maxU a.lo a.b.v), (PlainScalar.minU a.hi (a.b.v ||| a.b.m)), a.sl, a.sh⟩ : Rng) _ _ Bb).mono ?_
          rintro e w4 ⟨rfl, Bb', hb⟩
          clear ca0 ca1 ca2 ca3 ca4 ca5 fa la
          clear cr0 cr1 cr2 cr3 cr4 cr5 fr lr
          clear cb0 cb1 cb2 cb3 cb4 cb5 fb lb
          rw [hx'] at Bb'
          replace Ba := Ba.below hb hltab
          replace Br := Br.below hb hltrb
          replace Bb := Bb'
          clear Bb'
          replace hB : Below w.heap.size w w4 := hB.trans (hb.mono hgb)
          clear hb
          obtain ⟨ca0, ca1, ca2, ca3, ca4, ca5⟩ := cells6 Ba
          have fa := Ba.frozen; have la := Ba.lt
          obtain ⟨cr0, cr1, cr2, cr3, cr4, cr5⟩ := cells6 Br
          have fr := Br.frozen; have lr := Br.lt
          obtain ⟨cb0, cb1, cb2, cb3, cb4, cb5⟩ := cells6 Bb
          have fb := Bb.frozen; have lb := Bb.lt
          cases q5 : decide (T x.hi < T x.lo)
          · cases q6 : decide (S x.sh < S x.sl)
            · cases q7 : (PlainTnum.meet x.b (PlainScalar.common x.lo x.hi)).2
              · go_wp2_with fail
                clear ca0 ca1 ca2 ca3 ca4 ca5; obtain ⟨ca0, ca1, ca2, ca3, ca4, ca5⟩ := lcells6 Ba
                clear cr0 cr1 cr2 cr3 cr4 cr5; obtain ⟨cr0, cr1, cr2, cr3, cr4, cr5⟩ := lcells6 Br
                clear cb0 cb1 cb2 cb3 cb4 cb5; obtain ⟨cb0, cb1, cb2, cb3, cb4, cb5⟩ := lcells6 Bb
                refine wp_region_mixL 12 (fun k => k == 10) (fun _ => #[.int .u64 0, .int .u64 0]) (by kernel_rfl) (by kernel_rfl) (fun d _ _ _ _ h => by cases d <;> exact h) (fun o t ho ht => by
                  simp at ho
                  rcases ho with rfl | rfl | rfl | rfl | rfl | rfl | rfl | rfl | rfl | rfl | rfl | rfl <;> first | (cases ht; done) | (obtain rfl := Option.some.inj ht; exact fun ρ w => new_num ht ρ w)) ?_
                simp only [List.take_succ_cons, List.take_zero, List.drop_succ_cons, List.drop_zero]
                repeat (refine wpMixL_step (fun K hK => ?_); go_simp; first | (refine hK _ ?_; clear hK K) | (apply Exists.intro; refine ⟨fun g => ?_, hK _ ?_⟩; (go_at_call 88; exact common_c _ _ g.w); clear hK K) | (apply Exists.intro; refine ⟨fun g => ?_, hK _ ?_⟩; (go_at_call 87; exact meet_c _ _ g.w); clear hK K))
                refine wpMixL_nil ?_
                intro G w5 hgr hblk hdist
                have hb : Below w4.heap.size w4 w5 := hgr
                replace Ba := Ba.next hb
                replace Br := Br.next hb
                replace Bb := Bb.next hb
                obtain ⟨Bt, hlt⟩ := hblk 11 _ rfl
                have hgt : w.heap.size ≤ G 11 := Nat.le_trans hB.size hlt
                have hnat : w.heap.size ≠ G 11 := Nat.ne_of_lt (Nat.lt_of_lt_of_le la hlt)
                have hnrt : w.heap.size + 1 ≠ G 11 := Nat.ne_of_lt (Nat.lt_of_lt_of_le lr hlt)
                have hnbt : gb ≠ G 11 := Nat.ne_of_lt (Nat.lt_of_lt_of_le lb hlt)
                clear hlt
                clear ca0 ca1 ca2 ca3 ca4 ca5 fa la
                clear cr0 cr1 cr2 cr3 cr4 cr5 fr lr
                clear cb0 cb1 cb2 cb3 cb4 cb5 fb lb
                replace hB : Below w.heap.size w w5 := Bl_trans hB hb
                simp only [putAll, isAlloc, Act.put]
                generalize G 11 = gt at *
                clear hb hgr hblk hdist
                obtain ⟨ca0, ca1, ca2, ca3, ca4, ca5⟩ := cells6 Ba
                have fa := Ba.frozen; have la := Ba.lt
                obtain ⟨cr0, cr1, cr2, cr3, cr4, cr5⟩ := cells6 Br
                have fr := Br.frozen; have lr := Br.lt
                obtain ⟨cb0, cb1, cb2, cb3, cb4, cb5⟩ := cells6 Bb
                have fb := Bb.frozen; have lb := Bb.lt
                obtain ⟨ct0, ct1⟩ := cells2 Bt
                have ft := Bt.frozen; have lt := Bt.lt
                have hs : PlainScalar.settle a = (PlainScalar.none_, false) := by rw [hw, if_neg (fun h => h ⟨q1, T_le_of q2, S_le_of q3⟩), if_neg (T_nlt_of q4), if_neg (fun h => h.elim (T_nlt_of q5) (S_nlt_of q6)), if_neg (by rw [q7]; decide)]
                go_wp2
                exact bodyPost_ret (v := .tuple #[rv PlainScalar.none_, .bool false]) (by simp [results, Tryd.results64, go_sem, cr0, cr1, cr2, cr3, cr4, cr5, lr, PlainScalar.none_, T, S]) rfl ⟨by rw [hs], by repeat (first | (with_reducible exact hB) | (with_reducible refine Bl_set ?_ (by first | omega | (simp; done) | (simp; omega)) _) | with_reducible apply Bl_alloc)⟩
              · go_wp2_with fail
                clear ca0 ca1 ca2 ca3 ca4 ca5; obtain ⟨ca0, ca1, ca2, ca3, ca4, ca5⟩ := lcells6 Ba
                clear cr0 cr1 cr2 cr3 cr4 cr5; obtain ⟨cr0, cr1, cr2, cr3, cr4, cr5⟩ := lcells6 Br
                clear cb0 cb1 cb2 cb3 cb4 cb5; obtain ⟨cb0, cb1, cb2, cb3, cb4, cb5⟩ := lcells6 Bb
                refine wp_region_mixL 12 (fun k => k == 10) (fun _ => #[.int .u64 0, .int .u64 0]) (by kernel_rfl) (by kernel_rfl) (fun d _ _ _ _ h => by cases d <;> exact h) (fun o t ho ht => by
                  simp at ho
                  rcases ho with rfl | rfl | rfl | rfl | rfl | rfl | rfl | rfl | rfl | rfl | rfl | rfl <;> first | (cases ht; done) | (obtain rfl := Option.some.inj ht; exact fun ρ w => new_num ht ρ w)) ?_
                simp only [List.take_succ_cons, List.take_zero, List.drop_succ_cons, List.drop_zero]
                repeat (refine wpMixL_step (fun K hK => ?_); go_simp; first | (refine hK _ ?_; clear hK K) | (apply Exists.intro; refine ⟨fun g => ?_, hK _ ?_⟩; (go_at_call 88; exact common_c _ _ g.w); clear hK K) | (apply Exists.intro; refine ⟨fun g => ?_, hK _ ?_⟩; (go_at_call 87; exact meet_c _ _ g.w); clear hK K))
                refine wpMixL_nil ?_
                intro G w5 hgr hblk hdist
                have hb : Below w4.heap.size w4 w5 := hgr
                replace Ba := Ba.next hb
                replace Br := Br.next hb
                replace Bb := Bb.next hb
                obtain ⟨Bt, hlt⟩ := hblk 11 _ rfl
                have hgt : w.heap.size ≤ G 11 := Nat.le_trans hB.size hlt
                have hnat : w.heap.size ≠ G 11 := Nat.ne_of_lt (Nat.lt_of_lt_of_le la hlt)
                have hnrt : w.heap.size + 1 ≠ G 11 := Nat.ne_of_lt (Nat.lt_of_lt_of_le lr hlt)
                have hnbt : gb ≠ G 11 := Nat.ne_of_lt (Nat.lt_of_lt_of_le lb hlt)
                clear hlt
                clear ca0 ca1 ca2 ca3 ca4 ca5 fa la
                clear cr0 cr1 cr2 cr3 cr4 cr5 fr lr
                clear cb0 cb1 cb2 cb3 cb4 cb5 fb lb
                replace hB : Below w.heap.size w w5 := Bl_trans hB hb
                simp only [putAll, isAlloc, Act.put]
                generalize G 11 = gt at *
                clear hb hgr hblk hdist
                obtain ⟨ca0, ca1, ca2, ca3, ca4, ca5⟩ := cells6 Ba
                have fa := Ba.frozen; have la := Ba.lt
                obtain ⟨cr0, cr1, cr2, cr3, cr4, cr5⟩ := cells6 Br
                have fr := Br.frozen; have lr := Br.lt
                obtain ⟨cb0, cb1, cb2, cb3, cb4, cb5⟩ := cells6 Bb
                have fb := Bb.frozen; have lb := Bb.lt
                obtain ⟨ct0, ct1⟩ := cells2 Bt
                have ft := Bt.frozen; have lt := Bt.lt
                have hs : PlainScalar.settle a = (⟨(PlainTnum.meet x.b (PlainScalar.common x.lo x.hi)).1, x.lo, x.hi, x.sl, x.sh⟩, true) := by rw [hw, if_neg (fun h => h ⟨q1, T_le_of q2, S_le_of q3⟩), if_neg (T_nlt_of q4), if_neg (fun h => h.elim (T_nlt_of q5) (S_nlt_of q6)), if_pos q7]
                go_upto_region 13 with fail
                clear ca0 ca1 ca2 ca3 ca4 ca5 fa la
                clear cr0 cr1 cr2 cr3 cr4 cr5 fr lr
                clear cb0 cb1 cb2 cb3 cb4 cb5 fb lb
                clear ct0 ct1 ft lt
                replace Ba : Blk ((w5.setCell ⟨gt, 0, none⟩ (uv (PlainTnum.meet x.b (PlainScalar.common x.lo x.hi)).1.v)).setCell ⟨gt, 1, none⟩ (uv (PlainTnum.meet x.b (PlainScalar.common x.lo x.hi)).1.m)) (w.heap.size) 43 #[uv a.b.v, uv a.b.m, uv a.lo, uv a.hi, sv a.sl, sv a.sh] := ((Ba.far (by first | (simp; done) | (simp; omega) | (simp [*]; done) | (simp only [ne_eq]; constructor <;> omega)) _).far (by first | (simp; done) | (simp; omega) | (simp [*]; done) | (simp only [ne_eq]; constructor <;> omega)) _)
                replace Br : Blk ((w5.setCell ⟨gt, 0, none⟩ (uv (PlainTnum.meet x.b (PlainScalar.common x.lo x.hi)).1.v)).setCell ⟨gt, 1, none⟩ (uv (PlainTnum.meet x.b (PlainScalar.common x.lo x.hi)).1.m)) (w.heap.size + 1) 43 #[.int .u64 0, .int .u64 0, .int .u64 0, .int .u64 0, .int .i64 0, .int .i64 0] := ((Br.far (by first | (simp; done) | (simp; omega) | (simp [*]; done) | (simp only [ne_eq]; constructor <;> omega)) _).far (by first | (simp; done) | (simp; omega) | (simp [*]; done) | (simp only [ne_eq]; constructor <;> omega)) _)
                replace Bb : Blk ((w5.setCell ⟨gt, 0, none⟩ (uv (PlainTnum.meet x.b (PlainScalar.common x.lo x.hi)).1.v)).setCell ⟨gt, 1, none⟩ (uv (PlainTnum.meet x.b (PlainScalar.common x.lo x.hi)).1.m)) (gb) 43 #[uv x.b.v, uv x.b.m, uv x.lo, uv x.hi, sv x.sl, sv x.sh] := ((Bb.far (by first | (simp; done) | (simp; omega) | (simp [*]; done) | (simp only [ne_eq]; constructor <;> omega)) _).far (by first | (simp; done) | (simp; omega) | (simp [*]; done) | (simp only [ne_eq]; constructor <;> omega)) _)
                replace Bt : Blk ((w5.setCell ⟨gt, 0, none⟩ (uv (PlainTnum.meet x.b (PlainScalar.common x.lo x.hi)).1.v)).setCell ⟨gt, 1, none⟩ (uv (PlainTnum.meet x.b (PlainScalar.common x.lo x.hi)).1.m)) (gt) 41 #[uv (PlainTnum.meet x.b (PlainScalar.common x.lo x.hi)).1.v, uv (PlainTnum.meet x.b (PlainScalar.common x.lo x.hi)).1.m] := ((Bt.set_ 0 _).set_ 1 _)
                replace hB : Below w.heap.size w ((w5.setCell ⟨gt, 0, none⟩ (uv (PlainTnum.meet x.b (PlainScalar.common x.lo x.hi)).1.v)).setCell ⟨gt, 1, none⟩ (uv (PlainTnum.meet x.b (PlainScalar.common x.lo x.hi)).1.m)) := (Bl_set (Bl_set hB (by first | omega | (simp; done) | (simp; omega)) _) (by first | omega | (simp; done) | (simp; omega)) _)
                generalize ((w5.setCell ⟨gt, 0, none⟩ (uv (PlainTnum.meet x.b (PlainScalar.common x.lo x.hi)).1.v)).setCell ⟨gt, 1, none⟩ (uv (PlainTnum.meet x.b (PlainScalar.common x.lo x.hi)).1.m)) = w6 at *
                obtain ⟨ca0, ca1, ca2, ca3, ca4, ca5⟩ := cells6 Ba
                have fa := Ba.frozen; have la := Ba.lt
                obtain ⟨cr0, cr1, cr2, cr3, cr4, cr5⟩ := cells6 Br
                have fr := Br.frozen; have lr := Br.lt
                obtain ⟨cb0, cb1, cb2, cb3, cb4, cb5⟩ := cells6 Bb
                have fb := Bb.frozen; have lb := Bb.lt
                obtain ⟨ct0, ct1⟩ := cells2 Bt
                have ft := Bt.frozen; have lt := Bt.lt
                go_wp2
                exact bodyPost_ret (v := .tuple #[rv ⟨(PlainTnum.meet x.b (PlainScalar.common x.lo x.hi)).1, x.lo, x.hi, x.sl, x.sh⟩, .bool true]) (by simp [results, Tryd.results64, go_sem, cr0, cr1, cr2, cr3, cr4, cr5, lr]) rfl ⟨by rw [hs], by repeat (first | (with_reducible exact hB) | (with_reducible refine Bl_set ?_ (by first | omega | (simp; done) | (simp; omega)) _) | with_reducible apply Bl_alloc)⟩
            · have hs : PlainScalar.settle a = (PlainScalar.none_, false) := by rw [hw, if_neg (fun h => h ⟨q1, T_le_of q2, S_le_of q3⟩), if_neg (T_nlt_of q4), if_pos (Or.inr (S_lt_of q6))]
              go_wp2
              exact bodyPost_ret (v := .tuple #[rv PlainScalar.none_, .bool false]) (by simp [results, Tryd.results64, go_sem, cr0, cr1, cr2, cr3, cr4, cr5, lr, PlainScalar.none_, T, S]) rfl ⟨by rw [hs], by repeat (first | (with_reducible exact hB) | (with_reducible refine Bl_set ?_ (by first | omega | (simp; done) | (simp; omega)) _) | with_reducible apply Bl_alloc)⟩
          · have hs : PlainScalar.settle a = (PlainScalar.none_, false) := by rw [hw, if_neg (fun h => h ⟨q1, T_le_of q2, S_le_of q3⟩), if_neg (T_nlt_of q4), if_pos (Or.inl (T_lt_of q5))]
            go_wp2
            exact bodyPost_ret (v := .tuple #[rv PlainScalar.none_, .bool false]) (by simp [results, Tryd.results64, go_sem, cr0, cr1, cr2, cr3, cr4, cr5, lr, PlainScalar.none_, T, S]) rfl ⟨by rw [hs], by repeat (first | (with_reducible exact hB) | (with_reducible refine Bl_set ?_ (by first | omega | (simp; done) | (simp; omega)) _) | with_reducible apply Bl_alloc)⟩
        · have hs : PlainScalar.settle a = (PlainScalar.none_, false) := by rw [hw, if_neg (fun h => h ⟨q1, T_le_of q2, S_le_of q3⟩), if_pos (T_lt_of q4)]
          go_wp2
          exact bodyPost_ret (v := .tuple #[rv PlainScalar.none_, .bool false]) (by simp [results, Tryd.results64, go_sem, cr0, cr1, cr2, cr3, cr4, cr5, lr, PlainScalar.none_, T, S]) rfl ⟨by rw [hs], by repeat (first | (with_reducible exact hB) | (with_reducible refine Bl_set ?_ (by first | omega | (simp; done) | (simp; omega)) _) | with_reducible apply Bl_alloc)⟩
      · go_enter Tryd.func64, Tryd.ntmps64
        go_wp2_with fail
        obtain ⟨ga, hga⟩ : ∃ g, g = w.heap.size := ⟨_, rfl⟩
        obtain ⟨gr, hgr⟩ : ∃ g, g = w.heap.size + 1 := ⟨_, rfl⟩
        have Ba : Blk ((w.alloc (.cells #[uv a.b.v, uv a.b.m, uv a.lo, uv a.hi, sv a.sl, sv a.sh] 43)).alloc (.cells #[.int .u64 0, .int .u64 0, .int .u64 0, .int .u64 0, .int .i64 0, .int .i64 0] 43)) (w.heap.size) 43 #[uv a.b.v, uv a.b.m, uv a.lo, uv a.hi, sv a.sl, sv a.sh] := ((Blk.new w 43 #[uv a.b.v, uv a.b.m, uv a.lo, uv a.hi, sv a.sl, sv a.sh])).alloc _
        have Br : Blk ((w.alloc (.cells #[uv a.b.v, uv a.b.m, uv a.lo, uv a.hi, sv a.sl, sv a.sh] 43)).alloc (.cells #[.int .u64 0, .int .u64 0, .int .u64 0, .int .u64 0, .int .i64 0, .int .i64 0] 43)) (w.heap.size + 1) 43 #[.int .u64 0, .int .u64 0, .int .u64 0, .int .u64 0, .int .i64 0, .int .i64 0] := (by simpa using Blk.new (w.alloc (.cells #[uv a.b.v, uv a.b.m, uv a.lo, uv a.hi, sv a.sl, sv a.sh] 43)) 43 #[.int .u64 0, .int .u64 0, .int .u64 0, .int .u64 0, .int .i64 0, .int .i64 0] : Blk _ (w.heap.size + 1) 43 #[.int .u64 0, .int .u64 0, .int .u64 0, .int .u64 0, .int .i64 0, .int .i64 0])
        have hB : Below w.heap.size w ((w.alloc (.cells #[uv a.b.v, uv a.b.m, uv a.lo, uv a.hi, sv a.sl, sv a.sh] 43)).alloc (.cells #[.int .u64 0, .int .u64 0, .int .u64 0, .int .u64 0, .int .i64 0, .int .i64 0] 43)) := (Bl_alloc (Bl_alloc (Bl_refl w) _) _)
        clear hga
        clear ga
        clear hgr
        clear gr
        generalize ((w.alloc (.cells #[uv a.b.v, uv a.b.m, uv a.lo, uv a.hi, sv a.sl, sv a.sh] 43)).alloc (.cells #[.int .u64 0, .int .u64 0, .int .u64 0, .int .u64 0, .int .i64 0, .int .i64 0] 43)) = w1 at *
        obtain ⟨ca0, ca1, ca2, ca3, ca4, ca5⟩ := cells6 Ba
        have fa := Ba.frozen; have la := Ba.lt
        obtain ⟨cr0, cr1, cr2, cr3, cr4, cr5⟩ := cells6 Br
        have fr := Br.frozen; have lr := Br.lt
        go_wp2_with fail
        refine (right_b _ _ q1 _).mono ?_
        rintro e w2 ⟨rfl, hb⟩
        clear ca0 ca1 ca2 ca3 ca4 ca5 fa la
        clear cr0 cr1 cr2 cr3 cr4 cr5 fr lr
        replace Ba := (Ba).next hb
        replace Br := (Br).next hb
        replace hB : Below w.heap.size w w2 := by repeat (first | exact hB | (refine Bl_set ?_ (by first | omega | (simp; omega)) _) | apply Bl_alloc | (refine Bl_trans ?_ hb))
        clear hb
        obtain ⟨ca0, ca1, ca2, ca3, ca4, ca5⟩ := cells6 Ba
        have fa := Ba.frozen; have la := Ba.lt
        obtain ⟨cr0, cr1, cr2, cr3, cr4, cr5⟩ := cells6 Br
        have fr := Br.frozen; have lr := Br.lt
        have hs : PlainScalar.settle a = (PlainScalar.none_, false) := by rw [hw, if_pos (fun h => absurd (S_lt_of q3) (by omega))]
        go_wp2
        exact bodyPost_ret (v := .tuple #[rv PlainScalar.none_, .bool false]) (by simp [results, Tryd.results64, go_sem, cr0, cr1, cr2, cr3, cr4, cr5, lr, PlainScalar.none_, T, S]) rfl ⟨by rw [hs], by repeat (first | (with_reducible exact hB) | (with_reducible refine Bl_set ?_ (by first | omega | (simp; done) | (simp; omega)) _) | with_reducible apply Bl_alloc)⟩
    · go_enter Tryd.func64, Tryd.ntmps64
      go_wp2_with fail
      obtain ⟨ga, hga⟩ : ∃ g, g = w.heap.size := ⟨_, rfl⟩
      obtain ⟨gr, hgr⟩ : ∃ g, g = w.heap.size + 1 := ⟨_, rfl⟩
      have Ba : Blk ((w.alloc (.cells #[uv a.b.v, uv a.b.m, uv a.lo, uv a.hi, sv a.sl, sv a.sh] 43)).alloc (.cells #[.int .u64 0, .int .u64 0, .int .u64 0, .int .u64 0, .int .i64 0, .int .i64 0] 43)) (w.heap.size) 43 #[uv a.b.v, uv a.b.m, uv a.lo, uv a.hi, sv a.sl, sv a.sh] := ((Blk.new w 43 #[uv a.b.v, uv a.b.m, uv a.lo, uv a.hi, sv a.sl, sv a.sh])).alloc _
      have Br : Blk ((w.alloc (.cells #[uv a.b.v, uv a.b.m, uv a.lo, uv a.hi, sv a.sl, sv a.sh] 43)).alloc (.cells #[.int .u64 0, .int .u64 0, .int .u64 0, .int .u64 0, .int .i64 0, .int .i64 0] 43)) (w.heap.size + 1) 43 #[.int .u64 0, .int .u64 0, .int .u64 0, .int .u64 0, .int .i64 0, .int .i64 0] := (by simpa using Blk.new (w.alloc (.cells #[uv a.b.v, uv a.b.m, uv a.lo, uv a.hi, sv a.sl, sv a.sh] 43)) 43 #[.int .u64 0, .int .u64 0, .int .u64 0, .int .u64 0, .int .i64 0, .int .i64 0] : Blk _ (w.heap.size + 1) 43 #[.int .u64 0, .int .u64 0, .int .u64 0, .int .u64 0, .int .i64 0, .int .i64 0])
      have hB : Below w.heap.size w ((w.alloc (.cells #[uv a.b.v, uv a.b.m, uv a.lo, uv a.hi, sv a.sl, sv a.sh] 43)).alloc (.cells #[.int .u64 0, .int .u64 0, .int .u64 0, .int .u64 0, .int .i64 0, .int .i64 0] 43)) := (Bl_alloc (Bl_alloc (Bl_refl w) _) _)
      clear hga
      clear ga
      clear hgr
      clear gr
      generalize ((w.alloc (.cells #[uv a.b.v, uv a.b.m, uv a.lo, uv a.hi, sv a.sl, sv a.sh] 43)).alloc (.cells #[.int .u64 0, .int .u64 0, .int .u64 0, .int .u64 0, .int .i64 0, .int .i64 0] 43)) = w1 at *
      obtain ⟨ca0, ca1, ca2, ca3, ca4, ca5⟩ := cells6 Ba
      have fa := Ba.frozen; have la := Ba.lt
      obtain ⟨cr0, cr1, cr2, cr3, cr4, cr5⟩ := cells6 Br
      have fr := Br.frozen; have lr := Br.lt
      go_wp2_with fail
      refine (right_b _ _ q1 _).mono ?_
      rintro e w2 ⟨rfl, hb⟩
      clear ca0 ca1 ca2 ca3 ca4 ca5 fa la
      clear cr0 cr1 cr2 cr3 cr4 cr5 fr lr
      replace Ba := (Ba).next hb
      replace Br := (Br).next hb
      replace hB : Below w.heap.size w w2 := by repeat (first | exact hB | (refine Bl_set ?_ (by first | omega | (simp; omega)) _) | apply Bl_alloc | (refine Bl_trans ?_ hb))
      clear hb
      obtain ⟨ca0, ca1, ca2, ca3, ca4, ca5⟩ := cells6 Ba
      have fa := Ba.frozen; have la := Ba.lt
      obtain ⟨cr0, cr1, cr2, cr3, cr4, cr5⟩ := cells6 Br
      have fr := Br.frozen; have lr := Br.lt
      have hs : PlainScalar.settle a = (PlainScalar.none_, false) := by rw [hw, if_pos (fun h => absurd (T_lt_of q2) (by omega))]
      go_wp2
      exact bodyPost_ret (v := .tuple #[rv PlainScalar.none_, .bool false]) (by simp [results, Tryd.results64, go_sem, cr0, cr1, cr2, cr3, cr4, cr5, lr, PlainScalar.none_, T, S]) rfl ⟨by rw [hs], by repeat (first | (with_reducible exact hB) | (with_reducible refine Bl_set ?_ (by first | omega | (simp; done) | (simp; omega)) _) | with_reducible apply Bl_alloc)⟩
end Go.Proofs.YtmghpoagpiljhaaDoor
