/- The walks of package branch, second part: pairs of ranges. -/
import Derived.Test.YtmghpoagpiljhabBr
import Derived.Test.YtmghpoagpiljhabSc3
set_option linter.unusedSimpArgs false
namespace Go.Proofs.Ytmghpoagpiljhab
open Go.RowKit
open PlainTnum (N)
open PlainScalar (Rng)
/-- Two ranges as a value. -/
abbrev pv2 (a b : Rng) : Value := .agg #[uv a.b.v, uv a.b.m, uv a.lo, uv a.hi, sv a.sl, sv a.sh, uv b.b.v, uv b.b.m, uv b.lo, uv b.hi, sv b.sl, sv b.sh]
/-- Two ranges, and whether they are right. -/
abbrev tv (R : PlainBranch.Pair × Bool) : Value := .tuple #[pv2 R.1.1 R.1.2, .bool R.2]
theorem T_beqAll (x : W) : (T x == 18446744073709551615) = (x == BitVec.allOnes 64) := by rw [← T_beq]; rfl
theorem S_beqMax (x : W) : (S x == 9223372036854775807) = (x == PlainScalar.maxI) := by rw [← S_beq]; rfl
theorem S_beqMin (x : W) : (S x == -9223372036854775808) = (x == PlainScalar.minI) := by rw [← S_beq]; rfl
theorem i_up (x : W) : wrap64 (S x + 1) = S (x + 1#64) := by rw [w64, BitVec.ofInt_add, ofInt_S]; rfl
theorem i_up' (x : W) : IntKind.i64.wrap (S x + 1) = S (x + 1#64) := by rw [wrap_i, BitVec.ofInt_add, ofInt_S]; rfl
theorem i_down (x : W) : wrap64 (S x - 1) = S (x - 1#64) := by rw [Int.sub_eq_add_neg, w64, BitVec.ofInt_add, BitVec.ofInt_neg, ofInt_S, BitVec.sub_eq_add_neg]; rfl
theorem i_down' (x : W) : IntKind.i64.wrap (S x - 1) = S (x - 1#64) := by rw [Int.sub_eq_add_neg, wrap_i, BitVec.ofInt_add, BitVec.ofInt_neg, ofInt_S, BitVec.sub_eq_add_neg]; rfl
set_option maxRecDepth 100000 in
set_option maxHeartbeats 3200000 in
theorem swapped_c (a b : Rng) (w : World) : Calls Try.prog 86 #[pv2 a b] w fun e w' => e = .returned (pv2 b a) ∧ Below w.heap.size w w' := by
  go_enter Try.func86, Try.ntmps86
  go_upto_region 1 with fail
  obtain ⟨gp, hgp⟩ : ∃ g, g = w.heap.size := ⟨_, rfl⟩
  obtain ⟨gr, hgr⟩ : ∃ g, g = w.heap.size + 1 := ⟨_, rfl⟩
  have Bp : Blk ((w.alloc (.cells #[uv a.b.v, uv a.b.m, uv a.lo, uv a.hi, sv a.sl, sv a.sh, uv b.b.v, uv b.b.m, uv b.lo, uv b.hi, sv b.sl, sv b.sh] 118)).alloc (.cells #[.int .u64 0, .int .u64 0, .int .u64 0, .int .u64 0, .int .i64 0, .int .i64 0, .int .u64 0, .int .u64 0, .int .u64 0, .int .u64 0, .int .i64 0, .int .i64 0] 118)) (w.heap.size) 118 #[uv a.b.v, uv a.b.m, uv a.lo, uv a.hi, sv a.sl, sv a.sh, uv b.b.v, uv b.b.m, uv b.lo, uv b.hi, sv b.sl, sv b.sh] := ((Blk.new w 118 #[uv a.b.v, uv a.b.m, uv a.lo, uv a.hi, sv a.sl, sv a.sh, uv b.b.v, uv b.b.m, uv b.lo, uv b.hi, sv b.sl, sv b.sh])).alloc _
  have Br : Blk ((w.alloc (.cells #[uv a.b.v, uv a.b.m, uv a.lo, uv a.hi, sv a.sl, sv a.sh, uv b.b.v, uv b.b.m, uv b.lo, uv b.hi, sv b.sl, sv b.sh] 118)).alloc (.cells #[.int .u64 0, .int .u64 0, .int .u64 0, .int .u64 0, .int .i64 0, .int .i64 0, .int .u64 0, .int .u64 0, .int .u64 0, .int .u64 0, .int .i64 0, .int .i64 0] 118)) (w.heap.size + 1) 118 #[.int .u64 0, .int .u64 0, .int .u64 0, .int .u64 0, .int .i64 0, .int .i64 0, .int .u64 0, .int .u64 0, .int .u64 0, .int .u64 0, .int .i64 0, .int .i64 0] := (by simpa using Blk.new (w.alloc (.cells #[uv a.b.v, uv a.b.m, uv a.lo, uv a.hi, sv a.sl, sv a.sh, uv b.b.v, uv b.b.m, uv b.lo, uv b.hi, sv b.sl, sv b.sh] 118)) 118 #[.int .u64 0, .int .u64 0, .int .u64 0, .int .u64 0, .int .i64 0, .int .i64 0, .int .u64 0, .int .u64 0, .int .u64 0, .int .u64 0, .int .i64 0, .int .i64 0] : Blk _ (w.heap.size + 1) 118 #[.int .u64 0, .int .u64 0, .int .u64 0, .int .u64 0, .int .i64 0, .int .i64 0, .int .u64 0, .int .u64 0, .int .u64 0, .int .u64 0, .int .i64 0, .int .i64 0])
  have hB : Below w.heap.size w ((w.alloc (.cells #[uv a.b.v, uv a.b.m, uv a.lo, uv a.hi, sv a.sl, sv a.sh, uv b.b.v, uv b.b.m, uv b.lo, uv b.hi, sv b.sl, sv b.sh] 118)).alloc (.cells #[.int .u64 0, .int .u64 0, .int .u64 0, .int .u64 0, .int .i64 0, .int .i64 0, .int .u64 0, .int .u64 0, .int .u64 0, .int .u64 0, .int .i64 0, .int .i64 0] 118)) := (Bl_alloc (Bl_alloc (Bl_refl w) _) _)
  clear hgp
  clear gp
  clear hgr
  clear gr
  generalize ((w.alloc (.cells #[uv a.b.v, uv a.b.m, uv a.lo, uv a.hi, sv a.sl, sv a.sh, uv b.b.v, uv b.b.m, uv b.lo, uv b.hi, sv b.sl, sv b.sh] 118)).alloc (.cells #[.int .u64 0, .int .u64 0, .int .u64 0, .int .u64 0, .int .i64 0, .int .i64 0, .int .u64 0, .int .u64 0, .int .u64 0, .int .u64 0, .int .i64 0, .int .i64 0] 118)) = w1 at *
  obtain ⟨cp0, cp1, cp2, cp3, cp4, cp5, cp6, cp7, cp8, cp9, cp10, cp11⟩ := cells12 Bp
  have fp := Bp.frozen; have lp := Bp.lt
  obtain ⟨cr0, cr1, cr2, cr3, cr4, cr5, cr6, cr7, cr8, cr9, cr10, cr11⟩ := cells12 Br
  have fr := Br.frozen; have lr := Br.lt
  go_wp2
  exact bodyPost_ret (v := pv2 b a) (by simp [results, Try.results86, go_sem, cp0, cp1, cp2, cp3, cp4, cp5, cp6, cp7, cp8, cp9, cp10, cp11, cr0, cr1, cr2, cr3, cr4, cr5, cr6, cr7, cr8, cr9, cr10, cr11, lp, lr]) rfl ⟨rfl, by repeat (first | (with_reducible exact hB) | (with_reducible refine Bl_set ?_ (by first | omega | (simp; done) | (simp; omega)) _) | with_reducible apply Bl_alloc)⟩
set_option maxRecDepth 100000 in
set_option maxHeartbeats 3200000 in
theorem psettle_c (a b : Rng) (w : World) : Calls Try.prog 71 #[pv2 a b] w fun e w' => e = .returned (tv (PlainBranch.settleP (a, b))) ∧ Below w.heap.size w w' := by
  obtain ⟨sa, e_sa⟩ : ∃ z' : Rng, z' = (PlainScalar.settle a).1 := ⟨_, rfl⟩
  obtain ⟨oa, e_oa⟩ : ∃ z' : Bool, z' = (PlainScalar.settle a).2 := ⟨_, rfl⟩
  have k_a : ∀ w : World, Calls Try.prog 24 #[rv a] w fun e w' => e = .returned (.tuple #[rv sa, .bool oa]) ∧ Below w.heap.size w w' := fun w => by rw [e_sa, e_oa]; exact settle_c a w
  obtain ⟨sb, e_sb⟩ : ∃ z' : Rng, z' = (PlainScalar.settle b).1 := ⟨_, rfl⟩
  obtain ⟨ob, e_ob⟩ : ∃ z' : Bool, z' = (PlainScalar.settle b).2 := ⟨_, rfl⟩
  have k_b : ∀ w : World, Calls Try.prog 24 #[rv b] w fun e w' => e = .returned (.tuple #[rv sb, .bool ob]) ∧ Below w.heap.size w w' := fun w => by rw [e_sb, e_ob]; exact settle_c b w
  have hs : PlainBranch.settleP (a, b) = ((sa, sb), oa && ob) := by rw [e_sa, e_sb, e_oa, e_ob]; rfl
  clear e_sa e_sb e_oa e_ob
  cases oa
  · go_enter Try.func71, Try.ntmps71
    go_wp2_with fail
    obtain ⟨gp, hgp⟩ : ∃ g, g = w.heap.size := ⟨_, rfl⟩
    obtain ⟨gr, hgr⟩ : ∃ g, g = w.heap.size + 1 := ⟨_, rfl⟩
    have Bp : Blk ((w.alloc (.cells #[uv a.b.v, uv a.b.m, uv a.lo, uv a.hi, sv a.sl, sv a.sh, uv b.b.v, uv b.b.m, uv b.lo, uv b.hi, sv b.sl, sv b.sh] 118)).alloc (.cells #[.int .u64 0, .int .u64 0, .int .u64 0, .int .u64 0, .int .i64 0, .int .i64 0, .int .u64 0, .int .u64 0, .int .u64 0, .int .u64 0, .int .i64 0, .int .i64 0] 118)) (w.heap.size) 118 #[uv a.b.v, uv a.b.m, uv a.lo, uv a.hi, sv a.sl, sv a.sh, uv b.b.v, uv b.b.m, uv b.lo, uv b.hi, sv b.sl, sv b.sh] := ((Blk.new w 118 #[uv a.b.v, uv a.b.m, uv a.lo, uv a.hi, sv a.sl, sv a.sh, uv b.b.v, uv b.b.m, uv b.lo, uv b.hi, sv b.sl, sv b.sh])).alloc _
    have Br : Blk ((w.alloc (.cells #[uv a.b.v, uv a.b.m, uv a.lo, uv a.hi, sv a.sl, sv a.sh, uv b.b.v, uv b.b.m, uv b.lo, uv b.hi, sv b.sl, sv b.sh] 118)).alloc (.cells #[.int .u64 0, .int .u64 0, .int .u64 0, .int .u64 0, .int .i64 0, .int .i64 0, .int .u64 0, .int .u64 0, .int .u64 0, .int .u64 0, .int .i64 0, .int .i64 0] 118)) (w.heap.size + 1) 118 #[.int .u64 0, .int .u64 0, .int .u64 0, .int .u64 0, .int .i64 0, .int .i64 0, .int .u64 0, .int .u64 0, .int .u64 0, .int .u64 0, .int .i64 0, .int .i64 0] := (by simpa using Blk.new (w.alloc (.cells #[uv a.b.v, uv a.b.m, uv a.lo, uv a.hi, sv a.sl, sv a.sh, uv b.b.v, uv b.b.m, uv b.lo, uv b.hi, sv b.sl, sv b.sh] 118)) 118 #[.int .u64 0, .int .u64 0, .int .u64 0, .int .u64 0, .int .i64 0, .int .i64 0, .int .u64 0, .int .u64 0, .int .u64 0, .int .u64 0, .int .i64 0, .int .i64 0] : Blk _ (w.heap.size + 1) 118 #[.int .u64 0, .int .u64 0, .int .u64 0, .int .u64 0, .int .i64 0, .int .i64 0, .int .u64 0, .int .u64 0, .int .u64 0, .int .u64 0, .int .i64 0, .int .i64 0])
    have hB : Below w.heap.size w ((w.alloc (.cells #[uv a.b.v, uv a.b.m, uv a.lo, uv a.hi, sv a.sl, sv a.sh, uv b.b.v, uv b.b.m, uv b.lo, uv b.hi, sv b.sl, sv b.sh] 118)).alloc (.cells #[.int .u64 0, .int .u64 0, .int .u64 0, .int .u64 0, .int .i64 0, .int .i64 0, .int .u64 0, .int .u64 0, .int .u64 0, .int .u64 0, .int .i64 0, .int .i64 0] 118)) := (Bl_alloc (Bl_alloc (Bl_refl w) _) _)
    clear hgp
    clear gp
    clear hgr
    clear gr
    generalize ((w.alloc (.cells #[uv a.b.v, uv a.b.m, uv a.lo, uv a.hi, sv a.sl, sv a.sh, uv b.b.v, uv b.b.m, uv b.lo, uv b.hi, sv b.sl, sv b.sh] 118)).alloc (.cells #[.int .u64 0, .int .u64 0, .int .u64 0, .int .u64 0, .int .i64 0, .int .i64 0, .int .u64 0, .int .u64 0, .int .u64 0, .int .u64 0, .int .i64 0, .int .i64 0] 118)) = w1 at *
    obtain ⟨cp0, cp1, cp2, cp3, cp4, cp5, cp6, cp7, cp8, cp9, cp10, cp11⟩ := cells12 Bp
    have fp := Bp.frozen; have lp := Bp.lt
    obtain ⟨cr0, cr1, cr2, cr3, cr4, cr5, cr6, cr7, cr8, cr9, cr10, cr11⟩ := cells12 Br
    have fr := Br.frozen; have lr := Br.lt
    go_wp2_with fail
    refine (k_a _).mono ?_
    rintro e w2 ⟨rfl, hb⟩
    clear cp0 cp1 cp2 cp3 cp4 cp5 cp6 cp7 cp8 cp9 cp10 cp11 fp lp
    clear cr0 cr1 cr2 cr3 cr4 cr5 cr6 cr7 cr8 cr9 cr10 cr11 fr lr
    replace Bp := (Bp).next hb
    replace Br := (Br).next hb
    replace hB : Below w.heap.size w w2 := by repeat (first | exact hB | (refine Bl_set ?_ (by first | omega | (simp; omega)) _) | apply Bl_alloc | (refine Bl_trans ?_ hb))
    clear hb
    obtain ⟨cp0, cp1, cp2, cp3, cp4, cp5, cp6, cp7, cp8, cp9, cp10, cp11⟩ := cells12 Bp
    have fp := Bp.frozen; have lp := Bp.lt
    obtain ⟨cr0, cr1, cr2, cr3, cr4, cr5, cr6, cr7, cr8, cr9, cr10, cr11⟩ := cells12 Br
    have fr := Br.frozen; have lr := Br.lt
    go_upto_region 2 with fail
    clear cp0 cp1 cp2 cp3 cp4 cp5 cp6 cp7 cp8 cp9 cp10 cp11 fp lp
    clear cr0 cr1 cr2 cr3 cr4 cr5 cr6 cr7 cr8 cr9 cr10 cr11 fr lr
    have Bx := Blk.new w2 27 #[uv sa.b.v, uv sa.b.m, uv sa.lo, uv sa.hi, sv sa.sl, sv sa.sh]
    have hgx := hB.size
    have hnpx := Nat.ne_of_lt Bp.lt; have hltpx := Bp.lt
    have hnrx := Nat.ne_of_lt Br.lt; have hltrx := Br.lt
    replace Bp : Blk (w2.alloc (.cells #[uv sa.b.v, uv sa.b.m, uv sa.lo, uv sa.hi, sv sa.sl, sv sa.sh] 27)) (w.heap.size) 118 #[uv a.b.v, uv a.b.m, uv a.lo, uv a.hi, sv a.sl, sv a.sh, uv b.b.v, uv b.b.m, uv b.lo, uv b.hi, sv b.sl, sv b.sh] := Bp.alloc _
    replace Br : Blk (w2.alloc (.cells #[uv sa.b.v, uv sa.b.m, uv sa.lo, uv sa.hi, sv sa.sl, sv sa.sh] 27)) (w.heap.size + 1) 118 #[.int .u64 0, .int .u64 0, .int .u64 0, .int .u64 0, .int .i64 0, .int .i64 0, .int .u64 0, .int .u64 0, .int .u64 0, .int .u64 0, .int .i64 0, .int .i64 0] := Br.alloc _
    replace hB : Below w.heap.size w (w2.alloc (.cells #[uv sa.b.v, uv sa.b.m, uv sa.lo, uv sa.hi, sv sa.sl, sv sa.sh] 27)) := Bl_alloc hB _
    generalize (w2.alloc (.cells #[uv sa.b.v, uv sa.b.m, uv sa.lo, uv sa.hi, sv sa.sl, sv sa.sh] 27)) = w3 at *
    generalize w2.heap.size = gx at *
    obtain ⟨cp0, cp1, cp2, cp3, cp4, cp5, cp6, cp7, cp8, cp9, cp10, cp11⟩ := cells12 Bp
    have fp := Bp.frozen; have lp := Bp.lt
    obtain ⟨cr0, cr1, cr2, cr3, cr4, cr5, cr6, cr7, cr8, cr9, cr10, cr11⟩ := cells12 Br
    have fr := Br.frozen; have lr := Br.lt
    obtain ⟨cx0, cx1, cx2, cx3, cx4, cx5⟩ := cells6 Bx
    have fx := Bx.frozen; have lx := Bx.lt
    go_wp2_with fail
    refine (k_b _).mono ?_
    rintro e w4 ⟨rfl, hb⟩
    clear cp0 cp1 cp2 cp3 cp4 cp5 cp6 cp7 cp8 cp9 cp10 cp11 fp lp
    clear cr0 cr1 cr2 cr3 cr4 cr5 cr6 cr7 cr8 cr9 cr10 cr11 fr lr
    clear cx0 cx1 cx2 cx3 cx4 cx5 fx lx
    replace Bp := (Bp).next hb
    replace Br := (Br).next hb
    replace Bx := (Bx).next hb
    replace hB : Below w.heap.size w w4 := by repeat (first | exact hB | (refine Bl_set ?_ (by first | omega | (simp; omega)) _) | apply Bl_alloc | (refine Bl_trans ?_ hb))
    clear hb
    obtain ⟨cp0, cp1, cp2, cp3, cp4, cp5, cp6, cp7, cp8, cp9, cp10, cp11⟩ := cells12 Bp
    have fp := Bp.frozen; have lp := Bp.lt
    obtain ⟨cr0, cr1, cr2, cr3, cr4, cr5, cr6, cr7, cr8, cr9, cr10, cr11⟩ := cells12 Br
    have fr := Br.frozen; have lr := Br.lt
    obtain ⟨cx0, cx1, cx2, cx3, cx4, cx5⟩ := cells6 Bx
    have fx := Bx.frozen; have lx := Bx.lt
    go_upto_region 3 with fail
    clear cp0 cp1 cp2 cp3 cp4 cp5 cp6 cp7 cp8 cp9 cp10 cp11 fp lp
    clear cr0 cr1 cr2 cr3 cr4 cr5 cr6 cr7 cr8 cr9 cr10 cr11 fr lr
    clear cx0 cx1 cx2 cx3 cx4 cx5 fx lx
    have By := Blk.new w4 27 #[uv sb.b.v, uv sb.b.m, uv sb.lo, uv sb.hi, sv sb.sl, sv sb.sh]
    have hgy := hB.size
    have hnpy := Nat.ne_of_lt Bp.lt; have hltpy := Bp.lt
    have hnry := Nat.ne_of_lt Br.lt; have hltry := Br.lt
    have hnxy := Nat.ne_of_lt Bx.lt; have hltxy := Bx.lt
    replace Bp : Blk (w4.alloc (.cells #[uv sb.b.v, uv sb.b.m, uv sb.lo, uv sb.hi, sv sb.sl, sv sb.sh] 27)) (w.heap.size) 118 #[uv a.b.v, uv a.b.m, uv a.lo, uv a.hi, sv a.sl, sv a.sh, uv b.b.v, uv b.b.m, uv b.lo, uv b.hi, sv b.sl, sv b.sh] := Bp.alloc _
    replace Br : Blk (w4.alloc (.cells #[uv sb.b.v, uv sb.b.m, uv sb.lo, uv sb.hi, sv sb.sl, sv sb.sh] 27)) (w.heap.size + 1) 118 #[.int .u64 0, .int .u64 0, .int .u64 0, .int .u64 0, .int .i64 0, .int .i64 0, .int .u64 0, .int .u64 0, .int .u64 0, .int .u64 0, .int .i64 0, .int .i64 0] := Br.alloc _
    replace Bx : Blk (w4.alloc (.cells #[uv sb.b.v, uv sb.b.m, uv sb.lo, uv sb.hi, sv sb.sl, sv sb.sh] 27)) (gx) 27 #[uv sa.b.v, uv sa.b.m, uv sa.lo, uv sa.hi, sv sa.sl, sv sa.sh] := Bx.alloc _
    replace hB : Below w.heap.size w (w4.alloc (.cells #[uv sb.b.v, uv sb.b.m, uv sb.lo, uv sb.hi, sv sb.sl, sv sb.sh] 27)) := Bl_alloc hB _
    generalize (w4.alloc (.cells #[uv sb.b.v, uv sb.b.m, uv sb.lo, uv sb.hi, sv sb.sl, sv sb.sh] 27)) = w5 at *
    generalize w4.heap.size = gy at *
    obtain ⟨cp0, cp1, cp2, cp3, cp4, cp5, cp6, cp7, cp8, cp9, cp10, cp11⟩ := cells12 Bp
    have fp := Bp.frozen; have lp := Bp.lt
    obtain ⟨cr0, cr1, cr2, cr3, cr4, cr5, cr6, cr7, cr8, cr9, cr10, cr11⟩ := cells12 Br
    have fr := Br.frozen; have lr := Br.lt
    obtain ⟨cx0, cx1, cx2, cx3, cx4, cx5⟩ := cells6 Bx
    have fx := Bx.frozen; have lx := Bx.lt
    obtain ⟨cy0, cy1, cy2, cy3, cy4, cy5⟩ := cells6 By
    have fy := By.frozen; have ly := By.lt
    go_wp2
    exact bodyPost_ret (v := .tuple #[pv2 sa sb, .bool false]) (by simp [results, Try.results71, go_sem, cx0, cx1, cx2, cx3, cx4, cx5, cy0, cy1, cy2, cy3, cy4, cy5, cr0, cr1, cr2, cr3, cr4, cr5, cr6, cr7, cr8, cr9, cr10, cr11, lx, ly, lr]) rfl ⟨by rw [hs]; first | done | rfl, by repeat (first | (with_reducible exact hB) | (with_reducible refine Bl_set ?_ (by first | omega | (simp; done) | (simp; omega)) _) | with_reducible apply Bl_alloc)⟩
  · go_enter Try.func71, Try.ntmps71
    go_wp2_with fail
    obtain ⟨gp, hgp⟩ : ∃ g, g = w.heap.size := ⟨_, rfl⟩
    obtain ⟨gr, hgr⟩ : ∃ g, g = w.heap.size + 1 := ⟨_, rfl⟩
    have Bp : Blk ((w.alloc (.cells #[uv a.b.v, uv a.b.m, uv a.lo, uv a.hi, sv a.sl, sv a.sh, uv b.b.v, uv b.b.m, uv b.lo, uv b.hi, sv b.sl, sv b.sh] 118)).alloc (.cells #[.int .u64 0, .int .u64 0, .int .u64 0, .int .u64 0, .int .i64 0, .int .i64 0, .int .u64 0, .int .u64 0, .int .u64 0, .int .u64 0, .int .i64 0, .int .i64 0] 118)) (w.heap.size) 118 #[uv a.b.v, uv a.b.m, uv a.lo, uv a.hi, sv a.sl, sv a.sh, uv b.b.v, uv b.b.m, uv b.lo, uv b.hi, sv b.sl, sv b.sh] := ((Blk.new w 118 #[uv a.b.v, uv a.b.m, uv a.lo, uv a.hi, sv a.sl, sv a.sh, uv b.b.v, uv b.b.m, uv b.lo, uv b.hi, sv b.sl, sv b.sh])).alloc _
    have Br : Blk ((w.alloc (.cells #[uv a.b.v, uv a.b.m, uv a.lo, uv a.hi, sv a.sl, sv a.sh, uv b.b.v, uv b.b.m, uv b.lo, uv b.hi, sv b.sl, sv b.sh] 118)).alloc (.cells #[.int .u64 0, .int .u64 0, .int .u64 0, .int .u64 0, .int .i64 0, .int .i64 0, .int .u64 0, .int .u64 0, .int .u64 0, .int .u64 0, .int .i64 0, .int .i64 0] 118)) (w.heap.size + 1) 118 #[.int .u64 0, .int .u64 0, .int .u64 0, .int .u64 0, .int .i64 0, .int .i64 0, .int .u64 0, .int .u64 0, .int .u64 0, .int .u64 0, .int .i64 0, .int .i64 0] := (by simpa using Blk.new (w.alloc (.cells #[uv a.b.v, uv a.b.m, uv a.lo, uv a.hi, sv a.sl, sv a.sh, uv b.b.v, uv b.b.m, uv b.lo, uv b.hi, sv b.sl, sv b.sh] 118)) 118 #[.int .u64 0, .int .u64 0, .int .u64 0, .int .u64 0, .int .i64 0, .int .i64 0, .int .u64 0, .int .u64 0, .int .u64 0, .int .u64 0, .int .i64 0, .int .i64 0] : Blk _ (w.heap.size + 1) 118 #[.int .u64 0, .int .u64 0, .int .u64 0, .int .u64 0, .int .i64 0, .int .i64 0, .int .u64 0, .int .u64 0, .int .u64 0, .int .u64 0, .int .i64 0, .int .i64 0])
    have hB : Below w.heap.size w ((w.alloc (.cells #[uv a.b.v, uv a.b.m, uv a.lo, uv a.hi, sv a.sl, sv a.sh, uv b.b.v, uv b.b.m, uv b.lo, uv b.hi, sv b.sl, sv b.sh] 118)).alloc (.cells #[.int .u64 0, .int .u64 0, .int .u64 0, .int .u64 0, .int .i64 0, .int .i64 0, .int .u64 0, .int .u64 0, .int .u64 0, .int .u64 0, .int .i64 0, .int .i64 0] 118)) := (Bl_alloc (Bl_alloc (Bl_refl w) _) _)
    clear hgp
    clear gp
    clear hgr
    clear gr
    generalize ((w.alloc (.cells #[uv a.b.v, uv a.b.m, uv a.lo, uv a.hi, sv a.sl, sv a.sh, uv b.b.v, uv b.b.m, uv b.lo, uv b.hi, sv b.sl, sv b.sh] 118)).alloc (.cells #[.int .u64 0, .int .u64 0, .int .u64 0, .int .u64 0, .int .i64 0, .int .i64 0, .int .u64 0, .int .u64 0, .int .u64 0, .int .u64 0, .int .i64 0, .int .i64 0] 118)) = w1 at *
    obtain ⟨cp0, cp1, cp2, cp3, cp4, cp5, cp6, cp7, cp8, cp9, cp10, cp11⟩ := cells12 Bp
    have fp := Bp.frozen; have lp := Bp.lt
    obtain ⟨cr0, cr1, cr2, cr3, cr4, cr5, cr6, cr7, cr8, cr9, cr10, cr11⟩ := cells12 Br
    have fr := Br.frozen; have lr := Br.lt
    go_wp2_with fail
    refine (k_a _).mono ?_
    rintro e w2 ⟨rfl, hb⟩
    clear cp0 cp1 cp2 cp3 cp4 cp5 cp6 cp7 cp8 cp9 cp10 cp11 fp lp
    clear cr0 cr1 cr2 cr3 cr4 cr5 cr6 cr7 cr8 cr9 cr10 cr11 fr lr
    replace Bp := (Bp).next hb
    replace Br := (Br).next hb
    replace hB : Below w.heap.size w w2 := by repeat (first | exact hB | (refine Bl_set ?_ (by first | omega | (simp; omega)) _) | apply Bl_alloc | (refine Bl_trans ?_ hb))
    clear hb
    obtain ⟨cp0, cp1, cp2, cp3, cp4, cp5, cp6, cp7, cp8, cp9, cp10, cp11⟩ := cells12 Bp
    have fp := Bp.frozen; have lp := Bp.lt
    obtain ⟨cr0, cr1, cr2, cr3, cr4, cr5, cr6, cr7, cr8, cr9, cr10, cr11⟩ := cells12 Br
    have fr := Br.frozen; have lr := Br.lt
    go_upto_region 2 with fail
    clear cp0 cp1 cp2 cp3 cp4 cp5 cp6 cp7 cp8 cp9 cp10 cp11 fp lp
    clear cr0 cr1 cr2 cr3 cr4 cr5 cr6 cr7 cr8 cr9 cr10 cr11 fr lr
    have Bx := Blk.new w2 27 #[uv sa.b.v, uv sa.b.m, uv sa.lo, uv sa.hi, sv sa.sl, sv sa.sh]
    have hgx := hB.size
    have hnpx := Nat.ne_of_lt Bp.lt; have hltpx := Bp.lt
    have hnrx := Nat.ne_of_lt Br.lt; have hltrx := Br.lt
    replace Bp : Blk (w2.alloc (.cells #[uv sa.b.v, uv sa.b.m, uv sa.lo, uv sa.hi, sv sa.sl, sv sa.sh] 27)) (w.heap.size) 118 #[uv a.b.v, uv a.b.m, uv a.lo, uv a.hi, sv a.sl, sv a.sh, uv b.b.v, uv b.b.m, uv b.lo, uv b.hi, sv b.sl, sv b.sh] := Bp.alloc _
    replace Br : Blk (w2.alloc (.cells #[uv sa.b.v, uv sa.b.m, uv sa.lo, uv sa.hi, sv sa.sl, sv sa.sh] 27)) (w.heap.size + 1) 118 #[.int .u64 0, .int .u64 0, .int .u64 0, .int .u64 0, .int .i64 0, .int .i64 0, .int .u64 0, .int .u64 0, .int .u64 0, .int .u64 0, .int .i64 0, .int .i64 0] := Br.alloc _
    replace hB : Below w.heap.size w (w2.alloc (.cells #[uv sa.b.v, uv sa.b.m, uv sa.lo, uv sa.hi, sv sa.sl, sv sa.sh] 27)) := Bl_alloc hB _
    generalize (w2.alloc (.cells #[uv sa.b.v, uv sa.b.m, uv sa.lo, uv sa.hi, sv sa.sl, sv sa.sh] 27)) = w3 at *
    generalize w2.heap.size = gx at *
    obtain ⟨cp0, cp1, cp2, cp3, cp4, cp5, cp6, cp7, cp8, cp9, cp10, cp11⟩ := cells12 Bp
    have fp := Bp.frozen; have lp := Bp.lt
    obtain ⟨cr0, cr1, cr2, cr3, cr4, cr5, cr6, cr7, cr8, cr9, cr10, cr11⟩ := cells12 Br
    have fr := Br.frozen; have lr := Br.lt
    obtain ⟨cx0, cx1, cx2, cx3, cx4, cx5⟩ := cells6 Bx
    have fx := Bx.frozen; have lx := Bx.lt
    go_wp2_with fail
    refine (k_b _).mono ?_
    rintro e w4 ⟨rfl, hb⟩
    clear cp0 cp1 cp2 cp3 cp4 cp5 cp6 cp7 cp8 cp9 cp10 cp11 fp lp
    clear cr0 cr1 cr2 cr3 cr4 cr5 cr6 cr7 cr8 cr9 cr10 cr11 fr lr
    clear cx0 cx1 cx2 cx3 cx4 cx5 fx lx
    replace Bp := (Bp).next hb
    replace Br := (Br).next hb
    replace Bx := (Bx).next hb
    replace hB : Below w.heap.size w w4 := by repeat (first | exact hB | (refine Bl_set ?_ (by first | omega | (simp; omega)) _) | apply Bl_alloc | (refine Bl_trans ?_ hb))
    clear hb
    obtain ⟨cp0, cp1, cp2, cp3, cp4, cp5, cp6, cp7, cp8, cp9, cp10, cp11⟩ := cells12 Bp
    have fp := Bp.frozen; have lp := Bp.lt
    obtain ⟨cr0, cr1, cr2, cr3, cr4, cr5, cr6, cr7, cr8, cr9, cr10, cr11⟩ := cells12 Br
    have fr := Br.frozen; have lr := Br.lt
    obtain ⟨cx0, cx1, cx2, cx3, cx4, cx5⟩ := cells6 Bx
    have fx := Bx.frozen; have lx := Bx.lt
    go_upto_region 3 with fail
    clear cp0 cp1 cp2 cp3 cp4 cp5 cp6 cp7 cp8 cp9 cp10 cp11 fp lp
    clear cr0 cr1 cr2 cr3 cr4 cr5 cr6 cr7 cr8 cr9 cr10 cr11 fr lr
    clear cx0 cx1 cx2 cx3 cx4 cx5 fx lx
    have By := Blk.new w4 27 #[uv sb.b.v, uv sb.b.m, uv sb.lo, uv sb.hi, sv sb.sl, sv sb.sh]
    have hgy := hB.size
    have hnpy := Nat.ne_of_lt Bp.lt; have hltpy := Bp.lt
    have hnry := Nat.ne_of_lt Br.lt; have hltry := Br.lt
    have hnxy := Nat.ne_of_lt Bx.lt; have hltxy := Bx.lt
    replace Bp : Blk (w4.alloc (.cells #[uv sb.b.v, uv sb.b.m, uv sb.lo, uv sb.hi, sv sb.sl, sv sb.sh] 27)) (w.heap.size) 118 #[uv a.b.v, uv a.b.m, uv a.lo, uv a.hi, sv a.sl, sv a.sh, uv b.b.v, uv b.b.m, uv b.lo, uv b.hi, sv b.sl, sv b.sh] := Bp.alloc _
    replace Br : Blk (w4.alloc (.cells #[uv sb.b.v, uv sb.b.m, uv sb.lo, uv sb.hi, sv sb.sl, sv sb.sh] 27)) (w.heap.size + 1) 118 #[.int .u64 0, .int .u64 0, .int .u64 0, .int .u64 0, .int .i64 0, .int .i64 0, .int .u64 0, .int .u64 0, .int .u64 0, .int .u64 0, .int .i64 0, .int .i64 0] := Br.alloc _
    replace Bx : Blk (w4.alloc (.cells #[uv sb.b.v, uv sb.b.m, uv sb.lo, uv sb.hi, sv sb.sl, sv sb.sh] 27)) (gx) 27 #[uv sa.b.v, uv sa.b.m, uv sa.lo, uv sa.hi, sv sa.sl, sv sa.sh] := Bx.alloc _
    replace hB : Below w.heap.size w (w4.alloc (.cells #[uv sb.b.v, uv sb.b.m, uv sb.lo, uv sb.hi, sv sb.sl, sv sb.sh] 27)) := Bl_alloc hB _
    generalize (w4.alloc (.cells #[uv sb.b.v, uv sb.b.m, uv sb.lo, uv sb.hi, sv sb.sl, sv sb.sh] 27)) = w5 at *
    generalize w4.heap.size = gy at *
    obtain ⟨cp0, cp1, cp2, cp3, cp4, cp5, cp6, cp7, cp8, cp9, cp10, cp11⟩ := cells12 Bp
    have fp := Bp.frozen; have lp := Bp.lt
    obtain ⟨cr0, cr1, cr2, cr3, cr4, cr5, cr6, cr7, cr8, cr9, cr10, cr11⟩ := cells12 Br
    have fr := Br.frozen; have lr := Br.lt
    obtain ⟨cx0, cx1, cx2, cx3, cx4, cx5⟩ := cells6 Bx
    have fx := Bx.frozen; have lx := Bx.lt
    obtain ⟨cy0, cy1, cy2, cy3, cy4, cy5⟩ := cells6 By
    have fy := By.frozen; have ly := By.lt
    go_wp2
    exact bodyPost_ret (v := .tuple #[pv2 sa sb, .bool ob]) (by simp [results, Try.results71, go_sem, cx0, cx1, cx2, cx3, cx4, cx5, cy0, cy1, cy2, cy3, cy4, cy5, cr0, cr1, cr2, cr3, cr4, cr5, cr6, cr7, cr8, cr9, cr10, cr11, lx, ly, lr]) rfl ⟨by rw [hs]; first | done | rfl, by repeat (first | (with_reducible exact hB) | (with_reducible refine Bl_set ?_ (by first | omega | (simp; done) | (simp; omega)) _) | with_reducible apply Bl_alloc)⟩
set_option maxHeartbeats 800000 in
theorem one_c (a : Rng) (w : World) : Calls Try.prog 84 #[rv a] w fun e w' => e = .returned (.bool (PlainBranch.one a)) ∧ Below w.heap.size w w' := by
  go_enter Try.func84, Try.ntmps84
  go_wp2
  all_goals
    go_ret
    refine ⟨?_, (by repeat (first | (with_reducible exact Bl_refl _) | with_reducible apply Bl_alloc | with_reducible apply Bl_drew | with_reducible apply Bl_drewN | (with_reducible refine Bl_set ?_ (by first | omega | (simp; done) | (simp; omega)) _) | (with_reducible refine Bl_trans ?_ (by assumption))))⟩
    simp_all [PlainBranch.one, T_beq, T_eq] <;> first | rfl | exact decide_eq_decide.2 Iff.rfl | (intros; omega)
theorem one_b (a : Rng) (b : Bool) (h : PlainBranch.one a = b) (w : World) : Calls Try.prog 84 #[rv a] w fun e w' => e = .returned (.bool b) ∧ Below w.heap.size w w' := by
  rw [← h]; exact one_c a w
set_option maxRecDepth 100000 in
set_option maxHeartbeats 3200000 in
theorem without_c (a : Rng) (x : W) (w : World) : Calls Try.prog 85 #[rv a, uv x] w fun e w' => e = .returned (.tuple #[rv (PlainBranch.without a x).1, .bool (PlainBranch.without a x).2]) ∧ Below w.heap.size w w' := by
  cases q1 : (T a.lo == T x)
  · have p1 : ¬ a.lo = x := by simpa [T_beq] using q1
    cases q3 : (T a.hi == T x)
    · have p3 : ¬ a.hi = x := by simpa [T_beq] using q3
      cases q9 : decide (T a.hi < T a.lo)
      · have p9 : ¬ (a.hi).toNat < (a.lo).toNat := by have := of_decide_eq_false q9; rwa [T_lt] at this
        have hs : PlainBranch.without a x = (⟨a.b, a.lo, a.hi, a.sl, a.sh⟩, true) := by unfold PlainBranch.without; rw [if_neg p1, if_neg p3, if_neg p9]
        try clear p1
        try clear p2
        try clear p3
        try clear p4
        try clear p9
        go_enter Try.func85, Try.ntmps85
        go_upto_region 1 with fail
        obtain ⟨ga, hga⟩ : ∃ g, g = w.heap.size := ⟨_, rfl⟩
        obtain ⟨gr, hgr⟩ : ∃ g, g = w.heap.size + 1 := ⟨_, rfl⟩
        have Ba : Blk ((w.alloc (.cells #[uv a.b.v, uv a.b.m, uv a.lo, uv a.hi, sv a.sl, sv a.sh] 27)).alloc (.cells #[.int .u64 0, .int .u64 0, .int .u64 0, .int .u64 0, .int .i64 0, .int .i64 0] 27)) (w.heap.size) 27 #[uv a.b.v, uv a.b.m, uv a.lo, uv a.hi, sv a.sl, sv a.sh] := ((Blk.new w 27 #[uv a.b.v, uv a.b.m, uv a.lo, uv a.hi, sv a.sl, sv a.sh])).alloc _
        have Br : Blk ((w.alloc (.cells #[uv a.b.v, uv a.b.m, uv a.lo, uv a.hi, sv a.sl, sv a.sh] 27)).alloc (.cells #[.int .u64 0, .int .u64 0, .int .u64 0, .int .u64 0, .int .i64 0, .int .i64 0] 27)) (w.heap.size + 1) 27 #[.int .u64 0, .int .u64 0, .int .u64 0, .int .u64 0, .int .i64 0, .int .i64 0] := (by simpa using Blk.new (w.alloc (.cells #[uv a.b.v, uv a.b.m, uv a.lo, uv a.hi, sv a.sl, sv a.sh] 27)) 27 #[.int .u64 0, .int .u64 0, .int .u64 0, .int .u64 0, .int .i64 0, .int .i64 0] : Blk _ (w.heap.size + 1) 27 #[.int .u64 0, .int .u64 0, .int .u64 0, .int .u64 0, .int .i64 0, .int .i64 0])
        have hB : Below w.heap.size w ((w.alloc (.cells #[uv a.b.v, uv a.b.m, uv a.lo, uv a.hi, sv a.sl, sv a.sh] 27)).alloc (.cells #[.int .u64 0, .int .u64 0, .int .u64 0, .int .u64 0, .int .i64 0, .int .i64 0] 27)) := (Bl_alloc (Bl_alloc (Bl_refl w) _) _)
        clear hga
        clear ga
        clear hgr
        clear gr
        generalize ((w.alloc (.cells #[uv a.b.v, uv a.b.m, uv a.lo, uv a.hi, sv a.sl, sv a.sh] 27)).alloc (.cells #[.int .u64 0, .int .u64 0, .int .u64 0, .int .u64 0, .int .i64 0, .int .i64 0] 27)) = w1 at *
        obtain ⟨ca0, ca1, ca2, ca3, ca4, ca5⟩ := cells6 Ba
        have fa := Ba.frozen; have la := Ba.lt
        obtain ⟨cr0, cr1, cr2, cr3, cr4, cr5⟩ := cells6 Br
        have fr := Br.frozen; have lr := Br.lt
        go_wp2
        exact bodyPost_ret (v := .tuple #[rv ⟨a.b, a.lo, a.hi, a.sl, a.sh⟩, .bool true]) (by simp [results, Try.results85, go_sem, ca0, ca1, ca2, ca3, ca4, ca5, cr0, cr1, cr2, cr3, cr4, cr5, la, lr]) rfl ⟨by rw [hs]; first | done | rfl, by repeat (first | (with_reducible exact hB) | (with_reducible refine Bl_set ?_ (by first | omega | (simp; done) | (simp; omega)) _) | with_reducible apply Bl_alloc)⟩
      · have p9 : (a.hi).toNat < (a.lo).toNat := by have := of_decide_eq_true q9; rwa [T_lt] at this
        have hs : PlainBranch.without a x = (PlainScalar.none_, false) := by unfold PlainBranch.without; rw [if_neg p1, if_neg p3, if_pos p9]
        try clear p1
        try clear p2
        try clear p3
        try clear p4
        try clear p9
        go_enter Try.func85, Try.ntmps85
        go_upto_region 1 with fail
        obtain ⟨ga, hga⟩ : ∃ g, g = w.heap.size := ⟨_, rfl⟩
        obtain ⟨gr, hgr⟩ : ∃ g, g = w.heap.size + 1 := ⟨_, rfl⟩
        have Ba : Blk ((w.alloc (.cells #[uv a.b.v, uv a.b.m, uv a.lo, uv a.hi, sv a.sl, sv a.sh] 27)).alloc (.cells #[.int .u64 0, .int .u64 0, .int .u64 0, .int .u64 0, .int .i64 0, .int .i64 0] 27)) (w.heap.size) 27 #[uv a.b.v, uv a.b.m, uv a.lo, uv a.hi, sv a.sl, sv a.sh] := ((Blk.new w 27 #[uv a.b.v, uv a.b.m, uv a.lo, uv a.hi, sv a.sl, sv a.sh])).alloc _
        have Br : Blk ((w.alloc (.cells #[uv a.b.v, uv a.b.m, uv a.lo, uv a.hi, sv a.sl, sv a.sh] 27)).alloc (.cells #[.int .u64 0, .int .u64 0, .int .u64 0, .int .u64 0, .int .i64 0, .int .i64 0] 27)) (w.heap.size + 1) 27 #[.int .u64 0, .int .u64 0, .int .u64 0, .int .u64 0, .int .i64 0, .int .i64 0] := (by simpa using Blk.new (w.alloc (.cells #[uv a.b.v, uv a.b.m, uv a.lo, uv a.hi, sv a.sl, sv a.sh] 27)) 27 #[.int .u64 0, .int .u64 0, .int .u64 0, .int .u64 0, .int .i64 0, .int .i64 0] : Blk _ (w.heap.size + 1) 27 #[.int .u64 0, .int .u64 0, .int .u64 0, .int .u64 0, .int .i64 0, .int .i64 0])
        have hB : Below w.heap.size w ((w.alloc (.cells #[uv a.b.v, uv a.b.m, uv a.lo, uv a.hi, sv a.sl, sv a.sh] 27)).alloc (.cells #[.int .u64 0, .int .u64 0, .int .u64 0, .int .u64 0, .int .i64 0, .int .i64 0] 27)) := (Bl_alloc (Bl_alloc (Bl_refl w) _) _)
        clear hga
        clear ga
        clear hgr
        clear gr
        generalize ((w.alloc (.cells #[uv a.b.v, uv a.b.m, uv a.lo, uv a.hi, sv a.sl, sv a.sh] 27)).alloc (.cells #[.int .u64 0, .int .u64 0, .int .u64 0, .int .u64 0, .int .i64 0, .int .i64 0] 27)) = w1 at *
        obtain ⟨ca0, ca1, ca2, ca3, ca4, ca5⟩ := cells6 Ba
        have fa := Ba.frozen; have la := Ba.lt
        obtain ⟨cr0, cr1, cr2, cr3, cr4, cr5⟩ := cells6 Br
        have fr := Br.frozen; have lr := Br.lt
        go_wp2
        exact bodyPost_ret (v := .tuple #[rv PlainScalar.none_, .bool false]) (by simp [results, Try.results85, go_sem, cr0, cr1, cr2, cr3, cr4, cr5, lr, PlainScalar.none_, T, S]) rfl ⟨by rw [hs]; first | done | rfl, by repeat (first | (with_reducible exact hB) | (with_reducible refine Bl_set ?_ (by first | omega | (simp; done) | (simp; omega)) _) | with_reducible apply Bl_alloc)⟩
    · have p3 : a.hi = x := by simpa [T_beq] using q3
      cases q4 : (T x == 0)
      · have p4 : ¬ x = 0#64 := by simpa [T_beq0] using q4
        cases q9 : decide (T (x - 1#64) < T a.lo)
        · have p9 : ¬ ((x - 1#64)).toNat < (a.lo).toNat := by have := of_decide_eq_false q9; rwa [T_lt] at this
          have hs : PlainBranch.without a x = (⟨a.b, a.lo, (x - 1#64), a.sl, a.sh⟩, true) := by unfold PlainBranch.without; rw [if_neg p1, if_pos p3, if_neg p4, if_neg p9]
          try clear p1
          try clear p2
          try clear p3
          try clear p4
          try clear p9
          go_enter Try.func85, Try.ntmps85
          go_upto_region 1 with fail
          obtain ⟨ga, hga⟩ : ∃ g, g = w.heap.size := ⟨_, rfl⟩
          obtain ⟨gr, hgr⟩ : ∃ g, g = w.heap.size + 1 := ⟨_, rfl⟩
          have Ba : Blk ((w.alloc (.cells #[uv a.b.v, uv a.b.m, uv a.lo, uv a.hi, sv a.sl, sv a.sh] 27)).alloc (.cells #[.int .u64 0, .int .u64 0, .int .u64 0, .int .u64 0, .int .i64 0, .int .i64 0] 27)) (w.heap.size) 27 #[uv a.b.v, uv a.b.m, uv a.lo, uv a.hi, sv a.sl, sv a.sh] := ((Blk.new w 27 #[uv a.b.v, uv a.b.m, uv a.lo, uv a.hi, sv a.sl, sv a.sh])).alloc _
          have Br : Blk ((w.alloc (.cells #[uv a.b.v, uv a.b.m, uv a.lo, uv a.hi, sv a.sl, sv a.sh] 27)).alloc (.cells #[.int .u64 0, .int .u64 0, .int .u64 0, .int .u64 0, .int .i64 0, .int .i64 0] 27)) (w.heap.size + 1) 27 #[.int .u64 0, .int .u64 0, .int .u64 0, .int .u64 0, .int .i64 0, .int .i64 0] := (by simpa using Blk.new (w.alloc (.cells #[uv a.b.v, uv a.b.m, uv a.lo, uv a.hi, sv a.sl, sv a.sh] 27)) 27 #[.int .u64 0, .int .u64 0, .int .u64 0, .int .u64 0, .int .i64 0, .int .i64 0] : Blk _ (w.heap.size + 1) 27 #[.int .u64 0, .int .u64 0, .int .u64 0, .int .u64 0, .int .i64 0, .int .i64 0])
          have hB : Below w.heap.size w ((w.alloc (.cells #[uv a.b.v, uv a.b.m, uv a.lo, uv a.hi, sv a.sl, sv a.sh] 27)).alloc (.cells #[.int .u64 0, .int .u64 0, .int .u64 0, .int .u64 0, .int .i64 0, .int .i64 0] 27)) := (Bl_alloc (Bl_alloc (Bl_refl w) _) _)
          clear hga
          clear ga
          clear hgr
          clear gr
          generalize ((w.alloc (.cells #[uv a.b.v, uv a.b.m, uv a.lo, uv a.hi, sv a.sl, sv a.sh] 27)).alloc (.cells #[.int .u64 0, .int .u64 0, .int .u64 0, .int .u64 0, .int .i64 0, .int .i64 0] 27)) = w1 at *
          obtain ⟨ca0, ca1, ca2, ca3, ca4, ca5⟩ := cells6 Ba
          have fa := Ba.frozen; have la := Ba.lt
          obtain ⟨cr0, cr1, cr2, cr3, cr4, cr5⟩ := cells6 Br
          have fr := Br.frozen; have lr := Br.lt
          go_upto_region 9 with fail
          clear ca0 ca1 ca2 ca3 ca4 ca5 fa la
          clear cr0 cr1 cr2 cr3 cr4 cr5 fr lr
          replace Ba : Blk (w1.setCell ⟨w.heap.size, 3, none⟩ (uv (x - 1#64))) (w.heap.size) 27 #[uv a.b.v, uv a.b.m, uv a.lo, uv (x - 1#64), sv a.sl, sv a.sh] := Ba.set_ 3 _
          replace Br : Blk (w1.setCell ⟨w.heap.size, 3, none⟩ (uv (x - 1#64))) (w.heap.size + 1) 27 #[.int .u64 0, .int .u64 0, .int .u64 0, .int .u64 0, .int .i64 0, .int .i64 0] := (Br.far (by first | (simp; done) | (simp; omega) | (simp [*]; done) | (simp only [ne_eq]; constructor <;> omega)) _)
          replace hB : Below w.heap.size w (w1.setCell ⟨w.heap.size, 3, none⟩ (uv (x - 1#64))) := (Bl_set hB (by first | omega | (simp; done) | (simp; omega)) _)
          generalize (w1.setCell ⟨w.heap.size, 3, none⟩ (uv (x - 1#64))) = w2 at *
          obtain ⟨ca0, ca1, ca2, ca3, ca4, ca5⟩ := cells6 Ba
          have fa := Ba.frozen; have la := Ba.lt
          obtain ⟨cr0, cr1, cr2, cr3, cr4, cr5⟩ := cells6 Br
          have fr := Br.frozen; have lr := Br.lt
          go_wp2
          exact bodyPost_ret (v := .tuple #[rv ⟨a.b, a.lo, (x - 1#64), a.sl, a.sh⟩, .bool true]) (by simp [results, Try.results85, go_sem, ca0, ca1, ca2, ca3, ca4, ca5, cr0, cr1, cr2, cr3, cr4, cr5, la, lr]) rfl ⟨by rw [hs]; first | done | rfl, by repeat (first | (with_reducible exact hB) | (with_reducible refine Bl_set ?_ (by first | omega | (simp; done) | (simp; omega)) _) | with_reducible apply Bl_alloc)⟩
        · have p9 : ((x - 1#64)).toNat < (a.lo).toNat := by have := of_decide_eq_true q9; rwa [T_lt] at this
          have hs : PlainBranch.without a x = (PlainScalar.none_, false) := by unfold PlainBranch.without; rw [if_neg p1, if_pos p3, if_neg p4, if_pos p9]
          try clear p1
          try clear p2
          try clear p3
          try clear p4
          try clear p9
          go_enter Try.func85, Try.ntmps85
          go_upto_region 1 with fail
          obtain ⟨ga, hga⟩ : ∃ g, g = w.heap.size := ⟨_, rfl⟩
          obtain ⟨gr, hgr⟩ : ∃ g, g = w.heap.size + 1 := ⟨_, rfl⟩
          have Ba : Blk ((w.alloc (.cells #[uv a.b.v, uv a.b.m, uv a.lo, uv a.hi, sv a.sl, sv a.sh] 27)).alloc (.cells #[.int .u64 0, .int .u64 0, .int .u64 0, .int .u64 0, .int .i64 0, .int .i64 0] 27)) (w.heap.size) 27 #[uv a.b.v, uv a.b.m, uv a.lo, uv a.hi, sv a.sl, sv a.sh] := ((Blk.new w 27 #[uv a.b.v, uv a.b.m, uv a.lo, uv a.hi, sv a.sl, sv a.sh])).alloc _
          have Br : Blk ((w.alloc (.cells #[uv a.b.v, uv a.b.m, uv a.lo, uv a.hi, sv a.sl, sv a.sh] 27)).alloc (.cells #[.int .u64 0, .int .u64 0, .int .u64 0, .int .u64 0, .int .i64 0, .int .i64 0] 27)) (w.heap.size + 1) 27 #[.int .u64 0, .int .u64 0, .int .u64 0, .int .u64 0, .int .i64 0, .int .i64 0] := (by simpa using Blk.new (w.alloc (.cells #[uv a.b.v, uv a.b.m, uv a.lo, uv a.hi, sv a.sl, sv a.sh] 27)) 27 #[.int .u64 0, .int .u64 0, .int .u64 0, .int .u64 0, .int .i64 0, .int .i64 0] : Blk _ (w.heap.size + 1) 27 #[.int .u64 0, .int .u64 0, .int .u64 0, .int .u64 0, .int .i64 0, .int .i64 0])
          have hB : Below w.heap.size w ((w.alloc (.cells #[uv a.b.v, uv a.b.m, uv a.lo, uv a.hi, sv a.sl, sv a.sh] 27)).alloc (.cells #[.int .u64 0, .int .u64 0, .int .u64 0, .int .u64 0, .int .i64 0, .int .i64 0] 27)) := (Bl_alloc (Bl_alloc (Bl_refl w) _) _)
          clear hga
          clear ga
          clear hgr
          clear gr
          generalize ((w.alloc (.cells #[uv a.b.v, uv a.b.m, uv a.lo, uv a.hi, sv a.sl, sv a.sh] 27)).alloc (.cells #[.int .u64 0, .int .u64 0, .int .u64 0, .int .u64 0, .int .i64 0, .int .i64 0] 27)) = w1 at *
          obtain ⟨ca0, ca1, ca2, ca3, ca4, ca5⟩ := cells6 Ba
          have fa := Ba.frozen; have la := Ba.lt
          obtain ⟨cr0, cr1, cr2, cr3, cr4, cr5⟩ := cells6 Br
          have fr := Br.frozen; have lr := Br.lt
          go_upto_region 9 with fail
          clear ca0 ca1 ca2 ca3 ca4 ca5 fa la
          clear cr0 cr1 cr2 cr3 cr4 cr5 fr lr
          replace Ba : Blk (w1.setCell ⟨w.heap.size, 3, none⟩ (uv (x - 1#64))) (w.heap.size) 27 #[uv a.b.v, uv a.b.m, uv a.lo, uv (x - 1#64), sv a.sl, sv a.sh] := Ba.set_ 3 _
          replace Br : Blk (w1.setCell ⟨w.heap.size, 3, none⟩ (uv (x - 1#64))) (w.heap.size + 1) 27 #[.int .u64 0, .int .u64 0, .int .u64 0, .int .u64 0, .int .i64 0, .int .i64 0] := (Br.far (by first | (simp; done) | (simp; omega) | (simp [*]; done) | (simp only [ne_eq]; constructor <;> omega)) _)
          replace hB : Below w.heap.size w (w1.setCell ⟨w.heap.size, 3, none⟩ (uv (x - 1#64))) := (Bl_set hB (by first | omega | (simp; done) | (simp; omega)) _)
          generalize (w1.setCell ⟨w.heap.size, 3, none⟩ (uv (x - 1#64))) = w2 at *
          obtain ⟨ca0, ca1, ca2, ca3, ca4, ca5⟩ := cells6 Ba
          have fa := Ba.frozen; have la := Ba.lt
          obtain ⟨cr0, cr1, cr2, cr3, cr4, cr5⟩ := cells6 Br
          have fr := Br.frozen; have lr := Br.lt
          go_wp2
          exact bodyPost_ret (v := .tuple #[rv PlainScalar.none_, .bool false]) (by simp [results, Try.results85, go_sem, cr0, cr1, cr2, cr3, cr4, cr5, lr, PlainScalar.none_, T, S]) rfl ⟨by rw [hs]; first | done | rfl, by repeat (first | (with_reducible exact hB) | (with_reducible refine Bl_set ?_ (by first | omega | (simp; done) | (simp; omega)) _) | with_reducible apply Bl_alloc)⟩
      · have p4 : x = 0#64 := by simpa [T_beq0] using q4
        have hs : PlainBranch.without a x = (PlainScalar.none_, false) := by unfold PlainBranch.without; rw [if_neg p1, if_pos p3, if_pos p4]
        try clear p1
        try clear p2
        try clear p3
        try clear p4
        try clear p9
        go_enter Try.func85, Try.ntmps85
        go_upto_region 1 with fail
        obtain ⟨ga, hga⟩ : ∃ g, g = w.heap.size := ⟨_, rfl⟩
        obtain ⟨gr, hgr⟩ : ∃ g, g = w.heap.size + 1 := ⟨_, rfl⟩
        have Ba : Blk ((w.alloc (.cells #[uv a.b.v, uv a.b.m, uv a.lo, uv a.hi, sv a.sl, sv a.sh] 27)).alloc (.cells #[.int .u64 0, .int .u64 0, .int .u64 0, .int .u64 0, .int .i64 0, .int .i64 0] 27)) (w.heap.size) 27 #[uv a.b.v, uv a.b.m, uv a.lo, uv a.hi, sv a.sl, sv a.sh] := ((Blk.new w 27 #[uv a.b.v, uv a.b.m, uv a.lo, uv a.hi, sv a.sl, sv a.sh])).alloc _
        have Br : Blk ((w.alloc (.cells #[uv a.b.v, uv a.b.m, uv a.lo, uv a.hi, sv a.sl, sv a.sh] 27)).alloc (.cells #[.int .u64 0, .int .u64 0, .int .u64 0, .int .u64 0, .int .i64 0, .int .i64 0] 27)) (w.heap.size + 1) 27 #[.int .u64 0, .int .u64 0, .int .u64 0, .int .u64 0, .int .i64 0, .int .i64 0] := (by simpa using Blk.new (w.alloc (.cells #[uv a.b.v, uv a.b.m, uv a.lo, uv a.hi, sv a.sl, sv a.sh] 27)) 27 #[.int .u64 0, .int .u64 0, .int .u64 0, .int .u64 0, .int .i64 0, .int .i64 0] : Blk _ (w.heap.size + 1) 27 #[.int .u64 0, .int .u64 0, .int .u64 0, .int .u64 0, .int .i64 0, .int .i64 0])
        have hB : Below w.heap.size w ((w.alloc (.cells #[uv a.b.v, uv a.b.m, uv a.lo, uv a.hi, sv a.sl, sv a.sh] 27)).alloc (.cells #[.int .u64 0, .int .u64 0, .int .u64 0, .int .u64 0, .int .i64 0, .int .i64 0] 27)) := (Bl_alloc (Bl_alloc (Bl_refl w) _) _)
        clear hga
        clear ga
        clear hgr
        clear gr
        generalize ((w.alloc (.cells #[uv a.b.v, uv a.b.m, uv a.lo, uv a.hi, sv a.sl, sv a.sh] 27)).alloc (.cells #[.int .u64 0, .int .u64 0, .int .u64 0, .int .u64 0, .int .i64 0, .int .i64 0] 27)) = w1 at *
        obtain ⟨ca0, ca1, ca2, ca3, ca4, ca5⟩ := cells6 Ba
        have fa := Ba.frozen; have la := Ba.lt
        obtain ⟨cr0, cr1, cr2, cr3, cr4, cr5⟩ := cells6 Br
        have fr := Br.frozen; have lr := Br.lt
        go_wp2
        exact bodyPost_ret (v := .tuple #[rv PlainScalar.none_, .bool false]) (by simp [results, Try.results85, go_sem, cr0, cr1, cr2, cr3, cr4, cr5, lr, PlainScalar.none_, T, S]) rfl ⟨by rw [hs]; first | done | rfl, by repeat (first | (with_reducible exact hB) | (with_reducible refine Bl_set ?_ (by first | omega | (simp; done) | (simp; omega)) _) | with_reducible apply Bl_alloc)⟩
  · have p1 : a.lo = x := by simpa [T_beq] using q1
    cases q2 : (T x == 18446744073709551615)
    · have p2 : ¬ x = BitVec.allOnes 64 := by simpa [T_beqAll] using q2
      cases q3 : (T a.hi == T x)
      · have p3 : ¬ a.hi = x := by simpa [T_beq] using q3
        cases q9 : decide (T a.hi < T (x + 1#64))
        · have p9 : ¬ (a.hi).toNat < ((x + 1#64)).toNat := by have := of_decide_eq_false q9; rwa [T_lt] at this
          have hs : PlainBranch.without a x = (⟨a.b, (x + 1#64), a.hi, a.sl, a.sh⟩, true) := by unfold PlainBranch.without; rw [if_pos p1, if_neg p2, if_neg p3, if_neg p9]
          try clear p1
          try clear p2
          try clear p3
          try clear p4
          try clear p9
          go_enter Try.func85, Try.ntmps85
          go_upto_region 1 with fail
          obtain ⟨ga, hga⟩ : ∃ g, g = w.heap.size := ⟨_, rfl⟩
          obtain ⟨gr, hgr⟩ : ∃ g, g = w.heap.size + 1 := ⟨_, rfl⟩
          have Ba : Blk ((w.alloc (.cells #[uv a.b.v, uv a.b.m, uv a.lo, uv a.hi, sv a.sl, sv a.sh] 27)).alloc (.cells #[.int .u64 0, .int .u64 0, .int .u64 0, .int .u64 0, .int .i64 0, .int .i64 0] 27)) (w.heap.size) 27 #[uv a.b.v, uv a.b.m, uv a.lo, uv a.hi, sv a.sl, sv a.sh] := ((Blk.new w 27 #[uv a.b.v, uv a.b.m, uv a.lo, uv a.hi, sv a.sl, sv a.sh])).alloc _
          have Br : Blk ((w.alloc (.cells #[uv a.b.v, uv a.b.m, uv a.lo, uv a.hi, sv a.sl, sv a.sh] 27)).alloc (.cells #[.int .u64 0, .int .u64 0, .int .u64 0, .int .u64 0, .int .i64 0, .int .i64 0] 27)) (w.heap.size + 1) 27 #[.int .u64 0, .int .u64 0, .int .u64 0, .int .u64 0, .int .i64 0, .int .i64 0] := (by simpa using Blk.new (w.alloc (.cells #[uv a.b.v, uv a.b.m, uv a.lo, uv a.hi, sv a.sl, sv a.sh] 27)) 27 #[.int .u64 0, .int .u64 0, .int .u64 0, .int .u64 0, .int .i64 0, .int .i64 0] : Blk _ (w.heap.size + 1) 27 #[.int .u64 0, .int .u64 0, .int .u64 0, .int .u64 0, .int .i64 0, .int .i64 0])
          have hB : Below w.heap.size w ((w.alloc (.cells #[uv a.b.v, uv a.b.m, uv a.lo, uv a.hi, sv a.sl, sv a.sh] 27)).alloc (.cells #[.int .u64 0, .int .u64 0, .int .u64 0, .int .u64 0, .int .i64 0, .int .i64 0] 27)) := (Bl_alloc (Bl_alloc (Bl_refl w) _) _)
          clear hga
          clear ga
          clear hgr
          clear gr
          generalize ((w.alloc (.cells #[uv a.b.v, uv a.b.m, uv a.lo, uv a.hi, sv a.sl, sv a.sh] 27)).alloc (.cells #[.int .u64 0, .int .u64 0, .int .u64 0, .int .u64 0, .int .i64 0, .int .i64 0] 27)) = w1 at *
          obtain ⟨ca0, ca1, ca2, ca3, ca4, ca5⟩ := cells6 Ba
          have fa := Ba.frozen; have la := Ba.lt
          obtain ⟨cr0, cr1, cr2, cr3, cr4, cr5⟩ := cells6 Br
          have fr := Br.frozen; have lr := Br.lt
          go_upto_region 5 with fail
          clear ca0 ca1 ca2 ca3 ca4 ca5 fa la
          clear cr0 cr1 cr2 cr3 cr4 cr5 fr lr
          replace Ba : Blk (w1.setCell ⟨w.heap.size, 2, none⟩ (uv (x + 1#64))) (w.heap.size) 27 #[uv a.b.v, uv a.b.m, uv (x + 1#64), uv a.hi, sv a.sl, sv a.sh] := Ba.set_ 2 _
          replace Br : Blk (w1.setCell ⟨w.heap.size, 2, none⟩ (uv (x + 1#64))) (w.heap.size + 1) 27 #[.int .u64 0, .int .u64 0, .int .u64 0, .int .u64 0, .int .i64 0, .int .i64 0] := (Br.far (by first | (simp; done) | (simp; omega) | (simp [*]; done) | (simp only [ne_eq]; constructor <;> omega)) _)
          replace hB : Below w.heap.size w (w1.setCell ⟨w.heap.size, 2, none⟩ (uv (x + 1#64))) := (Bl_set hB (by first | omega | (simp; done) | (simp; omega)) _)
          generalize (w1.setCell ⟨w.heap.size, 2, none⟩ (uv (x + 1#64))) = w2 at *
          obtain ⟨ca0, ca1, ca2, ca3, ca4, ca5⟩ := cells6 Ba
          have fa := Ba.frozen; have la := Ba.lt
          obtain ⟨cr0, cr1, cr2, cr3, cr4, cr5⟩ := cells6 Br
          have fr := Br.frozen; have lr := Br.lt
          go_wp2
          exact bodyPost_ret (v := .tuple #[rv ⟨a.b, (x + 1#64), a.hi, a.sl, a.sh⟩, .bool true]) (by simp [results, Try.results85, go_sem, ca0, ca1, ca2, ca3, ca4, ca5, cr0, cr1, cr2, cr3, cr4, cr5, la, lr]) rfl ⟨by rw [hs]; first | done | rfl, by repeat (first | (with_reducible exact hB) | (with_reducible refine Bl_set ?_ (by first | omega | (simp; done) | (simp; omega)) _) | with_reducible apply Bl_alloc)⟩
        · have p9 : (a.hi).toNat < ((x + 1#64)).toNat := by have := of_decide_eq_true q9; rwa [T_lt] at this
          have hs : PlainBranch.without a x = (PlainScalar.none_, false) := by unfold PlainBranch.without; rw [if_pos p1, if_neg p2, if_neg p3, if_pos p9]
          try clear p1
          try clear p2
          try clear p3
          try clear p4
          try clear p9
          go_enter Try.func85, Try.ntmps85
          go_upto_region 1 with fail
          obtain ⟨ga, hga⟩ : ∃ g, g = w.heap.size := ⟨_, rfl⟩
          obtain ⟨gr, hgr⟩ : ∃ g, g = w.heap.size + 1 := ⟨_, rfl⟩
          have Ba : Blk ((w.alloc (.cells #[uv a.b.v, uv a.b.m, uv a.lo, uv a.hi, sv a.sl, sv a.sh] 27)).alloc (.cells #[.int .u64 0, .int .u64 0, .int .u64 0, .int .u64 0, .int .i64 0, .int .i64 0] 27)) (w.heap.size) 27 #[uv a.b.v, uv a.b.m, uv a.lo, uv a.hi, sv a.sl, sv a.sh] := ((Blk.new w 27 #[uv a.b.v, uv a.b.m, uv a.lo, uv a.hi, sv a.sl, sv a.sh])).alloc _
          have Br : Blk ((w.alloc (.cells #[uv a.b.v, uv a.b.m, uv a.lo, uv a.hi, sv a.sl, sv a.sh] 27)).alloc (.cells #[.int .u64 0, .int .u64 0, .int .u64 0, .int .u64 0, .int .i64 0, .int .i64 0] 27)) (w.heap.size + 1) 27 #[.int .u64 0, .int .u64 0, .int .u64 0, .int .u64 0, .int .i64 0, .int .i64 0] := (by simpa using Blk.new (w.alloc (.cells #[uv a.b.v, uv a.b.m, uv a.lo, uv a.hi, sv a.sl, sv a.sh] 27)) 27 #[.int .u64 0, .int .u64 0, .int .u64 0, .int .u64 0, .int .i64 0, .int .i64 0] : Blk _ (w.heap.size + 1) 27 #[.int .u64 0, .int .u64 0, .int .u64 0, .int .u64 0, .int .i64 0, .int .i64 0])
          have hB : Below w.heap.size w ((w.alloc (.cells #[uv a.b.v, uv a.b.m, uv a.lo, uv a.hi, sv a.sl, sv a.sh] 27)).alloc (.cells #[.int .u64 0, .int .u64 0, .int .u64 0, .int .u64 0, .int .i64 0, .int .i64 0] 27)) := (Bl_alloc (Bl_alloc (Bl_refl w) _) _)
          clear hga
          clear ga
          clear hgr
          clear gr
          generalize ((w.alloc (.cells #[uv a.b.v, uv a.b.m, uv a.lo, uv a.hi, sv a.sl, sv a.sh] 27)).alloc (.cells #[.int .u64 0, .int .u64 0, .int .u64 0, .int .u64 0, .int .i64 0, .int .i64 0] 27)) = w1 at *
          obtain ⟨ca0, ca1, ca2, ca3, ca4, ca5⟩ := cells6 Ba
          have fa := Ba.frozen; have la := Ba.lt
          obtain ⟨cr0, cr1, cr2, cr3, cr4, cr5⟩ := cells6 Br
          have fr := Br.frozen; have lr := Br.lt
          go_upto_region 5 with fail
          clear ca0 ca1 ca2 ca3 ca4 ca5 fa la
          clear cr0 cr1 cr2 cr3 cr4 cr5 fr lr
          replace Ba : Blk (w1.setCell ⟨w.heap.size, 2, none⟩ (uv (x + 1#64))) (w.heap.size) 27 #[uv a.b.v, uv a.b.m, uv (x + 1#64), uv a.hi, sv a.sl, sv a.sh] := Ba.set_ 2 _
          replace Br : Blk (w1.setCell ⟨w.heap.size, 2, none⟩ (uv (x + 1#64))) (w.heap.size + 1) 27 #[.int .u64 0, .int .u64 0, .int .u64 0, .int .u64 0, .int .i64 0, .int .i64 0] := (Br.far (by first | (simp; done) | (simp; omega) | (simp [*]; done) | (simp only [ne_eq]; constructor <;> omega)) _)
          replace hB : Below w.heap.size w (w1.setCell ⟨w.heap.size, 2, none⟩ (uv (x + 1#64))) := (Bl_set hB (by first | omega | (simp; done) | (simp; omega)) _)
          generalize (w1.setCell ⟨w.heap.size, 2, none⟩ (uv (x + 1#64))) = w2 at *
          obtain ⟨ca0, ca1, ca2, ca3, ca4, ca5⟩ := cells6 Ba
          have fa := Ba.frozen; have la := Ba.lt
          obtain ⟨cr0, cr1, cr2, cr3, cr4, cr5⟩ := cells6 Br
          have fr := Br.frozen; have lr := Br.lt
          go_wp2
          exact bodyPost_ret (v := .tuple #[rv PlainScalar.none_, .bool false]) (by simp [results, Try.results85, go_sem, cr0, cr1, cr2, cr3, cr4, cr5, lr, PlainScalar.none_, T, S]) rfl ⟨by rw [hs]; first | done | rfl, by repeat (first | (with_reducible exact hB) | (with_reducible refine Bl_set ?_ (by first | omega | (simp; done) | (simp; omega)) _) | with_reducible apply Bl_alloc)⟩
      · have p3 : a.hi = x := by simpa [T_beq] using q3
        cases q4 : (T x == 0)
        · have p4 : ¬ x = 0#64 := by simpa [T_beq0] using q4
          cases q9 : decide (T (x - 1#64) < T (x + 1#64))
          · have p9 : ¬ ((x - 1#64)).toNat < ((x + 1#64)).toNat := by have := of_decide_eq_false q9; rwa [T_lt] at this
            have hs : PlainBranch.without a x = (⟨a.b, (x + 1#64), (x - 1#64), a.sl, a.sh⟩, true) := by unfold PlainBranch.without; rw [if_pos p1, if_neg p2, if_pos p3, if_neg p4, if_neg p9]
            try clear p1
            try clear p2
            try clear p3
            try clear p4
            try clear p9
            go_enter Try.func85, Try.ntmps85
            go_upto_region 1 with fail
            obtain ⟨ga, hga⟩ : ∃ g, g = w.heap.size := ⟨_, rfl⟩
            obtain ⟨gr, hgr⟩ : ∃ g, g = w.heap.size + 1 := ⟨_, rfl⟩
            have Ba : Blk ((w.alloc (.cells #[uv a.b.v, uv a.b.m, uv a.lo, uv a.hi, sv a.sl, sv a.sh] 27)).alloc (.cells #[.int .u64 0, .int .u64 0, .int .u64 0, .int .u64 0, .int .i64 0, .int .i64 0] 27)) (w.heap.size) 27 #[uv a.b.v, uv a.b.m, uv a.lo, uv a.hi, sv a.sl, sv a.sh] := ((Blk.new w 27 #[uv a.b.v, uv a.b.m, uv a.lo, uv a.hi, sv a.sl, sv a.sh])).alloc _
            have Br : Blk ((w.alloc (.cells #[uv a.b.v, uv a.b.m, uv a.lo, uv a.hi, sv a.sl, sv a.sh] 27)).alloc (.cells #[.int .u64 0, .int .u64 0, .int .u64 0, .int .u64 0, .int .i64 0, .int .i64 0] 27)) (w.heap.size + 1) 27 #[.int .u64 0, .int .u64 0, .int .u64 0, .int .u64 0, .int .i64 0, .int .i64 0] := (by simpa using Blk.new (w.alloc (.cells #[uv a.b.v, uv a.b.m, uv a.lo, uv a.hi, sv a.sl, sv a.sh] 27)) 27 #[.int .u64 0, .int .u64 0, .int .u64 0, .int .u64 0, .int .i64 0, .int .i64 0] : Blk _ (w.heap.size + 1) 27 #[.int .u64 0, .int .u64 0, .int .u64 0, .int .u64 0, .int .i64 0, .int .i64 0])
            have hB : Below w.heap.size w ((w.alloc (.cells #[uv a.b.v, uv a.b.m, uv a.lo, uv a.hi, sv a.sl, sv a.sh] 27)).alloc (.cells #[.int .u64 0, .int .u64 0, .int .u64 0, .int .u64 0, .int .i64 0, .int .i64 0] 27)) := (Bl_alloc (Bl_alloc (Bl_refl w) _) _)
            clear hga
            clear ga
            clear hgr
            clear gr
            generalize ((w.alloc (.cells #[uv a.b.v, uv a.b.m, uv a.lo, uv a.hi, sv a.sl, sv a.sh] 27)).alloc (.cells #[.int .u64 0, .int .u64 0, .int .u64 0, .int .u64 0, .int .i64 0, .int .i64 0] 27)) = w1 at *
            obtain ⟨ca0, ca1, ca2, ca3, ca4, ca5⟩ := cells6 Ba
            have fa := Ba.frozen; have la := Ba.lt
            obtain ⟨cr0, cr1, cr2, cr3, cr4, cr5⟩ := cells6 Br
            have fr := Br.frozen; have lr := Br.lt
            go_upto_region 5 with fail
            clear ca0 ca1 ca2 ca3 ca4 ca5 fa la
            clear cr0 cr1 cr2 cr3 cr4 cr5 fr lr
            replace Ba : Blk (w1.setCell ⟨w.heap.size, 2, none⟩ (uv (x + 1#64))) (w.heap.size) 27 #[uv a.b.v, uv a.b.m, uv (x + 1#64), uv a.hi, sv a.sl, sv a.sh] := Ba.set_ 2 _
            replace Br : Blk (w1.setCell ⟨w.heap.size, 2, none⟩ (uv (x + 1#64))) (w.heap.size + 1) 27 #[.int .u64 0, .int .u64 0, .int .u64 0, .int .u64 0, .int .i64 0, .int .i64 0] := (Br.far (by first | (simp; done) | (simp; omega) | (simp [*]; done) | (simp only [ne_eq]; constructor <;> omega)) _)
            replace hB : Below w.heap.size w (w1.setCell ⟨w.heap.size, 2, none⟩ (uv (x + 1#64))) := (Bl_set hB (by first | omega | (simp; done) | (simp; omega)) _)
            generalize (w1.setCell ⟨w.heap.size, 2, none⟩ (uv (x + 1#64))) = w2 at *
            obtain ⟨ca0, ca1, ca2, ca3, ca4, ca5⟩ := cells6 Ba
            have fa := Ba.frozen; have la := Ba.lt
            obtain ⟨cr0, cr1, cr2, cr3, cr4, cr5⟩ := cells6 Br
            have fr := Br.frozen; have lr := Br.lt
            go_upto_region 9 with fail
            clear ca0 ca1 ca2 ca3 ca4 ca5 fa la
            clear cr0 cr1 cr2 cr3 cr4 cr5 fr lr
            replace Ba : Blk (w2.setCell ⟨w.heap.size, 3, none⟩ (uv (x - 1#64))) (w.heap.size) 27 #[uv a.b.v, uv a.b.m, uv (x + 1#64), uv (x - 1#64), sv a.sl, sv a.sh] := Ba.set_ 3 _
            replace Br : Blk (w2.setCell ⟨w.heap.size, 3, none⟩ (uv (x - 1#64))) (w.heap.size + 1) 27 #[.int .u64 0, .int .u64 0, .int .u64 0, .int .u64 0, .int .i64 0, .int .i64 0] := (Br.far (by first | (simp; done) | (simp; omega) | (simp [*]; done) | (simp only [ne_eq]; constructor <;> omega)) _)
            replace hB : Below w.heap.size w (w2.setCell ⟨w.heap.size, 3, none⟩ (uv (x - 1#64))) := (Bl_set hB (by first | omega | (simp; done) | (simp; omega)) _)
            generalize (w2.setCell ⟨w.heap.size, 3, none⟩ (uv (x - 1#64))) = w3 at *
            obtain ⟨ca0, ca1, ca2, ca3, ca4, ca5⟩ := cells6 Ba
            have fa := Ba.frozen; have la := Ba.lt
            obtain ⟨cr0, cr1, cr2, cr3, cr4, cr5⟩ := cells6 Br
            have fr := Br.frozen; have lr := Br.lt
            go_wp2
            exact bodyPost_ret (v := .tuple #[rv ⟨a.b, (x + 1#64), (x - 1#64), a.sl, a.sh⟩, .bool true]) (by simp [results, Try.results85, go_sem, ca0, ca1, ca2, ca3, ca4, ca5, cr0, cr1, cr2, cr3, cr4, cr5, la, lr]) rfl ⟨by rw [hs]; first | done | rfl, by repeat (first | (with_reducible exact hB) | (with_reducible refine Bl_set ?_ (by first | omega | (simp; done) | (simp; omega)) _) | with_reducible apply Bl_alloc)⟩
          · have p9 : ((x - 1#64)).toNat < ((x + 1#64)).toNat := by have := of_decide_eq_true q9; rwa [T_lt] at this
            have hs : PlainBranch.without a x = (PlainScalar.none_, false) := by unfold PlainBranch.without; rw [if_pos p1, if_neg p2, if_pos p3, if_neg p4, if_pos p9]
            try clear p1
            try clear p2
            try clear p3
            try clear p4
            try clear p9
            go_enter Try.func85, Try.ntmps85
            go_upto_region 1 with fail
            obtain ⟨ga, hga⟩ : ∃ g, g = w.heap.size := ⟨_, rfl⟩
            obtain ⟨gr, hgr⟩ : ∃ g, g = w.heap.size + 1 := ⟨_, rfl⟩
            have Ba : Blk ((w.alloc (.cells #[uv a.b.v, uv a.b.m, uv a.lo, uv a.hi, sv a.sl, sv a.sh] 27)).alloc (.cells #[.int .u64 0, .int .u64 0, .int .u64 0, .int .u64 0, .int .i64 0, .int .i64 0] 27)) (w.heap.size) 27 #[uv a.b.v, uv a.b.m, uv a.lo, uv a.hi, sv a.sl, sv a.sh] := ((Blk.new w 27 #[uv a.b.v, uv a.b.m, uv a.lo, uv a.hi, sv a.sl, sv a.sh])).alloc _
            have Br : Blk ((w.alloc (.cells #[uv a.b.v, uv a.b.m, uv a.lo, uv a.hi, sv a.sl, sv a.sh] 27)).alloc (.cells #[.int .u64 0, .int .u64 0, .int .u64 0, .int .u64 0, .int .i64 0, .int .i64 0] 27)) (w.heap.size + 1) 27 #[.int .u64 0, .int .u64 0, .int .u64 0, .int .u64 0, .int .i64 0, .int .i64 0] := (by simpa using Blk.new (w.alloc (.cells #[uv a.b.v, uv a.b.m, uv a.lo, uv a.hi, sv a.sl, sv a.sh] 27)) 27 #[.int .u64 0, .int .u64 0, .int .u64 0, .int .u64 0, .int .i64 0, .int .i64 0] : Blk _ (w.heap.size + 1) 27 #[.int .u64 0, .int .u64 0, .int .u64 0, .int .u64 0, .int .i64 0, .int .i64 0])
            have hB : Below w.heap.size w ((w.alloc (.cells #[uv a.b.v, uv a.b.m, uv a.lo, uv a.hi, sv a.sl, sv a.sh] 27)).alloc (.cells #[.int .u64 0, .int .u64 0, .int .u64 0, .int .u64 0, .int .i64 0, .int .i64 0] 27)) := (Bl_alloc (Bl_alloc (Bl_refl w) _) _)
            clear hga
            clear ga
            clear hgr
            clear gr
            generalize ((w.alloc (.cells #[uv a.b.v, uv a.b.m, uv a.lo, uv a.hi, sv a.sl, sv a.sh] 27)).alloc (.cells #[.int .u64 0, .int .u64 0, .int .u64 0, .int .u64 0, .int .i64 0, .int .i64 0] 27)) = w1 at *
            obtain ⟨ca0, ca1, ca2, ca3, ca4, ca5⟩ := cells6 Ba
            have fa := Ba.frozen; have la := Ba.lt
            obtain ⟨cr0, cr1, cr2, cr3, cr4, cr5⟩ := cells6 Br
            have fr := Br.frozen; have lr := Br.lt
            go_upto_region 5 with fail
            clear ca0 ca1 ca2 ca3 ca4 ca5 fa la
            clear cr0 cr1 cr2 cr3 cr4 cr5 fr lr
            replace Ba : Blk (w1.setCell ⟨w.heap.size, 2, none⟩ (uv (x + 1#64))) (w.heap.size) 27 #[uv a.b.v, uv a.b.m, uv (x + 1#64), uv a.hi, sv a.sl, sv a.sh] := Ba.set_ 2 _
            replace Br : Blk (w1.setCell ⟨w.heap.size, 2, none⟩ (uv (x + 1#64))) (w.heap.size + 1) 27 #[.int .u64 0, .int .u64 0, .int .u64 0, .int .u64 0, .int .i64 0, .int .i64 0] := (Br.far (by first | (simp; done) | (simp; omega) | (simp [*]; done) | (simp only [ne_eq]; constructor <;> omega)) _)
            replace hB : Below w.heap.size w (w1.setCell ⟨w.heap.size, 2, none⟩ (uv (x + 1#64))) := (Bl_set hB (by first | omega | (simp; done) | (simp; omega)) _)
            generalize (w1.setCell ⟨w.heap.size, 2, none⟩ (uv (x + 1#64))) = w2 at *
            obtain ⟨ca0, ca1, ca2, ca3, ca4, ca5⟩ := cells6 Ba
            have fa := Ba.frozen; have la := Ba.lt
            obtain ⟨cr0, cr1, cr2, cr3, cr4, cr5⟩ := cells6 Br
            have fr := Br.frozen; have lr := Br.lt
            go_upto_region 9 with fail
            clear ca0 ca1 ca2 ca3 ca4 ca5 fa la
            clear cr0 cr1 cr2 cr3 cr4 cr5 fr lr
            replace Ba : Blk (w2.setCell ⟨w.heap.size, 3, none⟩ (uv (x - 1#64))) (w.heap.size) 27 #[uv a.b.v, uv a.b.m, uv (x + 1#64), uv (x - 1#64), sv a.sl, sv a.sh] := Ba.set_ 3 _
            replace Br : Blk (w2.setCell ⟨w.heap.size, 3, none⟩ (uv (x - 1#64))) (w.heap.size + 1) 27 #[.int .u64 0, .int .u64 0, .int .u64 0, .int .u64 0, .int .i64 0, .int .i64 0] := (Br.far (by first | (simp; done) | (simp; omega) | (simp [*]; done) | (simp only [ne_eq]; constructor <;> omega)) _)
            replace hB : Below w.heap.size w (w2.setCell ⟨w.heap.size, 3, none⟩ (uv (x - 1#64))) := (Bl_set hB (by first | omega | (simp; done) | (simp; omega)) _)
            generalize (w2.setCell ⟨w.heap.size, 3, none⟩ (uv (x - 1#64))) = w3 at *
            obtain ⟨ca0, ca1, ca2, ca3, ca4, ca5⟩ := cells6 Ba
            have fa := Ba.frozen; have la := Ba.lt
            obtain ⟨cr0, cr1, cr2, cr3, cr4, cr5⟩ := cells6 Br
            have fr := Br.frozen; have lr := Br.lt
            go_wp2
            exact bodyPost_ret (v := .tuple #[rv PlainScalar.none_, .bool false]) (by simp [results, Try.results85, go_sem, cr0, cr1, cr2, cr3, cr4, cr5, lr, PlainScalar.none_, T, S]) rfl ⟨by rw [hs]; first | done | rfl, by repeat (first | (with_reducible exact hB) | (with_reducible refine Bl_set ?_ (by first | omega | (simp; done) | (simp; omega)) _) | with_reducible apply Bl_alloc)⟩
        · have p4 : x = 0#64 := by simpa [T_beq0] using q4
          have hs : PlainBranch.without a x = (PlainScalar.none_, false) := by unfold PlainBranch.without; rw [if_pos p1, if_neg p2, if_pos p3, if_pos p4]
          try clear p1
          try clear p2
          try clear p3
          try clear p4
          try clear p9
          go_enter Try.func85, Try.ntmps85
          go_upto_region 1 with fail
          obtain ⟨ga, hga⟩ : ∃ g, g = w.heap.size := ⟨_, rfl⟩
          obtain ⟨gr, hgr⟩ : ∃ g, g = w.heap.size + 1 := ⟨_, rfl⟩
          have Ba : Blk ((w.alloc (.cells #[uv a.b.v, uv a.b.m, uv a.lo, uv a.hi, sv a.sl, sv a.sh] 27)).alloc (.cells #[.int .u64 0, .int .u64 0, .int .u64 0, .int .u64 0, .int .i64 0, .int .i64 0] 27)) (w.heap.size) 27 #[uv a.b.v, uv a.b.m, uv a.lo, uv a.hi, sv a.sl, sv a.sh] := ((Blk.new w 27 #[uv a.b.v, uv a.b.m, uv a.lo, uv a.hi, sv a.sl, sv a.sh])).alloc _
          have Br : Blk ((w.alloc (.cells #[uv a.b.v, uv a.b.m, uv a.lo, uv a.hi, sv a.sl, sv a.sh] 27)).alloc (.cells #[.int .u64 0, .int .u64 0, .int .u64 0, .int .u64 0, .int .i64 0, .int .i64 0] 27)) (w.heap.size + 1) 27 #[.int .u64 0, .int .u64 0, .int .u64 0, .int .u64 0, .int .i64 0, .int .i64 0] := (by simpa using Blk.new (w.alloc (.cells #[uv a.b.v, uv a.b.m, uv a.lo, uv a.hi, sv a.sl, sv a.sh] 27)) 27 #[.int .u64 0, .int .u64 0, .int .u64 0, .int .u64 0, .int .i64 0, .int .i64 0] : Blk _ (w.heap.size + 1) 27 #[.int .u64 0, .int .u64 0, .int .u64 0, .int .u64 0, .int .i64 0, .int .i64 0])
          have hB : Below w.heap.size w ((w.alloc (.cells #[uv a.b.v, uv a.b.m, uv a.lo, uv a.hi, sv a.sl, sv a.sh] 27)).alloc (.cells #[.int .u64 0, .int .u64 0, .int .u64 0, .int .u64 0, .int .i64 0, .int .i64 0] 27)) := (Bl_alloc (Bl_alloc (Bl_refl w) _) _)
          clear hga
          clear ga
          clear hgr
          clear gr
          generalize ((w.alloc (.cells #[uv a.b.v, uv a.b.m, uv a.lo, uv a.hi, sv a.sl, sv a.sh] 27)).alloc (.cells #[.int .u64 0, .int .u64 0, .int .u64 0, .int .u64 0, .int .i64 0, .int .i64 0] 27)) = w1 at *
          obtain ⟨ca0, ca1, ca2, ca3, ca4, ca5⟩ := cells6 Ba
          have fa := Ba.frozen; have la := Ba.lt
          obtain ⟨cr0, cr1, cr2, cr3, cr4, cr5⟩ := cells6 Br
          have fr := Br.frozen; have lr := Br.lt
          go_upto_region 5 with fail
          clear ca0 ca1 ca2 ca3 ca4 ca5 fa la
          clear cr0 cr1 cr2 cr3 cr4 cr5 fr lr
          replace Ba : Blk (w1.setCell ⟨w.heap.size, 2, none⟩ (uv (x + 1#64))) (w.heap.size) 27 #[uv a.b.v, uv a.b.m, uv (x + 1#64), uv a.hi, sv a.sl, sv a.sh] := Ba.set_ 2 _
          replace Br : Blk (w1.setCell ⟨w.heap.size, 2, none⟩ (uv (x + 1#64))) (w.heap.size + 1) 27 #[.int .u64 0, .int .u64 0, .int .u64 0, .int .u64 0, .int .i64 0, .int .i64 0] := (Br.far (by first | (simp; done) | (simp; omega) | (simp [*]; done) | (simp only [ne_eq]; constructor <;> omega)) _)
          replace hB : Below w.heap.size w (w1.setCell ⟨w.heap.size, 2, none⟩ (uv (x + 1#64))) := (Bl_set hB (by first | omega | (simp; done) | (simp; omega)) _)
          generalize (w1.setCell ⟨w.heap.size, 2, none⟩ (uv (x + 1#64))) = w2 at *
          obtain ⟨ca0, ca1, ca2, ca3, ca4, ca5⟩ := cells6 Ba
          have fa := Ba.frozen; have la := Ba.lt
          obtain ⟨cr0, cr1, cr2, cr3, cr4, cr5⟩ := cells6 Br
          have fr := Br.frozen; have lr := Br.lt
          go_wp2
          exact bodyPost_ret (v := .tuple #[rv PlainScalar.none_, .bool false]) (by simp [results, Try.results85, go_sem, cr0, cr1, cr2, cr3, cr4, cr5, lr, PlainScalar.none_, T, S]) rfl ⟨by rw [hs]; first | done | rfl, by repeat (first | (with_reducible exact hB) | (with_reducible refine Bl_set ?_ (by first | omega | (simp; done) | (simp; omega)) _) | with_reducible apply Bl_alloc)⟩
    · have p2 : x = BitVec.allOnes 64 := by simpa [T_beqAll] using q2
      have hs : PlainBranch.without a x = (PlainScalar.none_, false) := by unfold PlainBranch.without; rw [if_pos p1, if_pos p2]
      try clear p1
      try clear p2
      try clear p3
      try clear p4
      try clear p9
      go_enter Try.func85, Try.ntmps85
      go_upto_region 1 with fail
      obtain ⟨ga, hga⟩ : ∃ g, g = w.heap.size := ⟨_, rfl⟩
      obtain ⟨gr, hgr⟩ : ∃ g, g = w.heap.size + 1 := ⟨_, rfl⟩
      have Ba : Blk ((w.alloc (.cells #[uv a.b.v, uv a.b.m, uv a.lo, uv a.hi, sv a.sl, sv a.sh] 27)).alloc (.cells #[.int .u64 0, .int .u64 0, .int .u64 0, .int .u64 0, .int .i64 0, .int .i64 0] 27)) (w.heap.size) 27 #[uv a.b.v, uv a.b.m, uv a.lo, uv a.hi, sv a.sl, sv a.sh] := ((Blk.new w 27 #[uv a.b.v, uv a.b.m, uv a.lo, uv a.hi, sv a.sl, sv a.sh])).alloc _
      have Br : Blk ((w.alloc (.cells #[uv a.b.v, uv a.b.m, uv a.lo, uv a.hi, sv a.sl, sv a.sh] 27)).alloc (.cells #[.int .u64 0, .int .u64 0, .int .u64 0, .int .u64 0, .int .i64 0, .int .i64 0] 27)) (w.heap.size + 1) 27 #[.int .u64 0, .int .u64 0, .int .u64 0, .int .u64 0, .int .i64 0, .int .i64 0] := (by simpa using Blk.new (w.alloc (.cells #[uv a.b.v, uv a.b.m, uv a.lo, uv a.hi, sv a.sl, sv a.sh] 27)) 27 #[.int .u64 0, .int .u64 0, .int .u64 0, .int .u64 0, .int .i64 0, .int .i64 0] : Blk _ (w.heap.size + 1) 27 #[.int .u64 0, .int .u64 0, .int .u64 0, .int .u64 0, .int .i64 0, .int .i64 0])
      have hB : Below w.heap.size w ((w.alloc (.cells #[uv a.b.v, uv a.b.m, uv a.lo, uv a.hi, sv a.sl, sv a.sh] 27)).alloc (.cells #[.int .u64 0, .int .u64 0, .int .u64 0, .int .u64 0, .int .i64 0, .int .i64 0] 27)) := (Bl_alloc (Bl_alloc (Bl_refl w) _) _)
      clear hga
      clear ga
      clear hgr
      clear gr
      generalize ((w.alloc (.cells #[uv a.b.v, uv a.b.m, uv a.lo, uv a.hi, sv a.sl, sv a.sh] 27)).alloc (.cells #[.int .u64 0, .int .u64 0, .int .u64 0, .int .u64 0, .int .i64 0, .int .i64 0] 27)) = w1 at *
      obtain ⟨ca0, ca1, ca2, ca3, ca4, ca5⟩ := cells6 Ba
      have fa := Ba.frozen; have la := Ba.lt
      obtain ⟨cr0, cr1, cr2, cr3, cr4, cr5⟩ := cells6 Br
      have fr := Br.frozen; have lr := Br.lt
      go_wp2
      exact bodyPost_ret (v := .tuple #[rv PlainScalar.none_, .bool false]) (by simp [results, Try.results85, go_sem, cr0, cr1, cr2, cr3, cr4, cr5, lr, PlainScalar.none_, T, S]) rfl ⟨by rw [hs]; first | done | rfl, by repeat (first | (with_reducible exact hB) | (with_reducible refine Bl_set ?_ (by first | omega | (simp; done) | (simp; omega)) _) | with_reducible apply Bl_alloc)⟩
set_option maxRecDepth 100000 in
set_option maxHeartbeats 3200000 in
theorem same_c (a b : Rng) (w : World) : Calls Try.prog 79 #[pv2 a b] w fun e w' => e = .returned (tv (PlainBranch.same (a, b))) ∧ Below w.heap.size w w' := by
  obtain ⟨t, e_t⟩ : ∃ z' : N, z' = (PlainTnum.meet a.b b.b).1 := ⟨_, rfl⟩
  obtain ⟨ok, e_ok⟩ : ∃ z' : Bool, z' = (PlainTnum.meet a.b b.b).2 := ⟨_, rfl⟩
  have k_t : ∀ w : World, Calls Try.prog 48 #[nv a.b, nv b.b] w fun e w' => e = .returned (.tuple #[nv t, .bool ok]) ∧ Below w.heap.size w w' := fun w => by rw [e_t, e_ok]; exact meet_c a.b b.b w
  obtain ⟨R, e_R⟩ : ∃ z' : PlainBranch.Pair × Bool, z' = PlainBranch.settleP ((⟨t, PlainScalar.maxU a.lo b.lo, PlainScalar.minU a.hi b.hi, PlainScalar.maxS a.sl b.sl, PlainScalar.minS a.sh b.sh⟩ : Rng), (⟨t, PlainScalar.maxU a.lo b.lo, PlainScalar.minU a.hi b.hi, PlainScalar.maxS a.sl b.sl, PlainScalar.minS a.sh b.sh⟩ : Rng)) := ⟨_, rfl⟩
  have k_R : ∀ w : World, Calls Try.prog 71 #[pv2 ⟨t, PlainScalar.maxU a.lo b.lo, PlainScalar.minU a.hi b.hi, PlainScalar.maxS a.sl b.sl, PlainScalar.minS a.sh b.sh⟩ ⟨t, PlainScalar.maxU a.lo b.lo, PlainScalar.minU a.hi b.hi, PlainScalar.maxS a.sl b.sl, PlainScalar.minS a.sh b.sh⟩] w fun e w' => e = .returned (tv R) ∧ Below w.heap.size w w' := fun w => by rw [e_R]; exact psettle_c ⟨t, PlainScalar.maxU a.lo b.lo, PlainScalar.minU a.hi b.hi, PlainScalar.maxS a.sl b.sl, PlainScalar.minS a.sh b.sh⟩ ⟨t, PlainScalar.maxU a.lo b.lo, PlainScalar.minU a.hi b.hi, PlainScalar.maxS a.sl b.sl, PlainScalar.minS a.sh b.sh⟩ w
  have hs : PlainBranch.same (a, b) = if ok = true then R else (PlainBranch.zero, false) := by rw [e_R, e_ok, e_t]; rfl
  clear e_R e_t e_ok
  cases ok
  · rw [if_neg (by decide)] at hs
    go_enter Try.func79, Try.ntmps79
    go_wp2_with fail
    obtain ⟨gp, hgp⟩ : ∃ g, g = w.heap.size := ⟨_, rfl⟩
    obtain ⟨gr, hgr⟩ : ∃ g, g = w.heap.size + 1 := ⟨_, rfl⟩
    have Bp : Blk ((w.alloc (.cells #[uv a.b.v, uv a.b.m, uv a.lo, uv a.hi, sv a.sl, sv a.sh, uv b.b.v, uv b.b.m, uv b.lo, uv b.hi, sv b.sl, sv b.sh] 118)).alloc (.cells #[.int .u64 0, .int .u64 0, .int .u64 0, .int .u64 0, .int .i64 0, .int .i64 0, .int .u64 0, .int .u64 0, .int .u64 0, .int .u64 0, .int .i64 0, .int .i64 0] 118)) (w.heap.size) 118 #[uv a.b.v, uv a.b.m, uv a.lo, uv a.hi, sv a.sl, sv a.sh, uv b.b.v, uv b.b.m, uv b.lo, uv b.hi, sv b.sl, sv b.sh] := ((Blk.new w 118 #[uv a.b.v, uv a.b.m, uv a.lo, uv a.hi, sv a.sl, sv a.sh, uv b.b.v, uv b.b.m, uv b.lo, uv b.hi, sv b.sl, sv b.sh])).alloc _
    have Br : Blk ((w.alloc (.cells #[uv a.b.v, uv a.b.m, uv a.lo, uv a.hi, sv a.sl, sv a.sh, uv b.b.v, uv b.b.m, uv b.lo, uv b.hi, sv b.sl, sv b.sh] 118)).alloc (.cells #[.int .u64 0, .int .u64 0, .int .u64 0, .int .u64 0, .int .i64 0, .int .i64 0, .int .u64 0, .int .u64 0, .int .u64 0, .int .u64 0, .int .i64 0, .int .i64 0] 118)) (w.heap.size + 1) 118 #[.int .u64 0, .int .u64 0, .int .u64 0, .int .u64 0, .int .i64 0, .int .i64 0, .int .u64 0, .int .u64 0, .int .u64 0, .int .u64 0, .int .i64 0, .int .i64 0] := (by simpa using Blk.new (w.alloc (.cells #[uv a.b.v, uv a.b.m, uv a.lo, uv a.hi, sv a.sl, sv a.sh, uv b.b.v, uv b.b.m, uv b.lo, uv b.hi, sv b.sl, sv b.sh] 118)) 118 #[.int .u64 0, .int .u64 0, .int .u64 0, .int .u64 0, .int .i64 0, .int .i64 0, .int .u64 0, .int .u64 0, .int .u64 0, .int .u64 0, .int .i64 0, .int .i64 0] : Blk _ (w.heap.size + 1) 118 #[.int .u64 0, .int .u64 0, .int .u64 0, .int .u64 0, .int .i64 0, .int .i64 0, .int .u64 0, .int .u64 0, .int .u64 0, .int .u64 0, .int .i64 0, .int .i64 0])
    have hB : Below w.heap.size w ((w.alloc (.cells #[uv a.b.v, uv a.b.m, uv a.lo, uv a.hi, sv a.sl, sv a.sh, uv b.b.v, uv b.b.m, uv b.lo, uv b.hi, sv b.sl, sv b.sh] 118)).alloc (.cells #[.int .u64 0, .int .u64 0, .int .u64 0, .int .u64 0, .int .i64 0, .int .i64 0, .int .u64 0, .int .u64 0, .int .u64 0, .int .u64 0, .int .i64 0, .int .i64 0] 118)) := (Bl_alloc (Bl_alloc (Bl_refl w) _) _)
    clear hgp
    clear gp
    clear hgr
    clear gr
    generalize ((w.alloc (.cells #[uv a.b.v, uv a.b.m, uv a.lo, uv a.hi, sv a.sl, sv a.sh, uv b.b.v, uv b.b.m, uv b.lo, uv b.hi, sv b.sl, sv b.sh] 118)).alloc (.cells #[.int .u64 0, .int .u64 0, .int .u64 0, .int .u64 0, .int .i64 0, .int .i64 0, .int .u64 0, .int .u64 0, .int .u64 0, .int .u64 0, .int .i64 0, .int .i64 0] 118)) = w1 at *
    obtain ⟨cp0, cp1, cp2, cp3, cp4, cp5, cp6, cp7, cp8, cp9, cp10, cp11⟩ := cells12 Bp
    have fp := Bp.frozen; have lp := Bp.lt
    obtain ⟨cr0, cr1, cr2, cr3, cr4, cr5, cr6, cr7, cr8, cr9, cr10, cr11⟩ := cells12 Br
    have fr := Br.frozen; have lr := Br.lt
    go_wp2_with fail
    refine (k_t _).mono ?_
    rintro e w2 ⟨rfl, hb⟩
    clear cp0 cp1 cp2 cp3 cp4 cp5 cp6 cp7 cp8 cp9 cp10 cp11 fp lp
    clear cr0 cr1 cr2 cr3 cr4 cr5 cr6 cr7 cr8 cr9 cr10 cr11 fr lr
    replace Bp := (Bp).next hb
    replace Br := (Br).next hb
    replace hB : Below w.heap.size w w2 := by repeat (first | exact hB | (refine Bl_set ?_ (by first | omega | (simp; omega)) _) | apply Bl_alloc | (refine Bl_trans ?_ hb))
    clear hb
    obtain ⟨cp0, cp1, cp2, cp3, cp4, cp5, cp6, cp7, cp8, cp9, cp10, cp11⟩ := cells12 Bp
    have fp := Bp.frozen; have lp := Bp.lt
    obtain ⟨cr0, cr1, cr2, cr3, cr4, cr5, cr6, cr7, cr8, cr9, cr10, cr11⟩ := cells12 Br
    have fr := Br.frozen; have lr := Br.lt
    go_wp2
    exact bodyPost_ret (v := .tuple #[pv2 PlainScalar.none_ PlainScalar.none_, .bool false]) (by simp [results, Try.results79, go_sem, cr0, cr1, cr2, cr3, cr4, cr5, cr6, cr7, cr8, cr9, cr10, cr11, lr, PlainScalar.none_, T, S]) rfl ⟨by rw [hs]; first | done | rfl, by repeat (first | (with_reducible exact hB) | (with_reducible refine Bl_set ?_ (by first | omega | (simp; done) | (simp; omega)) _) | with_reducible apply Bl_alloc)⟩
  · rw [if_pos rfl] at hs
    go_enter Try.func79, Try.ntmps79
    go_wp2_with fail
    obtain ⟨gp, hgp⟩ : ∃ g, g = w.heap.size := ⟨_, rfl⟩
    obtain ⟨gr, hgr⟩ : ∃ g, g = w.heap.size + 1 := ⟨_, rfl⟩
    have Bp : Blk ((w.alloc (.cells #[uv a.b.v, uv a.b.m, uv a.lo, uv a.hi, sv a.sl, sv a.sh, uv b.b.v, uv b.b.m, uv b.lo, uv b.hi, sv b.sl, sv b.sh] 118)).alloc (.cells #[.int .u64 0, .int .u64 0, .int .u64 0, .int .u64 0, .int .i64 0, .int .i64 0, .int .u64 0, .int .u64 0, .int .u64 0, .int .u64 0, .int .i64 0, .int .i64 0] 118)) (w.heap.size) 118 #[uv a.b.v, uv a.b.m, uv a.lo, uv a.hi, sv a.sl, sv a.sh, uv b.b.v, uv b.b.m, uv b.lo, uv b.hi, sv b.sl, sv b.sh] := ((Blk.new w 118 #[uv a.b.v, uv a.b.m, uv a.lo, uv a.hi, sv a.sl, sv a.sh, uv b.b.v, uv b.b.m, uv b.lo, uv b.hi, sv b.sl, sv b.sh])).alloc _
    have Br : Blk ((w.alloc (.cells #[uv a.b.v, uv a.b.m, uv a.lo, uv a.hi, sv a.sl, sv a.sh, uv b.b.v, uv b.b.m, uv b.lo, uv b.hi, sv b.sl, sv b.sh] 118)).alloc (.cells #[.int .u64 0, .int .u64 0, .int .u64 0, .int .u64 0, .int .i64 0, .int .i64 0, .int .u64 0, .int .u64 0, .int .u64 0, .int .u64 0, .int .i64 0, .int .i64 0] 118)) (w.heap.size + 1) 118 #[.int .u64 0, .int .u64 0, .int .u64 0, .int .u64 0, .int .i64 0, .int .i64 0, .int .u64 0, .int .u64 0, .int .u64 0, .int .u64 0, .int .i64 0, .int .i64 0] := (by simpa using Blk.new (w.alloc (.cells #[uv a.b.v, uv a.b.m, uv a.lo, uv a.hi, sv a.sl, sv a.sh, uv b.b.v, uv b.b.m, uv b.lo, uv b.hi, sv b.sl, sv b.sh] 118)) 118 #[.int .u64 0, .int .u64 0, .int .u64 0, .int .u64 0, .int .i64 0, .int .i64 0, .int .u64 0, .int .u64 0, .int .u64 0, .int .u64 0, .int .i64 0, .int .i64 0] : Blk _ (w.heap.size + 1) 118 #[.int .u64 0, .int .u64 0, .int .u64 0, .int .u64 0, .int .i64 0, .int .i64 0, .int .u64 0, .int .u64 0, .int .u64 0, .int .u64 0, .int .i64 0, .int .i64 0])
    have hB : Below w.heap.size w ((w.alloc (.cells #[uv a.b.v, uv a.b.m, uv a.lo, uv a.hi, sv a.sl, sv a.sh, uv b.b.v, uv b.b.m, uv b.lo, uv b.hi, sv b.sl, sv b.sh] 118)).alloc (.cells #[.int .u64 0, .int .u64 0, .int .u64 0, .int .u64 0, .int .i64 0, .int .i64 0, .int .u64 0, .int .u64 0, .int .u64 0, .int .u64 0, .int .i64 0, .int .i64 0] 118)) := (Bl_alloc (Bl_alloc (Bl_refl w) _) _)
    clear hgp
    clear gp
    clear hgr
    clear gr
    generalize ((w.alloc (.cells #[uv a.b.v, uv a.b.m, uv a.lo, uv a.hi, sv a.sl, sv a.sh, uv b.b.v, uv b.b.m, uv b.lo, uv b.hi, sv b.sl, sv b.sh] 118)).alloc (.cells #[.int .u64 0, .int .u64 0, .int .u64 0, .int .u64 0, .int .i64 0, .int .i64 0, .int .u64 0, .int .u64 0, .int .u64 0, .int .u64 0, .int .i64 0, .int .i64 0] 118)) = w1 at *
    obtain ⟨cp0, cp1, cp2, cp3, cp4, cp5, cp6, cp7, cp8, cp9, cp10, cp11⟩ := cells12 Bp
    have fp := Bp.frozen; have lp := Bp.lt
    obtain ⟨cr0, cr1, cr2, cr3, cr4, cr5, cr6, cr7, cr8, cr9, cr10, cr11⟩ := cells12 Br
    have fr := Br.frozen; have lr := Br.lt
    go_wp2_with fail
    refine (k_t _).mono ?_
    rintro e w2 ⟨rfl, hb⟩
    clear cp0 cp1 cp2 cp3 cp4 cp5 cp6 cp7 cp8 cp9 cp10 cp11 fp lp
    clear cr0 cr1 cr2 cr3 cr4 cr5 cr6 cr7 cr8 cr9 cr10 cr11 fr lr
    replace Bp := (Bp).next hb
    replace Br := (Br).next hb
    replace hB : Below w.heap.size w w2 := by repeat (first | exact hB | (refine Bl_set ?_ (by first | omega | (simp; omega)) _) | apply Bl_alloc | (refine Bl_trans ?_ hb))
    clear hb
    obtain ⟨cp0, cp1, cp2, cp3, cp4, cp5, cp6, cp7, cp8, cp9, cp10, cp11⟩ := cells12 Bp
    have fp := Bp.frozen; have lp := Bp.lt
    obtain ⟨cr0, cr1, cr2, cr3, cr4, cr5, cr6, cr7, cr8, cr9, cr10, cr11⟩ := cells12 Br
    have fr := Br.frozen; have lr := Br.lt
    go_upto_region 4 with fail
    clear cp0 cp1 cp2 cp3 cp4 cp5 cp6 cp7 cp8 cp9 cp10 cp11 fp lp
    clear cr0 cr1 cr2 cr3 cr4 cr5 cr6 cr7 cr8 cr9 cr10 cr11 fr lr
    have Bt := Blk.new w2 25 #[uv t.v, uv t.m]
    have hgt := hB.size
    have hnpt := Nat.ne_of_lt Bp.lt; have hltpt := Bp.lt
    have hnrt := Nat.ne_of_lt Br.lt; have hltrt := Br.lt
    replace Bp : Blk (w2.alloc (.cells #[uv t.v, uv t.m] 25)) (w.heap.size) 118 #[uv a.b.v, uv a.b.m, uv a.lo, uv a.hi, sv a.sl, sv a.sh, uv b.b.v, uv b.b.m, uv b.lo, uv b.hi, sv b.sl, sv b.sh] := Bp.alloc _
    replace Br : Blk (w2.alloc (.cells #[uv t.v, uv t.m] 25)) (w.heap.size + 1) 118 #[.int .u64 0, .int .u64 0, .int .u64 0, .int .u64 0, .int .i64 0, .int .i64 0, .int .u64 0, .int .u64 0, .int .u64 0, .int .u64 0, .int .i64 0, .int .i64 0] := Br.alloc _
    replace hB : Below w.heap.size w (w2.alloc (.cells #[uv t.v, uv t.m] 25)) := Bl_alloc hB _
    generalize (w2.alloc (.cells #[uv t.v, uv t.m] 25)) = w3 at *
    generalize w2.heap.size = gt at *
    obtain ⟨cp0, cp1, cp2, cp3, cp4, cp5, cp6, cp7, cp8, cp9, cp10, cp11⟩ := cells12 Bp
    have fp := Bp.frozen; have lp := Bp.lt
    obtain ⟨cr0, cr1, cr2, cr3, cr4, cr5, cr6, cr7, cr8, cr9, cr10, cr11⟩ := cells12 Br
    have fr := Br.frozen; have lr := Br.lt
    obtain ⟨ct0, ct1⟩ := cells2 Bt
    have ft := Bt.frozen; have lt := Bt.lt
    go_upto_region 5 with fail
    clear cp0 cp1 cp2 cp3 cp4 cp5 cp6 cp7 cp8 cp9 cp10 cp11 fp lp
    clear cr0 cr1 cr2 cr3 cr4 cr5 cr6 cr7 cr8 cr9 cr10 cr11 fr lr
    clear ct0 ct1 ft lt
    have Bm := Blk.new w3 27 #[uv t.v, uv t.m, uv (PlainScalar.maxU a.lo b.lo), uv (PlainScalar.minU a.hi b.hi), sv (PlainScalar.maxS a.sl b.sl), sv (PlainScalar.minS a.sh b.sh)]
    have hgm := hB.size
    have hnpm := Nat.ne_of_lt Bp.lt; have hltpm := Bp.lt
    have hnrm := Nat.ne_of_lt Br.lt; have hltrm := Br.lt
    have hntm := Nat.ne_of_lt Bt.lt; have hlttm := Bt.lt
    replace Bp : Blk (w3.alloc (.cells #[uv t.v, uv t.m, uv (PlainScalar.maxU a.lo b.lo), uv (PlainScalar.minU a.hi b.hi), sv (PlainScalar.maxS a.sl b.sl), sv (PlainScalar.minS a.sh b.sh)] 27)) (w.heap.size) 118 #[uv a.b.v, uv a.b.m, uv a.lo, uv a.hi, sv a.sl, sv a.sh, uv b.b.v, uv b.b.m, uv b.lo, uv b.hi, sv b.sl, sv b.sh] := Bp.alloc _
    replace Br : Blk (w3.alloc (.cells #[uv t.v, uv t.m, uv (PlainScalar.maxU a.lo b.lo), uv (PlainScalar.minU a.hi b.hi), sv (PlainScalar.maxS a.sl b.sl), sv (PlainScalar.minS a.sh b.sh)] 27)) (w.heap.size + 1) 118 #[.int .u64 0, .int .u64 0, .int .u64 0, .int .u64 0, .int .i64 0, .int .i64 0, .int .u64 0, .int .u64 0, .int .u64 0, .int .u64 0, .int .i64 0, .int .i64 0] := Br.alloc _
    replace Bt : Blk (w3.alloc (.cells #[uv t.v, uv t.m, uv (PlainScalar.maxU a.lo b.lo), uv (PlainScalar.minU a.hi b.hi), sv (PlainScalar.maxS a.sl b.sl), sv (PlainScalar.minS a.sh b.sh)] 27)) (gt) 25 #[uv t.v, uv t.m] := Bt.alloc _
    replace hB : Below w.heap.size w (w3.alloc (.cells #[uv t.v, uv t.m, uv (PlainScalar.maxU a.lo b.lo), uv (PlainScalar.minU a.hi b.hi), sv (PlainScalar.maxS a.sl b.sl), sv (PlainScalar.minS a.sh b.sh)] 27)) := Bl_alloc hB _
    generalize (w3.alloc (.cells #[uv t.v, uv t.m, uv (PlainScalar.maxU a.lo b.lo), uv (PlainScalar.minU a.hi b.hi), sv (PlainScalar.maxS a.sl b.sl), sv (PlainScalar.minS a.sh b.sh)] 27)) = w4 at *
    generalize w3.heap.size = gm at *
    obtain ⟨cp0, cp1, cp2, cp3, cp4, cp5, cp6, cp7, cp8, cp9, cp10, cp11⟩ := cells12 Bp
    have fp := Bp.frozen; have lp := Bp.lt
    obtain ⟨cr0, cr1, cr2, cr3, cr4, cr5, cr6, cr7, cr8, cr9, cr10, cr11⟩ := cells12 Br
    have fr := Br.frozen; have lr := Br.lt
    obtain ⟨ct0, ct1⟩ := cells2 Bt
    have ft := Bt.frozen; have lt := Bt.lt
    obtain ⟨cm0, cm1, cm2, cm3, cm4, cm5⟩ := cells6 Bm
    have fm := Bm.frozen; have lm := Bm.lt
    go_wp2_with fail
    refine (k_R _).mono ?_
    rintro e w5 ⟨rfl, hb⟩
    clear cp0 cp1 cp2 cp3 cp4 cp5 cp6 cp7 cp8 cp9 cp10 cp11 fp lp
    clear cr0 cr1 cr2 cr3 cr4 cr5 cr6 cr7 cr8 cr9 cr10 cr11 fr lr
    clear ct0 ct1 ft lt
    clear cm0 cm1 cm2 cm3 cm4 cm5 fm lm
    replace Bp := (Bp).next hb
    replace Br := (Br).next hb
    replace Bt := (Bt).next hb
    replace Bm := (Bm).next hb
    replace hB : Below w.heap.size w w5 := by repeat (first | exact hB | (refine Bl_set ?_ (by first | omega | (simp; omega)) _) | apply Bl_alloc | (refine Bl_trans ?_ hb))
    clear hb
    obtain ⟨cp0, cp1, cp2, cp3, cp4, cp5, cp6, cp7, cp8, cp9, cp10, cp11⟩ := cells12 Bp
    have fp := Bp.frozen; have lp := Bp.lt
    obtain ⟨cr0, cr1, cr2, cr3, cr4, cr5, cr6, cr7, cr8, cr9, cr10, cr11⟩ := cells12 Br
    have fr := Br.frozen; have lr := Br.lt
    obtain ⟨ct0, ct1⟩ := cells2 Bt
    have ft := Bt.frozen; have lt := Bt.lt
    obtain ⟨cm0, cm1, cm2, cm3, cm4, cm5⟩ := cells6 Bm
    have fm := Bm.frozen; have lm := Bm.lt
    go_wp2
    exact bodyPost_ret (v := tv R) (by simp [results, Try.results79, go_sem, cr0, cr1, cr2, cr3, cr4, cr5, cr6, cr7, cr8, cr9, cr10, cr11, lr]) rfl ⟨by rw [hs]; first | done | rfl, by repeat (first | (with_reducible exact hB) | (with_reducible refine Bl_set ?_ (by first | omega | (simp; done) | (simp; omega)) _) | with_reducible apply Bl_alloc)⟩
end Go.Proofs.Ytmghpoagpiljhab
