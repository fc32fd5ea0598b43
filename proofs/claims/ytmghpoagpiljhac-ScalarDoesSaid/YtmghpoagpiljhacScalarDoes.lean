/- ScalarDoes: for every two lists of numbers, numbers of theirs, bits that are not known, operation and width the law returns true, and its arguments read as before. No condition. -/
import Derived.Test.YtmghpoagpiljhacCase14
import Derived.Test.YtmghpoagpiljhacLaw14
import Derived.Test.YtmghpoagpiljhacSc11
import Derived.Test.YtmghpoagpiljhacEv14
set_option linter.unusedSimpArgs false
namespace Go.Proofs.Ytmghpoagpiljhac
open Go.ChangeShapes Go.WideShapes Go.ChangeAt Go.RowKit
open PlainTnum (N)
open PlainScalar (Rng)
set_option linter.unusedVariables false
set_option maxRecDepth 100000 in
set_option maxHeartbeats 3200000 in
theorem walk_ScalarDoes (CA CB : Value) (i k : Int) (m0 m1 : W) (op : Int) (l : Bool) (a b : Rng) (x y : W) (hx : PlainScalar.Has a x) (hy : PlainScalar.Has b y) (w : World) (k_c : ∀ w1, Below w.heap.size w w1 → Calls Try.prog 7 #[.agg #[CA, CB, .int .i64 i, .int .i64 k, uv m0, uv m1]] w1 fun e w' => e = .returned (.tuple #[rv a, rv b, uv x, uv y]) ∧ Below w1.heap.size w1 w') : Calls Try.prog 3 #[.agg #[CA, CB, .int .i64 i, .int .i64 k, uv m0, uv m1], .int .i64 op, .bool l] w fun e w' => e = .returned (.bool true) ∧ Below w.heap.size w w' := by
  obtain ⟨n, hn, hby⟩ := rem_is 13 (by decide) (by decide) op
  replace hby : wrap64 ((IntKind.u64.wrap op).tmod 13) = (n : Int) := hby
  have h_D := PlainScalar.do_has (op := (n : Int)) (is64 := l) hx hy
  have k_D := sdo_c (n : Int) l a b; have k_E := reval_c (n : Int) l x y
  generalize PlainScalar.doF (n : Int) l a b = d at k_D h_D; generalize PlainScalar.eval (n : Int) l x y = z at k_E h_D
  have k_H := shast_c d z h_D; have k_x := shast_c a x hx; have k_y := shast_c b y hy; clear h_D hx hy
  go_enter Try.func3, Try.ntmps3
  go_wp2_with fail
  obtain ⟨gc, hgc⟩ : ∃ g, g = w.heap.size := ⟨_, rfl⟩
  have Bc : Blk (w.alloc (.cells #[CA, CB, .int .i64 i, .int .i64 k, uv m0, uv m1] 27)) (w.heap.size) 27 #[CA, CB, .int .i64 i, .int .i64 k, uv m0, uv m1] := (Blk.new w 27 #[CA, CB, .int .i64 i, .int .i64 k, uv m0, uv m1])
  have hB : Below w.heap.size w (w.alloc (.cells #[CA, CB, .int .i64 i, .int .i64 k, uv m0, uv m1] 27)) := (Bl_alloc (Bl_refl w) _)
  clear hgc
  clear gc
  generalize (w.alloc (.cells #[CA, CB, .int .i64 i, .int .i64 k, uv m0, uv m1] 27)) = w1 at *
  obtain ⟨cc0, cc1, cc2, cc3, cc4, cc5⟩ := cells6 Bc
  have fc := Bc.frozen; have lc := Bc.lt
  go_wp2_with fail
  refine (k_c _ hB).mono ?_
  rintro e w2 ⟨rfl, hb⟩
  clear cc0 cc1 cc2 cc3 cc4 cc5 fc lc
  replace Bc := (Bc).next hb
  replace hB : Below w.heap.size w w2 := by repeat (first | exact hB | (refine Bl_set ?_ (by first | omega | (simp; omega)) _) | apply Bl_alloc | (refine Bl_trans ?_ hb))
  clear hb
  obtain ⟨cc0, cc1, cc2, cc3, cc4, cc5⟩ := cells6 Bc
  have fc := Bc.frozen; have lc := Bc.lt
  clear k_c
  go_upto_region 2 with fail
  clear cc0 cc1 cc2 cc3 cc4 cc5 fc lc
  have hnca := Nat.ne_of_lt Bc.lt
  have hncb : w.heap.size ≠ w2.heap.size + 1 := by have := Bc.lt; omega
  have hdab : w2.heap.size ≠ w2.heap.size + 1 := by omega
  have hga := hB.size
  have hgb : w.heap.size ≤ w2.heap.size + 1 := by omega
  replace Bc : Blk ((w2.alloc (.cells #[uv a.b.v, uv a.b.m, uv a.lo, uv a.hi, sv a.sl, sv a.sh] 31)).alloc (.cells #[uv b.b.v, uv b.b.m, uv b.lo, uv b.hi, sv b.sl, sv b.sh] 31)) (w.heap.size) 27 #[CA, CB, .int .i64 i, .int .i64 k, uv m0, uv m1] := (Bc.alloc _).alloc _
  have Ba : Blk ((w2.alloc (.cells #[uv a.b.v, uv a.b.m, uv a.lo, uv a.hi, sv a.sl, sv a.sh] 31)).alloc (.cells #[uv b.b.v, uv b.b.m, uv b.lo, uv b.hi, sv b.sl, sv b.sh] 31)) (w2.heap.size) 31 #[uv a.b.v, uv a.b.m, uv a.lo, uv a.hi, sv a.sl, sv a.sh] := (Blk.new w2 _ _).alloc _
  have Bb : Blk ((w2.alloc (.cells #[uv a.b.v, uv a.b.m, uv a.lo, uv a.hi, sv a.sl, sv a.sh] 31)).alloc (.cells #[uv b.b.v, uv b.b.m, uv b.lo, uv b.hi, sv b.sl, sv b.sh] 31)) (w2.heap.size + 1) 31 #[uv b.b.v, uv b.b.m, uv b.lo, uv b.hi, sv b.sl, sv b.sh] := by simpa using Blk.new (w2.alloc (.cells #[uv a.b.v, uv a.b.m, uv a.lo, uv a.hi, sv a.sl, sv a.sh] 31)) 31 #[uv b.b.v, uv b.b.m, uv b.lo, uv b.hi, sv b.sl, sv b.sh]
  replace hB : Below w.heap.size w ((w2.alloc (.cells #[uv a.b.v, uv a.b.m, uv a.lo, uv a.hi, sv a.sl, sv a.sh] 31)).alloc (.cells #[uv b.b.v, uv b.b.m, uv b.lo, uv b.hi, sv b.sl, sv b.sh] 31)) := Bl_alloc (Bl_alloc hB _) _
  generalize ((w2.alloc (.cells #[uv a.b.v, uv a.b.m, uv a.lo, uv a.hi, sv a.sl, sv a.sh] 31)).alloc (.cells #[uv b.b.v, uv b.b.m, uv b.lo, uv b.hi, sv b.sl, sv b.sh] 31)) = w3 at *
  generalize w2.heap.size + 1 = gb at *
  generalize w2.heap.size = ga at *
  obtain ⟨cc0, cc1, cc2, cc3, cc4, cc5⟩ := cells6 Bc
  have fc := Bc.frozen; have lc := Bc.lt
  obtain ⟨ca0, ca1, ca2, ca3, ca4, ca5⟩ := cells6 Ba
  have fa := Ba.frozen; have la := Ba.lt
  obtain ⟨cb0, cb1, cb2, cb3, cb4, cb5⟩ := cells6 Bb
  have fb := Bb.frozen; have lb := Bb.lt
  go_wp2_with fail
  refine (evals_c _).mono ?_
  rintro e w4 ⟨rfl, hb⟩
  clear cc0 cc1 cc2 cc3 cc4 cc5 fc lc
  clear ca0 ca1 ca2 ca3 ca4 ca5 fa la
  clear cb0 cb1 cb2 cb3 cb4 cb5 fb lb
  replace Bc := (Bc).next hb
  replace Ba := (Ba).next hb
  replace Bb := (Bb).next hb
  replace hB : Below w.heap.size w w4 := by repeat (first | exact hB | (refine Bl_set ?_ (by first | omega | (simp; omega)) _) | apply Bl_alloc | (refine Bl_trans ?_ hb))
  clear hb
  obtain ⟨cc0, cc1, cc2, cc3, cc4, cc5⟩ := cells6 Bc
  have fc := Bc.frozen; have lc := Bc.lt
  obtain ⟨ca0, ca1, ca2, ca3, ca4, ca5⟩ := cells6 Ba
  have fa := Ba.frozen; have la := Ba.lt
  obtain ⟨cb0, cb1, cb2, cb3, cb4, cb5⟩ := cells6 Bb
  have fb := Bb.frozen; have lb := Bb.lt
  go_wp2_with fail
  refine (to14_c a _).mono ?_
  rintro e w5 ⟨rfl, hb⟩
  clear cc0 cc1 cc2 cc3 cc4 cc5 fc lc
  clear ca0 ca1 ca2 ca3 ca4 ca5 fa la
  clear cb0 cb1 cb2 cb3 cb4 cb5 fb lb
  replace Bc := (Bc).next hb
  replace Ba := (Ba).next hb
  replace Bb := (Bb).next hb
  replace hB : Below w.heap.size w w5 := by repeat (first | exact hB | (refine Bl_set ?_ (by first | omega | (simp; omega)) _) | apply Bl_alloc | (refine Bl_trans ?_ hb))
  clear hb
  obtain ⟨cc0, cc1, cc2, cc3, cc4, cc5⟩ := cells6 Bc
  have fc := Bc.frozen; have lc := Bc.lt
  obtain ⟨ca0, ca1, ca2, ca3, ca4, ca5⟩ := cells6 Ba
  have fa := Ba.frozen; have la := Ba.lt
  obtain ⟨cb0, cb1, cb2, cb3, cb4, cb5⟩ := cells6 Bb
  have fb := Bb.frozen; have lb := Bb.lt
  go_wp2_with fail
  refine (k_x _).mono ?_
  rintro e w6 ⟨rfl, hb⟩
  clear cc0 cc1 cc2 cc3 cc4 cc5 fc lc
  clear ca0 ca1 ca2 ca3 ca4 ca5 fa la
  clear cb0 cb1 cb2 cb3 cb4 cb5 fb lb
  replace Bc := (Bc).next hb
  replace Ba := (Ba).next hb
  replace Bb := (Bb).next hb
  replace hB : Below w.heap.size w w6 := by repeat (first | exact hB | (refine Bl_set ?_ (by first | omega | (simp; omega)) _) | apply Bl_alloc | (refine Bl_trans ?_ hb))
  clear hb
  obtain ⟨cc0, cc1, cc2, cc3, cc4, cc5⟩ := cells6 Bc
  have fc := Bc.frozen; have lc := Bc.lt
  obtain ⟨ca0, ca1, ca2, ca3, ca4, ca5⟩ := cells6 Ba
  have fa := Ba.frozen; have la := Ba.lt
  obtain ⟨cb0, cb1, cb2, cb3, cb4, cb5⟩ := cells6 Bb
  have fb := Bb.frozen; have lb := Bb.lt
  go_wp2_with fail
  refine (to14_c b _).mono ?_
  rintro e w7 ⟨rfl, hb⟩
  clear cc0 cc1 cc2 cc3 cc4 cc5 fc lc
  clear ca0 ca1 ca2 ca3 ca4 ca5 fa la
  clear cb0 cb1 cb2 cb3 cb4 cb5 fb lb
  replace Bc := (Bc).next hb
  replace Ba := (Ba).next hb
  replace Bb := (Bb).next hb
  replace hB : Below w.heap.size w w7 := by repeat (first | exact hB | (refine Bl_set ?_ (by first | omega | (simp; omega)) _) | apply Bl_alloc | (refine Bl_trans ?_ hb))
  clear hb
  obtain ⟨cc0, cc1, cc2, cc3, cc4, cc5⟩ := cells6 Bc
  have fc := Bc.frozen; have lc := Bc.lt
  obtain ⟨ca0, ca1, ca2, ca3, ca4, ca5⟩ := cells6 Ba
  have fa := Ba.frozen; have la := Ba.lt
  obtain ⟨cb0, cb1, cb2, cb3, cb4, cb5⟩ := cells6 Bb
  have fb := Bb.frozen; have lb := Bb.lt
  go_wp2_with fail
  refine (k_y _).mono ?_
  rintro e w8 ⟨rfl, hb⟩
  clear cc0 cc1 cc2 cc3 cc4 cc5 fc lc
  clear ca0 ca1 ca2 ca3 ca4 ca5 fa la
  clear cb0 cb1 cb2 cb3 cb4 cb5 fb lb
  replace Bc := (Bc).next hb
  replace Ba := (Ba).next hb
  replace Bb := (Bb).next hb
  replace hB : Below w.heap.size w w8 := by repeat (first | exact hB | (refine Bl_set ?_ (by first | omega | (simp; omega)) _) | apply Bl_alloc | (refine Bl_trans ?_ hb))
  clear hb
  obtain ⟨cc0, cc1, cc2, cc3, cc4, cc5⟩ := cells6 Bc
  have fc := Bc.frozen; have lc := Bc.lt
  obtain ⟨ca0, ca1, ca2, ca3, ca4, ca5⟩ := cells6 Ba
  have fa := Ba.frozen; have la := Ba.lt
  obtain ⟨cb0, cb1, cb2, cb3, cb4, cb5⟩ := cells6 Bb
  have fb := Bb.frozen; have lb := Bb.lt
  go_upto_region 5 with fail
  go_wp2_with fail
  clear cc0 cc1 cc2 cc3 cc4 cc5; obtain ⟨cc0, cc1, cc2, cc3, cc4, cc5⟩ := lcells6 Bc
  clear ca0 ca1 ca2 ca3 ca4 ca5; obtain ⟨ca0, ca1, ca2, ca3, ca4, ca5⟩ := lcells6 Ba
  clear cb0 cb1 cb2 cb3 cb4 cb5; obtain ⟨cb0, cb1, cb2, cb3, cb4, cb5⟩ := lcells6 Bb
  refine wp_region_mix 14 (fun _ => #[]) (by kernel_rfl) (by kernel_rfl) (no_alloc (by kernel_rfl)) ?_
  simp only [List.take_succ_cons, List.take_zero, List.drop_succ_cons, List.drop_zero]
  repeat ((with_reducible refine wpMix_step (fun K hK => ?_)); go_simp; first | ((with_reducible refine hK _ ?_); clear hK K) | (rw [if_neg (by decide)]; (with_reducible refine hK _ ?_); clear hK K) | (apply Exists.intro; refine ⟨fun g => ?_, hK _ ?_⟩; ((with_reducible refine Calls.mono (to14_c a g.w) ?_); exact fun _ _ h => h); clear hK K) | (apply Exists.intro; refine ⟨fun g => ?_, hK _ ?_⟩; ((with_reducible refine Calls.mono (to14_c b g.w) ?_); exact fun _ _ h => h); clear hK K) | (apply Exists.intro; refine ⟨fun g => ?_, hK _ ?_⟩; ((with_reducible refine Calls.mono (k_D g.w) ?_); exact fun _ _ h => h); clear hK K) | (apply Exists.intro; refine ⟨fun g => ?_, hK _ ?_⟩; ((with_reducible refine Calls.mono (k_E g.w) ?_); exact fun _ _ h => h); clear hK K) | (apply Exists.intro; refine ⟨fun g => ?_, hK _ ?_⟩; ((with_reducible refine Calls.mono (k_H g.w) ?_); exact fun _ _ h => h); clear hK K))
  refine wpMix_nil ?_
  intro G w9 hgr hblk hdist
  have hb : Below w8.heap.size w8 w9 := hgr
  replace Bc := Bc.next hb
  replace Ba := Ba.next hb
  replace Bb := Bb.next hb
  clear cc0 cc1 cc2 cc3 cc4 cc5 fc lc
  clear ca0 ca1 ca2 ca3 ca4 ca5 fa la
  clear cb0 cb1 cb2 cb3 cb4 cb5 fb lb
  replace hB : Below w.heap.size w w9 := Bl_trans hB hb
  simp only [putAll, isAlloc]
  clear hb hgr hblk hdist
  obtain ⟨cc0, cc1, cc2, cc3, cc4, cc5⟩ := cells6 Bc
  have fc := Bc.frozen; have lc := Bc.lt
  obtain ⟨ca0, ca1, ca2, ca3, ca4, ca5⟩ := cells6 Ba
  have fa := Ba.frozen; have la := Ba.lt
  obtain ⟨cb0, cb1, cb2, cb3, cb4, cb5⟩ := cells6 Bb
  have fb := Bb.frozen; have lb := Bb.lt
  go_wp2
  go_ret
  exact ⟨rfl, by repeat (first | exact hB | (refine Bl_set ?_ (by first | omega | (simp; omega)) _) | apply Bl_alloc)⟩
theorem walkN_ScalarDoes (A B : Value) (L M : List W) (i k : Int) (m0 m1 : W) (op : Int) (lo : -9223372036854775808 ≤ op) (hi : op ≤ 9223372036854775807) (l : Bool) (w : World) (hA : Raw w A L) (hB : Raw w B M) : Calls Try.prog 3 #[.agg #[A, B, .int .i64 i, .int .i64 k, .int .u64 (T m0), .int .u64 (T m1)], .int .i64 op, .bool l] w fun e w' => e = .returned (.bool true) ∧ Below w.heap.size w w' := by
  obtain ⟨L', hA'⟩ := hA.came 5#64
  obtain ⟨M', hB'⟩ := hB.came 3#64
  have hx := PlainScalar.around_has (idx_lt i hA'.pos) m0
  have hy := PlainScalar.around_has (idx_lt k hB'.pos) m1
  exact walk_ScalarDoes A B i k m0 m1 op l _ _ _ _ hx hy w fun w1 h => ranges_c A B L' M' i k m0 m1 w1 (hA'.next h) (hB'.next h)
namespace scalarDoes
set_option maxRecDepth 100000 in
theorem lifted (os : Os) (started : os.Started) (H : Type) (enc : TypeId × Value → H) :
    ReturnsInHanded {} Try.checked os 3 .any (Rows.scalarDoesSpec.pre6 enc Try.prog Try.f3 Rows.scalarDoesRow.domain false) (Rows.scalarDoesSpec.post enc Try.prog Try.f3 false true false false) := by
  refine returnsInHanded_of_change (C := Try.checked) own started (by kernel_rfl) Try.func3
    (ChangeSpec.witness6 (enc := enc) (C := Try.checked) false ⟨#[], #[.agg #[.slice none 0 0, .slice none 0 0, .int .i64 0, .int .i64 0, .int .u64 0, .int .u64 0], .int .i64 0, .bool false], []⟩ 8 (by kernel_rfl) (by kernel_rfl) (by kernel_rfl) (by kernel_rfl)) ?_
  intro W base args ds gs before hval0 hW hcnd _
  have hval : ∀ (j : Nat) t v, Try.f3.params[j]? = some t → args[j]? = some v → Value.okWide Try.prog W .any base t v := hval0
  have hW' := hW
  obtain ⟨p, q, hA0, hV, rfl, hfz, hnd⟩ := hW
  have hA : DataW.TrodAll enc Try.prog W 0 (fun _ => true) true Try.f3.params.toList args.toList ds p := hA0
  rw [Try.params3] at hA hval
  obtain ⟨v0, vs0, d0, ds0, p0, q0, hargs, rfl, rfl, h0, r0⟩ := trodAll_cons hA
  obtain ⟨v1, vs1, d1, ds1, p1, q1, rfl, rfl, rfl, h1, r1⟩ := trodAll_cons r0
  obtain ⟨v2, vs2, d2, ds2, p2, q2, rfl, rfl, rfl, h2, r2⟩ := trodAll_cons r1
  obtain ⟨rfl, rfl, rfl⟩ := trodAll_nil r2
  obtain rfl : args = #[v0, v1, v2] := by cases args; simp_all
  obtain ⟨rfl, rfl⟩ := trodVars_none hV
  have lt0 : ∀ x ∈ p0, x.block < W.heap.size := by obtain ⟨m, hm⟩ := h0; exact DataW.trod_lt m _ _ _ hm
  obtain ⟨A0, B0, L0, M0, i0, k0, m0, n0, rest, hv0, hl0, hRA0, hRB0, hre0⟩ := open_case (ts := []) Try.underlying27 rfl rfl rfl rfl rfl rfl (by kernel_rfl) Try.underlying22 Try.underlying24 Try.underlying3 (by kernel_rfl) (by kernel_rfl) (by kernel_rfl) (hval 0 27 v0 rfl rfl) h0
  obtain rfl : rest = [] := List.eq_nil_of_length_eq_zero hl0
  obtain rfl : v0 = .agg #[A0, B0, .int .i64 i0, .int .i64 k0, .int .u64 (T m0), .int .u64 (T n0)] := by rw [hv0]; rfl
  have lt1 : ∀ x ∈ p1, x.block < W.heap.size := by obtain ⟨m, hm⟩ := h1; exact DataW.trod_lt m _ _ _ hm
  obtain ⟨x1, rfl, lo1, hi1⟩ := open_i64 Try.underlying3 (hval 1 3 v1 rfl rfl)
  have lt2 : ∀ x ∈ p2, x.block < W.heap.size := by obtain ⟨m, hm⟩ := h2; exact DataW.trod_lt m _ _ _ hm
  obtain ⟨x2, rfl⟩ := okWide_bool Try.underlying4 (hval 2 4 v2 rfl rfl)
  refine (walkN_ScalarDoes A0 B0 L0 M0 i0 k0 m0 n0 x1 lo1 hi1 x2 W hRA0 hRB0).mono fun e W' ⟨he, bel⟩ => ?_
  subst he
  exact ⟨_, rfl, _, _, _, [], _, [], hW', trodAll_mk1 (shut_bool Try.underlying4 _), (trodAll_cons_mk (Below.trod laidOut (by kernel_rfl) (of_decide_eq_true (by kernel_rfl)) h0 bel lt0) (trodAll_cons_mk (Below.trod laidOut (by kernel_rfl) (of_decide_eq_true (by kernel_rfl)) h1 bel lt1) (trodAll_cons_mk (Below.trod laidOut (by kernel_rfl) (of_decide_eq_true (by kernel_rfl)) h2 bel lt2) trodAll_mk0))), rfl, bel.frame _, fun h => by cases h⟩
theorem over : Rows.scalarDoesRow.holds Try.pinned (OpenSpec.ofChange Rows.scalarDoesSpec) :=
  OpenClaim.holds_of_wide 3 Try.f3 rfl rfl rfl rfl rfl rfl rfl ⟨rfl, rfl, rfl, rfl, rfl⟩ rfl rfl rfl rfl rfl (by kernel_rfl) Try.func3 (by kernel_rfl)
    (of_decide_eq_true (by kernel_rfl)) (by unfold Func.isWrapper; first | (rw [if_pos (by decide +kernel)]; kernel_rfl) | (rw [if_neg (by decide +kernel)]; exact ⟨rfl, rfl⟩))
    (fun os started H enc _ => lifted os started H enc)
/-- The given statement. -/
theorem proved : Rows.ScalarDoesSaid := over
#print axioms proved
end scalarDoes
end Go.Proofs.Ytmghpoagpiljhac
