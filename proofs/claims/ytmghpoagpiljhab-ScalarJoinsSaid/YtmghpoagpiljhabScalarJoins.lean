/- ScalarJoins: for every two lists of numbers, numbers of theirs, bits that are not known and number of bytes the law returns true, and its arguments read as before. No condition. -/
import Derived.Test.YtmghpoagpiljhabCase14
import Derived.Test.YtmghpoagpiljhabLaw14b
import Derived.Test.YtmghpoagpiljhabBranch
set_option linter.unusedSimpArgs false
namespace Go.Proofs.Ytmghpoagpiljhab
open Go.ChangeShapes Go.WideShapes Go.ChangeAt Go.RowKit
open PlainTnum (N)
open PlainScalar (Rng)
set_option linter.unusedVariables false
theorem lowW_1 (x : W) : PlainScalar.lowW x 1 = x % 256#64 := by
  unfold PlainScalar.lowW; rw [if_pos rfl]; apply BitVec.eq_of_toNat_eq; rw [BitVec.toNat_and, BitVec.toNat_umod]; exact Nat.and_two_pow_sub_one_eq_mod x.toNat 8
theorem lowW_2 (x : W) : PlainScalar.lowW x 2 = x % 65536#64 := by
  unfold PlainScalar.lowW; rw [if_neg (by decide), if_pos rfl]; apply BitVec.eq_of_toNat_eq; rw [BitVec.toNat_and, BitVec.toNat_umod]; exact Nat.and_two_pow_sub_one_eq_mod x.toNat 16
theorem lowW_4 (x : W) : PlainScalar.lowW x 4 = x % 4294967296#64 := by
  unfold PlainScalar.lowW; rw [if_neg (by decide), if_neg (by decide), if_pos rfl]; apply BitVec.eq_of_toNat_eq; rw [BitVec.toNat_and, BitVec.toNat_umod]; exact Nat.and_two_pow_sub_one_eq_mod x.toNat 32
theorem within_any_r (a : Rng) : PlainScalar.within a PlainScalar.any = true :=
  PlainBranch.within_mk (by show (0#64).toNat ≤ _; simp) (by have := PlainScalar.lt64 a.hi; show _ ≤ (BitVec.allOnes 64).toNat; rw [BitVec.toNat_allOnes]; omega)
    (by have := PlainScalar.toInt_lo a.sl; show PlainScalar.minI.toInt ≤ _; rw [show PlainScalar.minI.toInt = -9223372036854775808 by decide]; exact this) (by have := PlainScalar.toInt_hi a.sh; show _ ≤ PlainScalar.maxI.toInt; rw [show PlainScalar.maxI.toInt = 9223372036854775807 by decide]; exact this) PlainTnum.within_any
set_option maxRecDepth 100000 in
set_option maxHeartbeats 3200000 in
theorem joins_1 (CA CB : Value) (i k : Int) (m0 m1 : W) (a b : Rng) (x y : W) (hx : PlainScalar.Has a x) (hy : PlainScalar.Has b y) (w : World) (k_c : ∀ w1, Below w.heap.size w w1 → Calls Try.prog 21 #[.agg #[CA, CB, .int .i64 i, .int .i64 k, uv m0, uv m1]] w1 fun e w' => e = .returned (.tuple #[rv a, rv b, uv x, uv y]) ∧ Below w1.heap.size w1 w') : Calls Try.prog 5 #[.agg #[CA, CB, .int .i64 i, .int .i64 k, uv m0, uv m1], .int .i64 1] w fun e w' => e = .returned (.bool true) ∧ Below w.heap.size w w' := by
  have h_J1 := PlainScalar.join_has_l (b := b) hx; have h_J2 := PlainScalar.join_has_r (a := a) hy; have k_J := sjoin_c a b
  generalize PlainScalar.join a b = J at h_J1 h_J2 k_J
  have h_S := PlainScalar.settle_has hx; have k_S := settle_c a; have h_in := PlainScalar.settle_in h_S.1; have h_w := PlainBranch.settle_within h_S.1
  generalize PlainScalar.settle a = R at h_S k_S h_in h_w; obtain ⟨S, ok⟩ := R; obtain ⟨h_ok, h_S⟩ := h_S; replace h_ok : ok = true := h_ok; subst h_ok
  replace h_S : PlainScalar.Has S x := h_S; replace k_S : ∀ w : World, Calls Try.prog 24 #[rv a] w fun e w' => e = .returned (.tuple #[rv S, .bool true]) ∧ Below w.heap.size w w' := k_S
  have f1 : decide (T S.lo < T a.lo) = false := by have := h_in.1; unfold T; simp; omega
  have f2 : decide (T a.hi < T S.hi) = false := by have := h_in.2.1; unfold T; simp; omega
  have f3 : decide (_root_.Go.Proofs.Ytmghpoagpiljhab.S S.sl < _root_.Go.Proofs.Ytmghpoagpiljhab.S a.sl) = false := by have := h_in.2.2.1; unfold _root_.Go.Proofs.Ytmghpoagpiljhab.S; simp; omega
  have f4 : decide (_root_.Go.Proofs.Ytmghpoagpiljhab.S a.sh < _root_.Go.Proofs.Ytmghpoagpiljhab.S S.sh) = false := by have := h_in.2.2.2.1; unfold _root_.Go.Proofs.Ytmghpoagpiljhab.S; simp; omega
  have f5 : (T (S.b.m &&& ~~~a.b.m) == 0) = true := by rw [T_beq0]; unfold PlainScalar.within at h_w; simp only [Bool.and_eq_true] at h_w; have := h_w.2; unfold PlainTnum.within at this; simp only [Bool.and_eq_true] at this; exact this.1
  clear h_in h_w
  have h_L := PlainScalar.low_has hx 1; have k_L := slow_c a 1
  generalize PlainScalar.low a 1 = LW at h_L k_L
  rw [lowW_1] at h_L
  obtain ⟨z, e_z⟩ : ∃ z' : W, z' = x % 256#64 := ⟨_, rfl⟩
  rw [← e_z] at h_L
  have hsh : IntKind.u64.wrap (2 ^ 8) = 256 := by rw [IntKind.wrap_u64]; rfl
  have hrem : (T x).tmod 256 = T z := by rw [e_z, Int.tmod_eq_emod_of_nonneg (T_lo x)]; unfold T; rw [BitVec.toNat_umod]; rfl
  clear e_z
  have k_W := swithin_c a b; have hW : PlainScalar.within a b = true → PlainScalar.Has b x := fun h => PlainScalar.within_has h hx
  have k_1 : ∀ w : World, Calls Try.prog 28 #[rv a, rv a] w fun e w' => e = .returned (.bool true) ∧ Below w.heap.size w w' := fun w => by rw [← PlainBranch.within_refl (PlainTnum.R_has hx.b)]; exact swithin_c a a w
  have k_2 : ∀ w : World, Calls Try.prog 28 #[rv a, rv PlainScalar.any] w fun e w' => e = .returned (.bool true) ∧ Below w.heap.size w w' := fun w => by rw [← within_any_r a]; exact swithin_c a PlainScalar.any w
  have k_j1 := shast_c J x h_J1; have k_j2 := shast_c J y h_J2; have k_s := shast_c S x h_S; have k_l := shast_c LW z h_L
  clear h_J1 h_J2 h_S h_L hx hy
  generalize PlainScalar.within a b = Wb at k_W hW
  have HWb := Lib.hid hW; clear hW
  go_enter Try.func5, Try.ntmps5
  go_wp2_with fail
  obtain ⟨gc, hgc⟩ : ∃ g, g = w.heap.size := ⟨_, rfl⟩
  have Bc : Blk (w.alloc (.cells #[CA, CB, .int .i64 i, .int .i64 k, uv m0, uv m1] 49)) (w.heap.size) 49 #[CA, CB, .int .i64 i, .int .i64 k, uv m0, uv m1] := (Blk.new w 49 #[CA, CB, .int .i64 i, .int .i64 k, uv m0, uv m1])
  have hB : Below w.heap.size w (w.alloc (.cells #[CA, CB, .int .i64 i, .int .i64 k, uv m0, uv m1] 49)) := (Bl_alloc (Bl_refl w) _)
  clear hgc
  clear gc
  generalize (w.alloc (.cells #[CA, CB, .int .i64 i, .int .i64 k, uv m0, uv m1] 49)) = w1 at *
  obtain ⟨cc0, cc1, cc2, cc3, cc4, cc5⟩ := cells6 Bc
  have fc := Bc.frozen; have lc := Bc.lt
  go_wp2_with fail
  refine (k_c _ hB).mono ?_
  rintro e w2 ⟨rfl, hb⟩
  clear cc0 cc1 cc2 cc3 cc4 cc5 fc lc
  replace Bc := (Bc).next hb
  replace hB : Below w.heap.size w w2 := by repeat (first | exact hB | (refine Bl_set ?_ (by first | omega | (simp; omega)) _) | apply Bl_alloc | (refine Bl_trans ?_ hb))
  clear hb
  obtain ⟨cc0, cc1, cc2, cc3, cc4, cc5⟩ := cells6 Bc
  have fc := Bc.frozen; have lc := Bc.lt
  clear k_c
  go_upto_region 2 with fail
  clear cc0 cc1 cc2 cc3 cc4 cc5 fc lc
  have hnca := Nat.ne_of_lt Bc.lt
  have hncb : w.heap.size ≠ w2.heap.size + 1 := by have := Bc.lt; omega
  have hdab : w2.heap.size ≠ w2.heap.size + 1 := by omega
  have hga := hB.size
  have hgb : w.heap.size ≤ w2.heap.size + 1 := by omega
  replace Bc : Blk ((w2.alloc (.cells #[uv a.b.v, uv a.b.m, uv a.lo, uv a.hi, sv a.sl, sv a.sh] 53)).alloc (.cells #[uv b.b.v, uv b.b.m, uv b.lo, uv b.hi, sv b.sl, sv b.sh] 53)) (w.heap.size) 49 #[CA, CB, .int .i64 i, .int .i64 k, uv m0, uv m1] := (Bc.alloc _).alloc _
  have Ba : Blk ((w2.alloc (.cells #[uv a.b.v, uv a.b.m, uv a.lo, uv a.hi, sv a.sl, sv a.sh] 53)).alloc (.cells #[uv b.b.v, uv b.b.m, uv b.lo, uv b.hi, sv b.sl, sv b.sh] 53)) (w2.heap.size) 53 #[uv a.b.v, uv a.b.m, uv a.lo, uv a.hi, sv a.sl, sv a.sh] := (Blk.new w2 _ _).alloc _
  have Bb : Blk ((w2.alloc (.cells #[uv a.b.v, uv a.b.m, uv a.lo, uv a.hi, sv a.sl, sv a.sh] 53)).alloc (.cells #[uv b.b.v, uv b.b.m, uv b.lo, uv b.hi, sv b.sl, sv b.sh] 53)) (w2.heap.size + 1) 53 #[uv b.b.v, uv b.b.m, uv b.lo, uv b.hi, sv b.sl, sv b.sh] := by simpa using Blk.new (w2.alloc (.cells #[uv a.b.v, uv a.b.m, uv a.lo, uv a.hi, sv a.sl, sv a.sh] 53)) 53 #[uv b.b.v, uv b.b.m, uv b.lo, uv b.hi, sv b.sl, sv b.sh]
  replace hB : Below w.heap.size w ((w2.alloc (.cells #[uv a.b.v, uv a.b.m, uv a.lo, uv a.hi, sv a.sl, sv a.sh] 53)).alloc (.cells #[uv b.b.v, uv b.b.m, uv b.lo, uv b.hi, sv b.sl, sv b.sh] 53)) := Bl_alloc (Bl_alloc hB _) _
  generalize ((w2.alloc (.cells #[uv a.b.v, uv a.b.m, uv a.lo, uv a.hi, sv a.sl, sv a.sh] 53)).alloc (.cells #[uv b.b.v, uv b.b.m, uv b.lo, uv b.hi, sv b.sl, sv b.sh] 53)) = w3 at *
  generalize w2.heap.size + 1 = gb at *
  generalize w2.heap.size = ga at *
  obtain ⟨cc0, cc1, cc2, cc3, cc4, cc5⟩ := cells6 Bc
  have fc := Bc.frozen; have lc := Bc.lt
  obtain ⟨ca0, ca1, ca2, ca3, ca4, ca5⟩ := cells6 Ba
  have fa := Ba.frozen; have la := Ba.lt
  obtain ⟨cb0, cb1, cb2, cb3, cb4, cb5⟩ := cells6 Bb
  have fb := Bb.frozen; have lb := Bb.lt
  go_wp2_with fail
  clear cc0 cc1 cc2 cc3 cc4 cc5; obtain ⟨cc0, cc1, cc2, cc3, cc4, cc5⟩ := lcells6 Bc
  clear ca0 ca1 ca2 ca3 ca4 ca5; obtain ⟨ca0, ca1, ca2, ca3, ca4, ca5⟩ := lcells6 Ba
  clear cb0 cb1 cb2 cb3 cb4 cb5; obtain ⟨cb0, cb1, cb2, cb3, cb4, cb5⟩ := lcells6 Bb
  refine wp_region_mix 6 (fun _ => #[.int .u64 0, .int .u64 0, .int .u64 0, .int .u64 0, .int .i64 0, .int .i64 0]) (by kernel_rfl) (by kernel_rfl) (fun o t ho ht => by
    simp at ho
    rcases ho with rfl | rfl | rfl | rfl | rfl | rfl <;> first | (cases ht; done) | (obtain rfl := Option.some.inj ht; exact fun ρ w => new_rng14 ht ρ w)) ?_
  simp only [List.take_succ_cons, List.take_zero, List.drop_succ_cons, List.drop_zero]
  repeat ((with_reducible refine wpMix_step (fun K hK => ?_)); go_simp; first | ((with_reducible refine hK _ ?_); clear hK K) | (rw [if_neg (by decide)]; (with_reducible refine hK _ ?_); clear hK K) | (apply Exists.intro; refine ⟨fun g => ?_, hK _ ?_⟩; ((with_reducible refine Calls.mono (to14_c a g.w) ?_); exact fun _ _ h => h); clear hK K) | (apply Exists.intro; refine ⟨fun g => ?_, hK _ ?_⟩; ((with_reducible refine Calls.mono (to14_c b g.w) ?_); exact fun _ _ h => h); clear hK K) | (apply Exists.intro; refine ⟨fun g => ?_, hK _ ?_⟩; ((with_reducible refine Calls.mono (k_J g.w) ?_); exact fun _ _ h => h); clear hK K))
  refine wpMix_nil ?_
  intro G w4 hgr hblk hdist
  have hb : Below w3.heap.size w3 w4 := hgr
  replace Bc := Bc.next hb
  replace Ba := Ba.next hb
  replace Bb := Bb.next hb
  obtain ⟨Bj, hlj⟩ := hblk 5 _ rfl
  have hgj : w.heap.size ≤ G 5 := Nat.le_trans hB.size hlj
  have hncj : w.heap.size ≠ G 5 := Nat.ne_of_lt (Nat.lt_of_lt_of_le lc hlj)
  have hnaj : ga ≠ G 5 := Nat.ne_of_lt (Nat.lt_of_lt_of_le la hlj)
  have hnbj : gb ≠ G 5 := Nat.ne_of_lt (Nat.lt_of_lt_of_le lb hlj)
  clear hlj
  clear cc0 cc1 cc2 cc3 cc4 cc5 fc lc
  clear ca0 ca1 ca2 ca3 ca4 ca5 fa la
  clear cb0 cb1 cb2 cb3 cb4 cb5 fb lb
  replace hB : Below w.heap.size w w4 := Bl_trans hB hb
  simp only [putAll, isAlloc, Act.put]
  generalize G 5 = gj at *
  clear hb hgr hblk hdist
  obtain ⟨cc0, cc1, cc2, cc3, cc4, cc5⟩ := cells6 Bc
  have fc := Bc.frozen; have lc := Bc.lt
  obtain ⟨ca0, ca1, ca2, ca3, ca4, ca5⟩ := cells6 Ba
  have fa := Ba.frozen; have la := Ba.lt
  obtain ⟨cb0, cb1, cb2, cb3, cb4, cb5⟩ := cells6 Bb
  have fb := Bb.frozen; have lb := Bb.lt
  obtain ⟨cj0, cj1, cj2, cj3, cj4, cj5⟩ := cells6 Bj
  have fj := Bj.frozen; have lj := Bj.lt
  go_upto_region 3 with fail
  clear cc0 cc1 cc2 cc3 cc4 cc5 fc lc
  clear ca0 ca1 ca2 ca3 ca4 ca5 fa la
  clear cb0 cb1 cb2 cb3 cb4 cb5 fb lb
  clear cj0 cj1 cj2 cj3 cj4 cj5 fj lj
  replace Bc : Blk ((((((w4.setCell ⟨gj, 0, none⟩ (uv J.b.v)).setCell ⟨gj, 1, none⟩ (uv J.b.m)).setCell ⟨gj, 2, none⟩ (uv J.lo)).setCell ⟨gj, 3, none⟩ (uv J.hi)).setCell ⟨gj, 4, none⟩ (sv J.sl)).setCell ⟨gj, 5, none⟩ (sv J.sh)) (w.heap.size) 49 #[CA, CB, .int .i64 i, .int .i64 k, uv m0, uv m1] := ((((((Bc.far (by first | (simp; done) | (simp; omega) | (simp [*]; done) | (simp only [ne_eq]; constructor <;> omega)) _).far (by first | (simp; done) | (simp; omega) | (simp [*]; done) | (simp only [ne_eq]; constructor <;> omega)) _).far (by first | (simp; done) | (simp; omega) | (simp [*]; done) | (simp only [ne_eq]; constructor <;> omega)) _).far (by first | (simp; done) | (simp; omega) | (simp [*]; done) | (simp only [ne_eq]; constructor <;> omega)) _).far (by first | (simp; done) | (simp; omega) | (simp [*]; done) | (simp only [ne_eq]; constructor <;> omega)) _).far (by first | (simp; done) | (simp; omega) | (simp [*]; done) | (simp only [ne_eq]; constructor <;> omega)) _)
  replace Ba : Blk ((((((w4.setCell ⟨gj, 0, none⟩ (uv J.b.v)).setCell ⟨gj, 1, none⟩ (uv J.b.m)).setCell ⟨gj, 2, none⟩ (uv J.lo)).setCell ⟨gj, 3, none⟩ (uv J.hi)).setCell ⟨gj, 4, none⟩ (sv J.sl)).setCell ⟨gj, 5, none⟩ (sv J.sh)) (ga) 53 #[uv a.b.v, uv a.b.m, uv a.lo, uv a.hi, sv a.sl, sv a.sh] := ((((((Ba.far (by first | (simp; done) | (simp; omega) | (simp [*]; done) | (simp only [ne_eq]; constructor <;> omega)) _).far (by first | (simp; done) | (simp; omega) | (simp [*]; done) | (simp only [ne_eq]; constructor <;> omega)) _).far (by first | (simp; done) | (simp; omega) | (simp [*]; done) | (simp only [ne_eq]; constructor <;> omega)) _).far (by first | (simp; done) | (simp; omega) | (simp [*]; done) | (simp only [ne_eq]; constructor <;> omega)) _).far (by first | (simp; done) | (simp; omega) | (simp [*]; done) | (simp only [ne_eq]; constructor <;> omega)) _).far (by first | (simp; done) | (simp; omega) | (simp [*]; done) | (simp only [ne_eq]; constructor <;> omega)) _)
  replace Bb : Blk ((((((w4.setCell ⟨gj, 0, none⟩ (uv J.b.v)).setCell ⟨gj, 1, none⟩ (uv J.b.m)).setCell ⟨gj, 2, none⟩ (uv J.lo)).setCell ⟨gj, 3, none⟩ (uv J.hi)).setCell ⟨gj, 4, none⟩ (sv J.sl)).setCell ⟨gj, 5, none⟩ (sv J.sh)) (gb) 53 #[uv b.b.v, uv b.b.m, uv b.lo, uv b.hi, sv b.sl, sv b.sh] := ((((((Bb.far (by first | (simp; done) | (simp; omega) | (simp [*]; done) | (simp only [ne_eq]; constructor <;> omega)) _).far (by first | (simp; done) | (simp; omega) | (simp [*]; done) | (simp only [ne_eq]; constructor <;> omega)) _).far (by first | (simp; done) | (simp; omega) | (simp [*]; done) | (simp only [ne_eq]; constructor <;> omega)) _).far (by first | (simp; done) | (simp; omega) | (simp [*]; done) | (simp only [ne_eq]; constructor <;> omega)) _).far (by first | (simp; done) | (simp; omega) | (simp [*]; done) | (simp only [ne_eq]; constructor <;> omega)) _).far (by first | (simp; done) | (simp; omega) | (simp [*]; done) | (simp only [ne_eq]; constructor <;> omega)) _)
  replace Bj : Blk ((((((w4.setCell ⟨gj, 0, none⟩ (uv J.b.v)).setCell ⟨gj, 1, none⟩ (uv J.b.m)).setCell ⟨gj, 2, none⟩ (uv J.lo)).setCell ⟨gj, 3, none⟩ (uv J.hi)).setCell ⟨gj, 4, none⟩ (sv J.sl)).setCell ⟨gj, 5, none⟩ (sv J.sh)) (gj) 27 #[uv J.b.v, uv J.b.m, uv J.lo, uv J.hi, sv J.sl, sv J.sh] := ((((((Bj.set_ 0 _).set_ 1 _).set_ 2 _).set_ 3 _).set_ 4 _).set_ 5 _)
  replace hB : Below w.heap.size w ((((((w4.setCell ⟨gj, 0, none⟩ (uv J.b.v)).setCell ⟨gj, 1, none⟩ (uv J.b.m)).setCell ⟨gj, 2, none⟩ (uv J.lo)).setCell ⟨gj, 3, none⟩ (uv J.hi)).setCell ⟨gj, 4, none⟩ (sv J.sl)).setCell ⟨gj, 5, none⟩ (sv J.sh)) := (Bl_set (Bl_set (Bl_set (Bl_set (Bl_set (Bl_set hB (by first | omega | (simp; done) | (simp; omega)) _) (by first | omega | (simp; done) | (simp; omega)) _) (by first | omega | (simp; done) | (simp; omega)) _) (by first | omega | (simp; done) | (simp; omega)) _) (by first | omega | (simp; done) | (simp; omega)) _) (by first | omega | (simp; done) | (simp; omega)) _)
  generalize ((((((w4.setCell ⟨gj, 0, none⟩ (uv J.b.v)).setCell ⟨gj, 1, none⟩ (uv J.b.m)).setCell ⟨gj, 2, none⟩ (uv J.lo)).setCell ⟨gj, 3, none⟩ (uv J.hi)).setCell ⟨gj, 4, none⟩ (sv J.sl)).setCell ⟨gj, 5, none⟩ (sv J.sh)) = w5 at *
  obtain ⟨cc0, cc1, cc2, cc3, cc4, cc5⟩ := cells6 Bc
  have fc := Bc.frozen; have lc := Bc.lt
  obtain ⟨ca0, ca1, ca2, ca3, ca4, ca5⟩ := cells6 Ba
  have fa := Ba.frozen; have la := Ba.lt
  obtain ⟨cb0, cb1, cb2, cb3, cb4, cb5⟩ := cells6 Bb
  have fb := Bb.frozen; have lb := Bb.lt
  obtain ⟨cj0, cj1, cj2, cj3, cj4, cj5⟩ := cells6 Bj
  have fj := Bj.frozen; have lj := Bj.lt
  go_wp2_with fail
  refine (to14_c a _).mono ?_
  rintro e w6 ⟨rfl, hb⟩
  clear cc0 cc1 cc2 cc3 cc4 cc5 fc lc
  clear ca0 ca1 ca2 ca3 ca4 ca5 fa la
  clear cb0 cb1 cb2 cb3 cb4 cb5 fb lb
  clear cj0 cj1 cj2 cj3 cj4 cj5 fj lj
  replace Bc := (Bc).next hb
  replace Ba := (Ba).next hb
  replace Bb := (Bb).next hb
  replace Bj := (Bj).next hb
  replace hB : Below w.heap.size w w6 := by repeat (first | exact hB | (refine Bl_set ?_ (by first | omega | (simp; omega)) _) | apply Bl_alloc | (refine Bl_trans ?_ hb))
  clear hb
  obtain ⟨cc0, cc1, cc2, cc3, cc4, cc5⟩ := cells6 Bc
  have fc := Bc.frozen; have lc := Bc.lt
  obtain ⟨ca0, ca1, ca2, ca3, ca4, ca5⟩ := cells6 Ba
  have fa := Ba.frozen; have la := Ba.lt
  obtain ⟨cb0, cb1, cb2, cb3, cb4, cb5⟩ := cells6 Bb
  have fb := Bb.frozen; have lb := Bb.lt
  obtain ⟨cj0, cj1, cj2, cj3, cj4, cj5⟩ := cells6 Bj
  have fj := Bj.frozen; have lj := Bj.lt
  go_wp2_with fail
  refine (k_S _).mono ?_
  rintro e w7 ⟨rfl, hb⟩
  clear cc0 cc1 cc2 cc3 cc4 cc5 fc lc
  clear ca0 ca1 ca2 ca3 ca4 ca5 fa la
  clear cb0 cb1 cb2 cb3 cb4 cb5 fb lb
  clear cj0 cj1 cj2 cj3 cj4 cj5 fj lj
  replace Bc := (Bc).next hb
  replace Ba := (Ba).next hb
  replace Bb := (Bb).next hb
  replace Bj := (Bj).next hb
  replace hB : Below w.heap.size w w7 := by repeat (first | exact hB | (refine Bl_set ?_ (by first | omega | (simp; omega)) _) | apply Bl_alloc | (refine Bl_trans ?_ hb))
  clear hb
  obtain ⟨cc0, cc1, cc2, cc3, cc4, cc5⟩ := cells6 Bc
  have fc := Bc.frozen; have lc := Bc.lt
  obtain ⟨ca0, ca1, ca2, ca3, ca4, ca5⟩ := cells6 Ba
  have fa := Ba.frozen; have la := Ba.lt
  obtain ⟨cb0, cb1, cb2, cb3, cb4, cb5⟩ := cells6 Bb
  have fb := Bb.frozen; have lb := Bb.lt
  obtain ⟨cj0, cj1, cj2, cj3, cj4, cj5⟩ := cells6 Bj
  have fj := Bj.frozen; have lj := Bj.lt
  go_upto_region 4 with fail
  clear cc0 cc1 cc2 cc3 cc4 cc5 fc lc
  clear ca0 ca1 ca2 ca3 ca4 ca5 fa la
  clear cb0 cb1 cb2 cb3 cb4 cb5 fb lb
  clear cj0 cj1 cj2 cj3 cj4 cj5 fj lj
  have Bs := Blk.new w7 27 #[uv S.b.v, uv S.b.m, uv S.lo, uv S.hi, sv S.sl, sv S.sh]
  have hgs := hB.size
  have hncs := Nat.ne_of_lt Bc.lt; have hltcs := Bc.lt
  have hnas := Nat.ne_of_lt Ba.lt; have hltas := Ba.lt
  have hnbs := Nat.ne_of_lt Bb.lt; have hltbs := Bb.lt
  have hnjs := Nat.ne_of_lt Bj.lt; have hltjs := Bj.lt
  replace Bc : Blk (w7.alloc (.cells #[uv S.b.v, uv S.b.m, uv S.lo, uv S.hi, sv S.sl, sv S.sh] 27)) (w.heap.size) 49 #[CA, CB, .int .i64 i, .int .i64 k, uv m0, uv m1] := Bc.alloc _
  replace Ba : Blk (w7.alloc (.cells #[uv S.b.v, uv S.b.m, uv S.lo, uv S.hi, sv S.sl, sv S.sh] 27)) (ga) 53 #[uv a.b.v, uv a.b.m, uv a.lo, uv a.hi, sv a.sl, sv a.sh] := Ba.alloc _
  replace Bb : Blk (w7.alloc (.cells #[uv S.b.v, uv S.b.m, uv S.lo, uv S.hi, sv S.sl, sv S.sh] 27)) (gb) 53 #[uv b.b.v, uv b.b.m, uv b.lo, uv b.hi, sv b.sl, sv b.sh] := Bb.alloc _
  replace Bj : Blk (w7.alloc (.cells #[uv S.b.v, uv S.b.m, uv S.lo, uv S.hi, sv S.sl, sv S.sh] 27)) (gj) 27 #[uv J.b.v, uv J.b.m, uv J.lo, uv J.hi, sv J.sl, sv J.sh] := Bj.alloc _
  replace hB : Below w.heap.size w (w7.alloc (.cells #[uv S.b.v, uv S.b.m, uv S.lo, uv S.hi, sv S.sl, sv S.sh] 27)) := Bl_alloc hB _
  generalize (w7.alloc (.cells #[uv S.b.v, uv S.b.m, uv S.lo, uv S.hi, sv S.sl, sv S.sh] 27)) = w8 at *
  generalize w7.heap.size = gs at *
  obtain ⟨cc0, cc1, cc2, cc3, cc4, cc5⟩ := cells6 Bc
  have fc := Bc.frozen; have lc := Bc.lt
  obtain ⟨ca0, ca1, ca2, ca3, ca4, ca5⟩ := cells6 Ba
  have fa := Ba.frozen; have la := Ba.lt
  obtain ⟨cb0, cb1, cb2, cb3, cb4, cb5⟩ := cells6 Bb
  have fb := Bb.frozen; have lb := Bb.lt
  obtain ⟨cj0, cj1, cj2, cj3, cj4, cj5⟩ := cells6 Bj
  have fj := Bj.frozen; have lj := Bj.lt
  obtain ⟨cs0, cs1, cs2, cs3, cs4, cs5⟩ := cells6 Bs
  have fs := Bs.frozen; have ls := Bs.lt
  go_wp2_with fail
  refine (evals_c _).mono ?_
  rintro e w9 ⟨rfl, hb⟩
  clear cc0 cc1 cc2 cc3 cc4 cc5 fc lc
  clear ca0 ca1 ca2 ca3 ca4 ca5 fa la
  clear cb0 cb1 cb2 cb3 cb4 cb5 fb lb
  clear cj0 cj1 cj2 cj3 cj4 cj5 fj lj
  clear cs0 cs1 cs2 cs3 cs4 cs5 fs ls
  replace Bc := (Bc).next hb
  replace Ba := (Ba).next hb
  replace Bb := (Bb).next hb
  replace Bj := (Bj).next hb
  replace Bs := (Bs).next hb
  replace hB : Below w.heap.size w w9 := by repeat (first | exact hB | (refine Bl_set ?_ (by first | omega | (simp; omega)) _) | apply Bl_alloc | (refine Bl_trans ?_ hb))
  clear hb
  obtain ⟨cc0, cc1, cc2, cc3, cc4, cc5⟩ := cells6 Bc
  have fc := Bc.frozen; have lc := Bc.lt
  obtain ⟨ca0, ca1, ca2, ca3, ca4, ca5⟩ := cells6 Ba
  have fa := Ba.frozen; have la := Ba.lt
  obtain ⟨cb0, cb1, cb2, cb3, cb4, cb5⟩ := cells6 Bb
  have fb := Bb.frozen; have lb := Bb.lt
  obtain ⟨cj0, cj1, cj2, cj3, cj4, cj5⟩ := cells6 Bj
  have fj := Bj.frozen; have lj := Bj.lt
  obtain ⟨cs0, cs1, cs2, cs3, cs4, cs5⟩ := cells6 Bs
  have fs := Bs.frozen; have ls := Bs.lt
  go_wp2_with fail
  refine (k_j1 _).mono ?_
  rintro e w10 ⟨rfl, hb⟩
  clear cc0 cc1 cc2 cc3 cc4 cc5 fc lc
  clear ca0 ca1 ca2 ca3 ca4 ca5 fa la
  clear cb0 cb1 cb2 cb3 cb4 cb5 fb lb
  clear cj0 cj1 cj2 cj3 cj4 cj5 fj lj
  clear cs0 cs1 cs2 cs3 cs4 cs5 fs ls
  replace Bc := (Bc).next hb
  replace Ba := (Ba).next hb
  replace Bb := (Bb).next hb
  replace Bj := (Bj).next hb
  replace Bs := (Bs).next hb
  replace hB : Below w.heap.size w w10 := by repeat (first | exact hB | (refine Bl_set ?_ (by first | omega | (simp; omega)) _) | apply Bl_alloc | (refine Bl_trans ?_ hb))
  clear hb
  obtain ⟨cc0, cc1, cc2, cc3, cc4, cc5⟩ := cells6 Bc
  have fc := Bc.frozen; have lc := Bc.lt
  obtain ⟨ca0, ca1, ca2, ca3, ca4, ca5⟩ := cells6 Ba
  have fa := Ba.frozen; have la := Ba.lt
  obtain ⟨cb0, cb1, cb2, cb3, cb4, cb5⟩ := cells6 Bb
  have fb := Bb.frozen; have lb := Bb.lt
  obtain ⟨cj0, cj1, cj2, cj3, cj4, cj5⟩ := cells6 Bj
  have fj := Bj.frozen; have lj := Bj.lt
  obtain ⟨cs0, cs1, cs2, cs3, cs4, cs5⟩ := cells6 Bs
  have fs := Bs.frozen; have ls := Bs.lt
  go_wp2_with fail
  refine (k_j2 _).mono ?_
  rintro e w11 ⟨rfl, hb⟩
  clear cc0 cc1 cc2 cc3 cc4 cc5 fc lc
  clear ca0 ca1 ca2 ca3 ca4 ca5 fa la
  clear cb0 cb1 cb2 cb3 cb4 cb5 fb lb
  clear cj0 cj1 cj2 cj3 cj4 cj5 fj lj
  clear cs0 cs1 cs2 cs3 cs4 cs5 fs ls
  replace Bc := (Bc).next hb
  replace Ba := (Ba).next hb
  replace Bb := (Bb).next hb
  replace Bj := (Bj).next hb
  replace Bs := (Bs).next hb
  replace hB : Below w.heap.size w w11 := by repeat (first | exact hB | (refine Bl_set ?_ (by first | omega | (simp; omega)) _) | apply Bl_alloc | (refine Bl_trans ?_ hb))
  clear hb
  obtain ⟨cc0, cc1, cc2, cc3, cc4, cc5⟩ := cells6 Bc
  have fc := Bc.frozen; have lc := Bc.lt
  obtain ⟨ca0, ca1, ca2, ca3, ca4, ca5⟩ := cells6 Ba
  have fa := Ba.frozen; have la := Ba.lt
  obtain ⟨cb0, cb1, cb2, cb3, cb4, cb5⟩ := cells6 Bb
  have fb := Bb.frozen; have lb := Bb.lt
  obtain ⟨cj0, cj1, cj2, cj3, cj4, cj5⟩ := cells6 Bj
  have fj := Bj.frozen; have lj := Bj.lt
  obtain ⟨cs0, cs1, cs2, cs3, cs4, cs5⟩ := cells6 Bs
  have fs := Bs.frozen; have ls := Bs.lt
  go_wp2_with fail
  refine (k_s _).mono ?_
  rintro e w12 ⟨rfl, hb⟩
  clear cc0 cc1 cc2 cc3 cc4 cc5 fc lc
  clear ca0 ca1 ca2 ca3 ca4 ca5 fa la
  clear cb0 cb1 cb2 cb3 cb4 cb5 fb lb
  clear cj0 cj1 cj2 cj3 cj4 cj5 fj lj
  clear cs0 cs1 cs2 cs3 cs4 cs5 fs ls
  replace Bc := (Bc).next hb
  replace Ba := (Ba).next hb
  replace Bb := (Bb).next hb
  replace Bj := (Bj).next hb
  replace Bs := (Bs).next hb
  replace hB : Below w.heap.size w w12 := by repeat (first | exact hB | (refine Bl_set ?_ (by first | omega | (simp; omega)) _) | apply Bl_alloc | (refine Bl_trans ?_ hb))
  clear hb
  obtain ⟨cc0, cc1, cc2, cc3, cc4, cc5⟩ := cells6 Bc
  have fc := Bc.frozen; have lc := Bc.lt
  obtain ⟨ca0, ca1, ca2, ca3, ca4, ca5⟩ := cells6 Ba
  have fa := Ba.frozen; have la := Ba.lt
  obtain ⟨cb0, cb1, cb2, cb3, cb4, cb5⟩ := cells6 Bb
  have fb := Bb.frozen; have lb := Bb.lt
  obtain ⟨cj0, cj1, cj2, cj3, cj4, cj5⟩ := cells6 Bj
  have fj := Bj.frozen; have lj := Bj.lt
  obtain ⟨cs0, cs1, cs2, cs3, cs4, cs5⟩ := cells6 Bs
  have fs := Bs.frozen; have ls := Bs.lt
  go_wp2_with fail
  refine (to14_c a _).mono ?_
  rintro e w13 ⟨rfl, hb⟩
  clear cc0 cc1 cc2 cc3 cc4 cc5 fc lc
  clear ca0 ca1 ca2 ca3 ca4 ca5 fa la
  clear cb0 cb1 cb2 cb3 cb4 cb5 fb lb
  clear cj0 cj1 cj2 cj3 cj4 cj5 fj lj
  clear cs0 cs1 cs2 cs3 cs4 cs5 fs ls
  replace Bc := (Bc).next hb
  replace Ba := (Ba).next hb
  replace Bb := (Bb).next hb
  replace Bj := (Bj).next hb
  replace Bs := (Bs).next hb
  replace hB : Below w.heap.size w w13 := by repeat (first | exact hB | (refine Bl_set ?_ (by first | omega | (simp; omega)) _) | apply Bl_alloc | (refine Bl_trans ?_ hb))
  clear hb
  obtain ⟨cc0, cc1, cc2, cc3, cc4, cc5⟩ := cells6 Bc
  have fc := Bc.frozen; have lc := Bc.lt
  obtain ⟨ca0, ca1, ca2, ca3, ca4, ca5⟩ := cells6 Ba
  have fa := Ba.frozen; have la := Ba.lt
  obtain ⟨cb0, cb1, cb2, cb3, cb4, cb5⟩ := cells6 Bb
  have fb := Bb.frozen; have lb := Bb.lt
  obtain ⟨cj0, cj1, cj2, cj3, cj4, cj5⟩ := cells6 Bj
  have fj := Bj.frozen; have lj := Bj.lt
  obtain ⟨cs0, cs1, cs2, cs3, cs4, cs5⟩ := cells6 Bs
  have fs := Bs.frozen; have ls := Bs.lt
  go_wp2_with fail
  refine (k_L _).mono ?_
  rintro e w14 ⟨rfl, hb⟩
  clear cc0 cc1 cc2 cc3 cc4 cc5 fc lc
  clear ca0 ca1 ca2 ca3 ca4 ca5 fa la
  clear cb0 cb1 cb2 cb3 cb4 cb5 fb lb
  clear cj0 cj1 cj2 cj3 cj4 cj5 fj lj
  clear cs0 cs1 cs2 cs3 cs4 cs5 fs ls
  replace Bc := (Bc).next hb
  replace Ba := (Ba).next hb
  replace Bb := (Bb).next hb
  replace Bj := (Bj).next hb
  replace Bs := (Bs).next hb
  replace hB : Below w.heap.size w w14 := by repeat (first | exact hB | (refine Bl_set ?_ (by first | omega | (simp; omega)) _) | apply Bl_alloc | (refine Bl_trans ?_ hb))
  clear hb
  obtain ⟨cc0, cc1, cc2, cc3, cc4, cc5⟩ := cells6 Bc
  have fc := Bc.frozen; have lc := Bc.lt
  obtain ⟨ca0, ca1, ca2, ca3, ca4, ca5⟩ := cells6 Ba
  have fa := Ba.frozen; have la := Ba.lt
  obtain ⟨cb0, cb1, cb2, cb3, cb4, cb5⟩ := cells6 Bb
  have fb := Bb.frozen; have lb := Bb.lt
  obtain ⟨cj0, cj1, cj2, cj3, cj4, cj5⟩ := cells6 Bj
  have fj := Bj.frozen; have lj := Bj.lt
  obtain ⟨cs0, cs1, cs2, cs3, cs4, cs5⟩ := cells6 Bs
  have fs := Bs.frozen; have ls := Bs.lt
  go_wp2_with fail
  refine (k_l _).mono ?_
  rintro e w15 ⟨rfl, hb⟩
  clear cc0 cc1 cc2 cc3 cc4 cc5 fc lc
  clear ca0 ca1 ca2 ca3 ca4 ca5 fa la
  clear cb0 cb1 cb2 cb3 cb4 cb5 fb lb
  clear cj0 cj1 cj2 cj3 cj4 cj5 fj lj
  clear cs0 cs1 cs2 cs3 cs4 cs5 fs ls
  replace Bc := (Bc).next hb
  replace Ba := (Ba).next hb
  replace Bb := (Bb).next hb
  replace Bj := (Bj).next hb
  replace Bs := (Bs).next hb
  replace hB : Below w.heap.size w w15 := by repeat (first | exact hB | (refine Bl_set ?_ (by first | omega | (simp; omega)) _) | apply Bl_alloc | (refine Bl_trans ?_ hb))
  clear hb
  obtain ⟨cc0, cc1, cc2, cc3, cc4, cc5⟩ := cells6 Bc
  have fc := Bc.frozen; have lc := Bc.lt
  obtain ⟨ca0, ca1, ca2, ca3, ca4, ca5⟩ := cells6 Ba
  have fa := Ba.frozen; have la := Ba.lt
  obtain ⟨cb0, cb1, cb2, cb3, cb4, cb5⟩ := cells6 Bb
  have fb := Bb.frozen; have lb := Bb.lt
  obtain ⟨cj0, cj1, cj2, cj3, cj4, cj5⟩ := cells6 Bj
  have fj := Bj.frozen; have lj := Bj.lt
  obtain ⟨cs0, cs1, cs2, cs3, cs4, cs5⟩ := cells6 Bs
  have fs := Bs.frozen; have ls := Bs.lt
  go_upto_region 11 with fail
  cases Wb
  · go_wp2_with fail
    clear cc0 cc1 cc2 cc3 cc4 cc5; obtain ⟨cc0, cc1, cc2, cc3, cc4, cc5⟩ := lcells6 Bc
    clear ca0 ca1 ca2 ca3 ca4 ca5; obtain ⟨ca0, ca1, ca2, ca3, ca4, ca5⟩ := lcells6 Ba
    clear cb0 cb1 cb2 cb3 cb4 cb5; obtain ⟨cb0, cb1, cb2, cb3, cb4, cb5⟩ := lcells6 Bb
    clear cj0 cj1 cj2 cj3 cj4 cj5; obtain ⟨cj0, cj1, cj2, cj3, cj4, cj5⟩ := lcells6 Bj
    clear cs0 cs1 cs2 cs3 cs4 cs5; obtain ⟨cs0, cs1, cs2, cs3, cs4, cs5⟩ := lcells6 Bs
    refine wp_region_mix 12 (fun _ => #[]) (by kernel_rfl) (by kernel_rfl) (no_alloc (by kernel_rfl)) ?_
    simp only [List.take_succ_cons, List.take_zero, List.drop_succ_cons, List.drop_zero]
    repeat ((with_reducible refine wpMix_step (fun K hK => ?_)); go_simp; first | ((with_reducible refine hK _ ?_); clear hK K) | (rw [if_neg (by decide)]; (with_reducible refine hK _ ?_); clear hK K) | (apply Exists.intro; refine ⟨fun g => ?_, hK _ ?_⟩; ((with_reducible refine Calls.mono (to14_c a g.w) ?_); exact fun _ _ h => h); clear hK K) | (apply Exists.intro; refine ⟨fun g => ?_, hK _ ?_⟩; ((with_reducible refine Calls.mono (to14_c b g.w) ?_); exact fun _ _ h => h); clear hK K) | (apply Exists.intro; refine ⟨fun g => ?_, hK _ ?_⟩; ((with_reducible refine Calls.mono (k_W g.w) ?_); exact fun _ _ h => h); clear hK K))
    refine wpMix_nil ?_
    intro G w16 hgr hblk hdist
    have hb : Below w15.heap.size w15 w16 := hgr
    replace Bc := Bc.next hb
    replace Ba := Ba.next hb
    replace Bb := Bb.next hb
    replace Bj := Bj.next hb
    replace Bs := Bs.next hb
    clear cc0 cc1 cc2 cc3 cc4 cc5 fc lc
    clear ca0 ca1 ca2 ca3 ca4 ca5 fa la
    clear cb0 cb1 cb2 cb3 cb4 cb5 fb lb
    clear cj0 cj1 cj2 cj3 cj4 cj5 fj lj
    clear cs0 cs1 cs2 cs3 cs4 cs5 fs ls
    replace hB : Below w.heap.size w w16 := Bl_trans hB hb
    simp only [putAll, isAlloc]
    clear hb hgr hblk hdist
    obtain ⟨cc0, cc1, cc2, cc3, cc4, cc5⟩ := cells6 Bc
    have fc := Bc.frozen; have lc := Bc.lt
    obtain ⟨ca0, ca1, ca2, ca3, ca4, ca5⟩ := cells6 Ba
    have fa := Ba.frozen; have la := Ba.lt
    obtain ⟨cb0, cb1, cb2, cb3, cb4, cb5⟩ := cells6 Bb
    have fb := Bb.frozen; have lb := Bb.lt
    obtain ⟨cj0, cj1, cj2, cj3, cj4, cj5⟩ := cells6 Bj
    have fj := Bj.frozen; have lj := Bj.lt
    obtain ⟨cs0, cs1, cs2, cs3, cs4, cs5⟩ := cells6 Bs
    have fs := Bs.frozen; have ls := Bs.lt
    go_upto_region 13 with fail
    go_wp2_with fail
    clear cc0 cc1 cc2 cc3 cc4 cc5; obtain ⟨cc0, cc1, cc2, cc3, cc4, cc5⟩ := lcells6 Bc
    clear ca0 ca1 ca2 ca3 ca4 ca5; obtain ⟨ca0, ca1, ca2, ca3, ca4, ca5⟩ := lcells6 Ba
    clear cb0 cb1 cb2 cb3 cb4 cb5; obtain ⟨cb0, cb1, cb2, cb3, cb4, cb5⟩ := lcells6 Bb
    clear cj0 cj1 cj2 cj3 cj4 cj5; obtain ⟨cj0, cj1, cj2, cj3, cj4, cj5⟩ := lcells6 Bj
    clear cs0 cs1 cs2 cs3 cs4 cs5; obtain ⟨cs0, cs1, cs2, cs3, cs4, cs5⟩ := lcells6 Bs
    refine wp_region_mix 12 (fun _ => #[]) (by kernel_rfl) (by kernel_rfl) (no_alloc (by kernel_rfl)) ?_
    simp only [List.take_succ_cons, List.take_zero, List.drop_succ_cons, List.drop_zero]
    repeat ((with_reducible refine wpMix_step (fun K hK => ?_)); go_simp; first | ((with_reducible refine hK _ ?_); clear hK K) | (rw [if_neg (by decide)]; (with_reducible refine hK _ ?_); clear hK K) | (apply Exists.intro; refine ⟨fun g => ?_, hK _ ?_⟩; ((with_reducible refine Calls.mono (to14_c a g.w) ?_); exact fun _ _ h => h); clear hK K) | (apply Exists.intro; refine ⟨fun g => ?_, hK _ ?_⟩; ((with_reducible refine Calls.mono (k_1 g.w) ?_); exact fun _ _ h => h); clear hK K) | (apply Exists.intro; refine ⟨fun g => ?_, hK _ ?_⟩; ((with_reducible refine Calls.mono (sany_c g.w) ?_); exact fun _ _ h => h); clear hK K) | (apply Exists.intro; refine ⟨fun g => ?_, hK _ ?_⟩; ((with_reducible refine Calls.mono (k_2 g.w) ?_); exact fun _ _ h => h); clear hK K))
    refine wpMix_nil ?_
    intro G w17 hgr hblk hdist
    have hb : Below w16.heap.size w16 w17 := hgr
    replace Bc := Bc.next hb
    replace Ba := Ba.next hb
    replace Bb := Bb.next hb
    replace Bj := Bj.next hb
    replace Bs := Bs.next hb
    clear cc0 cc1 cc2 cc3 cc4 cc5 fc lc
    clear ca0 ca1 ca2 ca3 ca4 ca5 fa la
    clear cb0 cb1 cb2 cb3 cb4 cb5 fb lb
    clear cj0 cj1 cj2 cj3 cj4 cj5 fj lj
    clear cs0 cs1 cs2 cs3 cs4 cs5 fs ls
    replace hB : Below w.heap.size w w17 := Bl_trans hB hb
    simp only [putAll, isAlloc]
    clear hb hgr hblk hdist
    obtain ⟨cc0, cc1, cc2, cc3, cc4, cc5⟩ := cells6 Bc
    have fc := Bc.frozen; have lc := Bc.lt
    obtain ⟨ca0, ca1, ca2, ca3, ca4, ca5⟩ := cells6 Ba
    have fa := Ba.frozen; have la := Ba.lt
    obtain ⟨cb0, cb1, cb2, cb3, cb4, cb5⟩ := cells6 Bb
    have fb := Bb.frozen; have lb := Bb.lt
    obtain ⟨cj0, cj1, cj2, cj3, cj4, cj5⟩ := cells6 Bj
    have fj := Bj.frozen; have lj := Bj.lt
    obtain ⟨cs0, cs1, cs2, cs3, cs4, cs5⟩ := cells6 Bs
    have fs := Bs.frozen; have ls := Bs.lt
    go_wp2
    go_ret
    exact ⟨rfl, by repeat (first | exact hB | (refine Bl_set ?_ (by first | omega | (simp; omega)) _) | apply Bl_alloc)⟩
  · have k_b := shast_c b x (HWb.out rfl)
    go_wp2_with fail
    clear cc0 cc1 cc2 cc3 cc4 cc5; obtain ⟨cc0, cc1, cc2, cc3, cc4, cc5⟩ := lcells6 Bc
    clear ca0 ca1 ca2 ca3 ca4 ca5; obtain ⟨ca0, ca1, ca2, ca3, ca4, ca5⟩ := lcells6 Ba
    clear cb0 cb1 cb2 cb3 cb4 cb5; obtain ⟨cb0, cb1, cb2, cb3, cb4, cb5⟩ := lcells6 Bb
    clear cj0 cj1 cj2 cj3 cj4 cj5; obtain ⟨cj0, cj1, cj2, cj3, cj4, cj5⟩ := lcells6 Bj
    clear cs0 cs1 cs2 cs3 cs4 cs5; obtain ⟨cs0, cs1, cs2, cs3, cs4, cs5⟩ := lcells6 Bs
    refine wp_region_mix 12 (fun _ => #[]) (by kernel_rfl) (by kernel_rfl) (no_alloc (by kernel_rfl)) ?_
    simp only [List.take_succ_cons, List.take_zero, List.drop_succ_cons, List.drop_zero]
    repeat ((with_reducible refine wpMix_step (fun K hK => ?_)); go_simp; first | ((with_reducible refine hK _ ?_); clear hK K) | (rw [if_neg (by decide)]; (with_reducible refine hK _ ?_); clear hK K) | (apply Exists.intro; refine ⟨fun g => ?_, hK _ ?_⟩; ((with_reducible refine Calls.mono (to14_c a g.w) ?_); exact fun _ _ h => h); clear hK K) | (apply Exists.intro; refine ⟨fun g => ?_, hK _ ?_⟩; ((with_reducible refine Calls.mono (to14_c b g.w) ?_); exact fun _ _ h => h); clear hK K) | (apply Exists.intro; refine ⟨fun g => ?_, hK _ ?_⟩; ((with_reducible refine Calls.mono (k_W g.w) ?_); exact fun _ _ h => h); clear hK K) | (apply Exists.intro; refine ⟨fun g => ?_, hK _ ?_⟩; ((with_reducible refine Calls.mono (k_b g.w) ?_); exact fun _ _ h => h); clear hK K))
    refine wpMix_nil ?_
    intro G w16 hgr hblk hdist
    have hb : Below w15.heap.size w15 w16 := hgr
    replace Bc := Bc.next hb
    replace Ba := Ba.next hb
    replace Bb := Bb.next hb
    replace Bj := Bj.next hb
    replace Bs := Bs.next hb
    clear cc0 cc1 cc2 cc3 cc4 cc5 fc lc
    clear ca0 ca1 ca2 ca3 ca4 ca5 fa la
    clear cb0 cb1 cb2 cb3 cb4 cb5 fb lb
    clear cj0 cj1 cj2 cj3 cj4 cj5 fj lj
    clear cs0 cs1 cs2 cs3 cs4 cs5 fs ls
    replace hB : Below w.heap.size w w16 := Bl_trans hB hb
    simp only [putAll, isAlloc]
    clear hb hgr hblk hdist
    obtain ⟨cc0, cc1, cc2, cc3, cc4, cc5⟩ := cells6 Bc
    have fc := Bc.frozen; have lc := Bc.lt
    obtain ⟨ca0, ca1, ca2, ca3, ca4, ca5⟩ := cells6 Ba
    have fa := Ba.frozen; have la := Ba.lt
    obtain ⟨cb0, cb1, cb2, cb3, cb4, cb5⟩ := cells6 Bb
    have fb := Bb.frozen; have lb := Bb.lt
    obtain ⟨cj0, cj1, cj2, cj3, cj4, cj5⟩ := cells6 Bj
    have fj := Bj.frozen; have lj := Bj.lt
    obtain ⟨cs0, cs1, cs2, cs3, cs4, cs5⟩ := cells6 Bs
    have fs := Bs.frozen; have ls := Bs.lt
    go_upto_region 13 with fail
    go_wp2_with fail
    clear cc0 cc1 cc2 cc3 cc4 cc5; obtain ⟨cc0, cc1, cc2, cc3, cc4, cc5⟩ := lcells6 Bc
    clear ca0 ca1 ca2 ca3 ca4 ca5; obtain ⟨ca0, ca1, ca2, ca3, ca4, ca5⟩ := lcells6 Ba
    clear cb0 cb1 cb2 cb3 cb4 cb5; obtain ⟨cb0, cb1, cb2, cb3, cb4, cb5⟩ := lcells6 Bb
    clear cj0 cj1 cj2 cj3 cj4 cj5; obtain ⟨cj0, cj1, cj2, cj3, cj4, cj5⟩ := lcells6 Bj
    clear cs0 cs1 cs2 cs3 cs4 cs5; obtain ⟨cs0, cs1, cs2, cs3, cs4, cs5⟩ := lcells6 Bs
    refine wp_region_mix 12 (fun _ => #[]) (by kernel_rfl) (by kernel_rfl) (no_alloc (by kernel_rfl)) ?_
    simp only [List.take_succ_cons, List.take_zero, List.drop_succ_cons, List.drop_zero]
    repeat ((with_reducible refine wpMix_step (fun K hK => ?_)); go_simp; first | ((with_reducible refine hK _ ?_); clear hK K) | (rw [if_neg (by decide)]; (with_reducible refine hK _ ?_); clear hK K) | (apply Exists.intro; refine ⟨fun g => ?_, hK _ ?_⟩; ((with_reducible refine Calls.mono (to14_c a g.w) ?_); exact fun _ _ h => h); clear hK K) | (apply Exists.intro; refine ⟨fun g => ?_, hK _ ?_⟩; ((with_reducible refine Calls.mono (k_1 g.w) ?_); exact fun _ _ h => h); clear hK K) | (apply Exists.intro; refine ⟨fun g => ?_, hK _ ?_⟩; ((with_reducible refine Calls.mono (sany_c g.w) ?_); exact fun _ _ h => h); clear hK K) | (apply Exists.intro; refine ⟨fun g => ?_, hK _ ?_⟩; ((with_reducible refine Calls.mono (k_2 g.w) ?_); exact fun _ _ h => h); clear hK K))
    refine wpMix_nil ?_
    intro G w17 hgr hblk hdist
    have hb : Below w16.heap.size w16 w17 := hgr
    replace Bc := Bc.next hb
    replace Ba := Ba.next hb
    replace Bb := Bb.next hb
    replace Bj := Bj.next hb
    replace Bs := Bs.next hb
    clear cc0 cc1 cc2 cc3 cc4 cc5 fc lc
    clear ca0 ca1 ca2 ca3 ca4 ca5 fa la
    clear cb0 cb1 cb2 cb3 cb4 cb5 fb lb
    clear cj0 cj1 cj2 cj3 cj4 cj5 fj lj
    clear cs0 cs1 cs2 cs3 cs4 cs5 fs ls
    replace hB : Below w.heap.size w w17 := Bl_trans hB hb
    simp only [putAll, isAlloc]
    clear hb hgr hblk hdist
    obtain ⟨cc0, cc1, cc2, cc3, cc4, cc5⟩ := cells6 Bc
    have fc := Bc.frozen; have lc := Bc.lt
    obtain ⟨ca0, ca1, ca2, ca3, ca4, ca5⟩ := cells6 Ba
    have fa := Ba.frozen; have la := Ba.lt
    obtain ⟨cb0, cb1, cb2, cb3, cb4, cb5⟩ := cells6 Bb
    have fb := Bb.frozen; have lb := Bb.lt
    obtain ⟨cj0, cj1, cj2, cj3, cj4, cj5⟩ := cells6 Bj
    have fj := Bj.frozen; have lj := Bj.lt
    obtain ⟨cs0, cs1, cs2, cs3, cs4, cs5⟩ := cells6 Bs
    have fs := Bs.frozen; have ls := Bs.lt
    go_wp2
    go_ret
    exact ⟨rfl, by repeat (first | exact hB | (refine Bl_set ?_ (by first | omega | (simp; omega)) _) | apply Bl_alloc)⟩
set_option maxRecDepth 100000 in
set_option maxHeartbeats 3200000 in
theorem joins_2 (CA CB : Value) (i k : Int) (m0 m1 : W) (a b : Rng) (x y : W) (hx : PlainScalar.Has a x) (hy : PlainScalar.Has b y) (w : World) (k_c : ∀ w1, Below w.heap.size w w1 → Calls Try.prog 21 #[.agg #[CA, CB, .int .i64 i, .int .i64 k, uv m0, uv m1]] w1 fun e w' => e = .returned (.tuple #[rv a, rv b, uv x, uv y]) ∧ Below w1.heap.size w1 w') : Calls Try.prog 5 #[.agg #[CA, CB, .int .i64 i, .int .i64 k, uv m0, uv m1], .int .i64 2] w fun e w' => e = .returned (.bool true) ∧ Below w.heap.size w w' := by
  have h_J1 := PlainScalar.join_has_l (b := b) hx; have h_J2 := PlainScalar.join_has_r (a := a) hy; have k_J := sjoin_c a b
  generalize PlainScalar.join a b = J at h_J1 h_J2 k_J
  have h_S := PlainScalar.settle_has hx; have k_S := settle_c a; have h_in := PlainScalar.settle_in h_S.1; have h_w := PlainBranch.settle_within h_S.1
  generalize PlainScalar.settle a = R at h_S k_S h_in h_w; obtain ⟨S, ok⟩ := R; obtain ⟨h_ok, h_S⟩ := h_S; replace h_ok : ok = true := h_ok; subst h_ok
  replace h_S : PlainScalar.Has S x := h_S; replace k_S : ∀ w : World, Calls Try.prog 24 #[rv a] w fun e w' => e = .returned (.tuple #[rv S, .bool true]) ∧ Below w.heap.size w w' := k_S
  have f1 : decide (T S.lo < T a.lo) = false := by have := h_in.1; unfold T; simp; omega
  have f2 : decide (T a.hi < T S.hi) = false := by have := h_in.2.1; unfold T; simp; omega
  have f3 : decide (_root_.Go.Proofs.Ytmghpoagpiljhab.S S.sl < _root_.Go.Proofs.Ytmghpoagpiljhab.S a.sl) = false := by have := h_in.2.2.1; unfold _root_.Go.Proofs.Ytmghpoagpiljhab.S; simp; omega
  have f4 : decide (_root_.Go.Proofs.Ytmghpoagpiljhab.S a.sh < _root_.Go.Proofs.Ytmghpoagpiljhab.S S.sh) = false := by have := h_in.2.2.2.1; unfold _root_.Go.Proofs.Ytmghpoagpiljhab.S; simp; omega
  have f5 : (T (S.b.m &&& ~~~a.b.m) == 0) = true := by rw [T_beq0]; unfold PlainScalar.within at h_w; simp only [Bool.and_eq_true] at h_w; have := h_w.2; unfold PlainTnum.within at this; simp only [Bool.and_eq_true] at this; exact this.1
  clear h_in h_w
  have h_L := PlainScalar.low_has hx 2; have k_L := slow_c a 2
  generalize PlainScalar.low a 2 = LW at h_L k_L
  rw [lowW_2] at h_L
  obtain ⟨z, e_z⟩ : ∃ z' : W, z' = x % 65536#64 := ⟨_, rfl⟩
  rw [← e_z] at h_L
  have hsh : IntKind.u64.wrap (2 ^ 16) = 65536 := by rw [IntKind.wrap_u64]; rfl
  have hrem : (T x).tmod 65536 = T z := by rw [e_z, Int.tmod_eq_emod_of_nonneg (T_lo x)]; unfold T; rw [BitVec.toNat_umod]; rfl
  clear e_z
  have k_W := swithin_c a b; have hW : PlainScalar.within a b = true → PlainScalar.Has b x := fun h => PlainScalar.within_has h hx
  have k_1 : ∀ w : World, Calls Try.prog 28 #[rv a, rv a] w fun e w' => e = .returned (.bool true) ∧ Below w.heap.size w w' := fun w => by rw [← PlainBranch.within_refl (PlainTnum.R_has hx.b)]; exact swithin_c a a w
  have k_2 : ∀ w : World, Calls Try.prog 28 #[rv a, rv PlainScalar.any] w fun e w' => e = .returned (.bool true) ∧ Below w.heap.size w w' := fun w => by rw [← within_any_r a]; exact swithin_c a PlainScalar.any w
  have k_j1 := shast_c J x h_J1; have k_j2 := shast_c J y h_J2; have k_s := shast_c S x h_S; have k_l := shast_c LW z h_L
  clear h_J1 h_J2 h_S h_L hx hy
  generalize PlainScalar.within a b = Wb at k_W hW
  have HWb := Lib.hid hW; clear hW
  go_enter Try.func5, Try.ntmps5
  go_wp2_with fail
  obtain ⟨gc, hgc⟩ : ∃ g, g = w.heap.size := ⟨_, rfl⟩
  have Bc : Blk (w.alloc (.cells #[CA, CB, .int .i64 i, .int .i64 k, uv m0, uv m1] 49)) (w.heap.size) 49 #[CA, CB, .int .i64 i, .int .i64 k, uv m0, uv m1] := (Blk.new w 49 #[CA, CB, .int .i64 i, .int .i64 k, uv m0, uv m1])
  have hB : Below w.heap.size w (w.alloc (.cells #[CA, CB, .int .i64 i, .int .i64 k, uv m0, uv m1] 49)) := (Bl_alloc (Bl_refl w) _)
  clear hgc
  clear gc
  generalize (w.alloc (.cells #[CA, CB, .int .i64 i, .int .i64 k, uv m0, uv m1] 49)) = w1 at *
  obtain ⟨cc0, cc1, cc2, cc3, cc4, cc5⟩ := cells6 Bc
  have fc := Bc.frozen; have lc := Bc.lt
  go_wp2_with fail
  refine (k_c _ hB).mono ?_
  rintro e w2 ⟨rfl, hb⟩
  clear cc0 cc1 cc2 cc3 cc4 cc5 fc lc
  replace Bc := (Bc).next hb
  replace hB : Below w.heap.size w w2 := by repeat (first | exact hB | (refine Bl_set ?_ (by first | omega | (simp; omega)) _) | apply Bl_alloc | (refine Bl_trans ?_ hb))
  clear hb
  obtain ⟨cc0, cc1, cc2, cc3, cc4, cc5⟩ := cells6 Bc
  have fc := Bc.frozen; have lc := Bc.lt
  clear k_c
  go_upto_region 2 with fail
  clear cc0 cc1 cc2 cc3 cc4 cc5 fc lc
  have hnca := Nat.ne_of_lt Bc.lt
  have hncb : w.heap.size ≠ w2.heap.size + 1 := by have := Bc.lt; omega
  have hdab : w2.heap.size ≠ w2.heap.size + 1 := by omega
  have hga := hB.size
  have hgb : w.heap.size ≤ w2.heap.size + 1 := by omega
  replace Bc : Blk ((w2.alloc (.cells #[uv a.b.v, uv a.b.m, uv a.lo, uv a.hi, sv a.sl, sv a.sh] 53)).alloc (.cells #[uv b.b.v, uv b.b.m, uv b.lo, uv b.hi, sv b.sl, sv b.sh] 53)) (w.heap.size) 49 #[CA, CB, .int .i64 i, .int .i64 k, uv m0, uv m1] := (Bc.alloc _).alloc _
  have Ba : Blk ((w2.alloc (.cells #[uv a.b.v, uv a.b.m, uv a.lo, uv a.hi, sv a.sl, sv a.sh] 53)).alloc (.cells #[uv b.b.v, uv b.b.m, uv b.lo, uv b.hi, sv b.sl, sv b.sh] 53)) (w2.heap.size) 53 #[uv a.b.v, uv a.b.m, uv a.lo, uv a.hi, sv a.sl, sv a.sh] := (Blk.new w2 _ _).alloc _
  have Bb : Blk ((w2.alloc (.cells #[uv a.b.v, uv a.b.m, uv a.lo, uv a.hi, sv a.sl, sv a.sh] 53)).alloc (.cells #[uv b.b.v, uv b.b.m, uv b.lo, uv b.hi, sv b.sl, sv b.sh] 53)) (w2.heap.size + 1) 53 #[uv b.b.v, uv b.b.m, uv b.lo, uv b.hi, sv b.sl, sv b.sh] := by simpa using Blk.new (w2.alloc (.cells #[uv a.b.v, uv a.b.m, uv a.lo, uv a.hi, sv a.sl, sv a.sh] 53)) 53 #[uv b.b.v, uv b.b.m, uv b.lo, uv b.hi, sv b.sl, sv b.sh]
  replace hB : Below w.heap.size w ((w2.alloc (.cells #[uv a.b.v, uv a.b.m, uv a.lo, uv a.hi, sv a.sl, sv a.sh] 53)).alloc (.cells #[uv b.b.v, uv b.b.m, uv b.lo, uv b.hi, sv b.sl, sv b.sh] 53)) := Bl_alloc (Bl_alloc hB _) _
  generalize ((w2.alloc (.cells #[uv a.b.v, uv a.b.m, uv a.lo, uv a.hi, sv a.sl, sv a.sh] 53)).alloc (.cells #[uv b.b.v, uv b.b.m, uv b.lo, uv b.hi, sv b.sl, sv b.sh] 53)) = w3 at *
  generalize w2.heap.size + 1 = gb at *
  generalize w2.heap.size = ga at *
  obtain ⟨cc0, cc1, cc2, cc3, cc4, cc5⟩ := cells6 Bc
  have fc := Bc.frozen; have lc := Bc.lt
  obtain ⟨ca0, ca1, ca2, ca3, ca4, ca5⟩ := cells6 Ba
  have fa := Ba.frozen; have la := Ba.lt
  obtain ⟨cb0, cb1, cb2, cb3, cb4, cb5⟩ := cells6 Bb
  have fb := Bb.frozen; have lb := Bb.lt
  go_wp2_with fail
  clear cc0 cc1 cc2 cc3 cc4 cc5; obtain ⟨cc0, cc1, cc2, cc3, cc4, cc5⟩ := lcells6 Bc
  clear ca0 ca1 ca2 ca3 ca4 ca5; obtain ⟨ca0, ca1, ca2, ca3, ca4, ca5⟩ := lcells6 Ba
  clear cb0 cb1 cb2 cb3 cb4 cb5; obtain ⟨cb0, cb1, cb2, cb3, cb4, cb5⟩ := lcells6 Bb
  refine wp_region_mix 6 (fun _ => #[.int .u64 0, .int .u64 0, .int .u64 0, .int .u64 0, .int .i64 0, .int .i64 0]) (by kernel_rfl) (by kernel_rfl) (fun o t ho ht => by
    simp at ho
    rcases ho with rfl | rfl | rfl | rfl | rfl | rfl <;> first | (cases ht; done) | (obtain rfl := Option.some.inj ht; exact fun ρ w => new_rng14 ht ρ w)) ?_
  simp only [List.take_succ_cons, List.take_zero, List.drop_succ_cons, List.drop_zero]
  repeat ((with_reducible refine wpMix_step (fun K hK => ?_)); go_simp; first | ((with_reducible refine hK _ ?_); clear hK K) | (rw [if_neg (by decide)]; (with_reducible refine hK _ ?_); clear hK K) | (apply Exists.intro; refine ⟨fun g => ?_, hK _ ?_⟩; ((with_reducible refine Calls.mono (to14_c a g.w) ?_); exact fun _ _ h => h); clear hK K) | (apply Exists.intro; refine ⟨fun g => ?_, hK _ ?_⟩; ((with_reducible refine Calls.mono (to14_c b g.w) ?_); exact fun _ _ h => h); clear hK K) | (apply Exists.intro; refine ⟨fun g => ?_, hK _ ?_⟩; ((with_reducible refine Calls.mono (k_J g.w) ?_); exact fun _ _ h => h); clear hK K))
  refine wpMix_nil ?_
  intro G w4 hgr hblk hdist
  have hb : Below w3.heap.size w3 w4 := hgr
  replace Bc := Bc.next hb
  replace Ba := Ba.next hb
  replace Bb := Bb.next hb
  obtain ⟨Bj, hlj⟩ := hblk 5 _ rfl
  have hgj : w.heap.size ≤ G 5 := Nat.le_trans hB.size hlj
  have hncj : w.heap.size ≠ G 5 := Nat.ne_of_lt (Nat.lt_of_lt_of_le lc hlj)
  have hnaj : ga ≠ G 5 := Nat.ne_of_lt (Nat.lt_of_lt_of_le la hlj)
  have hnbj : gb ≠ G 5 := Nat.ne_of_lt (Nat.lt_of_lt_of_le lb hlj)
  clear hlj
  clear cc0 cc1 cc2 cc3 cc4 cc5 fc lc
  clear ca0 ca1 ca2 ca3 ca4 ca5 fa la
  clear cb0 cb1 cb2 cb3 cb4 cb5 fb lb
  replace hB : Below w.heap.size w w4 := Bl_trans hB hb
  simp only [putAll, isAlloc, Act.put]
  generalize G 5 = gj at *
  clear hb hgr hblk hdist
  obtain ⟨cc0, cc1, cc2, cc3, cc4, cc5⟩ := cells6 Bc
  have fc := Bc.frozen; have lc := Bc.lt
  obtain ⟨ca0, ca1, ca2, ca3, ca4, ca5⟩ := cells6 Ba
  have fa := Ba.frozen; have la := Ba.lt
  obtain ⟨cb0, cb1, cb2, cb3, cb4, cb5⟩ := cells6 Bb
  have fb := Bb.frozen; have lb := Bb.lt
  obtain ⟨cj0, cj1, cj2, cj3, cj4, cj5⟩ := cells6 Bj
  have fj := Bj.frozen; have lj := Bj.lt
  go_upto_region 3 with fail
  clear cc0 cc1 cc2 cc3 cc4 cc5 fc lc
  clear ca0 ca1 ca2 ca3 ca4 ca5 fa la
  clear cb0 cb1 cb2 cb3 cb4 cb5 fb lb
  clear cj0 cj1 cj2 cj3 cj4 cj5 fj lj
  replace Bc : Blk ((((((w4.setCell ⟨gj, 0, none⟩ (uv J.b.v)).setCell ⟨gj, 1, none⟩ (uv J.b.m)).setCell ⟨gj, 2, none⟩ (uv J.lo)).setCell ⟨gj, 3, none⟩ (uv J.hi)).setCell ⟨gj, 4, none⟩ (sv J.sl)).setCell ⟨gj, 5, none⟩ (sv J.sh)) (w.heap.size) 49 #[CA, CB, .int .i64 i, .int .i64 k, uv m0, uv m1] := ((((((Bc.far (by first | (simp; done) | (simp; omega) | (simp [*]; done) | (simp only [ne_eq]; constructor <;> omega)) _).far (by first | (simp; done) | (simp; omega) | (simp [*]; done) | (simp only [ne_eq]; constructor <;> omega)) _).far (by first | (simp; done) | (simp; omega) | (simp [*]; done) | (simp only [ne_eq]; constructor <;> omega)) _).far (by first | (simp; done) | (simp; omega) | (simp [*]; done) | (simp only [ne_eq]; constructor <;> omega)) _).far (by first | (simp; done) | (simp; omega) | (simp [*]; done) | (simp only [ne_eq]; constructor <;> omega)) _).far (by first | (simp; done) | (simp; omega) | (simp [*]; done) | (simp only [ne_eq]; constructor <;> omega)) _)
  replace Ba : Blk ((((((w4.setCell ⟨gj, 0, none⟩ (uv J.b.v)).setCell ⟨gj, 1, none⟩ (uv J.b.m)).setCell ⟨gj, 2, none⟩ (uv J.lo)).setCell ⟨gj, 3, none⟩ (uv J.hi)).setCell ⟨gj, 4, none⟩ (sv J.sl)).setCell ⟨gj, 5, none⟩ (sv J.sh)) (ga) 53 #[uv a.b.v, uv a.b.m, uv a.lo, uv a.hi, sv a.sl, sv a.sh] := ((((((Ba.far (by first | (simp; done) | (simp; omega) | (simp [*]; done) | (simp only [ne_eq]; constructor <;> omega)) _).far (by first | (simp; done) | (simp; omega) | (simp [*]; done) | (simp only [ne_eq]; constructor <;> omega)) _).far (by first | (simp; done) | (simp; omega) | (simp [*]; done) | (simp only [ne_eq]; constructor <;> omega)) _).far (by first | (simp; done) | (simp; omega) | (simp [*]; done) | (simp only [ne_eq]; constructor <;> omega)) _).far (by first | (simp; done) | (simp; omega) | (simp [*]; done) | (simp only [ne_eq]; constructor <;> omega)) _).far (by first | (simp; done) | (simp; omega) | (simp [*]; done) | (simp only [ne_eq]; constructor <;> omega)) _)
  replace Bb : Blk ((((((w4.setCell ⟨gj, 0, none⟩ (uv J.b.v)).setCell ⟨gj, 1, none⟩ (uv J.b.m)).setCell ⟨gj, 2, none⟩ (uv J.lo)).setCell ⟨gj, 3, none⟩ (uv J.hi)).setCell ⟨gj, 4, none⟩ (sv J.sl)).setCell ⟨gj, 5, none⟩ (sv J.sh)) (gb) 53 #[uv b.b.v, uv b.b.m, uv b.lo, uv b.hi, sv b.sl, sv b.sh] := ((((((Bb.far (by first | (simp; done) | (simp; omega) | (simp [*]; done) | (simp only [ne_eq]; constructor <;> omega)) _).far (by first | (simp; done) | (simp; omega) | (simp [*]; done) | (simp only [ne_eq]; constructor <;> omega)) _).far (by first | (simp; done) | (simp; omega) | (simp [*]; done) | (simp only [ne_eq]; constructor <;> omega)) _).far (by first | (simp; done) | (simp; omega) | (simp [*]; done) | (simp only [ne_eq]; constructor <;> omega)) _).far (by first | (simp; done) | (simp; omega) | (simp [*]; done) | (simp only [ne_eq]; constructor <;> omega)) _).far (by first | (simp; done) | (simp; omega) | (simp [*]; done) | (simp only [ne_eq]; constructor <;> omega)) _)
  replace Bj : Blk ((((((w4.setCell ⟨gj, 0, none⟩ (uv J.b.v)).setCell ⟨gj, 1, none⟩ (uv J.b.m)).setCell ⟨gj, 2, none⟩ (uv J.lo)).setCell ⟨gj, 3, none⟩ (uv J.hi)).setCell ⟨gj, 4, none⟩ (sv J.sl)).setCell ⟨gj, 5, none⟩ (sv J.sh)) (gj) 27 #[uv J.b.v, uv J.b.m, uv J.lo, uv J.hi, sv J.sl, sv J.sh] := ((((((Bj.set_ 0 _).set_ 1 _).set_ 2 _).set_ 3 _).set_ 4 _).set_ 5 _)
  replace hB : Below w.heap.size w ((((((w4.setCell ⟨gj, 0, none⟩ (uv J.b.v)).setCell ⟨gj, 1, none⟩ (uv J.b.m)).setCell ⟨gj, 2, none⟩ (uv J.lo)).setCell ⟨gj, 3, none⟩ (uv J.hi)).setCell ⟨gj, 4, none⟩ (sv J.sl)).setCell ⟨gj, 5, none⟩ (sv J.sh)) := (Bl_set (Bl_set (Bl_set (Bl_set (Bl_set (Bl_set hB (by first | omega | (simp; done) | (simp; omega)) _) (by first | omega | (simp; done) | (simp; omega)) _) (by first | omega | (simp; done) | (simp; omega)) _) (by first | omega | (simp; done) | (simp; omega)) _) (by first | omega | (simp; done) | (simp; omega)) _) (by first | omega | (simp; done) | (simp; omega)) _)
  generalize ((((((w4.setCell ⟨gj, 0, none⟩ (uv J.b.v)).setCell ⟨gj, 1, none⟩ (uv J.b.m)).setCell ⟨gj, 2, none⟩ (uv J.lo)).setCell ⟨gj, 3, none⟩ (uv J.hi)).setCell ⟨gj, 4, none⟩ (sv J.sl)).setCell ⟨gj, 5, none⟩ (sv J.sh)) = w5 at *
  obtain ⟨cc0, cc1, cc2, cc3, cc4, cc5⟩ := cells6 Bc
  have fc := Bc.frozen; have lc := Bc.lt
  obtain ⟨ca0, ca1, ca2, ca3, ca4, ca5⟩ := cells6 Ba
  have fa := Ba.frozen; have la := Ba.lt
  obtain ⟨cb0, cb1, cb2, cb3, cb4, cb5⟩ := cells6 Bb
  have fb := Bb.frozen; have lb := Bb.lt
  obtain ⟨cj0, cj1, cj2, cj3, cj4, cj5⟩ := cells6 Bj
  have fj := Bj.frozen; have lj := Bj.lt
  go_wp2_with fail
  refine (to14_c a _).mono ?_
  rintro e w6 ⟨rfl, hb⟩
  clear cc0 cc1 cc2 cc3 cc4 cc5 fc lc
  clear ca0 ca1 ca2 ca3 ca4 ca5 fa la
  clear cb0 cb1 cb2 cb3 cb4 cb5 fb lb
  clear cj0 cj1 cj2 cj3 cj4 cj5 fj lj
  replace Bc := (Bc).next hb
  replace Ba := (Ba).next hb
  replace Bb := (Bb).next hb
  replace Bj := (Bj).next hb
  replace hB : Below w.heap.size w w6 := by repeat (first | exact hB | (refine Bl_set ?_ (by first | omega | (simp; omega)) _) | apply Bl_alloc | (refine Bl_trans ?_ hb))
  clear hb
  obtain ⟨cc0, cc1, cc2, cc3, cc4, cc5⟩ := cells6 Bc
  have fc := Bc.frozen; have lc := Bc.lt
  obtain ⟨ca0, ca1, ca2, ca3, ca4, ca5⟩ := cells6 Ba
  have fa := Ba.frozen; have la := Ba.lt
  obtain ⟨cb0, cb1, cb2, cb3, cb4, cb5⟩ := cells6 Bb
  have fb := Bb.frozen; have lb := Bb.lt
  obtain ⟨cj0, cj1, cj2, cj3, cj4, cj5⟩ := cells6 Bj
  have fj := Bj.frozen; have lj := Bj.lt
  go_wp2_with fail
  refine (k_S _).mono ?_
  rintro e w7 ⟨rfl, hb⟩
  clear cc0 cc1 cc2 cc3 cc4 cc5 fc lc
  clear ca0 ca1 ca2 ca3 ca4 ca5 fa la
  clear cb0 cb1 cb2 cb3 cb4 cb5 fb lb
  clear cj0 cj1 cj2 cj3 cj4 cj5 fj lj
  replace Bc := (Bc).next hb
  replace Ba := (Ba).next hb
  replace Bb := (Bb).next hb
  replace Bj := (Bj).next hb
  replace hB : Below w.heap.size w w7 := by repeat (first | exact hB | (refine Bl_set ?_ (by first | omega | (simp; omega)) _) | apply Bl_alloc | (refine Bl_trans ?_ hb))
  clear hb
  obtain ⟨cc0, cc1, cc2, cc3, cc4, cc5⟩ := cells6 Bc
  have fc := Bc.frozen; have lc := Bc.lt
  obtain ⟨ca0, ca1, ca2, ca3, ca4, ca5⟩ := cells6 Ba
  have fa := Ba.frozen; have la := Ba.lt
  obtain ⟨cb0, cb1, cb2, cb3, cb4, cb5⟩ := cells6 Bb
  have fb := Bb.frozen; have lb := Bb.lt
  obtain ⟨cj0, cj1, cj2, cj3, cj4, cj5⟩ := cells6 Bj
  have fj := Bj.frozen; have lj := Bj.lt
  go_upto_region 4 with fail
  clear cc0 cc1 cc2 cc3 cc4 cc5 fc lc
  clear ca0 ca1 ca2 ca3 ca4 ca5 fa la
  clear cb0 cb1 cb2 cb3 cb4 cb5 fb lb
  clear cj0 cj1 cj2 cj3 cj4 cj5 fj lj
  have Bs := Blk.new w7 27 #[uv S.b.v, uv S.b.m, uv S.lo, uv S.hi, sv S.sl, sv S.sh]
  have hgs := hB.size
  have hncs := Nat.ne_of_lt Bc.lt; have hltcs := Bc.lt
  have hnas := Nat.ne_of_lt Ba.lt; have hltas := Ba.lt
  have hnbs := Nat.ne_of_lt Bb.lt; have hltbs := Bb.lt
  have hnjs := Nat.ne_of_lt Bj.lt; have hltjs := Bj.lt
  replace Bc : Blk (w7.alloc (.cells #[uv S.b.v, uv S.b.m, uv S.lo, uv S.hi, sv S.sl, sv S.sh] 27)) (w.heap.size) 49 #[CA, CB, .int .i64 i, .int .i64 k, uv m0, uv m1] := Bc.alloc _
  replace Ba : Blk (w7.alloc (.cells #[uv S.b.v, uv S.b.m, uv S.lo, uv S.hi, sv S.sl, sv S.sh] 27)) (ga) 53 #[uv a.b.v, uv a.b.m, uv a.lo, uv a.hi, sv a.sl, sv a.sh] := Ba.alloc _
  replace Bb : Blk (w7.alloc (.cells #[uv S.b.v, uv S.b.m, uv S.lo, uv S.hi, sv S.sl, sv S.sh] 27)) (gb) 53 #[uv b.b.v, uv b.b.m, uv b.lo, uv b.hi, sv b.sl, sv b.sh] := Bb.alloc _
  replace Bj : Blk (w7.alloc (.cells #[uv S.b.v, uv S.b.m, uv S.lo, uv S.hi, sv S.sl, sv S.sh] 27)) (gj) 27 #[uv J.b.v, uv J.b.m, uv J.lo, uv J.hi, sv J.sl, sv J.sh] := Bj.alloc _
  replace hB : Below w.heap.size w (w7.alloc (.cells #[uv S.b.v, uv S.b.m, uv S.lo, uv S.hi, sv S.sl, sv S.sh] 27)) := Bl_alloc hB _
  generalize (w7.alloc (.cells #[uv S.b.v, uv S.b.m, uv S.lo, uv S.hi, sv S.sl, sv S.sh] 27)) = w8 at *
  generalize w7.heap.size = gs at *
  obtain ⟨cc0, cc1, cc2, cc3, cc4, cc5⟩ := cells6 Bc
  have fc := Bc.frozen; have lc := Bc.lt
  obtain ⟨ca0, ca1, ca2, ca3, ca4, ca5⟩ := cells6 Ba
  have fa := Ba.frozen; have la := Ba.lt
  obtain ⟨cb0, cb1, cb2, cb3, cb4, cb5⟩ := cells6 Bb
  have fb := Bb.frozen; have lb := Bb.lt
  obtain ⟨cj0, cj1, cj2, cj3, cj4, cj5⟩ := cells6 Bj
  have fj := Bj.frozen; have lj := Bj.lt
  obtain ⟨cs0, cs1, cs2, cs3, cs4, cs5⟩ := cells6 Bs
  have fs := Bs.frozen; have ls := Bs.lt
  go_wp2_with fail
  refine (evals_c _).mono ?_
  rintro e w9 ⟨rfl, hb⟩
  clear cc0 cc1 cc2 cc3 cc4 cc5 fc lc
  clear ca0 ca1 ca2 ca3 ca4 ca5 fa la
  clear cb0 cb1 cb2 cb3 cb4 cb5 fb lb
  clear cj0 cj1 cj2 cj3 cj4 cj5 fj lj
  clear cs0 cs1 cs2 cs3 cs4 cs5 fs ls
  replace Bc := (Bc).next hb
  replace Ba := (Ba).next hb
  replace Bb := (Bb).next hb
  replace Bj := (Bj).next hb
  replace Bs := (Bs).next hb
  replace hB : Below w.heap.size w w9 := by repeat (first | exact hB | (refine Bl_set ?_ (by first | omega | (simp; omega)) _) | apply Bl_alloc | (refine Bl_trans ?_ hb))
  clear hb
  obtain ⟨cc0, cc1, cc2, cc3, cc4, cc5⟩ := cells6 Bc
  have fc := Bc.frozen; have lc := Bc.lt
  obtain ⟨ca0, ca1, ca2, ca3, ca4, ca5⟩ := cells6 Ba
  have fa := Ba.frozen; have la := Ba.lt
  obtain ⟨cb0, cb1, cb2, cb3, cb4, cb5⟩ := cells6 Bb
  have fb := Bb.frozen; have lb := Bb.lt
  obtain ⟨cj0, cj1, cj2, cj3, cj4, cj5⟩ := cells6 Bj
  have fj := Bj.frozen; have lj := Bj.lt
  obtain ⟨cs0, cs1, cs2, cs3, cs4, cs5⟩ := cells6 Bs
  have fs := Bs.frozen; have ls := Bs.lt
  go_wp2_with fail
  refine (k_j1 _).mono ?_
  rintro e w10 ⟨rfl, hb⟩
  clear cc0 cc1 cc2 cc3 cc4 cc5 fc lc
  clear ca0 ca1 ca2 ca3 ca4 ca5 fa la
  clear cb0 cb1 cb2 cb3 cb4 cb5 fb lb
  clear cj0 cj1 cj2 cj3 cj4 cj5 fj lj
  clear cs0 cs1 cs2 cs3 cs4 cs5 fs ls
  replace Bc := (Bc).next hb
  replace Ba := (Ba).next hb
  replace Bb := (Bb).next hb
  replace Bj := (Bj).next hb
  replace Bs := (Bs).next hb
  replace hB : Below w.heap.size w w10 := by repeat (first | exact hB | (refine Bl_set ?_ (by first | omega | (simp; omega)) _) | apply Bl_alloc | (refine Bl_trans ?_ hb))
  clear hb
  obtain ⟨cc0, cc1, cc2, cc3, cc4, cc5⟩ := cells6 Bc
  have fc := Bc.frozen; have lc := Bc.lt
  obtain ⟨ca0, ca1, ca2, ca3, ca4, ca5⟩ := cells6 Ba
  have fa := Ba.frozen; have la := Ba.lt
  obtain ⟨cb0, cb1, cb2, cb3, cb4, cb5⟩ := cells6 Bb
  have fb := Bb.frozen; have lb := Bb.lt
  obtain ⟨cj0, cj1, cj2, cj3, cj4, cj5⟩ := cells6 Bj
  have fj := Bj.frozen; have lj := Bj.lt
  obtain ⟨cs0, cs1, cs2, cs3, cs4, cs5⟩ := cells6 Bs
  have fs := Bs.frozen; have ls := Bs.lt
  go_wp2_with fail
  refine (k_j2 _).mono ?_
  rintro e w11 ⟨rfl, hb⟩
  clear cc0 cc1 cc2 cc3 cc4 cc5 fc lc
  clear ca0 ca1 ca2 ca3 ca4 ca5 fa la
  clear cb0 cb1 cb2 cb3 cb4 cb5 fb lb
  clear cj0 cj1 cj2 cj3 cj4 cj5 fj lj
  clear cs0 cs1 cs2 cs3 cs4 cs5 fs ls
  replace Bc := (Bc).next hb
  replace Ba := (Ba).next hb
  replace Bb := (Bb).next hb
  replace Bj := (Bj).next hb
  replace Bs := (Bs).next hb
  replace hB : Below w.heap.size w w11 := by repeat (first | exact hB | (refine Bl_set ?_ (by first | omega | (simp; omega)) _) | apply Bl_alloc | (refine Bl_trans ?_ hb))
  clear hb
  obtain ⟨cc0, cc1, cc2, cc3, cc4, cc5⟩ := cells6 Bc
  have fc := Bc.frozen; have lc := Bc.lt
  obtain ⟨ca0, ca1, ca2, ca3, ca4, ca5⟩ := cells6 Ba
  have fa := Ba.frozen; have la := Ba.lt
  obtain ⟨cb0, cb1, cb2, cb3, cb4, cb5⟩ := cells6 Bb
  have fb := Bb.frozen; have lb := Bb.lt
  obtain ⟨cj0, cj1, cj2, cj3, cj4, cj5⟩ := cells6 Bj
  have fj := Bj.frozen; have lj := Bj.lt
  obtain ⟨cs0, cs1, cs2, cs3, cs4, cs5⟩ := cells6 Bs
  have fs := Bs.frozen; have ls := Bs.lt
  go_wp2_with fail
  refine (k_s _).mono ?_
  rintro e w12 ⟨rfl, hb⟩
  clear cc0 cc1 cc2 cc3 cc4 cc5 fc lc
  clear ca0 ca1 ca2 ca3 ca4 ca5 fa la
  clear cb0 cb1 cb2 cb3 cb4 cb5 fb lb
  clear cj0 cj1 cj2 cj3 cj4 cj5 fj lj
  clear cs0 cs1 cs2 cs3 cs4 cs5 fs ls
  replace Bc := (Bc).next hb
  replace Ba := (Ba).next hb
  replace Bb := (Bb).next hb
  replace Bj := (Bj).next hb
  replace Bs := (Bs).next hb
  replace hB : Below w.heap.size w w12 := by repeat (first | exact hB | (refine Bl_set ?_ (by first | omega | (simp; omega)) _) | apply Bl_alloc | (refine Bl_trans ?_ hb))
  clear hb
  obtain ⟨cc0, cc1, cc2, cc3, cc4, cc5⟩ := cells6 Bc
  have fc := Bc.frozen; have lc := Bc.lt
  obtain ⟨ca0, ca1, ca2, ca3, ca4, ca5⟩ := cells6 Ba
  have fa := Ba.frozen; have la := Ba.lt
  obtain ⟨cb0, cb1, cb2, cb3, cb4, cb5⟩ := cells6 Bb
  have fb := Bb.frozen; have lb := Bb.lt
  obtain ⟨cj0, cj1, cj2, cj3, cj4, cj5⟩ := cells6 Bj
  have fj := Bj.frozen; have lj := Bj.lt
  obtain ⟨cs0, cs1, cs2, cs3, cs4, cs5⟩ := cells6 Bs
  have fs := Bs.frozen; have ls := Bs.lt
  go_wp2_with fail
  refine (to14_c a _).mono ?_
  rintro e w13 ⟨rfl, hb⟩
  clear cc0 cc1 cc2 cc3 cc4 cc5 fc lc
  clear ca0 ca1 ca2 ca3 ca4 ca5 fa la
  clear cb0 cb1 cb2 cb3 cb4 cb5 fb lb
  clear cj0 cj1 cj2 cj3 cj4 cj5 fj lj
  clear cs0 cs1 cs2 cs3 cs4 cs5 fs ls
  replace Bc := (Bc).next hb
  replace Ba := (Ba).next hb
  replace Bb := (Bb).next hb
  replace Bj := (Bj).next hb
  replace Bs := (Bs).next hb
  replace hB : Below w.heap.size w w13 := by repeat (first | exact hB | (refine Bl_set ?_ (by first | omega | (simp; omega)) _) | apply Bl_alloc | (refine Bl_trans ?_ hb))
  clear hb
  obtain ⟨cc0, cc1, cc2, cc3, cc4, cc5⟩ := cells6 Bc
  have fc := Bc.frozen; have lc := Bc.lt
  obtain ⟨ca0, ca1, ca2, ca3, ca4, ca5⟩ := cells6 Ba
  have fa := Ba.frozen; have la := Ba.lt
  obtain ⟨cb0, cb1, cb2, cb3, cb4, cb5⟩ := cells6 Bb
  have fb := Bb.frozen; have lb := Bb.lt
  obtain ⟨cj0, cj1, cj2, cj3, cj4, cj5⟩ := cells6 Bj
  have fj := Bj.frozen; have lj := Bj.lt
  obtain ⟨cs0, cs1, cs2, cs3, cs4, cs5⟩ := cells6 Bs
  have fs := Bs.frozen; have ls := Bs.lt
  go_wp2_with fail
  refine (k_L _).mono ?_
  rintro e w14 ⟨rfl, hb⟩
  clear cc0 cc1 cc2 cc3 cc4 cc5 fc lc
  clear ca0 ca1 ca2 ca3 ca4 ca5 fa la
  clear cb0 cb1 cb2 cb3 cb4 cb5 fb lb
  clear cj0 cj1 cj2 cj3 cj4 cj5 fj lj
  clear cs0 cs1 cs2 cs3 cs4 cs5 fs ls
  replace Bc := (Bc).next hb
  replace Ba := (Ba).next hb
  replace Bb := (Bb).next hb
  replace Bj := (Bj).next hb
  replace Bs := (Bs).next hb
  replace hB : Below w.heap.size w w14 := by repeat (first | exact hB | (refine Bl_set ?_ (by first | omega | (simp; omega)) _) | apply Bl_alloc | (refine Bl_trans ?_ hb))
  clear hb
  obtain ⟨cc0, cc1, cc2, cc3, cc4, cc5⟩ := cells6 Bc
  have fc := Bc.frozen; have lc := Bc.lt
  obtain ⟨ca0, ca1, ca2, ca3, ca4, ca5⟩ := cells6 Ba
  have fa := Ba.frozen; have la := Ba.lt
  obtain ⟨cb0, cb1, cb2, cb3, cb4, cb5⟩ := cells6 Bb
  have fb := Bb.frozen; have lb := Bb.lt
  obtain ⟨cj0, cj1, cj2, cj3, cj4, cj5⟩ := cells6 Bj
  have fj := Bj.frozen; have lj := Bj.lt
  obtain ⟨cs0, cs1, cs2, cs3, cs4, cs5⟩ := cells6 Bs
  have fs := Bs.frozen; have ls := Bs.lt
  go_wp2_with fail
  refine (k_l _).mono ?_
  rintro e w15 ⟨rfl, hb⟩
  clear cc0 cc1 cc2 cc3 cc4 cc5 fc lc
  clear ca0 ca1 ca2 ca3 ca4 ca5 fa la
  clear cb0 cb1 cb2 cb3 cb4 cb5 fb lb
  clear cj0 cj1 cj2 cj3 cj4 cj5 fj lj
  clear cs0 cs1 cs2 cs3 cs4 cs5 fs ls
  replace Bc := (Bc).next hb
  replace Ba := (Ba).next hb
  replace Bb := (Bb).next hb
  replace Bj := (Bj).next hb
  replace Bs := (Bs).next hb
  replace hB : Below w.heap.size w w15 := by repeat (first | exact hB | (refine Bl_set ?_ (by first | omega | (simp; omega)) _) | apply Bl_alloc | (refine Bl_trans ?_ hb))
  clear hb
  obtain ⟨cc0, cc1, cc2, cc3, cc4, cc5⟩ := cells6 Bc
  have fc := Bc.frozen; have lc := Bc.lt
  obtain ⟨ca0, ca1, ca2, ca3, ca4, ca5⟩ := cells6 Ba
  have fa := Ba.frozen; have la := Ba.lt
  obtain ⟨cb0, cb1, cb2, cb3, cb4, cb5⟩ := cells6 Bb
  have fb := Bb.frozen; have lb := Bb.lt
  obtain ⟨cj0, cj1, cj2, cj3, cj4, cj5⟩ := cells6 Bj
  have fj := Bj.frozen; have lj := Bj.lt
  obtain ⟨cs0, cs1, cs2, cs3, cs4, cs5⟩ := cells6 Bs
  have fs := Bs.frozen; have ls := Bs.lt
  go_upto_region 11 with fail
  cases Wb
  · go_wp2_with fail
    clear cc0 cc1 cc2 cc3 cc4 cc5; obtain ⟨cc0, cc1, cc2, cc3, cc4, cc5⟩ := lcells6 Bc
    clear ca0 ca1 ca2 ca3 ca4 ca5; obtain ⟨ca0, ca1, ca2, ca3, ca4, ca5⟩ := lcells6 Ba
    clear cb0 cb1 cb2 cb3 cb4 cb5; obtain ⟨cb0, cb1, cb2, cb3, cb4, cb5⟩ := lcells6 Bb
    clear cj0 cj1 cj2 cj3 cj4 cj5; obtain ⟨cj0, cj1, cj2, cj3, cj4, cj5⟩ := lcells6 Bj
    clear cs0 cs1 cs2 cs3 cs4 cs5; obtain ⟨cs0, cs1, cs2, cs3, cs4, cs5⟩ := lcells6 Bs
    refine wp_region_mix 12 (fun _ => #[]) (by kernel_rfl) (by kernel_rfl) (no_alloc (by kernel_rfl)) ?_
    simp only [List.take_succ_cons, List.take_zero, List.drop_succ_cons, List.drop_zero]
    repeat ((with_reducible refine wpMix_step (fun K hK => ?_)); go_simp; first | ((with_reducible refine hK _ ?_); clear hK K) | (rw [if_neg (by decide)]; (with_reducible refine hK _ ?_); clear hK K) | (apply Exists.intro; refine ⟨fun g => ?_, hK _ ?_⟩; ((with_reducible refine Calls.mono (to14_c a g.w) ?_); exact fun _ _ h => h); clear hK K) | (apply Exists.intro; refine ⟨fun g => ?_, hK _ ?_⟩; ((with_reducible refine Calls.mono (to14_c b g.w) ?_); exact fun _ _ h => h); clear hK K) | (apply Exists.intro; refine ⟨fun g => ?_, hK _ ?_⟩; ((with_reducible refine Calls.mono (k_W g.w) ?_); exact fun _ _ h => h); clear hK K))
    refine wpMix_nil ?_
    intro G w16 hgr hblk hdist
    have hb : Below w15.heap.size w15 w16 := hgr
    replace Bc := Bc.next hb
    replace Ba := Ba.next hb
    replace Bb := Bb.next hb
    replace Bj := Bj.next hb
    replace Bs := Bs.next hb
    clear cc0 cc1 cc2 cc3 cc4 cc5 fc lc
    clear ca0 ca1 ca2 ca3 ca4 ca5 fa la
    clear cb0 cb1 cb2 cb3 cb4 cb5 fb lb
    clear cj0 cj1 cj2 cj3 cj4 cj5 fj lj
    clear cs0 cs1 cs2 cs3 cs4 cs5 fs ls
    replace hB : Below w.heap.size w w16 := Bl_trans hB hb
    simp only [putAll, isAlloc]
    clear hb hgr hblk hdist
    obtain ⟨cc0, cc1, cc2, cc3, cc4, cc5⟩ := cells6 Bc
    have fc := Bc.frozen; have lc := Bc.lt
    obtain ⟨ca0, ca1, ca2, ca3, ca4, ca5⟩ := cells6 Ba
    have fa := Ba.frozen; have la := Ba.lt
    obtain ⟨cb0, cb1, cb2, cb3, cb4, cb5⟩ := cells6 Bb
    have fb := Bb.frozen; have lb := Bb.lt
    obtain ⟨cj0, cj1, cj2, cj3, cj4, cj5⟩ := cells6 Bj
    have fj := Bj.frozen; have lj := Bj.lt
    obtain ⟨cs0, cs1, cs2, cs3, cs4, cs5⟩ := cells6 Bs
    have fs := Bs.frozen; have ls := Bs.lt
    go_upto_region 13 with fail
    go_wp2_with fail
    clear cc0 cc1 cc2 cc3 cc4 cc5; obtain ⟨cc0, cc1, cc2, cc3, cc4, cc5⟩ := lcells6 Bc
    clear ca0 ca1 ca2 ca3 ca4 ca5; obtain ⟨ca0, ca1, ca2, ca3, ca4, ca5⟩ := lcells6 Ba
    clear cb0 cb1 cb2 cb3 cb4 cb5; obtain ⟨cb0, cb1, cb2, cb3, cb4, cb5⟩ := lcells6 Bb
    clear cj0 cj1 cj2 cj3 cj4 cj5; obtain ⟨cj0, cj1, cj2, cj3, cj4, cj5⟩ := lcells6 Bj
    clear cs0 cs1 cs2 cs3 cs4 cs5; obtain ⟨cs0, cs1, cs2, cs3, cs4, cs5⟩ := lcells6 Bs
    refine wp_region_mix 12 (fun _ => #[]) (by kernel_rfl) (by kernel_rfl) (no_alloc (by kernel_rfl)) ?_
    simp only [List.take_succ_cons, List.take_zero, List.drop_succ_cons, List.drop_zero]
    repeat ((with_reducible refine wpMix_step (fun K hK => ?_)); go_simp; first | ((with_reducible refine hK _ ?_); clear hK K) | (rw [if_neg (by decide)]; (with_reducible refine hK _ ?_); clear hK K) | (apply Exists.intro; refine ⟨fun g => ?_, hK _ ?_⟩; ((with_reducible refine Calls.mono (to14_c a g.w) ?_); exact fun _ _ h => h); clear hK K) | (apply Exists.intro; refine ⟨fun g => ?_, hK _ ?_⟩; ((with_reducible refine Calls.mono (k_1 g.w) ?_); exact fun _ _ h => h); clear hK K) | (apply Exists.intro; refine ⟨fun g => ?_, hK _ ?_⟩; ((with_reducible refine Calls.mono (sany_c g.w) ?_); exact fun _ _ h => h); clear hK K) | (apply Exists.intro; refine ⟨fun g => ?_, hK _ ?_⟩; ((with_reducible refine Calls.mono (k_2 g.w) ?_); exact fun _ _ h => h); clear hK K))
    refine wpMix_nil ?_
    intro G w17 hgr hblk hdist
    have hb : Below w16.heap.size w16 w17 := hgr
    replace Bc := Bc.next hb
    replace Ba := Ba.next hb
    replace Bb := Bb.next hb
    replace Bj := Bj.next hb
    replace Bs := Bs.next hb
    clear cc0 cc1 cc2 cc3 cc4 cc5 fc lc
    clear ca0 ca1 ca2 ca3 ca4 ca5 fa la
    clear cb0 cb1 cb2 cb3 cb4 cb5 fb lb
    clear cj0 cj1 cj2 cj3 cj4 cj5 fj lj
    clear cs0 cs1 cs2 cs3 cs4 cs5 fs ls
    replace hB : Below w.heap.size w w17 := Bl_trans hB hb
    simp only [putAll, isAlloc]
    clear hb hgr hblk hdist
    obtain ⟨cc0, cc1, cc2, cc3, cc4, cc5⟩ := cells6 Bc
    have fc := Bc.frozen; have lc := Bc.lt
    obtain ⟨ca0, ca1, ca2, ca3, ca4, ca5⟩ := cells6 Ba
    have fa := Ba.frozen; have la := Ba.lt
    obtain ⟨cb0, cb1, cb2, cb3, cb4, cb5⟩ := cells6 Bb
    have fb := Bb.frozen; have lb := Bb.lt
    obtain ⟨cj0, cj1, cj2, cj3, cj4, cj5⟩ := cells6 Bj
    have fj := Bj.frozen; have lj := Bj.lt
    obtain ⟨cs0, cs1, cs2, cs3, cs4, cs5⟩ := cells6 Bs
    have fs := Bs.frozen; have ls := Bs.lt
    go_wp2
    go_ret
    exact ⟨rfl, by repeat (first | exact hB | (refine Bl_set ?_ (by first | omega | (simp; omega)) _) | apply Bl_alloc)⟩
  · have k_b := shast_c b x (HWb.out rfl)
    go_wp2_with fail
    clear cc0 cc1 cc2 cc3 cc4 cc5; obtain ⟨cc0, cc1, cc2, cc3, cc4, cc5⟩ := lcells6 Bc
    clear ca0 ca1 ca2 ca3 ca4 ca5; obtain ⟨ca0, ca1, ca2, ca3, ca4, ca5⟩ := lcells6 Ba
    clear cb0 cb1 cb2 cb3 cb4 cb5; obtain ⟨cb0, cb1, cb2, cb3, cb4, cb5⟩ := lcells6 Bb
    clear cj0 cj1 cj2 cj3 cj4 cj5; obtain ⟨cj0, cj1, cj2, cj3, cj4, cj5⟩ := lcells6 Bj
    clear cs0 cs1 cs2 cs3 cs4 cs5; obtain ⟨cs0, cs1, cs2, cs3, cs4, cs5⟩ := lcells6 Bs
    refine wp_region_mix 12 (fun _ => #[]) (by kernel_rfl) (by kernel_rfl) (no_alloc (by kernel_rfl)) ?_
    simp only [List.take_succ_cons, List.take_zero, List.drop_succ_cons, List.drop_zero]
    repeat ((with_reducible refine wpMix_step (fun K hK => ?_)); go_simp; first | ((with_reducible refine hK _ ?_); clear hK K) | (rw [if_neg (by decide)]; (with_reducible refine hK _ ?_); clear hK K) | (apply Exists.intro; refine ⟨fun g => ?_, hK _ ?_⟩; ((with_reducible refine Calls.mono (to14_c a g.w) ?_); exact fun _ _ h => h); clear hK K) | (apply Exists.intro; refine ⟨fun g => ?_, hK _ ?_⟩; ((with_reducible refine Calls.mono (to14_c b g.w) ?_); exact fun _ _ h => h); clear hK K) | (apply Exists.intro; refine ⟨fun g => ?_, hK _ ?_⟩; ((with_reducible refine Calls.mono (k_W g.w) ?_); exact fun _ _ h => h); clear hK K) | (apply Exists.intro; refine ⟨fun g => ?_, hK _ ?_⟩; ((with_reducible refine Calls.mono (k_b g.w) ?_); exact fun _ _ h => h); clear hK K))
    refine wpMix_nil ?_
    intro G w16 hgr hblk hdist
    have hb : Below w15.heap.size w15 w16 := hgr
    replace Bc := Bc.next hb
    replace Ba := Ba.next hb
    replace Bb := Bb.next hb
    replace Bj := Bj.next hb
    replace Bs := Bs.next hb
    clear cc0 cc1 cc2 cc3 cc4 cc5 fc lc
    clear ca0 ca1 ca2 ca3 ca4 ca5 fa la
    clear cb0 cb1 cb2 cb3 cb4 cb5 fb lb
    clear cj0 cj1 cj2 cj3 cj4 cj5 fj lj
    clear cs0 cs1 cs2 cs3 cs4 cs5 fs ls
    replace hB : Below w.heap.size w w16 := Bl_trans hB hb
    simp only [putAll, isAlloc]
    clear hb hgr hblk hdist
    obtain ⟨cc0, cc1, cc2, cc3, cc4, cc5⟩ := cells6 Bc
    have fc := Bc.frozen; have lc := Bc.lt
    obtain ⟨ca0, ca1, ca2, ca3, ca4, ca5⟩ := cells6 Ba
    have fa := Ba.frozen; have la := Ba.lt
    obtain ⟨cb0, cb1, cb2, cb3, cb4, cb5⟩ := cells6 Bb
    have fb := Bb.frozen; have lb := Bb.lt
    obtain ⟨cj0, cj1, cj2, cj3, cj4, cj5⟩ := cells6 Bj
    have fj := Bj.frozen; have lj := Bj.lt
    obtain ⟨cs0, cs1, cs2, cs3, cs4, cs5⟩ := cells6 Bs
    have fs := Bs.frozen; have ls := Bs.lt
    go_upto_region 13 with fail
    go_wp2_with fail
    clear cc0 cc1 cc2 cc3 cc4 cc5; obtain ⟨cc0, cc1, cc2, cc3, cc4, cc5⟩ := lcells6 Bc
    clear ca0 ca1 ca2 ca3 ca4 ca5; obtain ⟨ca0, ca1, ca2, ca3, ca4, ca5⟩ := lcells6 Ba
    clear cb0 cb1 cb2 cb3 cb4 cb5; obtain ⟨cb0, cb1, cb2, cb3, cb4, cb5⟩ := lcells6 Bb
    clear cj0 cj1 cj2 cj3 cj4 cj5; obtain ⟨cj0, cj1, cj2, cj3, cj4, cj5⟩ := lcells6 Bj
    clear cs0 cs1 cs2 cs3 cs4 cs5; obtain ⟨cs0, cs1, cs2, cs3, cs4, cs5⟩ := lcells6 Bs
    refine wp_region_mix 12 (fun _ => #[]) (by kernel_rfl) (by kernel_rfl) (no_alloc (by kernel_rfl)) ?_
    simp only [List.take_succ_cons, List.take_zero, List.drop_succ_cons, List.drop_zero]
    repeat ((with_reducible refine wpMix_step (fun K hK => ?_)); go_simp; first | ((with_reducible refine hK _ ?_); clear hK K) | (rw [if_neg (by decide)]; (with_reducible refine hK _ ?_); clear hK K) | (apply Exists.intro; refine ⟨fun g => ?_, hK _ ?_⟩; ((with_reducible refine Calls.mono (to14_c a g.w) ?_); exact fun _ _ h => h); clear hK K) | (apply Exists.intro; refine ⟨fun g => ?_, hK _ ?_⟩; ((with_reducible refine Calls.mono (k_1 g.w) ?_); exact fun _ _ h => h); clear hK K) | (apply Exists.intro; refine ⟨fun g => ?_, hK _ ?_⟩; ((with_reducible refine Calls.mono (sany_c g.w) ?_); exact fun _ _ h => h); clear hK K) | (apply Exists.intro; refine ⟨fun g => ?_, hK _ ?_⟩; ((with_reducible refine Calls.mono (k_2 g.w) ?_); exact fun _ _ h => h); clear hK K))
    refine wpMix_nil ?_
    intro G w17 hgr hblk hdist
    have hb : Below w16.heap.size w16 w17 := hgr
    replace Bc := Bc.next hb
    replace Ba := Ba.next hb
    replace Bb := Bb.next hb
    replace Bj := Bj.next hb
    replace Bs := Bs.next hb
    clear cc0 cc1 cc2 cc3 cc4 cc5 fc lc
    clear ca0 ca1 ca2 ca3 ca4 ca5 fa la
    clear cb0 cb1 cb2 cb3 cb4 cb5 fb lb
    clear cj0 cj1 cj2 cj3 cj4 cj5 fj lj
    clear cs0 cs1 cs2 cs3 cs4 cs5 fs ls
    replace hB : Below w.heap.size w w17 := Bl_trans hB hb
    simp only [putAll, isAlloc]
    clear hb hgr hblk hdist
    obtain ⟨cc0, cc1, cc2, cc3, cc4, cc5⟩ := cells6 Bc
    have fc := Bc.frozen; have lc := Bc.lt
    obtain ⟨ca0, ca1, ca2, ca3, ca4, ca5⟩ := cells6 Ba
    have fa := Ba.frozen; have la := Ba.lt
    obtain ⟨cb0, cb1, cb2, cb3, cb4, cb5⟩ := cells6 Bb
    have fb := Bb.frozen; have lb := Bb.lt
    obtain ⟨cj0, cj1, cj2, cj3, cj4, cj5⟩ := cells6 Bj
    have fj := Bj.frozen; have lj := Bj.lt
    obtain ⟨cs0, cs1, cs2, cs3, cs4, cs5⟩ := cells6 Bs
    have fs := Bs.frozen; have ls := Bs.lt
    go_wp2
    go_ret
    exact ⟨rfl, by repeat (first | exact hB | (refine Bl_set ?_ (by first | omega | (simp; omega)) _) | apply Bl_alloc)⟩
set_option maxRecDepth 100000 in
set_option maxHeartbeats 3200000 in
theorem joins_4 (CA CB : Value) (i k : Int) (m0 m1 : W) (a b : Rng) (x y : W) (hx : PlainScalar.Has a x) (hy : PlainScalar.Has b y) (w : World) (k_c : ∀ w1, Below w.heap.size w w1 → Calls Try.prog 21 #[.agg #[CA, CB, .int .i64 i, .int .i64 k, uv m0, uv m1]] w1 fun e w' => e = .returned (.tuple #[rv a, rv b, uv x, uv y]) ∧ Below w1.heap.size w1 w') : Calls Try.prog 5 #[.agg #[CA, CB, .int .i64 i, .int .i64 k, uv m0, uv m1], .int .i64 4] w fun e w' => e = .returned (.bool true) ∧ Below w.heap.size w w' := by
  have h_J1 := PlainScalar.join_has_l (b := b) hx; have h_J2 := PlainScalar.join_has_r (a := a) hy; have k_J := sjoin_c a b
  generalize PlainScalar.join a b = J at h_J1 h_J2 k_J
  have h_S := PlainScalar.settle_has hx; have k_S := settle_c a; have h_in := PlainScalar.settle_in h_S.1; have h_w := PlainBranch.settle_within h_S.1
  generalize PlainScalar.settle a = R at h_S k_S h_in h_w; obtain ⟨S, ok⟩ := R; obtain ⟨h_ok, h_S⟩ := h_S; replace h_ok : ok = true := h_ok; subst h_ok
  replace h_S : PlainScalar.Has S x := h_S; replace k_S : ∀ w : World, Calls Try.prog 24 #[rv a] w fun e w' => e = .returned (.tuple #[rv S, .bool true]) ∧ Below w.heap.size w w' := k_S
  have f1 : decide (T S.lo < T a.lo) = false := by have := h_in.1; unfold T; simp; omega
  have f2 : decide (T a.hi < T S.hi) = false := by have := h_in.2.1; unfold T; simp; omega
  have f3 : decide (_root_.Go.Proofs.Ytmghpoagpiljhab.S S.sl < _root_.Go.Proofs.Ytmghpoagpiljhab.S a.sl) = false := by have := h_in.2.2.1; unfold _root_.Go.Proofs.Ytmghpoagpiljhab.S; simp; omega
  have f4 : decide (_root_.Go.Proofs.Ytmghpoagpiljhab.S a.sh < _root_.Go.Proofs.Ytmghpoagpiljhab.S S.sh) = false := by have := h_in.2.2.2.1; unfold _root_.Go.Proofs.Ytmghpoagpiljhab.S; simp; omega
  have f5 : (T (S.b.m &&& ~~~a.b.m) == 0) = true := by rw [T_beq0]; unfold PlainScalar.within at h_w; simp only [Bool.and_eq_true] at h_w; have := h_w.2; unfold PlainTnum.within at this; simp only [Bool.and_eq_true] at this; exact this.1
  clear h_in h_w
  have h_L := PlainScalar.low_has hx 4; have k_L := slow_c a 4
  generalize PlainScalar.low a 4 = LW at h_L k_L
  rw [lowW_4] at h_L
  obtain ⟨z, e_z⟩ : ∃ z' : W, z' = x % 4294967296#64 := ⟨_, rfl⟩
  rw [← e_z] at h_L
  have hsh : IntKind.u64.wrap (2 ^ 32) = 4294967296 := by rw [IntKind.wrap_u64]; rfl
  have hrem : (T x).tmod 4294967296 = T z := by rw [e_z, Int.tmod_eq_emod_of_nonneg (T_lo x)]; unfold T; rw [BitVec.toNat_umod]; rfl
  clear e_z
  have k_W := swithin_c a b; have hW : PlainScalar.within a b = true → PlainScalar.Has b x := fun h => PlainScalar.within_has h hx
  have k_1 : ∀ w : World, Calls Try.prog 28 #[rv a, rv a] w fun e w' => e = .returned (.bool true) ∧ Below w.heap.size w w' := fun w => by rw [← PlainBranch.within_refl (PlainTnum.R_has hx.b)]; exact swithin_c a a w
  have k_2 : ∀ w : World, Calls Try.prog 28 #[rv a, rv PlainScalar.any] w fun e w' => e = .returned (.bool true) ∧ Below w.heap.size w w' := fun w => by rw [← within_any_r a]; exact swithin_c a PlainScalar.any w
  have k_j1 := shast_c J x h_J1; have k_j2 := shast_c J y h_J2; have k_s := shast_c S x h_S; have k_l := shast_c LW z h_L
  clear h_J1 h_J2 h_S h_L hx hy
  generalize PlainScalar.within a b = Wb at k_W hW
  have HWb := Lib.hid hW; clear hW
  go_enter Try.func5, Try.ntmps5
  go_wp2_with fail
  obtain ⟨gc, hgc⟩ : ∃ g, g = w.heap.size := ⟨_, rfl⟩
  have Bc : Blk (w.alloc (.cells #[CA, CB, .int .i64 i, .int .i64 k, uv m0, uv m1] 49)) (w.heap.size) 49 #[CA, CB, .int .i64 i, .int .i64 k, uv m0, uv m1] := (Blk.new w 49 #[CA, CB, .int .i64 i, .int .i64 k, uv m0, uv m1])
  have hB : Below w.heap.size w (w.alloc (.cells #[CA, CB, .int .i64 i, .int .i64 k, uv m0, uv m1] 49)) := (Bl_alloc (Bl_refl w) _)
  clear hgc
  clear gc
  generalize (w.alloc (.cells #[CA, CB, .int .i64 i, .int .i64 k, uv m0, uv m1] 49)) = w1 at *
  obtain ⟨cc0, cc1, cc2, cc3, cc4, cc5⟩ := cells6 Bc
  have fc := Bc.frozen; have lc := Bc.lt
  go_wp2_with fail
  refine (k_c _ hB).mono ?_
  rintro e w2 ⟨rfl, hb⟩
  clear cc0 cc1 cc2 cc3 cc4 cc5 fc lc
  replace Bc := (Bc).next hb
  replace hB : Below w.heap.size w w2 := by repeat (first | exact hB | (refine Bl_set ?_ (by first | omega | (simp; omega)) _) | apply Bl_alloc | (refine Bl_trans ?_ hb))
  clear hb
  obtain ⟨cc0, cc1, cc2, cc3, cc4, cc5⟩ := cells6 Bc
  have fc := Bc.frozen; have lc := Bc.lt
  clear k_c
  go_upto_region 2 with fail
  clear cc0 cc1 cc2 cc3 cc4 cc5 fc lc
  have hnca := Nat.ne_of_lt Bc.lt
  have hncb : w.heap.size ≠ w2.heap.size + 1 := by have := Bc.lt; omega
  have hdab : w2.heap.size ≠ w2.heap.size + 1 := by omega
  have hga := hB.size
  have hgb : w.heap.size ≤ w2.heap.size + 1 := by omega
  replace Bc : Blk ((w2.alloc (.cells #[uv a.b.v, uv a.b.m, uv a.lo, uv a.hi, sv a.sl, sv a.sh] 53)).alloc (.cells #[uv b.b.v, uv b.b.m, uv b.lo, uv b.hi, sv b.sl, sv b.sh] 53)) (w.heap.size) 49 #[CA, CB, .int .i64 i, .int .i64 k, uv m0, uv m1] := (Bc.alloc _).alloc _
  have Ba : Blk ((w2.alloc (.cells #[uv a.b.v, uv a.b.m, uv a.lo, uv a.hi, sv a.sl, sv a.sh] 53)).alloc (.cells #[uv b.b.v, uv b.b.m, uv b.lo, uv b.hi, sv b.sl, sv b.sh] 53)) (w2.heap.size) 53 #[uv a.b.v, uv a.b.m, uv a.lo, uv a.hi, sv a.sl, sv a.sh] := (Blk.new w2 _ _).alloc _
  have Bb : Blk ((w2.alloc (.cells #[uv a.b.v, uv a.b.m, uv a.lo, uv a.hi, sv a.sl, sv a.sh] 53)).alloc (.cells #[uv b.b.v, uv b.b.m, uv b.lo, uv b.hi, sv b.sl, sv b.sh] 53)) (w2.heap.size + 1) 53 #[uv b.b.v, uv b.b.m, uv b.lo, uv b.hi, sv b.sl, sv b.sh] := by simpa using Blk.new (w2.alloc (.cells #[uv a.b.v, uv a.b.m, uv a.lo, uv a.hi, sv a.sl, sv a.sh] 53)) 53 #[uv b.b.v, uv b.b.m, uv b.lo, uv b.hi, sv b.sl, sv b.sh]
  replace hB : Below w.heap.size w ((w2.alloc (.cells #[uv a.b.v, uv a.b.m, uv a.lo, uv a.hi, sv a.sl, sv a.sh] 53)).alloc (.cells #[uv b.b.v, uv b.b.m, uv b.lo, uv b.hi, sv b.sl, sv b.sh] 53)) := Bl_alloc (Bl_alloc hB _) _
  generalize ((w2.alloc (.cells #[uv a.b.v, uv a.b.m, uv a.lo, uv a.hi, sv a.sl, sv a.sh] 53)).alloc (.cells #[uv b.b.v, uv b.b.m, uv b.lo, uv b.hi, sv b.sl, sv b.sh] 53)) = w3 at *
  generalize w2.heap.size + 1 = gb at *
  generalize w2.heap.size = ga at *
  obtain ⟨cc0, cc1, cc2, cc3, cc4, cc5⟩ := cells6 Bc
  have fc := Bc.frozen; have lc := Bc.lt
  obtain ⟨ca0, ca1, ca2, ca3, ca4, ca5⟩ := cells6 Ba
  have fa := Ba.frozen; have la := Ba.lt
  obtain ⟨cb0, cb1, cb2, cb3, cb4, cb5⟩ := cells6 Bb
  have fb := Bb.frozen; have lb := Bb.lt
  go_wp2_with fail
  clear cc0 cc1 cc2 cc3 cc4 cc5; obtain ⟨cc0, cc1, cc2, cc3, cc4, cc5⟩ := lcells6 Bc
  clear ca0 ca1 ca2 ca3 ca4 ca5; obtain ⟨ca0, ca1, ca2, ca3, ca4, ca5⟩ := lcells6 Ba
  clear cb0 cb1 cb2 cb3 cb4 cb5; obtain ⟨cb0, cb1, cb2, cb3, cb4, cb5⟩ := lcells6 Bb
  refine wp_region_mix 6 (fun _ => #[.int .u64 0, .int .u64 0, .int .u64 0, .int .u64 0, .int .i64 0, .int .i64 0]) (by kernel_rfl) (by kernel_rfl) (fun o t ho ht => by
    simp at ho
    rcases ho with rfl | rfl | rfl | rfl | rfl | rfl <;> first | (cases ht; done) | (obtain rfl := Option.some.inj ht; exact fun ρ w => new_rng14 ht ρ w)) ?_
  simp only [List.take_succ_cons, List.take_zero, List.drop_succ_cons, List.drop_zero]
  repeat ((with_reducible refine wpMix_step (fun K hK => ?_)); go_simp; first | ((with_reducible refine hK _ ?_); clear hK K) | (rw [if_neg (by decide)]; (with_reducible refine hK _ ?_); clear hK K) | (apply Exists.intro; refine ⟨fun g => ?_, hK _ ?_⟩; ((with_reducible refine Calls.mono (to14_c a g.w) ?_); exact fun _ _ h => h); clear hK K) | (apply Exists.intro; refine ⟨fun g => ?_, hK _ ?_⟩; ((with_reducible refine Calls.mono (to14_c b g.w) ?_); exact fun _ _ h => h); clear hK K) | (apply Exists.intro; refine ⟨fun g => ?_, hK _ ?_⟩; ((with_reducible refine Calls.mono (k_J g.w) ?_); exact fun _ _ h => h); clear hK K))
  refine wpMix_nil ?_
  intro G w4 hgr hblk hdist
  have hb : Below w3.heap.size w3 w4 := hgr
  replace Bc := Bc.next hb
  replace Ba := Ba.next hb
  replace Bb := Bb.next hb
  obtain ⟨Bj, hlj⟩ := hblk 5 _ rfl
  have hgj : w.heap.size ≤ G 5 := Nat.le_trans hB.size hlj
  have hncj : w.heap.size ≠ G 5 := Nat.ne_of_lt (Nat.lt_of_lt_of_le lc hlj)
  have hnaj : ga ≠ G 5 := Nat.ne_of_lt (Nat.lt_of_lt_of_le la hlj)
  have hnbj : gb ≠ G 5 := Nat.ne_of_lt (Nat.lt_of_lt_of_le lb hlj)
  clear hlj
  clear cc0 cc1 cc2 cc3 cc4 cc5 fc lc
  clear ca0 ca1 ca2 ca3 ca4 ca5 fa la
  clear cb0 cb1 cb2 cb3 cb4 cb5 fb lb
  replace hB : Below w.heap.size w w4 := Bl_trans hB hb
  simp only [putAll, isAlloc, Act.put]
  generalize G 5 = gj at *
  clear hb hgr hblk hdist
  obtain ⟨cc0, cc1, cc2, cc3, cc4, cc5⟩ := cells6 Bc
  have fc := Bc.frozen; have lc := Bc.lt
  obtain ⟨ca0, ca1, ca2, ca3, ca4, ca5⟩ := cells6 Ba
  have fa := Ba.frozen; have la := Ba.lt
  obtain ⟨cb0, cb1, cb2, cb3, cb4, cb5⟩ := cells6 Bb
  have fb := Bb.frozen; have lb := Bb.lt
  obtain ⟨cj0, cj1, cj2, cj3, cj4, cj5⟩ := cells6 Bj
  have fj := Bj.frozen; have lj := Bj.lt
  go_upto_region 3 with fail
  clear cc0 cc1 cc2 cc3 cc4 cc5 fc lc
  clear ca0 ca1 ca2 ca3 ca4 ca5 fa la
  clear cb0 cb1 cb2 cb3 cb4 cb5 fb lb
  clear cj0 cj1 cj2 cj3 cj4 cj5 fj lj
  replace Bc : Blk ((((((w4.setCell ⟨gj, 0, none⟩ (uv J.b.v)).setCell ⟨gj, 1, none⟩ (uv J.b.m)).setCell ⟨gj, 2, none⟩ (uv J.lo)).setCell ⟨gj, 3, none⟩ (uv J.hi)).setCell ⟨gj, 4, none⟩ (sv J.sl)).setCell ⟨gj, 5, none⟩ (sv J.sh)) (w.heap.size) 49 #[CA, CB, .int .i64 i, .int .i64 k, uv m0, uv m1] := ((((((Bc.far (by first | (simp; done) | (simp; omega) | (simp [*]; done) | (simp only [ne_eq]; constructor <;> omega)) _).far (by first | (simp; done) | (simp; omega) | (simp [*]; done) | (simp only [ne_eq]; constructor <;> omega)) _).far (by first | (simp; done) | (simp; omega) | (simp [*]; done) | (simp only [ne_eq]; constructor <;> omega)) _).far (by first | (simp; done) | (simp; omega) | (simp [*]; done) | (simp only [ne_eq]; constructor <;> omega)) _).far (by first | (simp; done) | (simp; omega) | (simp [*]; done) | (simp only [ne_eq]; constructor <;> omega)) _).far (by first | (simp; done) | (simp; omega) | (simp [*]; done) | (simp only [ne_eq]; constructor <;> omega)) _)
  replace Ba : Blk ((((((w4.setCell ⟨gj, 0, none⟩ (uv J.b.v)).setCell ⟨gj, 1, none⟩ (uv J.b.m)).setCell ⟨gj, 2, none⟩ (uv J.lo)).setCell ⟨gj, 3, none⟩ (uv J.hi)).setCell ⟨gj, 4, none⟩ (sv J.sl)).setCell ⟨gj, 5, none⟩ (sv J.sh)) (ga) 53 #[uv a.b.v, uv a.b.m, uv a.lo, uv a.hi, sv a.sl, sv a.sh] := ((((((Ba.far (by first | (simp; done) | (simp; omega) | (simp [*]; done) | (simp only [ne_eq]; constructor <;> omega)) _).far (by first | (simp; done) | (simp; omega) | (simp [*]; done) | (simp only [ne_eq]; constructor <;> omega)) _).far (by first | (simp; done) | (simp; omega) | (simp [*]; done) | (simp only [ne_eq]; constructor <;> omega)) _).far (by first | (simp; done) | (simp; omega) | (simp [*]; done) | (simp only [ne_eq]; constructor <;> omega)) _).far (by first | (simp; done) | (simp; omega) | (simp [*]; done) | (simp only [ne_eq]; constructor <;> omega)) _).far (by first | (simp; done) | (simp; omega) | (simp [*]; done) | (simp only [ne_eq]; constructor <;> omega)) _)
  replace Bb : Blk ((((((w4.setCell ⟨gj, 0, none⟩ (uv J.b.v)).setCell ⟨gj, 1, none⟩ (uv J.b.m)).setCell ⟨gj, 2, none⟩ (uv J.lo)).setCell ⟨gj, 3, none⟩ (uv J.hi)).setCell ⟨gj, 4, none⟩ (sv J.sl)).setCell ⟨gj, 5, none⟩ (sv J.sh)) (gb) 53 #[uv b.b.v, uv b.b.m, uv b.lo, uv b.hi, sv b.sl, sv b.sh] := ((((((Bb.far (by first | (simp; done) | (simp; omega) | (simp [*]; done) | (simp only [ne_eq]; constructor <;> omega)) _).far (by first | (simp; done) | (simp; omega) | (simp [*]; done) | (simp only [ne_eq]; constructor <;> omega)) _).far (by first | (simp; done) | (simp; omega) | (simp [*]; done) | (simp only [ne_eq]; constructor <;> omega)) _).far (by first | (simp; done) | (simp; omega) | (simp [*]; done) | (simp only [ne_eq]; constructor <;> omega)) _).far (by first | (simp; done) | (simp; omega) | (simp [*]; done) | (simp only [ne_eq]; constructor <;> omega)) _).far (by first | (simp; done) | (simp; omega) | (simp [*]; done) | (simp only [ne_eq]; constructor <;> omega)) _)
  replace Bj : Blk ((((((w4.setCell ⟨gj, 0, none⟩ (uv J.b.v)).setCell ⟨gj, 1, none⟩ (uv J.b.m)).setCell ⟨gj, 2, none⟩ (uv J.lo)).setCell ⟨gj, 3, none⟩ (uv J.hi)).setCell ⟨gj, 4, none⟩ (sv J.sl)).setCell ⟨gj, 5, none⟩ (sv J.sh)) (gj) 27 #[uv J.b.v, uv J.b.m, uv J.lo, uv J.hi, sv J.sl, sv J.sh] := ((((((Bj.set_ 0 _).set_ 1 _).set_ 2 _).set_ 3 _).set_ 4 _).set_ 5 _)
  replace hB : Below w.heap.size w ((((((w4.setCell ⟨gj, 0, none⟩ (uv J.b.v)).setCell ⟨gj, 1, none⟩ (uv J.b.m)).setCell ⟨gj, 2, none⟩ (uv J.lo)).setCell ⟨gj, 3, none⟩ (uv J.hi)).setCell ⟨gj, 4, none⟩ (sv J.sl)).setCell ⟨gj, 5, none⟩ (sv J.sh)) := (Bl_set (Bl_set (Bl_set (Bl_set (Bl_set (Bl_set hB (by first | omega | (simp; done) | (simp; omega)) _) (by first | omega | (simp; done) | (simp; omega)) _) (by first | omega | (simp; done) | (simp; omega)) _) (by first | omega | (simp; done) | (simp; omega)) _) (by first | omega | (simp; done) | (simp; omega)) _) (by first | omega | (simp; done) | (simp; omega)) _)
  generalize ((((((w4.setCell ⟨gj, 0, none⟩ (uv J.b.v)).setCell ⟨gj, 1, none⟩ (uv J.b.m)).setCell ⟨gj, 2, none⟩ (uv J.lo)).setCell ⟨gj, 3, none⟩ (uv J.hi)).setCell ⟨gj, 4, none⟩ (sv J.sl)).setCell ⟨gj, 5, none⟩ (sv J.sh)) = w5 at *
  obtain ⟨cc0, cc1, cc2, cc3, cc4, cc5⟩ := cells6 Bc
  have fc := Bc.frozen; have lc := Bc.lt
  obtain ⟨ca0, ca1, ca2, ca3, ca4, ca5⟩ := cells6 Ba
  have fa := Ba.frozen; have la := Ba.lt
  obtain ⟨cb0, cb1, cb2, cb3, cb4, cb5⟩ := cells6 Bb
  have fb := Bb.frozen; have lb := Bb.lt
  obtain ⟨cj0, cj1, cj2, cj3, cj4, cj5⟩ := cells6 Bj
  have fj := Bj.frozen; have lj := Bj.lt
  go_wp2_with fail
  refine (to14_c a _).mono ?_
  rintro e w6 ⟨rfl, hb⟩
  clear cc0 cc1 cc2 cc3 cc4 cc5 fc lc
  clear ca0 ca1 ca2 ca3 ca4 ca5 fa la
  clear cb0 cb1 cb2 cb3 cb4 cb5 fb lb
  clear cj0 cj1 cj2 cj3 cj4 cj5 fj lj
  replace Bc := (Bc).next hb
  replace Ba := (Ba).next hb
  replace Bb := (Bb).next hb
  replace Bj := (Bj).next hb
  replace hB : Below w.heap.size w w6 := by repeat (first | exact hB | (refine Bl_set ?_ (by first | omega | (simp; omega)) _) | apply Bl_alloc | (refine Bl_trans ?_ hb))
  clear hb
  obtain ⟨cc0, cc1, cc2, cc3, cc4, cc5⟩ := cells6 Bc
  have fc := Bc.frozen; have lc := Bc.lt
  obtain ⟨ca0, ca1, ca2, ca3, ca4, ca5⟩ := cells6 Ba
  have fa := Ba.frozen; have la := Ba.lt
  obtain ⟨cb0, cb1, cb2, cb3, cb4, cb5⟩ := cells6 Bb
  have fb := Bb.frozen; have lb := Bb.lt
  obtain ⟨cj0, cj1, cj2, cj3, cj4, cj5⟩ := cells6 Bj
  have fj := Bj.frozen; have lj := Bj.lt
  go_wp2_with fail
  refine (k_S _).mono ?_
  rintro e w7 ⟨rfl, hb⟩
  clear cc0 cc1 cc2 cc3 cc4 cc5 fc lc
  clear ca0 ca1 ca2 ca3 ca4 ca5 fa la
  clear cb0 cb1 cb2 cb3 cb4 cb5 fb lb
  clear cj0 cj1 cj2 cj3 cj4 cj5 fj lj
  replace Bc := (Bc).next hb
  replace Ba := (Ba).next hb
  replace Bb := (Bb).next hb
  replace Bj := (Bj).next hb
  replace hB : Below w.heap.size w w7 := by repeat (first | exact hB | (refine Bl_set ?_ (by first | omega | (simp; omega)) _) | apply Bl_alloc | (refine Bl_trans ?_ hb))
  clear hb
  obtain ⟨cc0, cc1, cc2, cc3, cc4, cc5⟩ := cells6 Bc
  have fc := Bc.frozen; have lc := Bc.lt
  obtain ⟨ca0, ca1, ca2, ca3, ca4, ca5⟩ := cells6 Ba
  have fa := Ba.frozen; have la := Ba.lt
  obtain ⟨cb0, cb1, cb2, cb3, cb4, cb5⟩ := cells6 Bb
  have fb := Bb.frozen; have lb := Bb.lt
  obtain ⟨cj0, cj1, cj2, cj3, cj4, cj5⟩ := cells6 Bj
  have fj := Bj.frozen; have lj := Bj.lt
  go_upto_region 4 with fail
  clear cc0 cc1 cc2 cc3 cc4 cc5 fc lc
  clear ca0 ca1 ca2 ca3 ca4 ca5 fa la
  clear cb0 cb1 cb2 cb3 cb4 cb5 fb lb
  clear cj0 cj1 cj2 cj3 cj4 cj5 fj lj
  have Bs := Blk.new w7 27 #[uv S.b.v, uv S.b.m, uv S.lo, uv S.hi, sv S.sl, sv S.sh]
  have hgs := hB.size
  have hncs := Nat.ne_of_lt Bc.lt; have hltcs := Bc.lt
  have hnas := Nat.ne_of_lt Ba.lt; have hltas := Ba.lt
  have hnbs := Nat.ne_of_lt Bb.lt; have hltbs := Bb.lt
  have hnjs := Nat.ne_of_lt Bj.lt; have hltjs := Bj.lt
  replace Bc : Blk (w7.alloc (.cells #[uv S.b.v, uv S.b.m, uv S.lo, uv S.hi, sv S.sl, sv S.sh] 27)) (w.heap.size) 49 #[CA, CB, .int .i64 i, .int .i64 k, uv m0, uv m1] := Bc.alloc _
  replace Ba : Blk (w7.alloc (.cells #[uv S.b.v, uv S.b.m, uv S.lo, uv S.hi, sv S.sl, sv S.sh] 27)) (ga) 53 #[uv a.b.v, uv a.b.m, uv a.lo, uv a.hi, sv a.sl, sv a.sh] := Ba.alloc _
  replace Bb : Blk (w7.alloc (.cells #[uv S.b.v, uv S.b.m, uv S.lo, uv S.hi, sv S.sl, sv S.sh] 27)) (gb) 53 #[uv b.b.v, uv b.b.m, uv b.lo, uv b.hi, sv b.sl, sv b.sh] := Bb.alloc _
  replace Bj : Blk (w7.alloc (.cells #[uv S.b.v, uv S.b.m, uv S.lo, uv S.hi, sv S.sl, sv S.sh] 27)) (gj) 27 #[uv J.b.v, uv J.b.m, uv J.lo, uv J.hi, sv J.sl, sv J.sh] := Bj.alloc _
  replace hB : Below w.heap.size w (w7.alloc (.cells #[uv S.b.v, uv S.b.m, uv S.lo, uv S.hi, sv S.sl, sv S.sh] 27)) := Bl_alloc hB _
  generalize (w7.alloc (.cells #[uv S.b.v, uv S.b.m, uv S.lo, uv S.hi, sv S.sl, sv S.sh] 27)) = w8 at *
  generalize w7.heap.size = gs at *
  obtain ⟨cc0, cc1, cc2, cc3, cc4, cc5⟩ := cells6 Bc
  have fc := Bc.frozen; have lc := Bc.lt
  obtain ⟨ca0, ca1, ca2, ca3, ca4, ca5⟩ := cells6 Ba
  have fa := Ba.frozen; have la := Ba.lt
  obtain ⟨cb0, cb1, cb2, cb3, cb4, cb5⟩ := cells6 Bb
  have fb := Bb.frozen; have lb := Bb.lt
  obtain ⟨cj0, cj1, cj2, cj3, cj4, cj5⟩ := cells6 Bj
  have fj := Bj.frozen; have lj := Bj.lt
  obtain ⟨cs0, cs1, cs2, cs3, cs4, cs5⟩ := cells6 Bs
  have fs := Bs.frozen; have ls := Bs.lt
  go_wp2_with fail
  refine (evals_c _).mono ?_
  rintro e w9 ⟨rfl, hb⟩
  clear cc0 cc1 cc2 cc3 cc4 cc5 fc lc
  clear ca0 ca1 ca2 ca3 ca4 ca5 fa la
  clear cb0 cb1 cb2 cb3 cb4 cb5 fb lb
  clear cj0 cj1 cj2 cj3 cj4 cj5 fj lj
  clear cs0 cs1 cs2 cs3 cs4 cs5 fs ls
  replace Bc := (Bc).next hb
  replace Ba := (Ba).next hb
  replace Bb := (Bb).next hb
  replace Bj := (Bj).next hb
  replace Bs := (Bs).next hb
  replace hB : Below w.heap.size w w9 := by repeat (first | exact hB | (refine Bl_set ?_ (by first | omega | (simp; omega)) _) | apply Bl_alloc | (refine Bl_trans ?_ hb))
  clear hb
  obtain ⟨cc0, cc1, cc2, cc3, cc4, cc5⟩ := cells6 Bc
  have fc := Bc.frozen; have lc := Bc.lt
  obtain ⟨ca0, ca1, ca2, ca3, ca4, ca5⟩ := cells6 Ba
  have fa := Ba.frozen; have la := Ba.lt
  obtain ⟨cb0, cb1, cb2, cb3, cb4, cb5⟩ := cells6 Bb
  have fb := Bb.frozen; have lb := Bb.lt
  obtain ⟨cj0, cj1, cj2, cj3, cj4, cj5⟩ := cells6 Bj
  have fj := Bj.frozen; have lj := Bj.lt
  obtain ⟨cs0, cs1, cs2, cs3, cs4, cs5⟩ := cells6 Bs
  have fs := Bs.frozen; have ls := Bs.lt
  go_wp2_with fail
  refine (k_j1 _).mono ?_
  rintro e w10 ⟨rfl, hb⟩
  clear cc0 cc1 cc2 cc3 cc4 cc5 fc lc
  clear ca0 ca1 ca2 ca3 ca4 ca5 fa la
  clear cb0 cb1 cb2 cb3 cb4 cb5 fb lb
  clear cj0 cj1 cj2 cj3 cj4 cj5 fj lj
  clear cs0 cs1 cs2 cs3 cs4 cs5 fs ls
  replace Bc := (Bc).next hb
  replace Ba := (Ba).next hb
  replace Bb := (Bb).next hb
  replace Bj := (Bj).next hb
  replace Bs := (Bs).next hb
  replace hB : Below w.heap.size w w10 := by repeat (first | exact hB | (refine Bl_set ?_ (by first | omega | (simp; omega)) _) | apply Bl_alloc | (refine Bl_trans ?_ hb))
  clear hb
  obtain ⟨cc0, cc1, cc2, cc3, cc4, cc5⟩ := cells6 Bc
  have fc := Bc.frozen; have lc := Bc.lt
  obtain ⟨ca0, ca1, ca2, ca3, ca4, ca5⟩ := cells6 Ba
  have fa := Ba.frozen; have la := Ba.lt
  obtain ⟨cb0, cb1, cb2, cb3, cb4, cb5⟩ := cells6 Bb
  have fb := Bb.frozen; have lb := Bb.lt
  obtain ⟨cj0, cj1, cj2, cj3, cj4, cj5⟩ := cells6 Bj
  have fj := Bj.frozen; have lj := Bj.lt
  obtain ⟨cs0, cs1, cs2, cs3, cs4, cs5⟩ := cells6 Bs
  have fs := Bs.frozen; have ls := Bs.lt
  go_wp2_with fail
  refine (k_j2 _).mono ?_
  rintro e w11 ⟨rfl, hb⟩
  clear cc0 cc1 cc2 cc3 cc4 cc5 fc lc
  clear ca0 ca1 ca2 ca3 ca4 ca5 fa la
  clear cb0 cb1 cb2 cb3 cb4 cb5 fb lb
  clear cj0 cj1 cj2 cj3 cj4 cj5 fj lj
  clear cs0 cs1 cs2 cs3 cs4 cs5 fs ls
  replace Bc := (Bc).next hb
  replace Ba := (Ba).next hb
  replace Bb := (Bb).next hb
  replace Bj := (Bj).next hb
  replace Bs := (Bs).next hb
  replace hB : Below w.heap.size w w11 := by repeat (first | exact hB | (refine Bl_set ?_ (by first | omega | (simp; omega)) _) | apply Bl_alloc | (refine Bl_trans ?_ hb))
  clear hb
  obtain ⟨cc0, cc1, cc2, cc3, cc4, cc5⟩ := cells6 Bc
  have fc := Bc.frozen; have lc := Bc.lt
  obtain ⟨ca0, ca1, ca2, ca3, ca4, ca5⟩ := cells6 Ba
  have fa := Ba.frozen; have la := Ba.lt
  obtain ⟨cb0, cb1, cb2, cb3, cb4, cb5⟩ := cells6 Bb
  have fb := Bb.frozen; have lb := Bb.lt
  obtain ⟨cj0, cj1, cj2, cj3, cj4, cj5⟩ := cells6 Bj
  have fj := Bj.frozen; have lj := Bj.lt
  obtain ⟨cs0, cs1, cs2, cs3, cs4, cs5⟩ := cells6 Bs
  have fs := Bs.frozen; have ls := Bs.lt
  go_wp2_with fail
  refine (k_s _).mono ?_
  rintro e w12 ⟨rfl, hb⟩
  clear cc0 cc1 cc2 cc3 cc4 cc5 fc lc
  clear ca0 ca1 ca2 ca3 ca4 ca5 fa la
  clear cb0 cb1 cb2 cb3 cb4 cb5 fb lb
  clear cj0 cj1 cj2 cj3 cj4 cj5 fj lj
  clear cs0 cs1 cs2 cs3 cs4 cs5 fs ls
  replace Bc := (Bc).next hb
  replace Ba := (Ba).next hb
  replace Bb := (Bb).next hb
  replace Bj := (Bj).next hb
  replace Bs := (Bs).next hb
  replace hB : Below w.heap.size w w12 := by repeat (first | exact hB | (refine Bl_set ?_ (by first | omega | (simp; omega)) _) | apply Bl_alloc | (refine Bl_trans ?_ hb))
  clear hb
  obtain ⟨cc0, cc1, cc2, cc3, cc4, cc5⟩ := cells6 Bc
  have fc := Bc.frozen; have lc := Bc.lt
  obtain ⟨ca0, ca1, ca2, ca3, ca4, ca5⟩ := cells6 Ba
  have fa := Ba.frozen; have la := Ba.lt
  obtain ⟨cb0, cb1, cb2, cb3, cb4, cb5⟩ := cells6 Bb
  have fb := Bb.frozen; have lb := Bb.lt
  obtain ⟨cj0, cj1, cj2, cj3, cj4, cj5⟩ := cells6 Bj
  have fj := Bj.frozen; have lj := Bj.lt
  obtain ⟨cs0, cs1, cs2, cs3, cs4, cs5⟩ := cells6 Bs
  have fs := Bs.frozen; have ls := Bs.lt
  go_wp2_with fail
  refine (to14_c a _).mono ?_
  rintro e w13 ⟨rfl, hb⟩
  clear cc0 cc1 cc2 cc3 cc4 cc5 fc lc
  clear ca0 ca1 ca2 ca3 ca4 ca5 fa la
  clear cb0 cb1 cb2 cb3 cb4 cb5 fb lb
  clear cj0 cj1 cj2 cj3 cj4 cj5 fj lj
  clear cs0 cs1 cs2 cs3 cs4 cs5 fs ls
  replace Bc := (Bc).next hb
  replace Ba := (Ba).next hb
  replace Bb := (Bb).next hb
  replace Bj := (Bj).next hb
  replace Bs := (Bs).next hb
  replace hB : Below w.heap.size w w13 := by repeat (first | exact hB | (refine Bl_set ?_ (by first | omega | (simp; omega)) _) | apply Bl_alloc | (refine Bl_trans ?_ hb))
  clear hb
  obtain ⟨cc0, cc1, cc2, cc3, cc4, cc5⟩ := cells6 Bc
  have fc := Bc.frozen; have lc := Bc.lt
  obtain ⟨ca0, ca1, ca2, ca3, ca4, ca5⟩ := cells6 Ba
  have fa := Ba.frozen; have la := Ba.lt
  obtain ⟨cb0, cb1, cb2, cb3, cb4, cb5⟩ := cells6 Bb
  have fb := Bb.frozen; have lb := Bb.lt
  obtain ⟨cj0, cj1, cj2, cj3, cj4, cj5⟩ := cells6 Bj
  have fj := Bj.frozen; have lj := Bj.lt
  obtain ⟨cs0, cs1, cs2, cs3, cs4, cs5⟩ := cells6 Bs
  have fs := Bs.frozen; have ls := Bs.lt
  go_wp2_with fail
  refine (k_L _).mono ?_
  rintro e w14 ⟨rfl, hb⟩
  clear cc0 cc1 cc2 cc3 cc4 cc5 fc lc
  clear ca0 ca1 ca2 ca3 ca4 ca5 fa la
  clear cb0 cb1 cb2 cb3 cb4 cb5 fb lb
  clear cj0 cj1 cj2 cj3 cj4 cj5 fj lj
  clear cs0 cs1 cs2 cs3 cs4 cs5 fs ls
  replace Bc := (Bc).next hb
  replace Ba := (Ba).next hb
  replace Bb := (Bb).next hb
  replace Bj := (Bj).next hb
  replace Bs := (Bs).next hb
  replace hB : Below w.heap.size w w14 := by repeat (first | exact hB | (refine Bl_set ?_ (by first | omega | (simp; omega)) _) | apply Bl_alloc | (refine Bl_trans ?_ hb))
  clear hb
  obtain ⟨cc0, cc1, cc2, cc3, cc4, cc5⟩ := cells6 Bc
  have fc := Bc.frozen; have lc := Bc.lt
  obtain ⟨ca0, ca1, ca2, ca3, ca4, ca5⟩ := cells6 Ba
  have fa := Ba.frozen; have la := Ba.lt
  obtain ⟨cb0, cb1, cb2, cb3, cb4, cb5⟩ := cells6 Bb
  have fb := Bb.frozen; have lb := Bb.lt
  obtain ⟨cj0, cj1, cj2, cj3, cj4, cj5⟩ := cells6 Bj
  have fj := Bj.frozen; have lj := Bj.lt
  obtain ⟨cs0, cs1, cs2, cs3, cs4, cs5⟩ := cells6 Bs
  have fs := Bs.frozen; have ls := Bs.lt
  go_wp2_with fail
  refine (k_l _).mono ?_
  rintro e w15 ⟨rfl, hb⟩
  clear cc0 cc1 cc2 cc3 cc4 cc5 fc lc
  clear ca0 ca1 ca2 ca3 ca4 ca5 fa la
  clear cb0 cb1 cb2 cb3 cb4 cb5 fb lb
  clear cj0 cj1 cj2 cj3 cj4 cj5 fj lj
  clear cs0 cs1 cs2 cs3 cs4 cs5 fs ls
  replace Bc := (Bc).next hb
  replace Ba := (Ba).next hb
  replace Bb := (Bb).next hb
  replace Bj := (Bj).next hb
  replace Bs := (Bs).next hb
  replace hB : Below w.heap.size w w15 := by repeat (first | exact hB | (refine Bl_set ?_ (by first | omega | (simp; omega)) _) | apply Bl_alloc | (refine Bl_trans ?_ hb))
  clear hb
  obtain ⟨cc0, cc1, cc2, cc3, cc4, cc5⟩ := cells6 Bc
  have fc := Bc.frozen; have lc := Bc.lt
  obtain ⟨ca0, ca1, ca2, ca3, ca4, ca5⟩ := cells6 Ba
  have fa := Ba.frozen; have la := Ba.lt
  obtain ⟨cb0, cb1, cb2, cb3, cb4, cb5⟩ := cells6 Bb
  have fb := Bb.frozen; have lb := Bb.lt
  obtain ⟨cj0, cj1, cj2, cj3, cj4, cj5⟩ := cells6 Bj
  have fj := Bj.frozen; have lj := Bj.lt
  obtain ⟨cs0, cs1, cs2, cs3, cs4, cs5⟩ := cells6 Bs
  have fs := Bs.frozen; have ls := Bs.lt
  go_upto_region 11 with fail
  cases Wb
  · go_wp2_with fail
    clear cc0 cc1 cc2 cc3 cc4 cc5; obtain ⟨cc0, cc1, cc2, cc3, cc4, cc5⟩ := lcells6 Bc
    clear ca0 ca1 ca2 ca3 ca4 ca5; obtain ⟨ca0, ca1, ca2, ca3, ca4, ca5⟩ := lcells6 Ba
    clear cb0 cb1 cb2 cb3 cb4 cb5; obtain ⟨cb0, cb1, cb2, cb3, cb4, cb5⟩ := lcells6 Bb
    clear cj0 cj1 cj2 cj3 cj4 cj5; obtain ⟨cj0, cj1, cj2, cj3, cj4, cj5⟩ := lcells6 Bj
    clear cs0 cs1 cs2 cs3 cs4 cs5; obtain ⟨cs0, cs1, cs2, cs3, cs4, cs5⟩ := lcells6 Bs
    refine wp_region_mix 12 (fun _ => #[]) (by kernel_rfl) (by kernel_rfl) (no_alloc (by kernel_rfl)) ?_
    simp only [List.take_succ_cons, List.take_zero, List.drop_succ_cons, List.drop_zero]
    repeat ((with_reducible refine wpMix_step (fun K hK => ?_)); go_simp; first | ((with_reducible refine hK _ ?_); clear hK K) | (rw [if_neg (by decide)]; (with_reducible refine hK _ ?_); clear hK K) | (apply Exists.intro; refine ⟨fun g => ?_, hK _ ?_⟩; ((with_reducible refine Calls.mono (to14_c a g.w) ?_); exact fun _ _ h => h); clear hK K) | (apply Exists.intro; refine ⟨fun g => ?_, hK _ ?_⟩; ((with_reducible refine Calls.mono (to14_c b g.w) ?_); exact fun _ _ h => h); clear hK K) | (apply Exists.intro; refine ⟨fun g => ?_, hK _ ?_⟩; ((with_reducible refine Calls.mono (k_W g.w) ?_); exact fun _ _ h => h); clear hK K))
    refine wpMix_nil ?_
    intro G w16 hgr hblk hdist
    have hb : Below w15.heap.size w15 w16 := hgr
    replace Bc := Bc.next hb
    replace Ba := Ba.next hb
    replace Bb := Bb.next hb
    replace Bj := Bj.next hb
    replace Bs := Bs.next hb
    clear cc0 cc1 cc2 cc3 cc4 cc5 fc lc
    clear ca0 ca1 ca2 ca3 ca4 ca5 fa la
    clear cb0 cb1 cb2 cb3 cb4 cb5 fb lb
    clear cj0 cj1 cj2 cj3 cj4 cj5 fj lj
    clear cs0 cs1 cs2 cs3 cs4 cs5 fs ls
    replace hB : Below w.heap.size w w16 := Bl_trans hB hb
    simp only [putAll, isAlloc]
    clear hb hgr hblk hdist
    obtain ⟨cc0, cc1, cc2, cc3, cc4, cc5⟩ := cells6 Bc
    have fc := Bc.frozen; have lc := Bc.lt
    obtain ⟨ca0, ca1, ca2, ca3, ca4, ca5⟩ := cells6 Ba
    have fa := Ba.frozen; have la := Ba.lt
    obtain ⟨cb0, cb1, cb2, cb3, cb4, cb5⟩ := cells6 Bb
    have fb := Bb.frozen; have lb := Bb.lt
    obtain ⟨cj0, cj1, cj2, cj3, cj4, cj5⟩ := cells6 Bj
    have fj := Bj.frozen; have lj := Bj.lt
    obtain ⟨cs0, cs1, cs2, cs3, cs4, cs5⟩ := cells6 Bs
    have fs := Bs.frozen; have ls := Bs.lt
    go_upto_region 13 with fail
    go_wp2_with fail
    clear cc0 cc1 cc2 cc3 cc4 cc5; obtain ⟨cc0, cc1, cc2, cc3, cc4, cc5⟩ := lcells6 Bc
    clear ca0 ca1 ca2 ca3 ca4 ca5; obtain ⟨ca0, ca1, ca2, ca3, ca4, ca5⟩ := lcells6 Ba
    clear cb0 cb1 cb2 cb3 cb4 cb5; obtain ⟨cb0, cb1, cb2, cb3, cb4, cb5⟩ := lcells6 Bb
    clear cj0 cj1 cj2 cj3 cj4 cj5; obtain ⟨cj0, cj1, cj2, cj3, cj4, cj5⟩ := lcells6 Bj
    clear cs0 cs1 cs2 cs3 cs4 cs5; obtain ⟨cs0, cs1, cs2, cs3, cs4, cs5⟩ := lcells6 Bs
    refine wp_region_mix 12 (fun _ => #[]) (by kernel_rfl) (by kernel_rfl) (no_alloc (by kernel_rfl)) ?_
    simp only [List.take_succ_cons, List.take_zero, List.drop_succ_cons, List.drop_zero]
    repeat ((with_reducible refine wpMix_step (fun K hK => ?_)); go_simp; first | ((with_reducible refine hK _ ?_); clear hK K) | (rw [if_neg (by decide)]; (with_reducible refine hK _ ?_); clear hK K) | (apply Exists.intro; refine ⟨fun g => ?_, hK _ ?_⟩; ((with_reducible refine Calls.mono (to14_c a g.w) ?_); exact fun _ _ h => h); clear hK K) | (apply Exists.intro; refine ⟨fun g => ?_, hK _ ?_⟩; ((with_reducible refine Calls.mono (k_1 g.w) ?_); exact fun _ _ h => h); clear hK K) | (apply Exists.intro; refine ⟨fun g => ?_, hK _ ?_⟩; ((with_reducible refine Calls.mono (sany_c g.w) ?_); exact fun _ _ h => h); clear hK K) | (apply Exists.intro; refine ⟨fun g => ?_, hK _ ?_⟩; ((with_reducible refine Calls.mono (k_2 g.w) ?_); exact fun _ _ h => h); clear hK K))
    refine wpMix_nil ?_
    intro G w17 hgr hblk hdist
    have hb : Below w16.heap.size w16 w17 := hgr
    replace Bc := Bc.next hb
    replace Ba := Ba.next hb
    replace Bb := Bb.next hb
    replace Bj := Bj.next hb
    replace Bs := Bs.next hb
    clear cc0 cc1 cc2 cc3 cc4 cc5 fc lc
    clear ca0 ca1 ca2 ca3 ca4 ca5 fa la
    clear cb0 cb1 cb2 cb3 cb4 cb5 fb lb
    clear cj0 cj1 cj2 cj3 cj4 cj5 fj lj
    clear cs0 cs1 cs2 cs3 cs4 cs5 fs ls
    replace hB : Below w.heap.size w w17 := Bl_trans hB hb
    simp only [putAll, isAlloc]
    clear hb hgr hblk hdist
    obtain ⟨cc0, cc1, cc2, cc3, cc4, cc5⟩ := cells6 Bc
    have fc := Bc.frozen; have lc := Bc.lt
    obtain ⟨ca0, ca1, ca2, ca3, ca4, ca5⟩ := cells6 Ba
    have fa := Ba.frozen; have la := Ba.lt
    obtain ⟨cb0, cb1, cb2, cb3, cb4, cb5⟩ := cells6 Bb
    have fb := Bb.frozen; have lb := Bb.lt
    obtain ⟨cj0, cj1, cj2, cj3, cj4, cj5⟩ := cells6 Bj
    have fj := Bj.frozen; have lj := Bj.lt
    obtain ⟨cs0, cs1, cs2, cs3, cs4, cs5⟩ := cells6 Bs
    have fs := Bs.frozen; have ls := Bs.lt
    go_wp2
    go_ret
    exact ⟨rfl, by repeat (first | exact hB | (refine Bl_set ?_ (by first | omega | (simp; omega)) _) | apply Bl_alloc)⟩
  · have k_b := shast_c b x (HWb.out rfl)
    go_wp2_with fail
    clear cc0 cc1 cc2 cc3 cc4 cc5; obtain ⟨cc0, cc1, cc2, cc3, cc4, cc5⟩ := lcells6 Bc
    clear ca0 ca1 ca2 ca3 ca4 ca5; obtain ⟨ca0, ca1, ca2, ca3, ca4, ca5⟩ := lcells6 Ba
    clear cb0 cb1 cb2 cb3 cb4 cb5; obtain ⟨cb0, cb1, cb2, cb3, cb4, cb5⟩ := lcells6 Bb
    clear cj0 cj1 cj2 cj3 cj4 cj5; obtain ⟨cj0, cj1, cj2, cj3, cj4, cj5⟩ := lcells6 Bj
    clear cs0 cs1 cs2 cs3 cs4 cs5; obtain ⟨cs0, cs1, cs2, cs3, cs4, cs5⟩ := lcells6 Bs
    refine wp_region_mix 12 (fun _ => #[]) (by kernel_rfl) (by kernel_rfl) (no_alloc (by kernel_rfl)) ?_
    simp only [List.take_succ_cons, List.take_zero, List.drop_succ_cons, List.drop_zero]
    repeat ((with_reducible refine wpMix_step (fun K hK => ?_)); go_simp; first | ((with_reducible refine hK _ ?_); clear hK K) | (rw [if_neg (by decide)]; (with_reducible refine hK _ ?_); clear hK K) | (apply Exists.intro; refine ⟨fun g => ?_, hK _ ?_⟩; ((with_reducible refine Calls.mono (to14_c a g.w) ?_); exact fun _ _ h => h); clear hK K) | (apply Exists.intro; refine ⟨fun g => ?_, hK _ ?_⟩; ((with_reducible refine Calls.mono (to14_c b g.w) ?_); exact fun _ _ h => h); clear hK K) | (apply Exists.intro; refine ⟨fun g => ?_, hK _ ?_⟩; ((with_reducible refine Calls.mono (k_W g.w) ?_); exact fun _ _ h => h); clear hK K) | (apply Exists.intro; refine ⟨fun g => ?_, hK _ ?_⟩; ((with_reducible refine Calls.mono (k_b g.w) ?_); exact fun _ _ h => h); clear hK K))
    refine wpMix_nil ?_
    intro G w16 hgr hblk hdist
    have hb : Below w15.heap.size w15 w16 := hgr
    replace Bc := Bc.next hb
    replace Ba := Ba.next hb
    replace Bb := Bb.next hb
    replace Bj := Bj.next hb
    replace Bs := Bs.next hb
    clear cc0 cc1 cc2 cc3 cc4 cc5 fc lc
    clear ca0 ca1 ca2 ca3 ca4 ca5 fa la
    clear cb0 cb1 cb2 cb3 cb4 cb5 fb lb
    clear cj0 cj1 cj2 cj3 cj4 cj5 fj lj
    clear cs0 cs1 cs2 cs3 cs4 cs5 fs ls
    replace hB : Below w.heap.size w w16 := Bl_trans hB hb
    simp only [putAll, isAlloc]
    clear hb hgr hblk hdist
    obtain ⟨cc0, cc1, cc2, cc3, cc4, cc5⟩ := cells6 Bc
    have fc := Bc.frozen; have lc := Bc.lt
    obtain ⟨ca0, ca1, ca2, ca3, ca4, ca5⟩ := cells6 Ba
    have fa := Ba.frozen; have la := Ba.lt
    obtain ⟨cb0, cb1, cb2, cb3, cb4, cb5⟩ := cells6 Bb
    have fb := Bb.frozen; have lb := Bb.lt
    obtain ⟨cj0, cj1, cj2, cj3, cj4, cj5⟩ := cells6 Bj
    have fj := Bj.frozen; have lj := Bj.lt
    obtain ⟨cs0, cs1, cs2, cs3, cs4, cs5⟩ := cells6 Bs
    have fs := Bs.frozen; have ls := Bs.lt
    go_upto_region 13 with fail
    go_wp2_with fail
    clear cc0 cc1 cc2 cc3 cc4 cc5; obtain ⟨cc0, cc1, cc2, cc3, cc4, cc5⟩ := lcells6 Bc
    clear ca0 ca1 ca2 ca3 ca4 ca5; obtain ⟨ca0, ca1, ca2, ca3, ca4, ca5⟩ := lcells6 Ba
    clear cb0 cb1 cb2 cb3 cb4 cb5; obtain ⟨cb0, cb1, cb2, cb3, cb4, cb5⟩ := lcells6 Bb
    clear cj0 cj1 cj2 cj3 cj4 cj5; obtain ⟨cj0, cj1, cj2, cj3, cj4, cj5⟩ := lcells6 Bj
    clear cs0 cs1 cs2 cs3 cs4 cs5; obtain ⟨cs0, cs1, cs2, cs3, cs4, cs5⟩ := lcells6 Bs
    refine wp_region_mix 12 (fun _ => #[]) (by kernel_rfl) (by kernel_rfl) (no_alloc (by kernel_rfl)) ?_
    simp only [List.take_succ_cons, List.take_zero, List.drop_succ_cons, List.drop_zero]
    repeat ((with_reducible refine wpMix_step (fun K hK => ?_)); go_simp; first | ((with_reducible refine hK _ ?_); clear hK K) | (rw [if_neg (by decide)]; (with_reducible refine hK _ ?_); clear hK K) | (apply Exists.intro; refine ⟨fun g => ?_, hK _ ?_⟩; ((with_reducible refine Calls.mono (to14_c a g.w) ?_); exact fun _ _ h => h); clear hK K) | (apply Exists.intro; refine ⟨fun g => ?_, hK _ ?_⟩; ((with_reducible refine Calls.mono (k_1 g.w) ?_); exact fun _ _ h => h); clear hK K) | (apply Exists.intro; refine ⟨fun g => ?_, hK _ ?_⟩; ((with_reducible refine Calls.mono (sany_c g.w) ?_); exact fun _ _ h => h); clear hK K) | (apply Exists.intro; refine ⟨fun g => ?_, hK _ ?_⟩; ((with_reducible refine Calls.mono (k_2 g.w) ?_); exact fun _ _ h => h); clear hK K))
    refine wpMix_nil ?_
    intro G w17 hgr hblk hdist
    have hb : Below w16.heap.size w16 w17 := hgr
    replace Bc := Bc.next hb
    replace Ba := Ba.next hb
    replace Bb := Bb.next hb
    replace Bj := Bj.next hb
    replace Bs := Bs.next hb
    clear cc0 cc1 cc2 cc3 cc4 cc5 fc lc
    clear ca0 ca1 ca2 ca3 ca4 ca5 fa la
    clear cb0 cb1 cb2 cb3 cb4 cb5 fb lb
    clear cj0 cj1 cj2 cj3 cj4 cj5 fj lj
    clear cs0 cs1 cs2 cs3 cs4 cs5 fs ls
    replace hB : Below w.heap.size w w17 := Bl_trans hB hb
    simp only [putAll, isAlloc]
    clear hb hgr hblk hdist
    obtain ⟨cc0, cc1, cc2, cc3, cc4, cc5⟩ := cells6 Bc
    have fc := Bc.frozen; have lc := Bc.lt
    obtain ⟨ca0, ca1, ca2, ca3, ca4, ca5⟩ := cells6 Ba
    have fa := Ba.frozen; have la := Ba.lt
    obtain ⟨cb0, cb1, cb2, cb3, cb4, cb5⟩ := cells6 Bb
    have fb := Bb.frozen; have lb := Bb.lt
    obtain ⟨cj0, cj1, cj2, cj3, cj4, cj5⟩ := cells6 Bj
    have fj := Bj.frozen; have lj := Bj.lt
    obtain ⟨cs0, cs1, cs2, cs3, cs4, cs5⟩ := cells6 Bs
    have fs := Bs.frozen; have ls := Bs.lt
    go_wp2
    go_ret
    exact ⟨rfl, by repeat (first | exact hB | (refine Bl_set ?_ (by first | omega | (simp; omega)) _) | apply Bl_alloc)⟩
set_option maxRecDepth 100000 in
set_option maxHeartbeats 3200000 in
theorem joins_o (CA CB : Value) (i k : Int) (m0 m1 : W) (bytes : Int) (e1 : (bytes == 1) = false) (e2 : (bytes == 2) = false) (e4 : (bytes == 4) = false) (a b : Rng) (x y : W) (hx : PlainScalar.Has a x) (hy : PlainScalar.Has b y) (w : World) (k_c : ∀ w1, Below w.heap.size w w1 → Calls Try.prog 21 #[.agg #[CA, CB, .int .i64 i, .int .i64 k, uv m0, uv m1]] w1 fun e w' => e = .returned (.tuple #[rv a, rv b, uv x, uv y]) ∧ Below w1.heap.size w1 w') : Calls Try.prog 5 #[.agg #[CA, CB, .int .i64 i, .int .i64 k, uv m0, uv m1], .int .i64 bytes] w fun e w' => e = .returned (.bool true) ∧ Below w.heap.size w w' := by
  have h_J1 := PlainScalar.join_has_l (b := b) hx; have h_J2 := PlainScalar.join_has_r (a := a) hy; have k_J := sjoin_c a b
  generalize PlainScalar.join a b = J at h_J1 h_J2 k_J
  have h_S := PlainScalar.settle_has hx; have k_S := settle_c a; have h_in := PlainScalar.settle_in h_S.1; have h_w := PlainBranch.settle_within h_S.1
  generalize PlainScalar.settle a = R at h_S k_S h_in h_w; obtain ⟨S, ok⟩ := R; obtain ⟨h_ok, h_S⟩ := h_S; replace h_ok : ok = true := h_ok; subst h_ok
  replace h_S : PlainScalar.Has S x := h_S; replace k_S : ∀ w : World, Calls Try.prog 24 #[rv a] w fun e w' => e = .returned (.tuple #[rv S, .bool true]) ∧ Below w.heap.size w w' := k_S
  have f1 : decide (T S.lo < T a.lo) = false := by have := h_in.1; unfold T; simp; omega
  have f2 : decide (T a.hi < T S.hi) = false := by have := h_in.2.1; unfold T; simp; omega
  have f3 : decide (_root_.Go.Proofs.Ytmghpoagpiljhab.S S.sl < _root_.Go.Proofs.Ytmghpoagpiljhab.S a.sl) = false := by have := h_in.2.2.1; unfold _root_.Go.Proofs.Ytmghpoagpiljhab.S; simp; omega
  have f4 : decide (_root_.Go.Proofs.Ytmghpoagpiljhab.S a.sh < _root_.Go.Proofs.Ytmghpoagpiljhab.S S.sh) = false := by have := h_in.2.2.2.1; unfold _root_.Go.Proofs.Ytmghpoagpiljhab.S; simp; omega
  have f5 : (T (S.b.m &&& ~~~a.b.m) == 0) = true := by rw [T_beq0]; unfold PlainScalar.within at h_w; simp only [Bool.and_eq_true] at h_w; have := h_w.2; unfold PlainTnum.within at this; simp only [Bool.and_eq_true] at this; exact this.1
  clear h_in h_w
  have h_L : PlainScalar.Has (PlainScalar.low a bytes) x := by have h := PlainScalar.low_has hx bytes; rwa [show PlainScalar.lowW x bytes = x by unfold PlainScalar.lowW; simp at e1 e2 e4; simp [e1, e2, e4]] at h
  have k_L := slow_c a bytes; generalize PlainScalar.low a bytes = LW at h_L k_L
  have k_W := swithin_c a b; have hW : PlainScalar.within a b = true → PlainScalar.Has b x := fun h => PlainScalar.within_has h hx
  have k_1 : ∀ w : World, Calls Try.prog 28 #[rv a, rv a] w fun e w' => e = .returned (.bool true) ∧ Below w.heap.size w w' := fun w => by rw [← PlainBranch.within_refl (PlainTnum.R_has hx.b)]; exact swithin_c a a w
  have k_2 : ∀ w : World, Calls Try.prog 28 #[rv a, rv PlainScalar.any] w fun e w' => e = .returned (.bool true) ∧ Below w.heap.size w w' := fun w => by rw [← within_any_r a]; exact swithin_c a PlainScalar.any w
  have k_j1 := shast_c J x h_J1; have k_j2 := shast_c J y h_J2; have k_s := shast_c S x h_S; have k_l := shast_c LW x h_L
  clear h_J1 h_J2 h_S h_L hx hy
  generalize PlainScalar.within a b = Wb at k_W hW
  have HWb := Lib.hid hW; clear hW
  go_enter Try.func5, Try.ntmps5
  go_wp2_with fail
  obtain ⟨gc, hgc⟩ : ∃ g, g = w.heap.size := ⟨_, rfl⟩
  have Bc : Blk (w.alloc (.cells #[CA, CB, .int .i64 i, .int .i64 k, uv m0, uv m1] 49)) (w.heap.size) 49 #[CA, CB, .int .i64 i, .int .i64 k, uv m0, uv m1] := (Blk.new w 49 #[CA, CB, .int .i64 i, .int .i64 k, uv m0, uv m1])
  have hB : Below w.heap.size w (w.alloc (.cells #[CA, CB, .int .i64 i, .int .i64 k, uv m0, uv m1] 49)) := (Bl_alloc (Bl_refl w) _)
  clear hgc
  clear gc
  generalize (w.alloc (.cells #[CA, CB, .int .i64 i, .int .i64 k, uv m0, uv m1] 49)) = w1 at *
  obtain ⟨cc0, cc1, cc2, cc3, cc4, cc5⟩ := cells6 Bc
  have fc := Bc.frozen; have lc := Bc.lt
  go_wp2_with fail
  refine (k_c _ hB).mono ?_
  rintro e w2 ⟨rfl, hb⟩
  clear cc0 cc1 cc2 cc3 cc4 cc5 fc lc
  replace Bc := (Bc).next hb
  replace hB : Below w.heap.size w w2 := by repeat (first | exact hB | (refine Bl_set ?_ (by first | omega | (simp; omega)) _) | apply Bl_alloc | (refine Bl_trans ?_ hb))
  clear hb
  obtain ⟨cc0, cc1, cc2, cc3, cc4, cc5⟩ := cells6 Bc
  have fc := Bc.frozen; have lc := Bc.lt
  clear k_c
  go_upto_region 2 with fail
  clear cc0 cc1 cc2 cc3 cc4 cc5 fc lc
  have hnca := Nat.ne_of_lt Bc.lt
  have hncb : w.heap.size ≠ w2.heap.size + 1 := by have := Bc.lt; omega
  have hdab : w2.heap.size ≠ w2.heap.size + 1 := by omega
  have hga := hB.size
  have hgb : w.heap.size ≤ w2.heap.size + 1 := by omega
  replace Bc : Blk ((w2.alloc (.cells #[uv a.b.v, uv a.b.m, uv a.lo, uv a.hi, sv a.sl, sv a.sh] 53)).alloc (.cells #[uv b.b.v, uv b.b.m, uv b.lo, uv b.hi, sv b.sl, sv b.sh] 53)) (w.heap.size) 49 #[CA, CB, .int .i64 i, .int .i64 k, uv m0, uv m1] := (Bc.alloc _).alloc _
  have Ba : Blk ((w2.alloc (.cells #[uv a.b.v, uv a.b.m, uv a.lo, uv a.hi, sv a.sl, sv a.sh] 53)).alloc (.cells #[uv b.b.v, uv b.b.m, uv b.lo, uv b.hi, sv b.sl, sv b.sh] 53)) (w2.heap.size) 53 #[uv a.b.v, uv a.b.m, uv a.lo, uv a.hi, sv a.sl, sv a.sh] := (Blk.new w2 _ _).alloc _
  have Bb : Blk ((w2.alloc (.cells #[uv a.b.v, uv a.b.m, uv a.lo, uv a.hi, sv a.sl, sv a.sh] 53)).alloc (.cells #[uv b.b.v, uv b.b.m, uv b.lo, uv b.hi, sv b.sl, sv b.sh] 53)) (w2.heap.size + 1) 53 #[uv b.b.v, uv b.b.m, uv b.lo, uv b.hi, sv b.sl, sv b.sh] := by simpa using Blk.new (w2.alloc (.cells #[uv a.b.v, uv a.b.m, uv a.lo, uv a.hi, sv a.sl, sv a.sh] 53)) 53 #[uv b.b.v, uv b.b.m, uv b.lo, uv b.hi, sv b.sl, sv b.sh]
  replace hB : Below w.heap.size w ((w2.alloc (.cells #[uv a.b.v, uv a.b.m, uv a.lo, uv a.hi, sv a.sl, sv a.sh] 53)).alloc (.cells #[uv b.b.v, uv b.b.m, uv b.lo, uv b.hi, sv b.sl, sv b.sh] 53)) := Bl_alloc (Bl_alloc hB _) _
  generalize ((w2.alloc (.cells #[uv a.b.v, uv a.b.m, uv a.lo, uv a.hi, sv a.sl, sv a.sh] 53)).alloc (.cells #[uv b.b.v, uv b.b.m, uv b.lo, uv b.hi, sv b.sl, sv b.sh] 53)) = w3 at *
  generalize w2.heap.size + 1 = gb at *
  generalize w2.heap.size = ga at *
  obtain ⟨cc0, cc1, cc2, cc3, cc4, cc5⟩ := cells6 Bc
  have fc := Bc.frozen; have lc := Bc.lt
  obtain ⟨ca0, ca1, ca2, ca3, ca4, ca5⟩ := cells6 Ba
  have fa := Ba.frozen; have la := Ba.lt
  obtain ⟨cb0, cb1, cb2, cb3, cb4, cb5⟩ := cells6 Bb
  have fb := Bb.frozen; have lb := Bb.lt
  go_wp2_with fail
  clear cc0 cc1 cc2 cc3 cc4 cc5; obtain ⟨cc0, cc1, cc2, cc3, cc4, cc5⟩ := lcells6 Bc
  clear ca0 ca1 ca2 ca3 ca4 ca5; obtain ⟨ca0, ca1, ca2, ca3, ca4, ca5⟩ := lcells6 Ba
  clear cb0 cb1 cb2 cb3 cb4 cb5; obtain ⟨cb0, cb1, cb2, cb3, cb4, cb5⟩ := lcells6 Bb
  refine wp_region_mix 6 (fun _ => #[.int .u64 0, .int .u64 0, .int .u64 0, .int .u64 0, .int .i64 0, .int .i64 0]) (by kernel_rfl) (by kernel_rfl) (fun o t ho ht => by
    simp at ho
    rcases ho with rfl | rfl | rfl | rfl | rfl | rfl <;> first | (cases ht; done) | (obtain rfl := Option.some.inj ht; exact fun ρ w => new_rng14 ht ρ w)) ?_
  simp only [List.take_succ_cons, List.take_zero, List.drop_succ_cons, List.drop_zero]
  repeat ((with_reducible refine wpMix_step (fun K hK => ?_)); go_simp; first | ((with_reducible refine hK _ ?_); clear hK K) | (rw [if_neg (by decide)]; (with_reducible refine hK _ ?_); clear hK K) | (apply Exists.intro; refine ⟨fun g => ?_, hK _ ?_⟩; ((with_reducible refine Calls.mono (to14_c a g.w) ?_); exact fun _ _ h => h); clear hK K) | (apply Exists.intro; refine ⟨fun g => ?_, hK _ ?_⟩; ((with_reducible refine Calls.mono (to14_c b g.w) ?_); exact fun _ _ h => h); clear hK K) | (apply Exists.intro; refine ⟨fun g => ?_, hK _ ?_⟩; ((with_reducible refine Calls.mono (k_J g.w) ?_); exact fun _ _ h => h); clear hK K))
  refine wpMix_nil ?_
  intro G w4 hgr hblk hdist
  have hb : Below w3.heap.size w3 w4 := hgr
  replace Bc := Bc.next hb
  replace Ba := Ba.next hb
  replace Bb := Bb.next hb
  obtain ⟨Bj, hlj⟩ := hblk 5 _ rfl
  have hgj : w.heap.size ≤ G 5 := Nat.le_trans hB.size hlj
  have hncj : w.heap.size ≠ G 5 := Nat.ne_of_lt (Nat.lt_of_lt_of_le lc hlj)
  have hnaj : ga ≠ G 5 := Nat.ne_of_lt (Nat.lt_of_lt_of_le la hlj)
  have hnbj : gb ≠ G 5 := Nat.ne_of_lt (Nat.lt_of_lt_of_le lb hlj)
  clear hlj
  clear cc0 cc1 cc2 cc3 cc4 cc5 fc lc
  clear ca0 ca1 ca2 ca3 ca4 ca5 fa la
  clear cb0 cb1 cb2 cb3 cb4 cb5 fb lb
  replace hB : Below w.heap.size w w4 := Bl_trans hB hb
  simp only [putAll, isAlloc, Act.put]
  generalize G 5 = gj at *
  clear hb hgr hblk hdist
  obtain ⟨cc0, cc1, cc2, cc3, cc4, cc5⟩ := cells6 Bc
  have fc := Bc.frozen; have lc := Bc.lt
  obtain ⟨ca0, ca1, ca2, ca3, ca4, ca5⟩ := cells6 Ba
  have fa := Ba.frozen; have la := Ba.lt
  obtain ⟨cb0, cb1, cb2, cb3, cb4, cb5⟩ := cells6 Bb
  have fb := Bb.frozen; have lb := Bb.lt
  obtain ⟨cj0, cj1, cj2, cj3, cj4, cj5⟩ := cells6 Bj
  have fj := Bj.frozen; have lj := Bj.lt
  go_upto_region 3 with fail
  clear cc0 cc1 cc2 cc3 cc4 cc5 fc lc
  clear ca0 ca1 ca2 ca3 ca4 ca5 fa la
  clear cb0 cb1 cb2 cb3 cb4 cb5 fb lb
  clear cj0 cj1 cj2 cj3 cj4 cj5 fj lj
  replace Bc : Blk ((((((w4.setCell ⟨gj, 0, none⟩ (uv J.b.v)).setCell ⟨gj, 1, none⟩ (uv J.b.m)).setCell ⟨gj, 2, none⟩ (uv J.lo)).setCell ⟨gj, 3, none⟩ (uv J.hi)).setCell ⟨gj, 4, none⟩ (sv J.sl)).setCell ⟨gj, 5, none⟩ (sv J.sh)) (w.heap.size) 49 #[CA, CB, .int .i64 i, .int .i64 k, uv m0, uv m1] := ((((((Bc.far (by first | (simp; done) | (simp; omega) | (simp [*]; done) | (simp only [ne_eq]; constructor <;> omega)) _).far (by first | (simp; done) | (simp; omega) | (simp [*]; done) | (simp only [ne_eq]; constructor <;> omega)) _).far (by first | (simp; done) | (simp; omega) | (simp [*]; done) | (simp only [ne_eq]; constructor <;> omega)) _).far (by first | (simp; done) | (simp; omega) | (simp [*]; done) | (simp only [ne_eq]; constructor <;> omega)) _).far (by first | (simp; done) | (simp; omega) | (simp [*]; done) | (simp only [ne_eq]; constructor <;> omega)) _).far (by first | (simp; done) | (simp; omega) | (simp [*]; done) | (simp only [ne_eq]; constructor <;> omega)) _)
  replace Ba : Blk ((((((w4.setCell ⟨gj, 0, none⟩ (uv J.b.v)).setCell ⟨gj, 1, none⟩ (uv J.b.m)).setCell ⟨gj, 2, none⟩ (uv J.lo)).setCell ⟨gj, 3, none⟩ (uv J.hi)).setCell ⟨gj, 4, none⟩ (sv J.sl)).setCell ⟨gj, 5, none⟩ (sv J.sh)) (ga) 53 #[uv a.b.v, uv a.b.m, uv a.lo, uv a.hi, sv a.sl, sv a.sh] := ((((((Ba.far (by first | (simp; done) | (simp; omega) | (simp [*]; done) | (simp only [ne_eq]; constructor <;> omega)) _).far (by first | (simp; done) | (simp; omega) | (simp [*]; done) | (simp only [ne_eq]; constructor <;> omega)) _).far (by first | (simp; done) | (simp; omega) | (simp [*]; done) | (simp only [ne_eq]; constructor <;> omega)) _).far (by first | (simp; done) | (simp; omega) | (simp [*]; done) | (simp only [ne_eq]; constructor <;> omega)) _).far (by first | (simp; done) | (simp; omega) | (simp [*]; done) | (simp only [ne_eq]; constructor <;> omega)) _).far (by first | (simp; done) | (simp; omega) | (simp [*]; done) | (simp only [ne_eq]; constructor <;> omega)) _)
  replace Bb : Blk ((((((w4.setCell ⟨gj, 0, none⟩ (uv J.b.v)).setCell ⟨gj, 1, none⟩ (uv J.b.m)).setCell ⟨gj, 2, none⟩ (uv J.lo)).setCell ⟨gj, 3, none⟩ (uv J.hi)).setCell ⟨gj, 4, none⟩ (sv J.sl)).setCell ⟨gj, 5, none⟩ (sv J.sh)) (gb) 53 #[uv b.b.v, uv b.b.m, uv b.lo, uv b.hi, sv b.sl, sv b.sh] := ((((((Bb.far (by first | (simp; done) | (simp; omega) | (simp [*]; done) | (simp only [ne_eq]; constructor <;> omega)) _).far (by first | (simp; done) | (simp; omega) | (simp [*]; done) | (simp only [ne_eq]; constructor <;> omega)) _).far (by first | (simp; done) | (simp; omega) | (simp [*]; done) | (simp only [ne_eq]; constructor <;> omega)) _).far (by first | (simp; done) | (simp; omega) | (simp [*]; done) | (simp only [ne_eq]; constructor <;> omega)) _).far (by first | (simp; done) | (simp; omega) | (simp [*]; done) | (simp only [ne_eq]; constructor <;> omega)) _).far (by first | (simp; done) | (simp; omega) | (simp [*]; done) | (simp only [ne_eq]; constructor <;> omega)) _)
  replace Bj : Blk ((((((w4.setCell ⟨gj, 0, none⟩ (uv J.b.v)).setCell ⟨gj, 1, none⟩ (uv J.b.m)).setCell ⟨gj, 2, none⟩ (uv J.lo)).setCell ⟨gj, 3, none⟩ (uv J.hi)).setCell ⟨gj, 4, none⟩ (sv J.sl)).setCell ⟨gj, 5, none⟩ (sv J.sh)) (gj) 27 #[uv J.b.v, uv J.b.m, uv J.lo, uv J.hi, sv J.sl, sv J.sh] := ((((((Bj.set_ 0 _).set_ 1 _).set_ 2 _).set_ 3 _).set_ 4 _).set_ 5 _)
  replace hB : Below w.heap.size w ((((((w4.setCell ⟨gj, 0, none⟩ (uv J.b.v)).setCell ⟨gj, 1, none⟩ (uv J.b.m)).setCell ⟨gj, 2, none⟩ (uv J.lo)).setCell ⟨gj, 3, none⟩ (uv J.hi)).setCell ⟨gj, 4, none⟩ (sv J.sl)).setCell ⟨gj, 5, none⟩ (sv J.sh)) := (Bl_set (Bl_set (Bl_set (Bl_set (Bl_set (Bl_set hB (by first | omega | (simp; done) | (simp; omega)) _) (by first | omega | (simp; done) | (simp; omega)) _) (by first | omega | (simp; done) | (simp; omega)) _) (by first | omega | (simp; done) | (simp; omega)) _) (by first | omega | (simp; done) | (simp; omega)) _) (by first | omega | (simp; done) | (simp; omega)) _)
  generalize ((((((w4.setCell ⟨gj, 0, none⟩ (uv J.b.v)).setCell ⟨gj, 1, none⟩ (uv J.b.m)).setCell ⟨gj, 2, none⟩ (uv J.lo)).setCell ⟨gj, 3, none⟩ (uv J.hi)).setCell ⟨gj, 4, none⟩ (sv J.sl)).setCell ⟨gj, 5, none⟩ (sv J.sh)) = w5 at *
  obtain ⟨cc0, cc1, cc2, cc3, cc4, cc5⟩ := cells6 Bc
  have fc := Bc.frozen; have lc := Bc.lt
  obtain ⟨ca0, ca1, ca2, ca3, ca4, ca5⟩ := cells6 Ba
  have fa := Ba.frozen; have la := Ba.lt
  obtain ⟨cb0, cb1, cb2, cb3, cb4, cb5⟩ := cells6 Bb
  have fb := Bb.frozen; have lb := Bb.lt
  obtain ⟨cj0, cj1, cj2, cj3, cj4, cj5⟩ := cells6 Bj
  have fj := Bj.frozen; have lj := Bj.lt
  go_wp2_with fail
  refine (to14_c a _).mono ?_
  rintro e w6 ⟨rfl, hb⟩
  clear cc0 cc1 cc2 cc3 cc4 cc5 fc lc
  clear ca0 ca1 ca2 ca3 ca4 ca5 fa la
  clear cb0 cb1 cb2 cb3 cb4 cb5 fb lb
  clear cj0 cj1 cj2 cj3 cj4 cj5 fj lj
  replace Bc := (Bc).next hb
  replace Ba := (Ba).next hb
  replace Bb := (Bb).next hb
  replace Bj := (Bj).next hb
  replace hB : Below w.heap.size w w6 := by repeat (first | exact hB | (refine Bl_set ?_ (by first | omega | (simp; omega)) _) | apply Bl_alloc | (refine Bl_trans ?_ hb))
  clear hb
  obtain ⟨cc0, cc1, cc2, cc3, cc4, cc5⟩ := cells6 Bc
  have fc := Bc.frozen; have lc := Bc.lt
  obtain ⟨ca0, ca1, ca2, ca3, ca4, ca5⟩ := cells6 Ba
  have fa := Ba.frozen; have la := Ba.lt
  obtain ⟨cb0, cb1, cb2, cb3, cb4, cb5⟩ := cells6 Bb
  have fb := Bb.frozen; have lb := Bb.lt
  obtain ⟨cj0, cj1, cj2, cj3, cj4, cj5⟩ := cells6 Bj
  have fj := Bj.frozen; have lj := Bj.lt
  go_wp2_with fail
  refine (k_S _).mono ?_
  rintro e w7 ⟨rfl, hb⟩
  clear cc0 cc1 cc2 cc3 cc4 cc5 fc lc
  clear ca0 ca1 ca2 ca3 ca4 ca5 fa la
  clear cb0 cb1 cb2 cb3 cb4 cb5 fb lb
  clear cj0 cj1 cj2 cj3 cj4 cj5 fj lj
  replace Bc := (Bc).next hb
  replace Ba := (Ba).next hb
  replace Bb := (Bb).next hb
  replace Bj := (Bj).next hb
  replace hB : Below w.heap.size w w7 := by repeat (first | exact hB | (refine Bl_set ?_ (by first | omega | (simp; omega)) _) | apply Bl_alloc | (refine Bl_trans ?_ hb))
  clear hb
  obtain ⟨cc0, cc1, cc2, cc3, cc4, cc5⟩ := cells6 Bc
  have fc := Bc.frozen; have lc := Bc.lt
  obtain ⟨ca0, ca1, ca2, ca3, ca4, ca5⟩ := cells6 Ba
  have fa := Ba.frozen; have la := Ba.lt
  obtain ⟨cb0, cb1, cb2, cb3, cb4, cb5⟩ := cells6 Bb
  have fb := Bb.frozen; have lb := Bb.lt
  obtain ⟨cj0, cj1, cj2, cj3, cj4, cj5⟩ := cells6 Bj
  have fj := Bj.frozen; have lj := Bj.lt
  go_upto_region 4 with fail
  clear cc0 cc1 cc2 cc3 cc4 cc5 fc lc
  clear ca0 ca1 ca2 ca3 ca4 ca5 fa la
  clear cb0 cb1 cb2 cb3 cb4 cb5 fb lb
  clear cj0 cj1 cj2 cj3 cj4 cj5 fj lj
  have Bs := Blk.new w7 27 #[uv S.b.v, uv S.b.m, uv S.lo, uv S.hi, sv S.sl, sv S.sh]
  have hgs := hB.size
  have hncs := Nat.ne_of_lt Bc.lt; have hltcs := Bc.lt
  have hnas := Nat.ne_of_lt Ba.lt; have hltas := Ba.lt
  have hnbs := Nat.ne_of_lt Bb.lt; have hltbs := Bb.lt
  have hnjs := Nat.ne_of_lt Bj.lt; have hltjs := Bj.lt
  replace Bc : Blk (w7.alloc (.cells #[uv S.b.v, uv S.b.m, uv S.lo, uv S.hi, sv S.sl, sv S.sh] 27)) (w.heap.size) 49 #[CA, CB, .int .i64 i, .int .i64 k, uv m0, uv m1] := Bc.alloc _
  replace Ba : Blk (w7.alloc (.cells #[uv S.b.v, uv S.b.m, uv S.lo, uv S.hi, sv S.sl, sv S.sh] 27)) (ga) 53 #[uv a.b.v, uv a.b.m, uv a.lo, uv a.hi, sv a.sl, sv a.sh] := Ba.alloc _
  replace Bb : Blk (w7.alloc (.cells #[uv S.b.v, uv S.b.m, uv S.lo, uv S.hi, sv S.sl, sv S.sh] 27)) (gb) 53 #[uv b.b.v, uv b.b.m, uv b.lo, uv b.hi, sv b.sl, sv b.sh] := Bb.alloc _
  replace Bj : Blk (w7.alloc (.cells #[uv S.b.v, uv S.b.m, uv S.lo, uv S.hi, sv S.sl, sv S.sh] 27)) (gj) 27 #[uv J.b.v, uv J.b.m, uv J.lo, uv J.hi, sv J.sl, sv J.sh] := Bj.alloc _
  replace hB : Below w.heap.size w (w7.alloc (.cells #[uv S.b.v, uv S.b.m, uv S.lo, uv S.hi, sv S.sl, sv S.sh] 27)) := Bl_alloc hB _
  generalize (w7.alloc (.cells #[uv S.b.v, uv S.b.m, uv S.lo, uv S.hi, sv S.sl, sv S.sh] 27)) = w8 at *
  generalize w7.heap.size = gs at *
  obtain ⟨cc0, cc1, cc2, cc3, cc4, cc5⟩ := cells6 Bc
  have fc := Bc.frozen; have lc := Bc.lt
  obtain ⟨ca0, ca1, ca2, ca3, ca4, ca5⟩ := cells6 Ba
  have fa := Ba.frozen; have la := Ba.lt
  obtain ⟨cb0, cb1, cb2, cb3, cb4, cb5⟩ := cells6 Bb
  have fb := Bb.frozen; have lb := Bb.lt
  obtain ⟨cj0, cj1, cj2, cj3, cj4, cj5⟩ := cells6 Bj
  have fj := Bj.frozen; have lj := Bj.lt
  obtain ⟨cs0, cs1, cs2, cs3, cs4, cs5⟩ := cells6 Bs
  have fs := Bs.frozen; have ls := Bs.lt
  go_wp2_with fail
  refine (evals_c _).mono ?_
  rintro e w9 ⟨rfl, hb⟩
  clear cc0 cc1 cc2 cc3 cc4 cc5 fc lc
  clear ca0 ca1 ca2 ca3 ca4 ca5 fa la
  clear cb0 cb1 cb2 cb3 cb4 cb5 fb lb
  clear cj0 cj1 cj2 cj3 cj4 cj5 fj lj
  clear cs0 cs1 cs2 cs3 cs4 cs5 fs ls
  replace Bc := (Bc).next hb
  replace Ba := (Ba).next hb
  replace Bb := (Bb).next hb
  replace Bj := (Bj).next hb
  replace Bs := (Bs).next hb
  replace hB : Below w.heap.size w w9 := by repeat (first | exact hB | (refine Bl_set ?_ (by first | omega | (simp; omega)) _) | apply Bl_alloc | (refine Bl_trans ?_ hb))
  clear hb
  obtain ⟨cc0, cc1, cc2, cc3, cc4, cc5⟩ := cells6 Bc
  have fc := Bc.frozen; have lc := Bc.lt
  obtain ⟨ca0, ca1, ca2, ca3, ca4, ca5⟩ := cells6 Ba
  have fa := Ba.frozen; have la := Ba.lt
  obtain ⟨cb0, cb1, cb2, cb3, cb4, cb5⟩ := cells6 Bb
  have fb := Bb.frozen; have lb := Bb.lt
  obtain ⟨cj0, cj1, cj2, cj3, cj4, cj5⟩ := cells6 Bj
  have fj := Bj.frozen; have lj := Bj.lt
  obtain ⟨cs0, cs1, cs2, cs3, cs4, cs5⟩ := cells6 Bs
  have fs := Bs.frozen; have ls := Bs.lt
  go_wp2_with fail
  refine (k_j1 _).mono ?_
  rintro e w10 ⟨rfl, hb⟩
  clear cc0 cc1 cc2 cc3 cc4 cc5 fc lc
  clear ca0 ca1 ca2 ca3 ca4 ca5 fa la
  clear cb0 cb1 cb2 cb3 cb4 cb5 fb lb
  clear cj0 cj1 cj2 cj3 cj4 cj5 fj lj
  clear cs0 cs1 cs2 cs3 cs4 cs5 fs ls
  replace Bc := (Bc).next hb
  replace Ba := (Ba).next hb
  replace Bb := (Bb).next hb
  replace Bj := (Bj).next hb
  replace Bs := (Bs).next hb
  replace hB : Below w.heap.size w w10 := by repeat (first | exact hB | (refine Bl_set ?_ (by first | omega | (simp; omega)) _) | apply Bl_alloc | (refine Bl_trans ?_ hb))
  clear hb
  obtain ⟨cc0, cc1, cc2, cc3, cc4, cc5⟩ := cells6 Bc
  have fc := Bc.frozen; have lc := Bc.lt
  obtain ⟨ca0, ca1, ca2, ca3, ca4, ca5⟩ := cells6 Ba
  have fa := Ba.frozen; have la := Ba.lt
  obtain ⟨cb0, cb1, cb2, cb3, cb4, cb5⟩ := cells6 Bb
  have fb := Bb.frozen; have lb := Bb.lt
  obtain ⟨cj0, cj1, cj2, cj3, cj4, cj5⟩ := cells6 Bj
  have fj := Bj.frozen; have lj := Bj.lt
  obtain ⟨cs0, cs1, cs2, cs3, cs4, cs5⟩ := cells6 Bs
  have fs := Bs.frozen; have ls := Bs.lt
  go_wp2_with fail
  refine (k_j2 _).mono ?_
  rintro e w11 ⟨rfl, hb⟩
  clear cc0 cc1 cc2 cc3 cc4 cc5 fc lc
  clear ca0 ca1 ca2 ca3 ca4 ca5 fa la
  clear cb0 cb1 cb2 cb3 cb4 cb5 fb lb
  clear cj0 cj1 cj2 cj3 cj4 cj5 fj lj
  clear cs0 cs1 cs2 cs3 cs4 cs5 fs ls
  replace Bc := (Bc).next hb
  replace Ba := (Ba).next hb
  replace Bb := (Bb).next hb
  replace Bj := (Bj).next hb
  replace Bs := (Bs).next hb
  replace hB : Below w.heap.size w w11 := by repeat (first | exact hB | (refine Bl_set ?_ (by first | omega | (simp; omega)) _) | apply Bl_alloc | (refine Bl_trans ?_ hb))
  clear hb
  obtain ⟨cc0, cc1, cc2, cc3, cc4, cc5⟩ := cells6 Bc
  have fc := Bc.frozen; have lc := Bc.lt
  obtain ⟨ca0, ca1, ca2, ca3, ca4, ca5⟩ := cells6 Ba
  have fa := Ba.frozen; have la := Ba.lt
  obtain ⟨cb0, cb1, cb2, cb3, cb4, cb5⟩ := cells6 Bb
  have fb := Bb.frozen; have lb := Bb.lt
  obtain ⟨cj0, cj1, cj2, cj3, cj4, cj5⟩ := cells6 Bj
  have fj := Bj.frozen; have lj := Bj.lt
  obtain ⟨cs0, cs1, cs2, cs3, cs4, cs5⟩ := cells6 Bs
  have fs := Bs.frozen; have ls := Bs.lt
  go_wp2_with fail
  refine (k_s _).mono ?_
  rintro e w12 ⟨rfl, hb⟩
  clear cc0 cc1 cc2 cc3 cc4 cc5 fc lc
  clear ca0 ca1 ca2 ca3 ca4 ca5 fa la
  clear cb0 cb1 cb2 cb3 cb4 cb5 fb lb
  clear cj0 cj1 cj2 cj3 cj4 cj5 fj lj
  clear cs0 cs1 cs2 cs3 cs4 cs5 fs ls
  replace Bc := (Bc).next hb
  replace Ba := (Ba).next hb
  replace Bb := (Bb).next hb
  replace Bj := (Bj).next hb
  replace Bs := (Bs).next hb
  replace hB : Below w.heap.size w w12 := by repeat (first | exact hB | (refine Bl_set ?_ (by first | omega | (simp; omega)) _) | apply Bl_alloc | (refine Bl_trans ?_ hb))
  clear hb
  obtain ⟨cc0, cc1, cc2, cc3, cc4, cc5⟩ := cells6 Bc
  have fc := Bc.frozen; have lc := Bc.lt
  obtain ⟨ca0, ca1, ca2, ca3, ca4, ca5⟩ := cells6 Ba
  have fa := Ba.frozen; have la := Ba.lt
  obtain ⟨cb0, cb1, cb2, cb3, cb4, cb5⟩ := cells6 Bb
  have fb := Bb.frozen; have lb := Bb.lt
  obtain ⟨cj0, cj1, cj2, cj3, cj4, cj5⟩ := cells6 Bj
  have fj := Bj.frozen; have lj := Bj.lt
  obtain ⟨cs0, cs1, cs2, cs3, cs4, cs5⟩ := cells6 Bs
  have fs := Bs.frozen; have ls := Bs.lt
  go_wp2_with fail
  refine (to14_c a _).mono ?_
  rintro e w13 ⟨rfl, hb⟩
  clear cc0 cc1 cc2 cc3 cc4 cc5 fc lc
  clear ca0 ca1 ca2 ca3 ca4 ca5 fa la
  clear cb0 cb1 cb2 cb3 cb4 cb5 fb lb
  clear cj0 cj1 cj2 cj3 cj4 cj5 fj lj
  clear cs0 cs1 cs2 cs3 cs4 cs5 fs ls
  replace Bc := (Bc).next hb
  replace Ba := (Ba).next hb
  replace Bb := (Bb).next hb
  replace Bj := (Bj).next hb
  replace Bs := (Bs).next hb
  replace hB : Below w.heap.size w w13 := by repeat (first | exact hB | (refine Bl_set ?_ (by first | omega | (simp; omega)) _) | apply Bl_alloc | (refine Bl_trans ?_ hb))
  clear hb
  obtain ⟨cc0, cc1, cc2, cc3, cc4, cc5⟩ := cells6 Bc
  have fc := Bc.frozen; have lc := Bc.lt
  obtain ⟨ca0, ca1, ca2, ca3, ca4, ca5⟩ := cells6 Ba
  have fa := Ba.frozen; have la := Ba.lt
  obtain ⟨cb0, cb1, cb2, cb3, cb4, cb5⟩ := cells6 Bb
  have fb := Bb.frozen; have lb := Bb.lt
  obtain ⟨cj0, cj1, cj2, cj3, cj4, cj5⟩ := cells6 Bj
  have fj := Bj.frozen; have lj := Bj.lt
  obtain ⟨cs0, cs1, cs2, cs3, cs4, cs5⟩ := cells6 Bs
  have fs := Bs.frozen; have ls := Bs.lt
  go_wp2_with fail
  refine (k_L _).mono ?_
  rintro e w14 ⟨rfl, hb⟩
  clear cc0 cc1 cc2 cc3 cc4 cc5 fc lc
  clear ca0 ca1 ca2 ca3 ca4 ca5 fa la
  clear cb0 cb1 cb2 cb3 cb4 cb5 fb lb
  clear cj0 cj1 cj2 cj3 cj4 cj5 fj lj
  clear cs0 cs1 cs2 cs3 cs4 cs5 fs ls
  replace Bc := (Bc).next hb
  replace Ba := (Ba).next hb
  replace Bb := (Bb).next hb
  replace Bj := (Bj).next hb
  replace Bs := (Bs).next hb
  replace hB : Below w.heap.size w w14 := by repeat (first | exact hB | (refine Bl_set ?_ (by first | omega | (simp; omega)) _) | apply Bl_alloc | (refine Bl_trans ?_ hb))
  clear hb
  obtain ⟨cc0, cc1, cc2, cc3, cc4, cc5⟩ := cells6 Bc
  have fc := Bc.frozen; have lc := Bc.lt
  obtain ⟨ca0, ca1, ca2, ca3, ca4, ca5⟩ := cells6 Ba
  have fa := Ba.frozen; have la := Ba.lt
  obtain ⟨cb0, cb1, cb2, cb3, cb4, cb5⟩ := cells6 Bb
  have fb := Bb.frozen; have lb := Bb.lt
  obtain ⟨cj0, cj1, cj2, cj3, cj4, cj5⟩ := cells6 Bj
  have fj := Bj.frozen; have lj := Bj.lt
  obtain ⟨cs0, cs1, cs2, cs3, cs4, cs5⟩ := cells6 Bs
  have fs := Bs.frozen; have ls := Bs.lt
  go_wp2_with fail
  refine (k_l _).mono ?_
  rintro e w15 ⟨rfl, hb⟩
  clear cc0 cc1 cc2 cc3 cc4 cc5 fc lc
  clear ca0 ca1 ca2 ca3 ca4 ca5 fa la
  clear cb0 cb1 cb2 cb3 cb4 cb5 fb lb
  clear cj0 cj1 cj2 cj3 cj4 cj5 fj lj
  clear cs0 cs1 cs2 cs3 cs4 cs5 fs ls
  replace Bc := (Bc).next hb
  replace Ba := (Ba).next hb
  replace Bb := (Bb).next hb
  replace Bj := (Bj).next hb
  replace Bs := (Bs).next hb
  replace hB : Below w.heap.size w w15 := by repeat (first | exact hB | (refine Bl_set ?_ (by first | omega | (simp; omega)) _) | apply Bl_alloc | (refine Bl_trans ?_ hb))
  clear hb
  obtain ⟨cc0, cc1, cc2, cc3, cc4, cc5⟩ := cells6 Bc
  have fc := Bc.frozen; have lc := Bc.lt
  obtain ⟨ca0, ca1, ca2, ca3, ca4, ca5⟩ := cells6 Ba
  have fa := Ba.frozen; have la := Ba.lt
  obtain ⟨cb0, cb1, cb2, cb3, cb4, cb5⟩ := cells6 Bb
  have fb := Bb.frozen; have lb := Bb.lt
  obtain ⟨cj0, cj1, cj2, cj3, cj4, cj5⟩ := cells6 Bj
  have fj := Bj.frozen; have lj := Bj.lt
  obtain ⟨cs0, cs1, cs2, cs3, cs4, cs5⟩ := cells6 Bs
  have fs := Bs.frozen; have ls := Bs.lt
  go_upto_region 11 with fail
  cases Wb
  · go_wp2_with fail
    clear cc0 cc1 cc2 cc3 cc4 cc5; obtain ⟨cc0, cc1, cc2, cc3, cc4, cc5⟩ := lcells6 Bc
    clear ca0 ca1 ca2 ca3 ca4 ca5; obtain ⟨ca0, ca1, ca2, ca3, ca4, ca5⟩ := lcells6 Ba
    clear cb0 cb1 cb2 cb3 cb4 cb5; obtain ⟨cb0, cb1, cb2, cb3, cb4, cb5⟩ := lcells6 Bb
    clear cj0 cj1 cj2 cj3 cj4 cj5; obtain ⟨cj0, cj1, cj2, cj3, cj4, cj5⟩ := lcells6 Bj
    clear cs0 cs1 cs2 cs3 cs4 cs5; obtain ⟨cs0, cs1, cs2, cs3, cs4, cs5⟩ := lcells6 Bs
    refine wp_region_mix 12 (fun _ => #[]) (by kernel_rfl) (by kernel_rfl) (no_alloc (by kernel_rfl)) ?_
    simp only [List.take_succ_cons, List.take_zero, List.drop_succ_cons, List.drop_zero]
    repeat ((with_reducible refine wpMix_step (fun K hK => ?_)); go_simp; first | ((with_reducible refine hK _ ?_); clear hK K) | (rw [if_neg (by decide)]; (with_reducible refine hK _ ?_); clear hK K) | (apply Exists.intro; refine ⟨fun g => ?_, hK _ ?_⟩; ((with_reducible refine Calls.mono (to14_c a g.w) ?_); exact fun _ _ h => h); clear hK K) | (apply Exists.intro; refine ⟨fun g => ?_, hK _ ?_⟩; ((with_reducible refine Calls.mono (to14_c b g.w) ?_); exact fun _ _ h => h); clear hK K) | (apply Exists.intro; refine ⟨fun g => ?_, hK _ ?_⟩; ((with_reducible refine Calls.mono (k_W g.w) ?_); exact fun _ _ h => h); clear hK K))
    refine wpMix_nil ?_
    intro G w16 hgr hblk hdist
    have hb : Below w15.heap.size w15 w16 := hgr
    replace Bc := Bc.next hb
    replace Ba := Ba.next hb
    replace Bb := Bb.next hb
    replace Bj := Bj.next hb
    replace Bs := Bs.next hb
    clear cc0 cc1 cc2 cc3 cc4 cc5 fc lc
    clear ca0 ca1 ca2 ca3 ca4 ca5 fa la
    clear cb0 cb1 cb2 cb3 cb4 cb5 fb lb
    clear cj0 cj1 cj2 cj3 cj4 cj5 fj lj
    clear cs0 cs1 cs2 cs3 cs4 cs5 fs ls
    replace hB : Below w.heap.size w w16 := Bl_trans hB hb
    simp only [putAll, isAlloc]
    clear hb hgr hblk hdist
    obtain ⟨cc0, cc1, cc2, cc3, cc4, cc5⟩ := cells6 Bc
    have fc := Bc.frozen; have lc := Bc.lt
    obtain ⟨ca0, ca1, ca2, ca3, ca4, ca5⟩ := cells6 Ba
    have fa := Ba.frozen; have la := Ba.lt
    obtain ⟨cb0, cb1, cb2, cb3, cb4, cb5⟩ := cells6 Bb
    have fb := Bb.frozen; have lb := Bb.lt
    obtain ⟨cj0, cj1, cj2, cj3, cj4, cj5⟩ := cells6 Bj
    have fj := Bj.frozen; have lj := Bj.lt
    obtain ⟨cs0, cs1, cs2, cs3, cs4, cs5⟩ := cells6 Bs
    have fs := Bs.frozen; have ls := Bs.lt
    go_upto_region 13 with fail
    go_wp2_with fail
    clear cc0 cc1 cc2 cc3 cc4 cc5; obtain ⟨cc0, cc1, cc2, cc3, cc4, cc5⟩ := lcells6 Bc
    clear ca0 ca1 ca2 ca3 ca4 ca5; obtain ⟨ca0, ca1, ca2, ca3, ca4, ca5⟩ := lcells6 Ba
    clear cb0 cb1 cb2 cb3 cb4 cb5; obtain ⟨cb0, cb1, cb2, cb3, cb4, cb5⟩ := lcells6 Bb
    clear cj0 cj1 cj2 cj3 cj4 cj5; obtain ⟨cj0, cj1, cj2, cj3, cj4, cj5⟩ := lcells6 Bj
    clear cs0 cs1 cs2 cs3 cs4 cs5; obtain ⟨cs0, cs1, cs2, cs3, cs4, cs5⟩ := lcells6 Bs
    refine wp_region_mix 12 (fun _ => #[]) (by kernel_rfl) (by kernel_rfl) (no_alloc (by kernel_rfl)) ?_
    simp only [List.take_succ_cons, List.take_zero, List.drop_succ_cons, List.drop_zero]
    repeat ((with_reducible refine wpMix_step (fun K hK => ?_)); go_simp; first | ((with_reducible refine hK _ ?_); clear hK K) | (rw [if_neg (by decide)]; (with_reducible refine hK _ ?_); clear hK K) | (apply Exists.intro; refine ⟨fun g => ?_, hK _ ?_⟩; ((with_reducible refine Calls.mono (to14_c a g.w) ?_); exact fun _ _ h => h); clear hK K) | (apply Exists.intro; refine ⟨fun g => ?_, hK _ ?_⟩; ((with_reducible refine Calls.mono (k_1 g.w) ?_); exact fun _ _ h => h); clear hK K) | (apply Exists.intro; refine ⟨fun g => ?_, hK _ ?_⟩; ((with_reducible refine Calls.mono (sany_c g.w) ?_); exact fun _ _ h => h); clear hK K) | (apply Exists.intro; refine ⟨fun g => ?_, hK _ ?_⟩; ((with_reducible refine Calls.mono (k_2 g.w) ?_); exact fun _ _ h => h); clear hK K))
    refine wpMix_nil ?_
    intro G w17 hgr hblk hdist
    have hb : Below w16.heap.size w16 w17 := hgr
    replace Bc := Bc.next hb
    replace Ba := Ba.next hb
    replace Bb := Bb.next hb
    replace Bj := Bj.next hb
    replace Bs := Bs.next hb
    clear cc0 cc1 cc2 cc3 cc4 cc5 fc lc
    clear ca0 ca1 ca2 ca3 ca4 ca5 fa la
    clear cb0 cb1 cb2 cb3 cb4 cb5 fb lb
    clear cj0 cj1 cj2 cj3 cj4 cj5 fj lj
    clear cs0 cs1 cs2 cs3 cs4 cs5 fs ls
    replace hB : Below w.heap.size w w17 := Bl_trans hB hb
    simp only [putAll, isAlloc]
    clear hb hgr hblk hdist
    obtain ⟨cc0, cc1, cc2, cc3, cc4, cc5⟩ := cells6 Bc
    have fc := Bc.frozen; have lc := Bc.lt
    obtain ⟨ca0, ca1, ca2, ca3, ca4, ca5⟩ := cells6 Ba
    have fa := Ba.frozen; have la := Ba.lt
    obtain ⟨cb0, cb1, cb2, cb3, cb4, cb5⟩ := cells6 Bb
    have fb := Bb.frozen; have lb := Bb.lt
    obtain ⟨cj0, cj1, cj2, cj3, cj4, cj5⟩ := cells6 Bj
    have fj := Bj.frozen; have lj := Bj.lt
    obtain ⟨cs0, cs1, cs2, cs3, cs4, cs5⟩ := cells6 Bs
    have fs := Bs.frozen; have ls := Bs.lt
    go_wp2
    go_ret
    exact ⟨rfl, by repeat (first | exact hB | (refine Bl_set ?_ (by first | omega | (simp; omega)) _) | apply Bl_alloc)⟩
  · have k_b := shast_c b x (HWb.out rfl)
    go_wp2_with fail
    clear cc0 cc1 cc2 cc3 cc4 cc5; obtain ⟨cc0, cc1, cc2, cc3, cc4, cc5⟩ := lcells6 Bc
    clear ca0 ca1 ca2 ca3 ca4 ca5; obtain ⟨ca0, ca1, ca2, ca3, ca4, ca5⟩ := lcells6 Ba
    clear cb0 cb1 cb2 cb3 cb4 cb5; obtain ⟨cb0, cb1, cb2, cb3, cb4, cb5⟩ := lcells6 Bb
    clear cj0 cj1 cj2 cj3 cj4 cj5; obtain ⟨cj0, cj1, cj2, cj3, cj4, cj5⟩ := lcells6 Bj
    clear cs0 cs1 cs2 cs3 cs4 cs5; obtain ⟨cs0, cs1, cs2, cs3, cs4, cs5⟩ := lcells6 Bs
    refine wp_region_mix 12 (fun _ => #[]) (by kernel_rfl) (by kernel_rfl) (no_alloc (by kernel_rfl)) ?_
    simp only [List.take_succ_cons, List.take_zero, List.drop_succ_cons, List.drop_zero]
    repeat ((with_reducible refine wpMix_step (fun K hK => ?_)); go_simp; first | ((with_reducible refine hK _ ?_); clear hK K) | (rw [if_neg (by decide)]; (with_reducible refine hK _ ?_); clear hK K) | (apply Exists.intro; refine ⟨fun g => ?_, hK _ ?_⟩; ((with_reducible refine Calls.mono (to14_c a g.w) ?_); exact fun _ _ h => h); clear hK K) | (apply Exists.intro; refine ⟨fun g => ?_, hK _ ?_⟩; ((with_reducible refine Calls.mono (to14_c b g.w) ?_); exact fun _ _ h => h); clear hK K) | (apply Exists.intro; refine ⟨fun g => ?_, hK _ ?_⟩; ((with_reducible refine Calls.mono (k_W g.w) ?_); exact fun _ _ h => h); clear hK K) | (apply Exists.intro; refine ⟨fun g => ?_, hK _ ?_⟩; ((with_reducible refine Calls.mono (k_b g.w) ?_); exact fun _ _ h => h); clear hK K))
    refine wpMix_nil ?_
    intro G w16 hgr hblk hdist
    have hb : Below w15.heap.size w15 w16 := hgr
    replace Bc := Bc.next hb
    replace Ba := Ba.next hb
    replace Bb := Bb.next hb
    replace Bj := Bj.next hb
    replace Bs := Bs.next hb
    clear cc0 cc1 cc2 cc3 cc4 cc5 fc lc
    clear ca0 ca1 ca2 ca3 ca4 ca5 fa la
    clear cb0 cb1 cb2 cb3 cb4 cb5 fb lb
    clear cj0 cj1 cj2 cj3 cj4 cj5 fj lj
    clear cs0 cs1 cs2 cs3 cs4 cs5 fs ls
    replace hB : Below w.heap.size w w16 := Bl_trans hB hb
    simp only [putAll, isAlloc]
    clear hb hgr hblk hdist
    obtain ⟨cc0, cc1, cc2, cc3, cc4, cc5⟩ := cells6 Bc
    have fc := Bc.frozen; have lc := Bc.lt
    obtain ⟨ca0, ca1, ca2, ca3, ca4, ca5⟩ := cells6 Ba
    have fa := Ba.frozen; have la := Ba.lt
    obtain ⟨cb0, cb1, cb2, cb3, cb4, cb5⟩ := cells6 Bb
    have fb := Bb.frozen; have lb := Bb.lt
    obtain ⟨cj0, cj1, cj2, cj3, cj4, cj5⟩ := cells6 Bj
    have fj := Bj.frozen; have lj := Bj.lt
    obtain ⟨cs0, cs1, cs2, cs3, cs4, cs5⟩ := cells6 Bs
    have fs := Bs.frozen; have ls := Bs.lt
    go_upto_region 13 with fail
    go_wp2_with fail
    clear cc0 cc1 cc2 cc3 cc4 cc5; obtain ⟨cc0, cc1, cc2, cc3, cc4, cc5⟩ := lcells6 Bc
    clear ca0 ca1 ca2 ca3 ca4 ca5; obtain ⟨ca0, ca1, ca2, ca3, ca4, ca5⟩ := lcells6 Ba
    clear cb0 cb1 cb2 cb3 cb4 cb5; obtain ⟨cb0, cb1, cb2, cb3, cb4, cb5⟩ := lcells6 Bb
    clear cj0 cj1 cj2 cj3 cj4 cj5; obtain ⟨cj0, cj1, cj2, cj3, cj4, cj5⟩ := lcells6 Bj
    clear cs0 cs1 cs2 cs3 cs4 cs5; obtain ⟨cs0, cs1, cs2, cs3, cs4, cs5⟩ := lcells6 Bs
    refine wp_region_mix 12 (fun _ => #[]) (by kernel_rfl) (by kernel_rfl) (no_alloc (by kernel_rfl)) ?_
    simp only [List.take_succ_cons, List.take_zero, List.drop_succ_cons, List.drop_zero]
    repeat ((with_reducible refine wpMix_step (fun K hK => ?_)); go_simp; first | ((with_reducible refine hK _ ?_); clear hK K) | (rw [if_neg (by decide)]; (with_reducible refine hK _ ?_); clear hK K) | (apply Exists.intro; refine ⟨fun g => ?_, hK _ ?_⟩; ((with_reducible refine Calls.mono (to14_c a g.w) ?_); exact fun _ _ h => h); clear hK K) | (apply Exists.intro; refine ⟨fun g => ?_, hK _ ?_⟩; ((with_reducible refine Calls.mono (k_1 g.w) ?_); exact fun _ _ h => h); clear hK K) | (apply Exists.intro; refine ⟨fun g => ?_, hK _ ?_⟩; ((with_reducible refine Calls.mono (sany_c g.w) ?_); exact fun _ _ h => h); clear hK K) | (apply Exists.intro; refine ⟨fun g => ?_, hK _ ?_⟩; ((with_reducible refine Calls.mono (k_2 g.w) ?_); exact fun _ _ h => h); clear hK K))
    refine wpMix_nil ?_
    intro G w17 hgr hblk hdist
    have hb : Below w16.heap.size w16 w17 := hgr
    replace Bc := Bc.next hb
    replace Ba := Ba.next hb
    replace Bb := Bb.next hb
    replace Bj := Bj.next hb
    replace Bs := Bs.next hb
    clear cc0 cc1 cc2 cc3 cc4 cc5 fc lc
    clear ca0 ca1 ca2 ca3 ca4 ca5 fa la
    clear cb0 cb1 cb2 cb3 cb4 cb5 fb lb
    clear cj0 cj1 cj2 cj3 cj4 cj5 fj lj
    clear cs0 cs1 cs2 cs3 cs4 cs5 fs ls
    replace hB : Below w.heap.size w w17 := Bl_trans hB hb
    simp only [putAll, isAlloc]
    clear hb hgr hblk hdist
    obtain ⟨cc0, cc1, cc2, cc3, cc4, cc5⟩ := cells6 Bc
    have fc := Bc.frozen; have lc := Bc.lt
    obtain ⟨ca0, ca1, ca2, ca3, ca4, ca5⟩ := cells6 Ba
    have fa := Ba.frozen; have la := Ba.lt
    obtain ⟨cb0, cb1, cb2, cb3, cb4, cb5⟩ := cells6 Bb
    have fb := Bb.frozen; have lb := Bb.lt
    obtain ⟨cj0, cj1, cj2, cj3, cj4, cj5⟩ := cells6 Bj
    have fj := Bj.frozen; have lj := Bj.lt
    obtain ⟨cs0, cs1, cs2, cs3, cs4, cs5⟩ := cells6 Bs
    have fs := Bs.frozen; have ls := Bs.lt
    go_wp2
    go_ret
    exact ⟨rfl, by repeat (first | exact hB | (refine Bl_set ?_ (by first | omega | (simp; omega)) _) | apply Bl_alloc)⟩
theorem walk_ScalarJoins (CA CB : Value) (i k : Int) (m0 m1 : W) (bytes : Int) (a b : Rng) (x y : W) (hx : PlainScalar.Has a x) (hy : PlainScalar.Has b y) (w : World) (k_c : ∀ w1, Below w.heap.size w w1 → Calls Try.prog 21 #[.agg #[CA, CB, .int .i64 i, .int .i64 k, uv m0, uv m1]] w1 fun e w' => e = .returned (.tuple #[rv a, rv b, uv x, uv y]) ∧ Below w1.heap.size w1 w') : Calls Try.prog 5 #[.agg #[CA, CB, .int .i64 i, .int .i64 k, uv m0, uv m1], .int .i64 bytes] w fun e w' => e = .returned (.bool true) ∧ Below w.heap.size w w' := by
  by_cases h1 : bytes = 1
  · subst h1; exact joins_1 CA CB i k m0 m1 a b x y hx hy w k_c
  by_cases h2 : bytes = 2
  · subst h2; exact joins_2 CA CB i k m0 m1 a b x y hx hy w k_c
  by_cases h4 : bytes = 4
  · subst h4; exact joins_4 CA CB i k m0 m1 a b x y hx hy w k_c
  exact joins_o CA CB i k m0 m1 bytes (by simpa using h1) (by simpa using h2) (by simpa using h4) a b x y hx hy w k_c
theorem walkN_ScalarJoins (A B : Value) (L M : List W) (i k : Int) (m0 m1 : W) (bytes : Int) (lo : -9223372036854775808 ≤ bytes) (hi : bytes ≤ 9223372036854775807) (w : World) (hA : Raw w A L) (hB : Raw w B M) : Calls Try.prog 5 #[.agg #[A, B, .int .i64 i, .int .i64 k, .int .u64 (T m0), .int .u64 (T m1)], .int .i64 bytes] w fun e w' => e = .returned (.bool true) ∧ Below w.heap.size w w' := by
  obtain ⟨L', hA'⟩ := hA.came 5#64
  obtain ⟨M', hB'⟩ := hB.came 3#64
  have hx := PlainScalar.around_has (idx_lt i hA'.pos) m0
  have hy := PlainScalar.around_has (idx_lt k hB'.pos) m1
  exact walk_ScalarJoins A B i k m0 m1 bytes _ _ _ _ hx hy w fun w1 h => ranges_c A B L' M' i k m0 m1 w1 (hA'.next h) (hB'.next h)
namespace scalarJoins
set_option maxRecDepth 100000 in
theorem lifted (os : Os) (started : os.Started) (H : Type) (enc : TypeId × Value → H) :
    ReturnsInHanded {} Try.checked os 5 .any (Rows.scalarJoinsSpec.pre6 enc Try.prog Try.f5 Rows.scalarJoinsRow.domain false) (Rows.scalarJoinsSpec.post enc Try.prog Try.f5 false true false false) := by
  refine returnsInHanded_of_change (C := Try.checked) own started (by kernel_rfl) Try.func5
    (ChangeSpec.witness6 (enc := enc) (C := Try.checked) false ⟨#[], #[.agg #[.slice none 0 0, .slice none 0 0, .int .i64 0, .int .i64 0, .int .u64 0, .int .u64 0], .int .i64 0], []⟩ 8 (by kernel_rfl) (by kernel_rfl) (by kernel_rfl) (by kernel_rfl)) ?_
  intro W base args ds gs before hval0 hW hcnd _
  have hval : ∀ (j : Nat) t v, Try.f5.params[j]? = some t → args[j]? = some v → Value.okWide Try.prog W .any base t v := hval0
  have hW' := hW
  obtain ⟨p, q, hA0, hV, rfl, hfz, hnd⟩ := hW
  have hA : DataW.TrodAll enc Try.prog W 0 (fun _ => true) true Try.f5.params.toList args.toList ds p := hA0
  rw [Try.params5] at hA hval
  obtain ⟨v0, vs0, d0, ds0, p0, q0, hargs, rfl, rfl, h0, r0⟩ := trodAll_cons hA
  obtain ⟨v1, vs1, d1, ds1, p1, q1, rfl, rfl, rfl, h1, r1⟩ := trodAll_cons r0
  obtain ⟨rfl, rfl, rfl⟩ := trodAll_nil r1
  obtain rfl : args = #[v0, v1] := by cases args; simp_all
  obtain ⟨rfl, rfl⟩ := trodVars_none hV
  have lt0 : ∀ x ∈ p0, x.block < W.heap.size := by obtain ⟨m, hm⟩ := h0; exact DataW.trod_lt m _ _ _ hm
  obtain ⟨A0, B0, L0, M0, i0, k0, m0, n0, rest, hv0, hl0, hRA0, hRB0, hre0⟩ := open_case (ts := []) Try.underlying49 rfl rfl rfl rfl rfl rfl (by kernel_rfl) Try.underlying46 Try.underlying22 Try.underlying3 (by kernel_rfl) (by kernel_rfl) (by kernel_rfl) (hval 0 49 v0 rfl rfl) h0
  obtain rfl : rest = [] := List.eq_nil_of_length_eq_zero hl0
  obtain rfl : v0 = .agg #[A0, B0, .int .i64 i0, .int .i64 k0, .int .u64 (T m0), .int .u64 (T n0)] := by rw [hv0]; rfl
  have lt1 : ∀ x ∈ p1, x.block < W.heap.size := by obtain ⟨m, hm⟩ := h1; exact DataW.trod_lt m _ _ _ hm
  obtain ⟨x1, rfl, lo1, hi1⟩ := open_i64 Try.underlying3 (hval 1 3 v1 rfl rfl)
  refine (walkN_ScalarJoins A0 B0 L0 M0 i0 k0 m0 n0 x1 lo1 hi1 W hRA0 hRB0).mono fun e W' ⟨he, bel⟩ => ?_
  subst he
  exact ⟨_, rfl, _, _, _, [], _, [], hW', trodAll_mk1 (shut_bool Try.underlying4 _), (trodAll_cons_mk (Below.trod laidOut (by kernel_rfl) (of_decide_eq_true (by kernel_rfl)) h0 bel lt0) (trodAll_cons_mk (Below.trod laidOut (by kernel_rfl) (of_decide_eq_true (by kernel_rfl)) h1 bel lt1) trodAll_mk0)), rfl, bel.frame _, fun h => by cases h⟩
theorem over : Rows.scalarJoinsRow.holds Try.pinned (OpenSpec.ofChange Rows.scalarJoinsSpec) :=
  OpenClaim.holds_of_wide 5 Try.f5 rfl rfl rfl rfl rfl rfl rfl ⟨rfl, rfl, rfl, rfl, rfl⟩ rfl rfl rfl rfl rfl (by kernel_rfl) Try.func5 (by kernel_rfl)
    (of_decide_eq_true (by kernel_rfl)) (by unfold Func.isWrapper; first | (rw [if_pos (by decide +kernel)]; kernel_rfl) | (rw [if_neg (by decide +kernel)]; exact ⟨rfl, rfl⟩))
    (fun os started H enc _ => lifted os started H enc)
/-- The given statement. -/
theorem proved : Rows.ScalarJoinsSaid := over
#print axioms proved
end scalarJoins
end Go.Proofs.Ytmghpoagpiljhab
