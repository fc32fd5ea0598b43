/- BranchBits: for all bytes the law returns true, and its arguments read as before. No condition. -/
import Derived.Test.YtmghpoagpiljhabOpen
import Derived.Test.YtmghpoagpiljhabBr7
set_option linter.unusedSimpArgs false
namespace Go.Proofs.Ytmghpoagpiljhab
open Go.ChangeShapes Go.WideShapes Go.ChangeAt Go.RowKit
open PlainTnum (N)
open PlainScalar (Rng)
set_option linter.unusedVariables false
theorem and8 (x y : W) (hx : x.toNat < 256) (hy : y.toNat < 256) : bits .and .u8 (T x) (T y) = T (x &&& y) := by
  have e1 : (BitVec.ofInt 8 (x.toNat : Int)).toNat = x.toNat := by rw [BitVec.ofInt_natCast, BitVec.toNat_ofNat]; omega
  have e2 : (BitVec.ofInt 8 (y.toNat : Int)).toNat = y.toNat := by rw [BitVec.ofInt_natCast, BitVec.toNat_ofNat]; omega
  have h3 : bits .and .u8 (T x) (T y) = IntKind.u8.wrap (((BitVec.ofInt 8 (x.toNat : Int)) &&& (BitVec.ofInt 8 (y.toNat : Int))).toNat : Int) := rfl
  rw [h3, BitVec.toNat_and, e1, e2]
  unfold T
  rw [BitVec.toNat_and]
  have : x.toNat &&& y.toNat ≤ x.toNat := Nat.and_le_left
  exact IntWalk.u8_in _ (by omega)
theorem within_t (a b : Rng) (h : PlainScalar.within a b = true) (w : World) : Calls Try.prog 28 #[rv a, rv b] w fun e w' => e = .returned (.bool true) ∧ Below w.heap.size w w' := by
  rw [← h]; exact swithin_c a b w
set_option maxRecDepth 100000 in
set_option maxHeartbeats 3200000 in
theorem walk_BranchBits (x y : W) (hx : x.toNat < 256) (hy : y.toNat < 256) (w : World) : Calls Try.prog 14 #[.int .u8 (T x), .int .u8 (T y)] w fun e w' => e = .returned (.bool true) ∧ Below w.heap.size w w' := by
  obtain ⟨vA, e_vA⟩ : ∃ z' : Rng, z' = PlainScalar.low PlainScalar.any 1 := ⟨_, rfl⟩
  have k_vA : ∀ w : World, Calls Try.prog 27 #[rv PlainScalar.any, .int .i64 1] w fun e w' => e = .returned (rv vA) ∧ Below w.heap.size w w' := fun w => by rw [e_vA]; exact slow_c PlainScalar.any 1 w
  have HA : PlainScalar.Has vA x := by rw [e_vA]; have h := PlainScalar.low_has (PlainScalar.any_has x) 1; rwa [PlainScalar.lowW_small (.inl rfl) (by show x.toNat ≤ 255; omega)] at h
  obtain ⟨vY, e_vY⟩ : ∃ z' : Rng, z' = PlainScalar.const y := ⟨_, rfl⟩
  have k_vY : ∀ w : World, Calls Try.prog 34 #[uv y] w fun e w' => e = .returned (rv vY) ∧ Below w.heap.size w w' := fun w => by rw [e_vY]; exact sconst_c y w
  have HY : PlainScalar.Has vY y := by rw [e_vY]; exact PlainScalar.const_has y
  have HAY : PlainScalar.Has vA y := by rw [e_vA]; have h := PlainScalar.low_has (PlainScalar.any_has y) 1; rwa [PlainScalar.lowW_small (.inl rfl) (by show y.toNat ≤ 255; omega)] at h
  clear e_vA e_vY
  have hand := and8 x y hx hy
  obtain ⟨H, e_H⟩ : ∃ z' : Bool, z' = ((x &&& y) != 0#64) := ⟨_, rfl⟩
  have hne : (T (x &&& y) != 0) = H := by rw [e_H, T_bne0]
  have r1 := PlainBranch.refine_has (op := 4) (long := true) (by unfold PlainBranch.isOp; omega) HA HY
  rw [show PlainBranch.holds 4 true x y = H by rw [e_H]; rfl] at r1
  have i1 := PlainBranch.refine_in r1.1
  have k_R1 := refine_c 4 true vA vY H
  generalize PlainBranch.refine 4 true vA vY H = R at *
  obtain ⟨⟨u1, v1⟩, ok1⟩ := R
  have r2 := PlainBranch.refine_has (op := 1) (long := true) (by unfold PlainBranch.isOp; omega) HAY HY
  rw [show PlainBranch.holds 1 true y y = true by simp [PlainBranch.holds, PlainBranch.unsigned]] at r2
  have i2 := PlainBranch.refine_in r2.1
  have k_R2 := refine_c 1 true vA vY true
  generalize PlainBranch.refine 1 true vA vY true = R at *
  obtain ⟨⟨u2, v2⟩, ok2⟩ := R
  obtain ⟨hok1, hu1, hv1⟩ := r1; obtain ⟨hi1, _⟩ := i1
  replace hok1 : ok1 = true := hok1; subst hok1
  replace k_R1 : ∀ w : World, Calls Try.prog 38 #[.int .i64 4, .bool true, rv vA, rv vY, .bool H] w fun e w' => e = .returned (.tuple #[rv u1, rv v1, .bool true]) ∧ Below w.heap.size w w' := k_R1
  replace hu1 : PlainScalar.Has u1 x := hu1; replace hi1 : PlainScalar.within u1 vA = true := hi1
  obtain ⟨hok2, hu2, hv2⟩ := r2; obtain ⟨hi2, _⟩ := i2
  replace hok2 : ok2 = true := hok2; subst hok2
  replace k_R2 : ∀ w : World, Calls Try.prog 38 #[.int .i64 1, .bool true, rv vA, rv vY, .bool true] w fun e w' => e = .returned (.tuple #[rv u2, rv v2, .bool true]) ∧ Below w.heap.size w w' := k_R2
  replace hu2 : PlainScalar.Has u2 y := hu2; replace hi2 : PlainScalar.within u2 vA = true := hi2
  have uT1 := u64_T x; have uT2 := u64_T y
  clear e_H
  go_enter Try.func14, Try.ntmps14
  go_wp2_with fail
  have hB : Below w.heap.size w w := (Bl_refl w)
  go_wp2_with fail
  refine (sany_c _).mono ?_
  rintro e w2 ⟨rfl, hb⟩
  replace hB : Below w.heap.size w w2 := by repeat (first | exact hB | (refine Bl_set ?_ (by first | omega | (simp; omega)) _) | apply Bl_alloc | (refine Bl_trans ?_ hb))
  clear hb
  go_wp2_with fail
  refine (k_vA _).mono ?_
  rintro e w3 ⟨rfl, hb⟩
  replace hB : Below w.heap.size w w3 := by repeat (first | exact hB | (refine Bl_set ?_ (by first | omega | (simp; omega)) _) | apply Bl_alloc | (refine Bl_trans ?_ hb))
  clear hb
  go_upto_region 3 with fail
  have Ba := Blk.new w3 27 #[uv vA.b.v, uv vA.b.m, uv vA.lo, uv vA.hi, sv vA.sl, sv vA.sh]
  have hga := hB.size
  replace hB : Below w.heap.size w (w3.alloc (.cells #[uv vA.b.v, uv vA.b.m, uv vA.lo, uv vA.hi, sv vA.sl, sv vA.sh] 27)) := Bl_alloc hB _
  generalize (w3.alloc (.cells #[uv vA.b.v, uv vA.b.m, uv vA.lo, uv vA.hi, sv vA.sl, sv vA.sh] 27)) = w4 at *
  generalize w3.heap.size = ga at *
  obtain ⟨ca0, ca1, ca2, ca3, ca4, ca5⟩ := cells6 Ba
  have fa := Ba.frozen; have la := Ba.lt
  go_wp2_with fail
  clear ca0 ca1 ca2 ca3 ca4 ca5; obtain ⟨ca0, ca1, ca2, ca3, ca4, ca5⟩ := lcells6 Ba
  refine wp_region_mixL 12 (fun k => k == 8 || k == 9) (fun _ => #[.int .u64 0, .int .u64 0, .int .u64 0, .int .u64 0, .int .i64 0, .int .i64 0]) (by kernel_rfl) (by kernel_rfl) (fun d _ _ _ _ h => by cases d <;> exact h) (fun o t ho ht => by
    simp at ho
    rcases ho with rfl | rfl | rfl | rfl | rfl | rfl | rfl | rfl | rfl | rfl | rfl | rfl <;> first | (cases ht; done) | (obtain rfl := Option.some.inj ht; exact fun ρ w => new_rng14 ht ρ w)) ?_
  simp only [List.take_succ_cons, List.take_zero, List.drop_succ_cons, List.drop_zero]
  repeat (refine wpMixL_step (fun K hK => ?_); go_simp; first | (refine hK _ ?_; clear hK K) | (apply Exists.intro; refine ⟨fun g => ?_, hK _ ?_⟩; ((with_reducible refine Calls.mono (k_vY g.w) ?_); exact fun _ _ h => h); clear hK K) | (apply Exists.intro; refine ⟨fun g => ?_, hK _ ?_⟩; ((with_reducible refine Calls.mono (k_R1 g.w) ?_); exact fun _ _ h => h); clear hK K))
  refine wpMixL_nil ?_
  intro G w5 hgr hblk hdist
  have hb : Below w4.heap.size w4 w5 := hgr
  replace Ba := Ba.next hb
  obtain ⟨Bp, hlp⟩ := hblk 10 _ rfl
  obtain ⟨Bo, hlo⟩ := hblk 11 _ rfl
  have hdpo := hdist 10 11 _ _ rfl rfl (by decide)
  have hgp : w.heap.size ≤ G 10 := Nat.le_trans hB.size hlp
  have hnap : ga ≠ G 10 := Nat.ne_of_lt (Nat.lt_of_lt_of_le la hlp)
  clear hlp
  have hgo : w.heap.size ≤ G 11 := Nat.le_trans hB.size hlo
  have hnao : ga ≠ G 11 := Nat.ne_of_lt (Nat.lt_of_lt_of_le la hlo)
  clear hlo
  clear ca0 ca1 ca2 ca3 ca4 ca5 fa la
  replace hB : Below w.heap.size w w5 := Bl_trans hB hb
  simp only [putAll, isAlloc, Act.put]
  generalize G 10 = gp at *
  generalize G 11 = go at *
  clear hb hgr hblk hdist
  obtain ⟨ca0, ca1, ca2, ca3, ca4, ca5⟩ := cells6 Ba
  have fa := Ba.frozen; have la := Ba.lt
  obtain ⟨cp0, cp1, cp2, cp3, cp4, cp5⟩ := cells6 Bp
  have fp := Bp.frozen; have lp := Bp.lt
  obtain ⟨co0, co1, co2, co3, co4, co5⟩ := cells6 Bo
  have fo := Bo.frozen; have lo := Bo.lt
  go_upto_region 4 with fail
  clear ca0 ca1 ca2 ca3 ca4 ca5 fa la
  clear cp0 cp1 cp2 cp3 cp4 cp5 fp lp
  clear co0 co1 co2 co3 co4 co5 fo lo
  replace Ba : Blk ((((((w5.setCell ⟨gp, 0, none⟩ (uv u1.b.v)).setCell ⟨gp, 1, none⟩ (uv u1.b.m)).setCell ⟨gp, 2, none⟩ (uv u1.lo)).setCell ⟨gp, 3, none⟩ (uv u1.hi)).setCell ⟨gp, 4, none⟩ (sv u1.sl)).setCell ⟨gp, 5, none⟩ (sv u1.sh)) (ga) 27 #[uv vA.b.v, uv vA.b.m, uv vA.lo, uv vA.hi, sv vA.sl, sv vA.sh] := ((((((Ba.far (by first | (simp; done) | (simp; omega) | (simp [*]; done) | (simp only [ne_eq]; constructor <;> omega)) _).far (by first | (simp; done) | (simp; omega) | (simp [*]; done) | (simp only [ne_eq]; constructor <;> omega)) _).far (by first | (simp; done) | (simp; omega) | (simp [*]; done) | (simp only [ne_eq]; constructor <;> omega)) _).far (by first | (simp; done) | (simp; omega) | (simp [*]; done) | (simp only [ne_eq]; constructor <;> omega)) _).far (by first | (simp; done) | (simp; omega) | (simp [*]; done) | (simp only [ne_eq]; constructor <;> omega)) _).far (by first | (simp; done) | (simp; omega) | (simp [*]; done) | (simp only [ne_eq]; constructor <;> omega)) _)
  replace Bp : Blk ((((((w5.setCell ⟨gp, 0, none⟩ (uv u1.b.v)).setCell ⟨gp, 1, none⟩ (uv u1.b.m)).setCell ⟨gp, 2, none⟩ (uv u1.lo)).setCell ⟨gp, 3, none⟩ (uv u1.hi)).setCell ⟨gp, 4, none⟩ (sv u1.sl)).setCell ⟨gp, 5, none⟩ (sv u1.sh)) (gp) 27 #[uv u1.b.v, uv u1.b.m, uv u1.lo, uv u1.hi, sv u1.sl, sv u1.sh] := ((((((Bp.set_ 0 _).set_ 1 _).set_ 2 _).set_ 3 _).set_ 4 _).set_ 5 _)
  replace Bo : Blk ((((((w5.setCell ⟨gp, 0, none⟩ (uv u1.b.v)).setCell ⟨gp, 1, none⟩ (uv u1.b.m)).setCell ⟨gp, 2, none⟩ (uv u1.lo)).setCell ⟨gp, 3, none⟩ (uv u1.hi)).setCell ⟨gp, 4, none⟩ (sv u1.sl)).setCell ⟨gp, 5, none⟩ (sv u1.sh)) (go) 27 #[.int .u64 0, .int .u64 0, .int .u64 0, .int .u64 0, .int .i64 0, .int .i64 0] := ((((((Bo.far (by first | (simp; done) | (simp; omega) | (simp [*]; done) | (simp only [ne_eq]; constructor <;> omega)) _).far (by first | (simp; done) | (simp; omega) | (simp [*]; done) | (simp only [ne_eq]; constructor <;> omega)) _).far (by first | (simp; done) | (simp; omega) | (simp [*]; done) | (simp only [ne_eq]; constructor <;> omega)) _).far (by first | (simp; done) | (simp; omega) | (simp [*]; done) | (simp only [ne_eq]; constructor <;> omega)) _).far (by first | (simp; done) | (simp; omega) | (simp [*]; done) | (simp only [ne_eq]; constructor <;> omega)) _).far (by first | (simp; done) | (simp; omega) | (simp [*]; done) | (simp only [ne_eq]; constructor <;> omega)) _)
  replace hB : Below w.heap.size w ((((((w5.setCell ⟨gp, 0, none⟩ (uv u1.b.v)).setCell ⟨gp, 1, none⟩ (uv u1.b.m)).setCell ⟨gp, 2, none⟩ (uv u1.lo)).setCell ⟨gp, 3, none⟩ (uv u1.hi)).setCell ⟨gp, 4, none⟩ (sv u1.sl)).setCell ⟨gp, 5, none⟩ (sv u1.sh)) := (Bl_set (Bl_set (Bl_set (Bl_set (Bl_set (Bl_set hB (by first | omega | (simp; done) | (simp; omega)) _) (by first | omega | (simp; done) | (simp; omega)) _) (by first | omega | (simp; done) | (simp; omega)) _) (by first | omega | (simp; done) | (simp; omega)) _) (by first | omega | (simp; done) | (simp; omega)) _) (by first | omega | (simp; done) | (simp; omega)) _)
  replace Ba : Blk ((((((((((((w5.setCell ⟨gp, 0, none⟩ (uv u1.b.v)).setCell ⟨gp, 1, none⟩ (uv u1.b.m)).setCell ⟨gp, 2, none⟩ (uv u1.lo)).setCell ⟨gp, 3, none⟩ (uv u1.hi)).setCell ⟨gp, 4, none⟩ (sv u1.sl)).setCell ⟨gp, 5, none⟩ (sv u1.sh)).setCell ⟨go, 0, none⟩ (uv v1.b.v)).setCell ⟨go, 1, none⟩ (uv v1.b.m)).setCell ⟨go, 2, none⟩ (uv v1.lo)).setCell ⟨go, 3, none⟩ (uv v1.hi)).setCell ⟨go, 4, none⟩ (sv v1.sl)).setCell ⟨go, 5, none⟩ (sv v1.sh)) (ga) 27 #[uv vA.b.v, uv vA.b.m, uv vA.lo, uv vA.hi, sv vA.sl, sv vA.sh] := ((((((Ba.far (by first | (simp; done) | (simp; omega) | (simp [*]; done) | (simp only [ne_eq]; constructor <;> omega)) _).far (by first | (simp; done) | (simp; omega) | (simp [*]; done) | (simp only [ne_eq]; constructor <;> omega)) _).far (by first | (simp; done) | (simp; omega) | (simp [*]; done) | (simp only [ne_eq]; constructor <;> omega)) _).far (by first | (simp; done) | (simp; omega) | (simp [*]; done) | (simp only [ne_eq]; constructor <;> omega)) _).far (by first | (simp; done) | (simp; omega) | (simp [*]; done) | (simp only [ne_eq]; constructor <;> omega)) _).far (by first | (simp; done) | (simp; omega) | (simp [*]; done) | (simp only [ne_eq]; constructor <;> omega)) _)
  replace Bp : Blk ((((((((((((w5.setCell ⟨gp, 0, none⟩ (uv u1.b.v)).setCell ⟨gp, 1, none⟩ (uv u1.b.m)).setCell ⟨gp, 2, none⟩ (uv u1.lo)).setCell ⟨gp, 3, none⟩ (uv u1.hi)).setCell ⟨gp, 4, none⟩ (sv u1.sl)).setCell ⟨gp, 5, none⟩ (sv u1.sh)).setCell ⟨go, 0, none⟩ (uv v1.b.v)).setCell ⟨go, 1, none⟩ (uv v1.b.m)).setCell ⟨go, 2, none⟩ (uv v1.lo)).setCell ⟨go, 3, none⟩ (uv v1.hi)).setCell ⟨go, 4, none⟩ (sv v1.sl)).setCell ⟨go, 5, none⟩ (sv v1.sh)) (gp) 27 #[uv u1.b.v, uv u1.b.m, uv u1.lo, uv u1.hi, sv u1.sl, sv u1.sh] := ((((((Bp.far (by first | (simp; done) | (simp; omega) | (simp [*]; done) | (simp only [ne_eq]; constructor <;> omega)) _).far (by first | (simp; done) | (simp; omega) | (simp [*]; done) | (simp only [ne_eq]; constructor <;> omega)) _).far (by first | (simp; done) | (simp; omega) | (simp [*]; done) | (simp only [ne_eq]; constructor <;> omega)) _).far (by first | (simp; done) | (simp; omega) | (simp [*]; done) | (simp only [ne_eq]; constructor <;> omega)) _).far (by first | (simp; done) | (simp; omega) | (simp [*]; done) | (simp only [ne_eq]; constructor <;> omega)) _).far (by first | (simp; done) | (simp; omega) | (simp [*]; done) | (simp only [ne_eq]; constructor <;> omega)) _)
  replace Bo : Blk ((((((((((((w5.setCell ⟨gp, 0, none⟩ (uv u1.b.v)).setCell ⟨gp, 1, none⟩ (uv u1.b.m)).setCell ⟨gp, 2, none⟩ (uv u1.lo)).setCell ⟨gp, 3, none⟩ (uv u1.hi)).setCell ⟨gp, 4, none⟩ (sv u1.sl)).setCell ⟨gp, 5, none⟩ (sv u1.sh)).setCell ⟨go, 0, none⟩ (uv v1.b.v)).setCell ⟨go, 1, none⟩ (uv v1.b.m)).setCell ⟨go, 2, none⟩ (uv v1.lo)).setCell ⟨go, 3, none⟩ (uv v1.hi)).setCell ⟨go, 4, none⟩ (sv v1.sl)).setCell ⟨go, 5, none⟩ (sv v1.sh)) (go) 27 #[uv v1.b.v, uv v1.b.m, uv v1.lo, uv v1.hi, sv v1.sl, sv v1.sh] := ((((((Bo.set_ 0 _).set_ 1 _).set_ 2 _).set_ 3 _).set_ 4 _).set_ 5 _)
  replace hB : Below w.heap.size w ((((((((((((w5.setCell ⟨gp, 0, none⟩ (uv u1.b.v)).setCell ⟨gp, 1, none⟩ (uv u1.b.m)).setCell ⟨gp, 2, none⟩ (uv u1.lo)).setCell ⟨gp, 3, none⟩ (uv u1.hi)).setCell ⟨gp, 4, none⟩ (sv u1.sl)).setCell ⟨gp, 5, none⟩ (sv u1.sh)).setCell ⟨go, 0, none⟩ (uv v1.b.v)).setCell ⟨go, 1, none⟩ (uv v1.b.m)).setCell ⟨go, 2, none⟩ (uv v1.lo)).setCell ⟨go, 3, none⟩ (uv v1.hi)).setCell ⟨go, 4, none⟩ (sv v1.sl)).setCell ⟨go, 5, none⟩ (sv v1.sh)) := (Bl_set (Bl_set (Bl_set (Bl_set (Bl_set (Bl_set hB (by first | omega | (simp; done) | (simp; omega)) _) (by first | omega | (simp; done) | (simp; omega)) _) (by first | omega | (simp; done) | (simp; omega)) _) (by first | omega | (simp; done) | (simp; omega)) _) (by first | omega | (simp; done) | (simp; omega)) _) (by first | omega | (simp; done) | (simp; omega)) _)
  generalize ((((((((((((w5.setCell ⟨gp, 0, none⟩ (uv u1.b.v)).setCell ⟨gp, 1, none⟩ (uv u1.b.m)).setCell ⟨gp, 2, none⟩ (uv u1.lo)).setCell ⟨gp, 3, none⟩ (uv u1.hi)).setCell ⟨gp, 4, none⟩ (sv u1.sl)).setCell ⟨gp, 5, none⟩ (sv u1.sh)).setCell ⟨go, 0, none⟩ (uv v1.b.v)).setCell ⟨go, 1, none⟩ (uv v1.b.m)).setCell ⟨go, 2, none⟩ (uv v1.lo)).setCell ⟨go, 3, none⟩ (uv v1.hi)).setCell ⟨go, 4, none⟩ (sv v1.sl)).setCell ⟨go, 5, none⟩ (sv v1.sh)) = w6 at *
  obtain ⟨ca0, ca1, ca2, ca3, ca4, ca5⟩ := cells6 Ba
  have fa := Ba.frozen; have la := Ba.lt
  obtain ⟨cp0, cp1, cp2, cp3, cp4, cp5⟩ := cells6 Bp
  have fp := Bp.frozen; have lp := Bp.lt
  obtain ⟨co0, co1, co2, co3, co4, co5⟩ := cells6 Bo
  have fo := Bo.frozen; have lo := Bo.lt
  go_wp2_with fail
  clear ca0 ca1 ca2 ca3 ca4 ca5; obtain ⟨ca0, ca1, ca2, ca3, ca4, ca5⟩ := lcells6 Ba
  clear cp0 cp1 cp2 cp3 cp4 cp5; obtain ⟨cp0, cp1, cp2, cp3, cp4, cp5⟩ := lcells6 Bp
  clear co0 co1 co2 co3 co4 co5; obtain ⟨co0, co1, co2, co3, co4, co5⟩ := lcells6 Bo
  refine wp_region_mixL 11 (fun k => k == 7 || k == 8) (fun _ => #[.int .u64 0, .int .u64 0, .int .u64 0, .int .u64 0, .int .i64 0, .int .i64 0]) (by kernel_rfl) (by kernel_rfl) (fun d _ _ _ _ h => by cases d <;> exact h) (fun o t ho ht => by
    simp at ho
    rcases ho with rfl | rfl | rfl | rfl | rfl | rfl | rfl | rfl | rfl | rfl | rfl <;> first | (cases ht; done) | (obtain rfl := Option.some.inj ht; exact fun ρ w => new_rng14 ht ρ w)) ?_
  simp only [List.take_succ_cons, List.take_zero, List.drop_succ_cons, List.drop_zero]
  repeat (refine wpMixL_step (fun K hK => ?_); go_simp; first | (refine hK _ ?_; clear hK K) | (apply Exists.intro; refine ⟨fun g => ?_, hK _ ?_⟩; ((with_reducible refine Calls.mono (k_vY g.w) ?_); exact fun _ _ h => h); clear hK K) | (apply Exists.intro; refine ⟨fun g => ?_, hK _ ?_⟩; ((with_reducible refine Calls.mono (k_R2 g.w) ?_); exact fun _ _ h => h); clear hK K))
  refine wpMixL_nil ?_
  intro G w7 hgr hblk hdist
  have hb : Below w6.heap.size w6 w7 := hgr
  replace Ba := Ba.next hb
  replace Bp := Bp.next hb
  replace Bo := Bo.next hb
  obtain ⟨Bq, hlq⟩ := hblk 9 _ rfl
  obtain ⟨Bz, hlz⟩ := hblk 10 _ rfl
  have hdqz := hdist 9 10 _ _ rfl rfl (by decide)
  have hgq : w.heap.size ≤ G 9 := Nat.le_trans hB.size hlq
  have hnaq : ga ≠ G 9 := Nat.ne_of_lt (Nat.lt_of_lt_of_le la hlq)
  have hnpq : gp ≠ G 9 := Nat.ne_of_lt (Nat.lt_of_lt_of_le lp hlq)
  have hnoq : go ≠ G 9 := Nat.ne_of_lt (Nat.lt_of_lt_of_le lo hlq)
  clear hlq
  have hgz : w.heap.size ≤ G 10 := Nat.le_trans hB.size hlz
  have hnaz : ga ≠ G 10 := Nat.ne_of_lt (Nat.lt_of_lt_of_le la hlz)
  have hnpz : gp ≠ G 10 := Nat.ne_of_lt (Nat.lt_of_lt_of_le lp hlz)
  have hnoz : go ≠ G 10 := Nat.ne_of_lt (Nat.lt_of_lt_of_le lo hlz)
  clear hlz
  clear ca0 ca1 ca2 ca3 ca4 ca5 fa la
  clear cp0 cp1 cp2 cp3 cp4 cp5 fp lp
  clear co0 co1 co2 co3 co4 co5 fo lo
  replace hB : Below w.heap.size w w7 := Bl_trans hB hb
  simp only [putAll, isAlloc, Act.put]
  generalize G 9 = gq at *
  generalize G 10 = gz at *
  clear hb hgr hblk hdist
  obtain ⟨ca0, ca1, ca2, ca3, ca4, ca5⟩ := cells6 Ba
  have fa := Ba.frozen; have la := Ba.lt
  obtain ⟨cp0, cp1, cp2, cp3, cp4, cp5⟩ := cells6 Bp
  have fp := Bp.frozen; have lp := Bp.lt
  obtain ⟨co0, co1, co2, co3, co4, co5⟩ := cells6 Bo
  have fo := Bo.frozen; have lo := Bo.lt
  obtain ⟨cq0, cq1, cq2, cq3, cq4, cq5⟩ := cells6 Bq
  have fq := Bq.frozen; have lq := Bq.lt
  obtain ⟨cz0, cz1, cz2, cz3, cz4, cz5⟩ := cells6 Bz
  have fz := Bz.frozen; have lz := Bz.lt
  go_upto_region 5 with fail
  clear ca0 ca1 ca2 ca3 ca4 ca5 fa la
  clear cp0 cp1 cp2 cp3 cp4 cp5 fp lp
  clear co0 co1 co2 co3 co4 co5 fo lo
  clear cq0 cq1 cq2 cq3 cq4 cq5 fq lq
  clear cz0 cz1 cz2 cz3 cz4 cz5 fz lz
  replace Ba : Blk ((((((w7.setCell ⟨gq, 0, none⟩ (uv u2.b.v)).setCell ⟨gq, 1, none⟩ (uv u2.b.m)).setCell ⟨gq, 2, none⟩ (uv u2.lo)).setCell ⟨gq, 3, none⟩ (uv u2.hi)).setCell ⟨gq, 4, none⟩ (sv u2.sl)).setCell ⟨gq, 5, none⟩ (sv u2.sh)) (ga) 27 #[uv vA.b.v, uv vA.b.m, uv vA.lo, uv vA.hi, sv vA.sl, sv vA.sh] := ((((((Ba.far (by first | (simp; done) | (simp; omega) | (simp [*]; done) | (simp only [ne_eq]; constructor <;> omega)) _).far (by first | (simp; done) | (simp; omega) | (simp [*]; done) | (simp only [ne_eq]; constructor <;> omega)) _).far (by first | (simp; done) | (simp; omega) | (simp [*]; done) | (simp only [ne_eq]; constructor <;> omega)) _).far (by first | (simp; done) | (simp; omega) | (simp [*]; done) | (simp only [ne_eq]; constructor <;> omega)) _).far (by first | (simp; done) | (simp; omega) | (simp [*]; done) | (simp only [ne_eq]; constructor <;> omega)) _).far (by first | (simp; done) | (simp; omega) | (simp [*]; done) | (simp only [ne_eq]; constructor <;> omega)) _)
  replace Bp : Blk ((((((w7.setCell ⟨gq, 0, none⟩ (uv u2.b.v)).setCell ⟨gq, 1, none⟩ (uv u2.b.m)).setCell ⟨gq, 2, none⟩ (uv u2.lo)).setCell ⟨gq, 3, none⟩ (uv u2.hi)).setCell ⟨gq, 4, none⟩ (sv u2.sl)).setCell ⟨gq, 5, none⟩ (sv u2.sh)) (gp) 27 #[uv u1.b.v, uv u1.b.m, uv u1.lo, uv u1.hi, sv u1.sl, sv u1.sh] := ((((((Bp.far (by first | (simp; done) | (simp; omega) | (simp [*]; done) | (simp only [ne_eq]; constructor <;> omega)) _).far (by first | (simp; done) | (simp; omega) | (simp [*]; done) | (simp only [ne_eq]; constructor <;> omega)) _).far (by first | (simp; done) | (simp; omega) | (simp [*]; done) | (simp only [ne_eq]; constructor <;> omega)) _).far (by first | (simp; done) | (simp; omega) | (simp [*]; done) | (simp only [ne_eq]; constructor <;> omega)) _).far (by first | (simp; done) | (simp; omega) | (simp [*]; done) | (simp only [ne_eq]; constructor <;> omega)) _).far (by first | (simp; done) | (simp; omega) | (simp [*]; done) | (simp only [ne_eq]; constructor <;> omega)) _)
  replace Bo : Blk ((((((w7.setCell ⟨gq, 0, none⟩ (uv u2.b.v)).setCell ⟨gq, 1, none⟩ (uv u2.b.m)).setCell ⟨gq, 2, none⟩ (uv u2.lo)).setCell ⟨gq, 3, none⟩ (uv u2.hi)).setCell ⟨gq, 4, none⟩ (sv u2.sl)).setCell ⟨gq, 5, none⟩ (sv u2.sh)) (go) 27 #[uv v1.b.v, uv v1.b.m, uv v1.lo, uv v1.hi, sv v1.sl, sv v1.sh] := ((((((Bo.far (by first | (simp; done) | (simp; omega) | (simp [*]; done) | (simp only [ne_eq]; constructor <;> omega)) _).far (by first | (simp; done) | (simp; omega) | (simp [*]; done) | (simp only [ne_eq]; constructor <;> omega)) _).far (by first | (simp; done) | (simp; omega) | (simp [*]; done) | (simp only [ne_eq]; constructor <;> omega)) _).far (by first | (simp; done) | (simp; omega) | (simp [*]; done) | (simp only [ne_eq]; constructor <;> omega)) _).far (by first | (simp; done) | (simp; omega) | (simp [*]; done) | (simp only [ne_eq]; constructor <;> omega)) _).far (by first | (simp; done) | (simp; omega) | (simp [*]; done) | (simp only [ne_eq]; constructor <;> omega)) _)
  replace Bq : Blk ((((((w7.setCell ⟨gq, 0, none⟩ (uv u2.b.v)).setCell ⟨gq, 1, none⟩ (uv u2.b.m)).setCell ⟨gq, 2, none⟩ (uv u2.lo)).setCell ⟨gq, 3, none⟩ (uv u2.hi)).setCell ⟨gq, 4, none⟩ (sv u2.sl)).setCell ⟨gq, 5, none⟩ (sv u2.sh)) (gq) 27 #[uv u2.b.v, uv u2.b.m, uv u2.lo, uv u2.hi, sv u2.sl, sv u2.sh] := ((((((Bq.set_ 0 _).set_ 1 _).set_ 2 _).set_ 3 _).set_ 4 _).set_ 5 _)
  replace Bz : Blk ((((((w7.setCell ⟨gq, 0, none⟩ (uv u2.b.v)).setCell ⟨gq, 1, none⟩ (uv u2.b.m)).setCell ⟨gq, 2, none⟩ (uv u2.lo)).setCell ⟨gq, 3, none⟩ (uv u2.hi)).setCell ⟨gq, 4, none⟩ (sv u2.sl)).setCell ⟨gq, 5, none⟩ (sv u2.sh)) (gz) 27 #[.int .u64 0, .int .u64 0, .int .u64 0, .int .u64 0, .int .i64 0, .int .i64 0] := ((((((Bz.far (by first | (simp; done) | (simp; omega) | (simp [*]; done) | (simp only [ne_eq]; constructor <;> omega)) _).far (by first | (simp; done) | (simp; omega) | (simp [*]; done) | (simp only [ne_eq]; constructor <;> omega)) _).far (by first | (simp; done) | (simp; omega) | (simp [*]; done) | (simp only [ne_eq]; constructor <;> omega)) _).far (by first | (simp; done) | (simp; omega) | (simp [*]; done) | (simp only [ne_eq]; constructor <;> omega)) _).far (by first | (simp; done) | (simp; omega) | (simp [*]; done) | (simp only [ne_eq]; constructor <;> omega)) _).far (by first | (simp; done) | (simp; omega) | (simp [*]; done) | (simp only [ne_eq]; constructor <;> omega)) _)
  replace hB : Below w.heap.size w ((((((w7.setCell ⟨gq, 0, none⟩ (uv u2.b.v)).setCell ⟨gq, 1, none⟩ (uv u2.b.m)).setCell ⟨gq, 2, none⟩ (uv u2.lo)).setCell ⟨gq, 3, none⟩ (uv u2.hi)).setCell ⟨gq, 4, none⟩ (sv u2.sl)).setCell ⟨gq, 5, none⟩ (sv u2.sh)) := (Bl_set (Bl_set (Bl_set (Bl_set (Bl_set (Bl_set hB (by first | omega | (simp; done) | (simp; omega)) _) (by first | omega | (simp; done) | (simp; omega)) _) (by first | omega | (simp; done) | (simp; omega)) _) (by first | omega | (simp; done) | (simp; omega)) _) (by first | omega | (simp; done) | (simp; omega)) _) (by first | omega | (simp; done) | (simp; omega)) _)
  replace Ba : Blk ((((((((((((w7.setCell ⟨gq, 0, none⟩ (uv u2.b.v)).setCell ⟨gq, 1, none⟩ (uv u2.b.m)).setCell ⟨gq, 2, none⟩ (uv u2.lo)).setCell ⟨gq, 3, none⟩ (uv u2.hi)).setCell ⟨gq, 4, none⟩ (sv u2.sl)).setCell ⟨gq, 5, none⟩ (sv u2.sh)).setCell ⟨gz, 0, none⟩ (uv v2.b.v)).setCell ⟨gz, 1, none⟩ (uv v2.b.m)).setCell ⟨gz, 2, none⟩ (uv v2.lo)).setCell ⟨gz, 3, none⟩ (uv v2.hi)).setCell ⟨gz, 4, none⟩ (sv v2.sl)).setCell ⟨gz, 5, none⟩ (sv v2.sh)) (ga) 27 #[uv vA.b.v, uv vA.b.m, uv vA.lo, uv vA.hi, sv vA.sl, sv vA.sh] := ((((((Ba.far (by first | (simp; done) | (simp; omega) | (simp [*]; done) | (simp only [ne_eq]; constructor <;> omega)) _).far (by first | (simp; done) | (simp; omega) | (simp [*]; done) | (simp only [ne_eq]; constructor <;> omega)) _).far (by first | (simp; done) | (simp; omega) | (simp [*]; done) | (simp only [ne_eq]; constructor <;> omega)) _).far (by first | (simp; done) | (simp; omega) | (simp [*]; done) | (simp only [ne_eq]; constructor <;> omega)) _).far (by first | (simp; done) | (simp; omega) | (simp [*]; done) | (simp only [ne_eq]; constructor <;> omega)) _).far (by first | (simp; done) | (simp; omega) | (simp [*]; done) | (simp only [ne_eq]; constructor <;> omega)) _)
  replace Bp : Blk ((((((((((((w7.setCell ⟨gq, 0, none⟩ (uv u2.b.v)).setCell ⟨gq, 1, none⟩ (uv u2.b.m)).setCell ⟨gq, 2, none⟩ (uv u2.lo)).setCell ⟨gq, 3, none⟩ (uv u2.hi)).setCell ⟨gq, 4, none⟩ (sv u2.sl)).setCell ⟨gq, 5, none⟩ (sv u2.sh)).setCell ⟨gz, 0, none⟩ (uv v2.b.v)).setCell ⟨gz, 1, none⟩ (uv v2.b.m)).setCell ⟨gz, 2, none⟩ (uv v2.lo)).setCell ⟨gz, 3, none⟩ (uv v2.hi)).setCell ⟨gz, 4, none⟩ (sv v2.sl)).setCell ⟨gz, 5, none⟩ (sv v2.sh)) (gp) 27 #[uv u1.b.v, uv u1.b.m, uv u1.lo, uv u1.hi, sv u1.sl, sv u1.sh] := ((((((Bp.far (by first | (simp; done) | (simp; omega) | (simp [*]; done) | (simp only [ne_eq]; constructor <;> omega)) _).far (by first | (simp; done) | (simp; omega) | (simp [*]; done) | (simp only [ne_eq]; constructor <;> omega)) _).far (by first | (simp; done) | (simp; omega) | (simp [*]; done) | (simp only [ne_eq]; constructor <;> omega)) _).far (by first | (simp; done) | (simp; omega) | (simp [*]; done) | (simp only [ne_eq]; constructor <;> omega)) _).far (by first | (simp; done) | (simp; omega) | (simp [*]; done) | (simp only [ne_eq]; constructor <;> omega)) _).far (by first | (simp; done) | (simp; omega) | (simp [*]; done) | (simp only [ne_eq]; constructor <;> omega)) _)
  replace Bo : Blk ((((((((((((w7.setCell ⟨gq, 0, none⟩ (uv u2.b.v)).setCell ⟨gq, 1, none⟩ (uv u2.b.m)).setCell ⟨gq, 2, none⟩ (uv u2.lo)).setCell ⟨gq, 3, none⟩ (uv u2.hi)).setCell ⟨gq, 4, none⟩ (sv u2.sl)).setCell ⟨gq, 5, none⟩ (sv u2.sh)).setCell ⟨gz, 0, none⟩ (uv v2.b.v)).setCell ⟨gz, 1, none⟩ (uv v2.b.m)).setCell ⟨gz, 2, none⟩ (uv v2.lo)).setCell ⟨gz, 3, none⟩ (uv v2.hi)).setCell ⟨gz, 4, none⟩ (sv v2.sl)).setCell ⟨gz, 5, none⟩ (sv v2.sh)) (go) 27 #[uv v1.b.v, uv v1.b.m, uv v1.lo, uv v1.hi, sv v1.sl, sv v1.sh] := ((((((Bo.far (by first | (simp; done) | (simp; omega) | (simp [*]; done) | (simp only [ne_eq]; constructor <;> omega)) _).far (by first | (simp; done) | (simp; omega) | (simp [*]; done) | (simp only [ne_eq]; constructor <;> omega)) _).far (by first | (simp; done) | (simp; omega) | (simp [*]; done) | (simp only [ne_eq]; constructor <;> omega)) _).far (by first | (simp; done) | (simp; omega) | (simp [*]; done) | (simp only [ne_eq]; constructor <;> omega)) _).far (by first | (simp; done) | (simp; omega) | (simp [*]; done) | (simp only [ne_eq]; constructor <;> omega)) _).far (by first | (simp; done) | (simp; omega) | (simp [*]; done) | (simp only [ne_eq]; constructor <;> omega)) _)
  replace Bq : Blk ((((((((((((w7.setCell ⟨gq, 0, none⟩ (uv u2.b.v)).setCell ⟨gq, 1, none⟩ (uv u2.b.m)).setCell ⟨gq, 2, none⟩ (uv u2.lo)).setCell ⟨gq, 3, none⟩ (uv u2.hi)).setCell ⟨gq, 4, none⟩ (sv u2.sl)).setCell ⟨gq, 5, none⟩ (sv u2.sh)).setCell ⟨gz, 0, none⟩ (uv v2.b.v)).setCell ⟨gz, 1, none⟩ (uv v2.b.m)).setCell ⟨gz, 2, none⟩ (uv v2.lo)).setCell ⟨gz, 3, none⟩ (uv v2.hi)).setCell ⟨gz, 4, none⟩ (sv v2.sl)).setCell ⟨gz, 5, none⟩ (sv v2.sh)) (gq) 27 #[uv u2.b.v, uv u2.b.m, uv u2.lo, uv u2.hi, sv u2.sl, sv u2.sh] := ((((((Bq.far (by first | (simp; done) | (simp; omega) | (simp [*]; done) | (simp only [ne_eq]; constructor <;> omega)) _).far (by first | (simp; done) | (simp; omega) | (simp [*]; done) | (simp only [ne_eq]; constructor <;> omega)) _).far (by first | (simp; done) | (simp; omega) | (simp [*]; done) | (simp only [ne_eq]; constructor <;> omega)) _).far (by first | (simp; done) | (simp; omega) | (simp [*]; done) | (simp only [ne_eq]; constructor <;> omega)) _).far (by first | (simp; done) | (simp; omega) | (simp [*]; done) | (simp only [ne_eq]; constructor <;> omega)) _).far (by first | (simp; done) | (simp; omega) | (simp [*]; done) | (simp only [ne_eq]; constructor <;> omega)) _)
  replace Bz : Blk ((((((((((((w7.setCell ⟨gq, 0, none⟩ (uv u2.b.v)).setCell ⟨gq, 1, none⟩ (uv u2.b.m)).setCell ⟨gq, 2, none⟩ (uv u2.lo)).setCell ⟨gq, 3, none⟩ (uv u2.hi)).setCell ⟨gq, 4, none⟩ (sv u2.sl)).setCell ⟨gq, 5, none⟩ (sv u2.sh)).setCell ⟨gz, 0, none⟩ (uv v2.b.v)).setCell ⟨gz, 1, none⟩ (uv v2.b.m)).setCell ⟨gz, 2, none⟩ (uv v2.lo)).setCell ⟨gz, 3, none⟩ (uv v2.hi)).setCell ⟨gz, 4, none⟩ (sv v2.sl)).setCell ⟨gz, 5, none⟩ (sv v2.sh)) (gz) 27 #[uv v2.b.v, uv v2.b.m, uv v2.lo, uv v2.hi, sv v2.sl, sv v2.sh] := ((((((Bz.set_ 0 _).set_ 1 _).set_ 2 _).set_ 3 _).set_ 4 _).set_ 5 _)
  replace hB : Below w.heap.size w ((((((((((((w7.setCell ⟨gq, 0, none⟩ (uv u2.b.v)).setCell ⟨gq, 1, none⟩ (uv u2.b.m)).setCell ⟨gq, 2, none⟩ (uv u2.lo)).setCell ⟨gq, 3, none⟩ (uv u2.hi)).setCell ⟨gq, 4, none⟩ (sv u2.sl)).setCell ⟨gq, 5, none⟩ (sv u2.sh)).setCell ⟨gz, 0, none⟩ (uv v2.b.v)).setCell ⟨gz, 1, none⟩ (uv v2.b.m)).setCell ⟨gz, 2, none⟩ (uv v2.lo)).setCell ⟨gz, 3, none⟩ (uv v2.hi)).setCell ⟨gz, 4, none⟩ (sv v2.sl)).setCell ⟨gz, 5, none⟩ (sv v2.sh)) := (Bl_set (Bl_set (Bl_set (Bl_set (Bl_set (Bl_set hB (by first | omega | (simp; done) | (simp; omega)) _) (by first | omega | (simp; done) | (simp; omega)) _) (by first | omega | (simp; done) | (simp; omega)) _) (by first | omega | (simp; done) | (simp; omega)) _) (by first | omega | (simp; done) | (simp; omega)) _) (by first | omega | (simp; done) | (simp; omega)) _)
  generalize ((((((((((((w7.setCell ⟨gq, 0, none⟩ (uv u2.b.v)).setCell ⟨gq, 1, none⟩ (uv u2.b.m)).setCell ⟨gq, 2, none⟩ (uv u2.lo)).setCell ⟨gq, 3, none⟩ (uv u2.hi)).setCell ⟨gq, 4, none⟩ (sv u2.sl)).setCell ⟨gq, 5, none⟩ (sv u2.sh)).setCell ⟨gz, 0, none⟩ (uv v2.b.v)).setCell ⟨gz, 1, none⟩ (uv v2.b.m)).setCell ⟨gz, 2, none⟩ (uv v2.lo)).setCell ⟨gz, 3, none⟩ (uv v2.hi)).setCell ⟨gz, 4, none⟩ (sv v2.sl)).setCell ⟨gz, 5, none⟩ (sv v2.sh)) = w8 at *
  obtain ⟨ca0, ca1, ca2, ca3, ca4, ca5⟩ := cells6 Ba
  have fa := Ba.frozen; have la := Ba.lt
  obtain ⟨cp0, cp1, cp2, cp3, cp4, cp5⟩ := cells6 Bp
  have fp := Bp.frozen; have lp := Bp.lt
  obtain ⟨co0, co1, co2, co3, co4, co5⟩ := cells6 Bo
  have fo := Bo.frozen; have lo := Bo.lt
  obtain ⟨cq0, cq1, cq2, cq3, cq4, cq5⟩ := cells6 Bq
  have fq := Bq.frozen; have lq := Bq.lt
  obtain ⟨cz0, cz1, cz2, cz3, cz4, cz5⟩ := cells6 Bz
  have fz := Bz.frozen; have lz := Bz.lt
  go_wp2_with fail
  refine (tells_c _).mono ?_
  rintro e w9 ⟨rfl, hb⟩
  clear ca0 ca1 ca2 ca3 ca4 ca5 fa la
  clear cp0 cp1 cp2 cp3 cp4 cp5 fp lp
  clear co0 co1 co2 co3 co4 co5 fo lo
  clear cq0 cq1 cq2 cq3 cq4 cq5 fq lq
  clear cz0 cz1 cz2 cz3 cz4 cz5 fz lz
  replace Ba := (Ba).next hb
  replace Bp := (Bp).next hb
  replace Bo := (Bo).next hb
  replace Bq := (Bq).next hb
  replace Bz := (Bz).next hb
  replace hB : Below w.heap.size w w9 := by repeat (first | exact hB | (refine Bl_set ?_ (by first | omega | (simp; omega)) _) | apply Bl_alloc | (refine Bl_trans ?_ hb))
  clear hb
  obtain ⟨ca0, ca1, ca2, ca3, ca4, ca5⟩ := cells6 Ba
  have fa := Ba.frozen; have la := Ba.lt
  obtain ⟨cp0, cp1, cp2, cp3, cp4, cp5⟩ := cells6 Bp
  have fp := Bp.frozen; have lp := Bp.lt
  obtain ⟨co0, co1, co2, co3, co4, co5⟩ := cells6 Bo
  have fo := Bo.frozen; have lo := Bo.lt
  obtain ⟨cq0, cq1, cq2, cq3, cq4, cq5⟩ := cells6 Bq
  have fq := Bq.frozen; have lq := Bq.lt
  obtain ⟨cz0, cz1, cz2, cz3, cz4, cz5⟩ := cells6 Bz
  have fz := Bz.frozen; have lz := Bz.lt
  go_wp2_with fail
  refine (shast_c u1 x hu1 _).mono ?_
  rintro e w10 ⟨rfl, hb⟩
  clear ca0 ca1 ca2 ca3 ca4 ca5 fa la
  clear cp0 cp1 cp2 cp3 cp4 cp5 fp lp
  clear co0 co1 co2 co3 co4 co5 fo lo
  clear cq0 cq1 cq2 cq3 cq4 cq5 fq lq
  clear cz0 cz1 cz2 cz3 cz4 cz5 fz lz
  replace Ba := (Ba).next hb
  replace Bp := (Bp).next hb
  replace Bo := (Bo).next hb
  replace Bq := (Bq).next hb
  replace Bz := (Bz).next hb
  replace hB : Below w.heap.size w w10 := by repeat (first | exact hB | (refine Bl_set ?_ (by first | omega | (simp; omega)) _) | apply Bl_alloc | (refine Bl_trans ?_ hb))
  clear hb
  obtain ⟨ca0, ca1, ca2, ca3, ca4, ca5⟩ := cells6 Ba
  have fa := Ba.frozen; have la := Ba.lt
  obtain ⟨cp0, cp1, cp2, cp3, cp4, cp5⟩ := cells6 Bp
  have fp := Bp.frozen; have lp := Bp.lt
  obtain ⟨co0, co1, co2, co3, co4, co5⟩ := cells6 Bo
  have fo := Bo.frozen; have lo := Bo.lt
  obtain ⟨cq0, cq1, cq2, cq3, cq4, cq5⟩ := cells6 Bq
  have fq := Bq.frozen; have lq := Bq.lt
  obtain ⟨cz0, cz1, cz2, cz3, cz4, cz5⟩ := cells6 Bz
  have fz := Bz.frozen; have lz := Bz.lt
  go_wp2_with fail
  refine (shast_c u2 y hu2 _).mono ?_
  rintro e w11 ⟨rfl, hb⟩
  clear ca0 ca1 ca2 ca3 ca4 ca5 fa la
  clear cp0 cp1 cp2 cp3 cp4 cp5 fp lp
  clear co0 co1 co2 co3 co4 co5 fo lo
  clear cq0 cq1 cq2 cq3 cq4 cq5 fq lq
  clear cz0 cz1 cz2 cz3 cz4 cz5 fz lz
  replace Ba := (Ba).next hb
  replace Bp := (Bp).next hb
  replace Bo := (Bo).next hb
  replace Bq := (Bq).next hb
  replace Bz := (Bz).next hb
  replace hB : Below w.heap.size w w11 := by repeat (first | exact hB | (refine Bl_set ?_ (by first | omega | (simp; omega)) _) | apply Bl_alloc | (refine Bl_trans ?_ hb))
  clear hb
  obtain ⟨ca0, ca1, ca2, ca3, ca4, ca5⟩ := cells6 Ba
  have fa := Ba.frozen; have la := Ba.lt
  obtain ⟨cp0, cp1, cp2, cp3, cp4, cp5⟩ := cells6 Bp
  have fp := Bp.frozen; have lp := Bp.lt
  obtain ⟨co0, co1, co2, co3, co4, co5⟩ := cells6 Bo
  have fo := Bo.frozen; have lo := Bo.lt
  obtain ⟨cq0, cq1, cq2, cq3, cq4, cq5⟩ := cells6 Bq
  have fq := Bq.frozen; have lq := Bq.lt
  obtain ⟨cz0, cz1, cz2, cz3, cz4, cz5⟩ := cells6 Bz
  have fz := Bz.frozen; have lz := Bz.lt
  go_wp2_with fail
  refine (within_t u2 vA hi2 _).mono ?_
  rintro e w12 ⟨rfl, hb⟩
  clear ca0 ca1 ca2 ca3 ca4 ca5 fa la
  clear cp0 cp1 cp2 cp3 cp4 cp5 fp lp
  clear co0 co1 co2 co3 co4 co5 fo lo
  clear cq0 cq1 cq2 cq3 cq4 cq5 fq lq
  clear cz0 cz1 cz2 cz3 cz4 cz5 fz lz
  replace Ba := (Ba).next hb
  replace Bp := (Bp).next hb
  replace Bo := (Bo).next hb
  replace Bq := (Bq).next hb
  replace Bz := (Bz).next hb
  replace hB : Below w.heap.size w w12 := by repeat (first | exact hB | (refine Bl_set ?_ (by first | omega | (simp; omega)) _) | apply Bl_alloc | (refine Bl_trans ?_ hb))
  clear hb
  obtain ⟨ca0, ca1, ca2, ca3, ca4, ca5⟩ := cells6 Ba
  have fa := Ba.frozen; have la := Ba.lt
  obtain ⟨cp0, cp1, cp2, cp3, cp4, cp5⟩ := cells6 Bp
  have fp := Bp.frozen; have lp := Bp.lt
  obtain ⟨co0, co1, co2, co3, co4, co5⟩ := cells6 Bo
  have fo := Bo.frozen; have lo := Bo.lt
  obtain ⟨cq0, cq1, cq2, cq3, cq4, cq5⟩ := cells6 Bq
  have fq := Bq.frozen; have lq := Bq.lt
  obtain ⟨cz0, cz1, cz2, cz3, cz4, cz5⟩ := cells6 Bz
  have fz := Bz.frozen; have lz := Bz.lt
  cases H
  · go_wp2_with fail
    refine (within_t u1 vA hi1 _).mono ?_
    rintro e w13 ⟨rfl, hb⟩
    clear ca0 ca1 ca2 ca3 ca4 ca5 fa la
    clear cp0 cp1 cp2 cp3 cp4 cp5 fp lp
    clear co0 co1 co2 co3 co4 co5 fo lo
    clear cq0 cq1 cq2 cq3 cq4 cq5 fq lq
    clear cz0 cz1 cz2 cz3 cz4 cz5 fz lz
    replace Ba := (Ba).next hb
    replace Bp := (Bp).next hb
    replace Bo := (Bo).next hb
    replace Bq := (Bq).next hb
    replace Bz := (Bz).next hb
    replace hB : Below w.heap.size w w13 := by repeat (first | exact hB | (refine Bl_set ?_ (by first | omega | (simp; omega)) _) | apply Bl_alloc | (refine Bl_trans ?_ hb))
    clear hb
    obtain ⟨ca0, ca1, ca2, ca3, ca4, ca5⟩ := cells6 Ba
    have fa := Ba.frozen; have la := Ba.lt
    obtain ⟨cp0, cp1, cp2, cp3, cp4, cp5⟩ := cells6 Bp
    have fp := Bp.frozen; have lp := Bp.lt
    obtain ⟨co0, co1, co2, co3, co4, co5⟩ := cells6 Bo
    have fo := Bo.frozen; have lo := Bo.lt
    obtain ⟨cq0, cq1, cq2, cq3, cq4, cq5⟩ := cells6 Bq
    have fq := Bq.frozen; have lq := Bq.lt
    obtain ⟨cz0, cz1, cz2, cz3, cz4, cz5⟩ := cells6 Bz
    have fz := Bz.frozen; have lz := Bz.lt
    go_wp2
    go_ret
    exact ⟨rfl, by repeat (first | exact hB | (refine Bl_set ?_ (by first | omega | (simp; omega)) _) | apply Bl_alloc)⟩
  · go_wp2
    go_ret
    exact ⟨rfl, by repeat (first | exact hB | (refine Bl_set ?_ (by first | omega | (simp; omega)) _) | apply Bl_alloc)⟩
theorem walkN_BranchBits (x : Int) (l0 : 0 ≤ x) (h0 : x ≤ 255) (y : Int) (l1 : 0 ≤ y) (h1 : y ≤ 255) (w : World) : Calls Try.prog 14 #[.int .u8 x, .int .u8 y] w fun e w' => e = .returned (.bool true) ∧ Below w.heap.size w w' := by
  have key : ∀ z : Int, 0 ≤ z → z ≤ 255 → ∃ X : W, z = T X ∧ X.toNat < 256 := fun z a b => ⟨BitVec.ofNat 64 z.toNat, by unfold T; rw [BitVec.toNat_ofNat]; omega, by rw [BitVec.toNat_ofNat]; omega⟩
  obtain ⟨X, rfl, hX⟩ := key x l0 h0
  obtain ⟨Y, rfl, hY⟩ := key y l1 h1
  exact walk_BranchBits X Y hX hY w
namespace branchBits
set_option maxRecDepth 100000 in
theorem lifted (os : Os) (started : os.Started) (H : Type) (enc : TypeId × Value → H) :
    ReturnsInHanded {} Try.checked os 14 .any (Rows.branchBitsSpec.pre6 enc Try.prog Try.f14 Rows.branchBitsRow.domain false) (Rows.branchBitsSpec.post enc Try.prog Try.f14 false true false false) := by
  refine returnsInHanded_of_change (C := Try.checked) own started (by kernel_rfl) Try.func14
    (ChangeSpec.witness6 (enc := enc) (C := Try.checked) false ⟨#[], #[.int .u8 0, .int .u8 0], []⟩ 8 (by kernel_rfl) (by kernel_rfl) (by kernel_rfl) (by kernel_rfl)) ?_
  intro W base args ds gs before hval0 hW hcnd _
  have hval : ∀ (j : Nat) t v, Try.f14.params[j]? = some t → args[j]? = some v → Value.okWide Try.prog W .any base t v := hval0
  have hW' := hW
  obtain ⟨p, q, hA0, hV, rfl, hfz, hnd⟩ := hW
  have hA : DataW.TrodAll enc Try.prog W 0 (fun _ => true) true Try.f14.params.toList args.toList ds p := hA0
  rw [Try.params14] at hA hval
  obtain ⟨v0, vs0, d0, ds0, p0, q0, hargs, rfl, rfl, h0, r0⟩ := trodAll_cons hA
  obtain ⟨v1, vs1, d1, ds1, p1, q1, rfl, rfl, rfl, h1, r1⟩ := trodAll_cons r0
  obtain ⟨rfl, rfl, rfl⟩ := trodAll_nil r1
  obtain rfl : args = #[v0, v1] := by cases args; simp_all
  obtain ⟨rfl, rfl⟩ := trodVars_none hV
  have lt0 : ∀ x ∈ p0, x.block < W.heap.size := by obtain ⟨m, hm⟩ := h0; exact DataW.trod_lt m _ _ _ hm
  obtain ⟨x0, rfl, lo0, hi0⟩ := open_u8 Try.underlying5 (hval 0 5 v0 rfl rfl)
  have lt1 : ∀ x ∈ p1, x.block < W.heap.size := by obtain ⟨m, hm⟩ := h1; exact DataW.trod_lt m _ _ _ hm
  obtain ⟨x1, rfl, lo1, hi1⟩ := open_u8 Try.underlying5 (hval 1 5 v1 rfl rfl)
  refine (walkN_BranchBits x0 lo0 hi0 x1 lo1 hi1 W).mono fun e W' ⟨he, bel⟩ => ?_
  subst he
  exact ⟨_, rfl, _, _, _, [], _, [], hW', trodAll_mk1 (shut_bool Try.underlying4 _), (trodAll_cons_mk (Below.trod laidOut (by kernel_rfl) (of_decide_eq_true (by kernel_rfl)) h0 bel lt0) (trodAll_cons_mk (Below.trod laidOut (by kernel_rfl) (of_decide_eq_true (by kernel_rfl)) h1 bel lt1) trodAll_mk0)), rfl, bel.frame _, fun h => by cases h⟩
theorem over : Rows.branchBitsRow.holds Try.pinned (OpenSpec.ofChange Rows.branchBitsSpec) :=
  OpenClaim.holds_of_wide 14 Try.f14 rfl rfl rfl rfl rfl rfl rfl ⟨rfl, rfl, rfl, rfl, rfl⟩ rfl rfl rfl rfl rfl (by kernel_rfl) Try.func14 (by kernel_rfl)
    (of_decide_eq_true (by kernel_rfl)) (by unfold Func.isWrapper; first | (rw [if_pos (by decide +kernel)]; kernel_rfl) | (rw [if_neg (by decide +kernel)]; exact ⟨rfl, rfl⟩))
    (fun os started H enc _ => lifted os started H enc)
/-- The given statement. -/
theorem proved : Rows.BranchBitsSaid := over
#print axioms proved
end branchBits
end Go.Proofs.Ytmghpoagpiljhab
