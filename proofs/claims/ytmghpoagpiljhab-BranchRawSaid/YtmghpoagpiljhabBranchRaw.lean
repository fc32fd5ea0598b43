/- BranchRaw: for all ranges, also ones without numbers, and two numbers the law returns true, and its arguments read as before. No condition. -/
import Derived.Test.YtmghpoagpiljhabOpen
import Derived.Test.YtmghpoagpiljhabBr7
set_option linter.unusedSimpArgs false
namespace Go.Proofs.Ytmghpoagpiljhab
open Go.ChangeShapes Go.WideShapes Go.ChangeAt Go.RowKit
open PlainTnum (N)
open PlainScalar (Rng)
set_option linter.unusedVariables false
theorem open_rng {P : Program} {w : World} {r : Reach} {base : Nat} {t u i : TypeId} {v : Value} (hu : P.underlying u = some (.int .u64)) (hi : P.underlying i = some (.int .i64)) (hs : (match P.underlying t with | some (.struct _) | some (.array _ _) => true | _ => false) = true)
    (hc : P.cellTypes P.depth t = some [u, u, u, u, i, i]) (hn : P.cellsOf t = 6) (hv : Value.okWide P w r base t v) : ∃ a : Rng, v = rv a := by
  obtain ⟨cs, rfl, hsz, hcell⟩ := open_flat hs hc hn hv
  obtain ⟨l⟩ := cs
  match l, hsz with
  | [c0, c1, c2, c3, c4, c5], _ =>
    obtain ⟨x0, rfl⟩ := cell_u64 hu (hcell 0 c0 u rfl rfl)
    obtain ⟨x1, rfl⟩ := cell_u64 hu (hcell 1 c1 u rfl rfl)
    obtain ⟨x2, rfl⟩ := cell_u64 hu (hcell 2 c2 u rfl rfl)
    obtain ⟨x3, rfl⟩ := cell_u64 hu (hcell 3 c3 u rfl rfl)
    obtain ⟨x4, rfl⟩ := cell_i64 hi (hcell 4 c4 i rfl rfl)
    obtain ⟨x5, rfl⟩ := cell_i64 hi (hcell 5 c5 i rfl rfl)
    exact ⟨⟨⟨x0, x1⟩, x2, x3, x4, x5⟩, rfl⟩
set_option maxRecDepth 100000 in
set_option maxHeartbeats 3200000 in
theorem walk_BranchRaw (a b : Rng) (p q : W) (w : World) : Calls Try.prog 11 #[rv a, rv b, .agg #[uv p, uv q]] w fun e w' => e = .returned (.bool true) ∧ Below w.heap.size w w' := by
  obtain ⟨A, e_A⟩ : ∃ z' : Bool, z' = PlainScalar.has a p := ⟨_, rfl⟩
  have k_A : ∀ w : World, Calls Try.prog 41 #[rv a, uv p] w fun e w' => e = .returned (.bool A) ∧ Below w.heap.size w w' := fun w => by rw [e_A]; exact r14has_c a p w
  have h_A : A = true → PlainScalar.Has a p := fun h => PlainScalar.has_iff.1 (by rw [← e_A]; exact h)
  clear e_A
  obtain ⟨B, e_B⟩ : ∃ z' : Bool, z' = PlainScalar.has b q := ⟨_, rfl⟩
  have k_B : ∀ w : World, Calls Try.prog 41 #[rv b, uv q] w fun e w' => e = .returned (.bool B) ∧ Below w.heap.size w w' := fun w => by rw [e_B]; exact r14has_c b q w
  have h_B : B = true → PlainScalar.Has b q := fun h => PlainScalar.has_iff.1 (by rw [← e_B]; exact h)
  clear e_B
  go_enter Try.func11, Try.ntmps11
  go_wp2_with fail
  obtain ⟨ga, hga⟩ : ∃ g, g = w.heap.size := ⟨_, rfl⟩
  obtain ⟨gb, hgb⟩ : ∃ g, g = w.heap.size + 1 := ⟨_, rfl⟩
  obtain ⟨gn, hgn⟩ : ∃ g, g = w.heap.size + 1 + 1 := ⟨_, rfl⟩
  have Ba : Blk (((w.alloc (.cells #[uv a.b.v, uv a.b.m, uv a.lo, uv a.hi, sv a.sl, sv a.sh] 53)).alloc (.cells #[uv b.b.v, uv b.b.m, uv b.lo, uv b.hi, sv b.sl, sv b.sh] 53)).alloc (.cells #[uv p, uv q] 47)) (w.heap.size) 53 #[uv a.b.v, uv a.b.m, uv a.lo, uv a.hi, sv a.sl, sv a.sh] := (((Blk.new w 53 #[uv a.b.v, uv a.b.m, uv a.lo, uv a.hi, sv a.sl, sv a.sh])).alloc _).alloc _
  have Bb : Blk (((w.alloc (.cells #[uv a.b.v, uv a.b.m, uv a.lo, uv a.hi, sv a.sl, sv a.sh] 53)).alloc (.cells #[uv b.b.v, uv b.b.m, uv b.lo, uv b.hi, sv b.sl, sv b.sh] 53)).alloc (.cells #[uv p, uv q] 47)) (w.heap.size + 1) 53 #[uv b.b.v, uv b.b.m, uv b.lo, uv b.hi, sv b.sl, sv b.sh] := ((by simpa using Blk.new (w.alloc (.cells #[uv a.b.v, uv a.b.m, uv a.lo, uv a.hi, sv a.sl, sv a.sh] 53)) 53 #[uv b.b.v, uv b.b.m, uv b.lo, uv b.hi, sv b.sl, sv b.sh] : Blk _ (w.heap.size + 1) 53 #[uv b.b.v, uv b.b.m, uv b.lo, uv b.hi, sv b.sl, sv b.sh])).alloc _
  have Bn : Blk (((w.alloc (.cells #[uv a.b.v, uv a.b.m, uv a.lo, uv a.hi, sv a.sl, sv a.sh] 53)).alloc (.cells #[uv b.b.v, uv b.b.m, uv b.lo, uv b.hi, sv b.sl, sv b.sh] 53)).alloc (.cells #[uv p, uv q] 47)) (w.heap.size + 1 + 1) 47 #[uv p, uv q] := (by simpa using Blk.new ((w.alloc (.cells #[uv a.b.v, uv a.b.m, uv a.lo, uv a.hi, sv a.sl, sv a.sh] 53)).alloc (.cells #[uv b.b.v, uv b.b.m, uv b.lo, uv b.hi, sv b.sl, sv b.sh] 53)) 47 #[uv p, uv q] : Blk _ (w.heap.size + 1 + 1) 47 #[uv p, uv q])
  have hB : Below w.heap.size w (((w.alloc (.cells #[uv a.b.v, uv a.b.m, uv a.lo, uv a.hi, sv a.sl, sv a.sh] 53)).alloc (.cells #[uv b.b.v, uv b.b.m, uv b.lo, uv b.hi, sv b.sl, sv b.sh] 53)).alloc (.cells #[uv p, uv q] 47)) := (Bl_alloc (Bl_alloc (Bl_alloc (Bl_refl w) _) _) _)
  clear hga
  clear ga
  clear hgb
  clear gb
  clear hgn
  clear gn
  generalize (((w.alloc (.cells #[uv a.b.v, uv a.b.m, uv a.lo, uv a.hi, sv a.sl, sv a.sh] 53)).alloc (.cells #[uv b.b.v, uv b.b.m, uv b.lo, uv b.hi, sv b.sl, sv b.sh] 53)).alloc (.cells #[uv p, uv q] 47)) = w1 at *
  obtain ⟨ca0, ca1, ca2, ca3, ca4, ca5⟩ := cells6 Ba
  have fa := Ba.frozen; have la := Ba.lt
  obtain ⟨cb0, cb1, cb2, cb3, cb4, cb5⟩ := cells6 Bb
  have fb := Bb.frozen; have lb := Bb.lt
  obtain ⟨cn0, cn1⟩ := cells2 Bn
  have fn := Bn.frozen; have ln := Bn.lt
  clear ca0 ca1 ca2 ca3 ca4 ca5 fa la
  clear cb0 cb1 cb2 cb3 cb4 cb5 fb lb
  clear cn0 cn1 fn ln
  go_loopg [7] 15 (fun m i wr => ∃ j : Nat, j ≤ 15 ∧ m + j = 15 ∧ i = .int .i64 (j : Int) ∧ Below w.heap.size w wr ∧ Blk wr (w.heap.size) 53 #[uv a.b.v, uv a.b.m, uv a.lo, uv a.hi, sv a.sl, sv a.sh] ∧ Blk wr (w.heap.size + 1) 53 #[uv b.b.v, uv b.b.m, uv b.lo, uv b.hi, sv b.sl, sv b.sh] ∧ Blk wr (w.heap.size + 1 + 1) 47 #[uv p, uv q])
  case atStart => exact ⟨0, by omega, rfl, rfl, hB, Ba, Bb, Bn⟩
  case round =>
    clear hB Ba Bb Bn
    obtain ⟨j, hj, hgk, rfl, hB, Ba, Bb, Bn⟩ := hrel
    obtain ⟨ca0, ca1, ca2, ca3, ca4, ca5⟩ := cells6 Ba
    have fa := Ba.frozen; have la := Ba.lt
    obtain ⟨cb0, cb1, cb2, cb3, cb4, cb5⟩ := cells6 Bb
    have fb := Bb.frozen; have lb := Bb.lt
    obtain ⟨cn0, cn1⟩ := cells2 Bn
    have fn := Bn.frozen; have ln := Bn.lt
    cases qj : decide ((j : Int) < 15)
    · go_wp2_with fail
      refine (tells_c _).mono ?_
      rintro e w2 ⟨rfl, hb⟩
      clear ca0 ca1 ca2 ca3 ca4 ca5 fa la
      clear cb0 cb1 cb2 cb3 cb4 cb5 fb lb
      clear cn0 cn1 fn ln
      replace Ba := (Ba).next hb
      replace Bb := (Bb).next hb
      replace Bn := (Bn).next hb
      replace hB : Below w.heap.size w w2 := by repeat (first | exact hB | (refine Bl_set ?_ (by first | omega | (simp; omega)) _) | apply Bl_alloc | (refine Bl_trans ?_ hb))
      clear hb
      obtain ⟨ca0, ca1, ca2, ca3, ca4, ca5⟩ := cells6 Ba
      have fa := Ba.frozen; have la := Ba.lt
      obtain ⟨cb0, cb1, cb2, cb3, cb4, cb5⟩ := cells6 Bb
      have fb := Bb.frozen; have lb := Bb.lt
      obtain ⟨cn0, cn1⟩ := cells2 Bn
      have fn := Bn.frozen; have ln := Bn.lt
      go_wp2
      go_ret
      exact ⟨rfl, by repeat (first | exact hB | (refine Bl_set ?_ (by first | omega | (simp; omega)) _) | apply Bl_alloc)⟩
    · have hj15 : (j : Int) < 15 := of_decide_eq_true qj
      go_wp2_with fail
      clear ca0 ca1 ca2 ca3 ca4 ca5 fa la
      clear cb0 cb1 cb2 cb3 cb4 cb5 fb lb
      clear cn0 cn1 fn ln
      go_loopg [8] 4 (fun m i wr => ∃ k : Nat, k ≤ 4 ∧ m + k = 4 ∧ i = .int .i64 (k : Int) ∧ Below w.heap.size w wr ∧ Blk wr (w.heap.size) 53 #[uv a.b.v, uv a.b.m, uv a.lo, uv a.hi, sv a.sl, sv a.sh] ∧ Blk wr (w.heap.size + 1) 53 #[uv b.b.v, uv b.b.m, uv b.lo, uv b.hi, sv b.sl, sv b.sh] ∧ Blk wr (w.heap.size + 1 + 1) 47 #[uv p, uv q])
      case atStart => exact ⟨0, by omega, rfl, rfl, hB, Ba, Bb, Bn⟩
      case round =>
        clear hB Ba Bb Bn
        obtain ⟨k, hk, hgk2, rfl, hB, Ba, Bb, Bn⟩ := hrel
        obtain ⟨ca0, ca1, ca2, ca3, ca4, ca5⟩ := cells6 Ba
        have fa := Ba.frozen; have la := Ba.lt
        obtain ⟨cb0, cb1, cb2, cb3, cb4, cb5⟩ := cells6 Bb
        have fb := Bb.frozen; have lb := Bb.lt
        obtain ⟨cn0, cn1⟩ := cells2 Bn
        have fn := Bn.frozen; have ln := Bn.lt
        cases qk : decide ((k : Int) < 4)
        · go_wp2_with fail
          go_roundg (14 - j)
          case measure => omega
          case rel => exact ⟨j + 1, by omega, by omega, by go_num, hB, Ba, Bb, Bn⟩
        · have hk4 : (k : Int) < 4 := of_decide_eq_true qk
          obtain ⟨l, e_l⟩ : ∃ z' : Bool, z' = ((k : Int) % 2 == 0) := ⟨_, rfl⟩
          obtain ⟨h, e_h⟩ : ∃ z' : Bool, z' = ((k : Int) / 2 == 0) := ⟨_, rfl⟩
          have hl1 : (k : Int).tmod 2 = (k : Int) % 2 := Int.tmod_eq_emod_of_nonneg (by omega)
          have hh1 : IntKind.i64.wrap ((k : Int).tdiv 2) = (k : Int) / 2 := IntWalk.i64_quo _ _ (by omega)
          have hl2 := e_l.symm; have hh2 := e_h.symm; clear e_l e_h
          have k_R := refine_c (j : Int) l a b h
          have hr : A = true → B = true → PlainBranch.isOp (j : Int) → PlainBranch.holds (j : Int) l p q = h → (PlainBranch.refine (j : Int) l a b h).2 = true ∧ PlainScalar.Has (PlainBranch.refine (j : Int) l a b h).1.1 p ∧ PlainScalar.Has (PlainBranch.refine (j : Int) l a b h).1.2 q := fun x y o e => by have := PlainBranch.refine_has (op := (j : Int)) (long := l) o (h_A x) (h_B y); rwa [e] at this
          generalize PlainBranch.refine (j : Int) l a b h = R at k_R hr
          obtain ⟨⟨u, v⟩, ok⟩ := R
          replace k_R : ∀ w : World, Calls Try.prog 38 #[.int .i64 (j : Int), .bool l, rv a, rv b, .bool h] w fun e w' => e = .returned (.tuple #[rv u, rv v, .bool ok]) ∧ Below w.heap.size w w' := k_R
          replace hr : A = true → B = true → PlainBranch.isOp (j : Int) → PlainBranch.holds (j : Int) l p q = h → ok = true ∧ PlainScalar.Has u p ∧ PlainScalar.Has v q := hr
          have k_H := rholds_c (j : Int) l p q
          generalize PlainBranch.holds (j : Int) l p q = H at k_H hr
          go_wp2_with fail
          clear ca0 ca1 ca2 ca3 ca4 ca5; obtain ⟨ca0, ca1, ca2, ca3, ca4, ca5⟩ := lcells6 Ba
          clear cb0 cb1 cb2 cb3 cb4 cb5; obtain ⟨cb0, cb1, cb2, cb3, cb4, cb5⟩ := lcells6 Bb
          clear cn0 cn1; obtain ⟨cn0, cn1⟩ := lcells2 Bn
          refine wp_region_mixL 14 (fun k => k == 10 || k == 11) (fun _ => #[.int .u64 0, .int .u64 0, .int .u64 0, .int .u64 0, .int .i64 0, .int .i64 0]) (by kernel_rfl) (by kernel_rfl) (fun d _ _ _ _ h => by cases d <;> exact h) (fun o t ho ht => by
            simp at ho
            rcases ho with rfl | rfl | rfl | rfl | rfl | rfl | rfl | rfl | rfl | rfl | rfl | rfl | rfl | rfl <;> first | (cases ht; done) | (obtain rfl := Option.some.inj ht; exact fun ρ w => new_rng14 ht ρ w)) ?_
          simp only [List.take_succ_cons, List.take_zero, List.drop_succ_cons, List.drop_zero]
          repeat (refine wpMixL_step (fun K hK => ?_); go_simp; first | (refine hK _ ?_; clear hK K) | (apply Exists.intro; refine ⟨fun g => ?_, hK _ ?_⟩; ((with_reducible refine Calls.mono (to15_c a g.w) ?_); exact fun _ _ h => h); clear hK K) | (apply Exists.intro; refine ⟨fun g => ?_, hK _ ?_⟩; ((with_reducible refine Calls.mono (to15_c b g.w) ?_); exact fun _ _ h => h); clear hK K) | (apply Exists.intro; refine ⟨fun g => ?_, hK _ ?_⟩; ((with_reducible refine Calls.mono (k_R g.w) ?_); exact fun _ _ h => h); clear hK K))
          refine wpMixL_nil ?_
          intro G w2 hgr hblk hdist
          have hb : Below wr.heap.size wr w2 := hgr
          replace Ba := Ba.next hb
          replace Bb := Bb.next hb
          replace Bn := Bn.next hb
          obtain ⟨Bx, hlx⟩ := hblk 12 _ rfl
          obtain ⟨By, hly⟩ := hblk 13 _ rfl
          have hdxy := hdist 12 13 _ _ rfl rfl (by decide)
          have hgx : w.heap.size ≤ G 12 := Nat.le_trans hB.size hlx
          have hnax : w.heap.size ≠ G 12 := Nat.ne_of_lt (Nat.lt_of_lt_of_le la hlx)
          have hnbx : w.heap.size + 1 ≠ G 12 := Nat.ne_of_lt (Nat.lt_of_lt_of_le lb hlx)
          have hnnx : w.heap.size + 1 + 1 ≠ G 12 := Nat.ne_of_lt (Nat.lt_of_lt_of_le ln hlx)
          clear hlx
          have hgy : w.heap.size ≤ G 13 := Nat.le_trans hB.size hly
          have hnay : w.heap.size ≠ G 13 := Nat.ne_of_lt (Nat.lt_of_lt_of_le la hly)
          have hnby : w.heap.size + 1 ≠ G 13 := Nat.ne_of_lt (Nat.lt_of_lt_of_le lb hly)
          have hnny : w.heap.size + 1 + 1 ≠ G 13 := Nat.ne_of_lt (Nat.lt_of_lt_of_le ln hly)
          clear hly
          clear ca0 ca1 ca2 ca3 ca4 ca5 fa la
          clear cb0 cb1 cb2 cb3 cb4 cb5 fb lb
          clear cn0 cn1 fn ln
          replace hB : Below w.heap.size w w2 := Bl_trans hB hb
          simp only [putAll, isAlloc, Act.put]
          generalize G 12 = gx at *
          generalize G 13 = gy at *
          clear hb hgr hblk hdist
          obtain ⟨ca0, ca1, ca2, ca3, ca4, ca5⟩ := cells6 Ba
          have fa := Ba.frozen; have la := Ba.lt
          obtain ⟨cb0, cb1, cb2, cb3, cb4, cb5⟩ := cells6 Bb
          have fb := Bb.frozen; have lb := Bb.lt
          obtain ⟨cn0, cn1⟩ := cells2 Bn
          have fn := Bn.frozen; have ln := Bn.lt
          obtain ⟨cx0, cx1, cx2, cx3, cx4, cx5⟩ := cells6 Bx
          have fx := Bx.frozen; have lx := Bx.lt
          obtain ⟨cy0, cy1, cy2, cy3, cy4, cy5⟩ := cells6 By
          have fy := By.frozen; have ly := By.lt
          go_upto_region 9 with fail
          clear ca0 ca1 ca2 ca3 ca4 ca5 fa la
          clear cb0 cb1 cb2 cb3 cb4 cb5 fb lb
          clear cn0 cn1 fn ln
          clear cx0 cx1 cx2 cx3 cx4 cx5 fx lx
          clear cy0 cy1 cy2 cy3 cy4 cy5 fy ly
          replace Ba : Blk ((((((w2.setCell ⟨gx, 0, none⟩ (uv u.b.v)).setCell ⟨gx, 1, none⟩ (uv u.b.m)).setCell ⟨gx, 2, none⟩ (uv u.lo)).setCell ⟨gx, 3, none⟩ (uv u.hi)).setCell ⟨gx, 4, none⟩ (sv u.sl)).setCell ⟨gx, 5, none⟩ (sv u.sh)) (w.heap.size) 53 #[uv a.b.v, uv a.b.m, uv a.lo, uv a.hi, sv a.sl, sv a.sh] := ((((((Ba.far (by first | (simp; done) | (simp; omega) | (simp [*]; done) | (simp only [ne_eq]; constructor <;> omega)) _).far (by first | (simp; done) | (simp; omega) | (simp [*]; done) | (simp only [ne_eq]; constructor <;> omega)) _).far (by first | (simp; done) | (simp; omega) | (simp [*]; done) | (simp only [ne_eq]; constructor <;> omega)) _).far (by first | (simp; done) | (simp; omega) | (simp [*]; done) | (simp only [ne_eq]; constructor <;> omega)) _).far (by first | (simp; done) | (simp; omega) | (simp [*]; done) | (simp only [ne_eq]; constructor <;> omega)) _).far (by first | (simp; done) | (simp; omega) | (simp [*]; done) | (simp only [ne_eq]; constructor <;> omega)) _)
          replace Bb : Blk ((((((w2.setCell ⟨gx, 0, none⟩ (uv u.b.v)).setCell ⟨gx, 1, none⟩ (uv u.b.m)).setCell ⟨gx, 2, none⟩ (uv u.lo)).setCell ⟨gx, 3, none⟩ (uv u.hi)).setCell ⟨gx, 4, none⟩ (sv u.sl)).setCell ⟨gx, 5, none⟩ (sv u.sh)) (w.heap.size + 1) 53 #[uv b.b.v, uv b.b.m, uv b.lo, uv b.hi, sv b.sl, sv b.sh] := ((((((Bb.far (by first | (simp; done) | (simp; omega) | (simp [*]; done) | (simp only [ne_eq]; constructor <;> omega)) _).far (by first | (simp; done) | (simp; omega) | (simp [*]; done) | (simp only [ne_eq]; constructor <;> omega)) _).far (by first | (simp; done) | (simp; omega) | (simp [*]; done) | (simp only [ne_eq]; constructor <;> omega)) _).far (by first | (simp; done) | (simp; omega) | (simp [*]; done) | (simp only [ne_eq]; constructor <;> omega)) _).far (by first | (simp; done) | (simp; omega) | (simp [*]; done) | (simp only [ne_eq]; constructor <;> omega)) _).far (by first | (simp; done) | (simp; omega) | (simp [*]; done) | (simp only [ne_eq]; constructor <;> omega)) _)
          replace Bn : Blk ((((((w2.setCell ⟨gx, 0, none⟩ (uv u.b.v)).setCell ⟨gx, 1, none⟩ (uv u.b.m)).setCell ⟨gx, 2, none⟩ (uv u.lo)).setCell ⟨gx, 3, none⟩ (uv u.hi)).setCell ⟨gx, 4, none⟩ (sv u.sl)).setCell ⟨gx, 5, none⟩ (sv u.sh)) (w.heap.size + 1 + 1) 47 #[uv p, uv q] := ((((((Bn.far (by first | (simp; done) | (simp; omega) | (simp [*]; done) | (simp only [ne_eq]; constructor <;> omega)) _).far (by first | (simp; done) | (simp; omega) | (simp [*]; done) | (simp only [ne_eq]; constructor <;> omega)) _).far (by first | (simp; done) | (simp; omega) | (simp [*]; done) | (simp only [ne_eq]; constructor <;> omega)) _).far (by first | (simp; done) | (simp; omega) | (simp [*]; done) | (simp only [ne_eq]; constructor <;> omega)) _).far (by first | (simp; done) | (simp; omega) | (simp [*]; done) | (simp only [ne_eq]; constructor <;> omega)) _).far (by first | (simp; done) | (simp; omega) | (simp [*]; done) | (simp only [ne_eq]; constructor <;> omega)) _)
          replace Bx : Blk ((((((w2.setCell ⟨gx, 0, none⟩ (uv u.b.v)).setCell ⟨gx, 1, none⟩ (uv u.b.m)).setCell ⟨gx, 2, none⟩ (uv u.lo)).setCell ⟨gx, 3, none⟩ (uv u.hi)).setCell ⟨gx, 4, none⟩ (sv u.sl)).setCell ⟨gx, 5, none⟩ (sv u.sh)) (gx) 27 #[uv u.b.v, uv u.b.m, uv u.lo, uv u.hi, sv u.sl, sv u.sh] := ((((((Bx.set_ 0 _).set_ 1 _).set_ 2 _).set_ 3 _).set_ 4 _).set_ 5 _)
          replace By : Blk ((((((w2.setCell ⟨gx, 0, none⟩ (uv u.b.v)).setCell ⟨gx, 1, none⟩ (uv u.b.m)).setCell ⟨gx, 2, none⟩ (uv u.lo)).setCell ⟨gx, 3, none⟩ (uv u.hi)).setCell ⟨gx, 4, none⟩ (sv u.sl)).setCell ⟨gx, 5, none⟩ (sv u.sh)) (gy) 27 #[.int .u64 0, .int .u64 0, .int .u64 0, .int .u64 0, .int .i64 0, .int .i64 0] := ((((((By.far (by first | (simp; done) | (simp; omega) | (simp [*]; done) | (simp only [ne_eq]; constructor <;> omega)) _).far (by first | (simp; done) | (simp; omega) | (simp [*]; done) | (simp only [ne_eq]; constructor <;> omega)) _).far (by first | (simp; done) | (simp; omega) | (simp [*]; done) | (simp only [ne_eq]; constructor <;> omega)) _).far (by first | (simp; done) | (simp; omega) | (simp [*]; done) | (simp only [ne_eq]; constructor <;> omega)) _).far (by first | (simp; done) | (simp; omega) | (simp [*]; done) | (simp only [ne_eq]; constructor <;> omega)) _).far (by first | (simp; done) | (simp; omega) | (simp [*]; done) | (simp only [ne_eq]; constructor <;> omega)) _)
          replace hB : Below w.heap.size w ((((((w2.setCell ⟨gx, 0, none⟩ (uv u.b.v)).setCell ⟨gx, 1, none⟩ (uv u.b.m)).setCell ⟨gx, 2, none⟩ (uv u.lo)).setCell ⟨gx, 3, none⟩ (uv u.hi)).setCell ⟨gx, 4, none⟩ (sv u.sl)).setCell ⟨gx, 5, none⟩ (sv u.sh)) := (Bl_set (Bl_set (Bl_set (Bl_set (Bl_set (Bl_set hB (by first | omega | (simp; done) | (simp; omega)) _) (by first | omega | (simp; done) | (simp; omega)) _) (by first | omega | (simp; done) | (simp; omega)) _) (by first | omega | (simp; done) | (simp; omega)) _) (by first | omega | (simp; done) | (simp; omega)) _) (by first | omega | (simp; done) | (simp; omega)) _)
          replace Ba : Blk ((((((((((((w2.setCell ⟨gx, 0, none⟩ (uv u.b.v)).setCell ⟨gx, 1, none⟩ (uv u.b.m)).setCell ⟨gx, 2, none⟩ (uv u.lo)).setCell ⟨gx, 3, none⟩ (uv u.hi)).setCell ⟨gx, 4, none⟩ (sv u.sl)).setCell ⟨gx, 5, none⟩ (sv u.sh)).setCell ⟨gy, 0, none⟩ (uv v.b.v)).setCell ⟨gy, 1, none⟩ (uv v.b.m)).setCell ⟨gy, 2, none⟩ (uv v.lo)).setCell ⟨gy, 3, none⟩ (uv v.hi)).setCell ⟨gy, 4, none⟩ (sv v.sl)).setCell ⟨gy, 5, none⟩ (sv v.sh)) (w.heap.size) 53 #[uv a.b.v, uv a.b.m, uv a.lo, uv a.hi, sv a.sl, sv a.sh] := ((((((Ba.far (by first | (simp; done) | (simp; omega) | (simp [*]; done) | (simp only [ne_eq]; constructor <;> omega)) _).far (by first | (simp; done) | (simp; omega) | (simp [*]; done) | (simp only [ne_eq]; constructor <;> omega)) _).far (by first | (simp; done) | (simp; omega) | (simp [*]; done) | (simp only [ne_eq]; constructor <;> omega)) _).far (by first | (simp; done) | (simp; omega) | (simp [*]; done) | (simp only [ne_eq]; constructor <;> omega)) _).far (by first | (simp; done) | (simp; omega) | (simp [*]; done) | (simp only [ne_eq]; constructor <;> omega)) _).far (by first | (simp; done) | (simp; omega) | (simp [*]; done) | (simp only [ne_eq]; constructor <;> omega)) _)
          replace Bb : Blk ((((((((((((w2.setCell ⟨gx, 0, none⟩ (uv u.b.v)).setCell ⟨gx, 1, none⟩ (uv u.b.m)).setCell ⟨gx, 2, none⟩ (uv u.lo)).setCell ⟨gx, 3, none⟩ (uv u.hi)).setCell ⟨gx, 4, none⟩ (sv u.sl)).setCell ⟨gx, 5, none⟩ (sv u.sh)).setCell ⟨gy, 0, none⟩ (uv v.b.v)).setCell ⟨gy, 1, none⟩ (uv v.b.m)).setCell ⟨gy, 2, none⟩ (uv v.lo)).setCell ⟨gy, 3, none⟩ (uv v.hi)).setCell ⟨gy, 4, none⟩ (sv v.sl)).setCell ⟨gy, 5, none⟩ (sv v.sh)) (w.heap.size + 1) 53 #[uv b.b.v, uv b.b.m, uv b.lo, uv b.hi, sv b.sl, sv b.sh] := ((((((Bb.far (by first | (simp; done) | (simp; omega) | (simp [*]; done) | (simp only [ne_eq]; constructor <;> omega)) _).far (by first | (simp; done) | (simp; omega) | (simp [*]; done) | (simp only [ne_eq]; constructor <;> omega)) _).far (by first | (simp; done) | (simp; omega) | (simp [*]; done) | (simp only [ne_eq]; constructor <;> omega)) _).far (by first | (simp; done) | (simp; omega) | (simp [*]; done) | (simp only [ne_eq]; constructor <;> omega)) _).far (by first | (simp; done) | (simp; omega) | (simp [*]; done) | (simp only [ne_eq]; constructor <;> omega)) _).far (by first | (simp; done) | (simp; omega) | (simp [*]; done) | (simp only [ne_eq]; constructor <;> omega)) _)
          replace Bn : Blk ((((((((((((w2.setCell ⟨gx, 0, none⟩ (uv u.b.v)).setCell ⟨gx, 1, none⟩ (uv u.b.m)).setCell ⟨gx, 2, none⟩ (uv u.lo)).setCell ⟨gx, 3, none⟩ (uv u.hi)).setCell ⟨gx, 4, none⟩ (sv u.sl)).setCell ⟨gx, 5, none⟩ (sv u.sh)).setCell ⟨gy, 0, none⟩ (uv v.b.v)).setCell ⟨gy, 1, none⟩ (uv v.b.m)).setCell ⟨gy, 2, none⟩ (uv v.lo)).setCell ⟨gy, 3, none⟩ (uv v.hi)).setCell ⟨gy, 4, none⟩ (sv v.sl)).setCell ⟨gy, 5, none⟩ (sv v.sh)) (w.heap.size + 1 + 1) 47 #[uv p, uv q] := ((((((Bn.far (by first | (simp; done) | (simp; omega) | (simp [*]; done) | (simp only [ne_eq]; constructor <;> omega)) _).far (by first | (simp; done) | (simp; omega) | (simp [*]; done) | (simp only [ne_eq]; constructor <;> omega)) _).far (by first | (simp; done) | (simp; omega) | (simp [*]; done) | (simp only [ne_eq]; constructor <;> omega)) _).far (by first | (simp; done) | (simp; omega) | (simp [*]; done) | (simp only [ne_eq]; constructor <;> omega)) _).far (by first | (simp; done) | (simp; omega) | (simp [*]; done) | (simp only [ne_eq]; constructor <;> omega)) _).far (by first | (simp; done) | (simp; omega) | (simp [*]; done) | (simp only [ne_eq]; constructor <;> omega)) _)
          replace Bx : Blk ((((((((((((w2.setCell ⟨gx, 0, none⟩ (uv u.b.v)).setCell ⟨gx, 1, none⟩ (uv u.b.m)).setCell ⟨gx, 2, none⟩ (uv u.lo)).setCell ⟨gx, 3, none⟩ (uv u.hi)).setCell ⟨gx, 4, none⟩ (sv u.sl)).setCell ⟨gx, 5, none⟩ (sv u.sh)).setCell ⟨gy, 0, none⟩ (uv v.b.v)).setCell ⟨gy, 1, none⟩ (uv v.b.m)).setCell ⟨gy, 2, none⟩ (uv v.lo)).setCell ⟨gy, 3, none⟩ (uv v.hi)).setCell ⟨gy, 4, none⟩ (sv v.sl)).setCell ⟨gy, 5, none⟩ (sv v.sh)) (gx) 27 #[uv u.b.v, uv u.b.m, uv u.lo, uv u.hi, sv u.sl, sv u.sh] := ((((((Bx.far (by first | (simp; done) | (simp; omega) | (simp [*]; done) | (simp only [ne_eq]; constructor <;> omega)) _).far (by first | (simp; done) | (simp; omega) | (simp [*]; done) | (simp only [ne_eq]; constructor <;> omega)) _).far (by first | (simp; done) | (simp; omega) | (simp [*]; done) | (simp only [ne_eq]; constructor <;> omega)) _).far (by first | (simp; done) | (simp; omega) | (simp [*]; done) | (simp only [ne_eq]; constructor <;> omega)) _).far (by first | (simp; done) | (simp; omega) | (simp [*]; done) | (simp only [ne_eq]; constructor <;> omega)) _).far (by first | (simp; done) | (simp; omega) | (simp [*]; done) | (simp only [ne_eq]; constructor <;> omega)) _)
          replace By : Blk ((((((((((((w2.setCell ⟨gx, 0, none⟩ (uv u.b.v)).setCell ⟨gx, 1, none⟩ (uv u.b.m)).setCell ⟨gx, 2, none⟩ (uv u.lo)).setCell ⟨gx, 3, none⟩ (uv u.hi)).setCell ⟨gx, 4, none⟩ (sv u.sl)).setCell ⟨gx, 5, none⟩ (sv u.sh)).setCell ⟨gy, 0, none⟩ (uv v.b.v)).setCell ⟨gy, 1, none⟩ (uv v.b.m)).setCell ⟨gy, 2, none⟩ (uv v.lo)).setCell ⟨gy, 3, none⟩ (uv v.hi)).setCell ⟨gy, 4, none⟩ (sv v.sl)).setCell ⟨gy, 5, none⟩ (sv v.sh)) (gy) 27 #[uv v.b.v, uv v.b.m, uv v.lo, uv v.hi, sv v.sl, sv v.sh] := ((((((By.set_ 0 _).set_ 1 _).set_ 2 _).set_ 3 _).set_ 4 _).set_ 5 _)
          replace hB : Below w.heap.size w ((((((((((((w2.setCell ⟨gx, 0, none⟩ (uv u.b.v)).setCell ⟨gx, 1, none⟩ (uv u.b.m)).setCell ⟨gx, 2, none⟩ (uv u.lo)).setCell ⟨gx, 3, none⟩ (uv u.hi)).setCell ⟨gx, 4, none⟩ (sv u.sl)).setCell ⟨gx, 5, none⟩ (sv u.sh)).setCell ⟨gy, 0, none⟩ (uv v.b.v)).setCell ⟨gy, 1, none⟩ (uv v.b.m)).setCell ⟨gy, 2, none⟩ (uv v.lo)).setCell ⟨gy, 3, none⟩ (uv v.hi)).setCell ⟨gy, 4, none⟩ (sv v.sl)).setCell ⟨gy, 5, none⟩ (sv v.sh)) := (Bl_set (Bl_set (Bl_set (Bl_set (Bl_set (Bl_set hB (by first | omega | (simp; done) | (simp; omega)) _) (by first | omega | (simp; done) | (simp; omega)) _) (by first | omega | (simp; done) | (simp; omega)) _) (by first | omega | (simp; done) | (simp; omega)) _) (by first | omega | (simp; done) | (simp; omega)) _) (by first | omega | (simp; done) | (simp; omega)) _)
          generalize ((((((((((((w2.setCell ⟨gx, 0, none⟩ (uv u.b.v)).setCell ⟨gx, 1, none⟩ (uv u.b.m)).setCell ⟨gx, 2, none⟩ (uv u.lo)).setCell ⟨gx, 3, none⟩ (uv u.hi)).setCell ⟨gx, 4, none⟩ (sv u.sl)).setCell ⟨gx, 5, none⟩ (sv u.sh)).setCell ⟨gy, 0, none⟩ (uv v.b.v)).setCell ⟨gy, 1, none⟩ (uv v.b.m)).setCell ⟨gy, 2, none⟩ (uv v.lo)).setCell ⟨gy, 3, none⟩ (uv v.hi)).setCell ⟨gy, 4, none⟩ (sv v.sl)).setCell ⟨gy, 5, none⟩ (sv v.sh)) = w3 at *
          obtain ⟨ca0, ca1, ca2, ca3, ca4, ca5⟩ := cells6 Ba
          have fa := Ba.frozen; have la := Ba.lt
          obtain ⟨cb0, cb1, cb2, cb3, cb4, cb5⟩ := cells6 Bb
          have fb := Bb.frozen; have lb := Bb.lt
          obtain ⟨cn0, cn1⟩ := cells2 Bn
          have fn := Bn.frozen; have ln := Bn.lt
          obtain ⟨cx0, cx1, cx2, cx3, cx4, cx5⟩ := cells6 Bx
          have fx := Bx.frozen; have lx := Bx.lt
          obtain ⟨cy0, cy1, cy2, cy3, cy4, cy5⟩ := cells6 By
          have fy := By.frozen; have ly := By.lt
          cases A
          · go_wp2_with fail
            refine (k_A _).mono ?_
            rintro e w4 ⟨rfl, hb⟩
            clear ca0 ca1 ca2 ca3 ca4 ca5 fa la
            clear cb0 cb1 cb2 cb3 cb4 cb5 fb lb
            clear cn0 cn1 fn ln
            clear cx0 cx1 cx2 cx3 cx4 cx5 fx lx
            clear cy0 cy1 cy2 cy3 cy4 cy5 fy ly
            replace Ba := (Ba).next hb
            replace Bb := (Bb).next hb
            replace Bn := (Bn).next hb
            replace Bx := (Bx).next hb
            replace By := (By).next hb
            replace hB : Below w.heap.size w w4 := by repeat (first | exact hB | (refine Bl_set ?_ (by first | omega | (simp; omega)) _) | apply Bl_alloc | (refine Bl_trans ?_ hb))
            clear hb
            obtain ⟨ca0, ca1, ca2, ca3, ca4, ca5⟩ := cells6 Ba
            have fa := Ba.frozen; have la := Ba.lt
            obtain ⟨cb0, cb1, cb2, cb3, cb4, cb5⟩ := cells6 Bb
            have fb := Bb.frozen; have lb := Bb.lt
            obtain ⟨cn0, cn1⟩ := cells2 Bn
            have fn := Bn.frozen; have ln := Bn.lt
            obtain ⟨cx0, cx1, cx2, cx3, cx4, cx5⟩ := cells6 Bx
            have fx := Bx.frozen; have lx := Bx.lt
            obtain ⟨cy0, cy1, cy2, cy3, cy4, cy5⟩ := cells6 By
            have fy := By.frozen; have ly := By.lt
            go_wp2_with fail
            go_roundg (3 - k)
            case measure => omega
            case rel => exact ⟨k + 1, by omega, by omega, by go_num, hB, Ba, Bb, Bn⟩
          · cases B
            · go_wp2_with fail
              refine (k_A _).mono ?_
              rintro e w4 ⟨rfl, hb⟩
              clear ca0 ca1 ca2 ca3 ca4 ca5 fa la
              clear cb0 cb1 cb2 cb3 cb4 cb5 fb lb
              clear cn0 cn1 fn ln
              clear cx0 cx1 cx2 cx3 cx4 cx5 fx lx
              clear cy0 cy1 cy2 cy3 cy4 cy5 fy ly
              replace Ba := (Ba).next hb
              replace Bb := (Bb).next hb
              replace Bn := (Bn).next hb
              replace Bx := (Bx).next hb
              replace By := (By).next hb
              replace hB : Below w.heap.size w w4 := by repeat (first | exact hB | (refine Bl_set ?_ (by first | omega | (simp; omega)) _) | apply Bl_alloc | (refine Bl_trans ?_ hb))
              clear hb
              obtain ⟨ca0, ca1, ca2, ca3, ca4, ca5⟩ := cells6 Ba
              have fa := Ba.frozen; have la := Ba.lt
              obtain ⟨cb0, cb1, cb2, cb3, cb4, cb5⟩ := cells6 Bb
              have fb := Bb.frozen; have lb := Bb.lt
              obtain ⟨cn0, cn1⟩ := cells2 Bn
              have fn := Bn.frozen; have ln := Bn.lt
              obtain ⟨cx0, cx1, cx2, cx3, cx4, cx5⟩ := cells6 Bx
              have fx := Bx.frozen; have lx := Bx.lt
              obtain ⟨cy0, cy1, cy2, cy3, cy4, cy5⟩ := cells6 By
              have fy := By.frozen; have ly := By.lt
              go_wp2_with fail
              refine (k_B _).mono ?_
              rintro e w5 ⟨rfl, hb⟩
              clear ca0 ca1 ca2 ca3 ca4 ca5 fa la
              clear cb0 cb1 cb2 cb3 cb4 cb5 fb lb
              clear cn0 cn1 fn ln
              clear cx0 cx1 cx2 cx3 cx4 cx5 fx lx
              clear cy0 cy1 cy2 cy3 cy4 cy5 fy ly
              replace Ba := (Ba).next hb
              replace Bb := (Bb).next hb
              replace Bn := (Bn).next hb
              replace Bx := (Bx).next hb
              replace By := (By).next hb
              replace hB : Below w.heap.size w w5 := by repeat (first | exact hB | (refine Bl_set ?_ (by first | omega | (simp; omega)) _) | apply Bl_alloc | (refine Bl_trans ?_ hb))
              clear hb
              obtain ⟨ca0, ca1, ca2, ca3, ca4, ca5⟩ := cells6 Ba
              have fa := Ba.frozen; have la := Ba.lt
              obtain ⟨cb0, cb1, cb2, cb3, cb4, cb5⟩ := cells6 Bb
              have fb := Bb.frozen; have lb := Bb.lt
              obtain ⟨cn0, cn1⟩ := cells2 Bn
              have fn := Bn.frozen; have ln := Bn.lt
              obtain ⟨cx0, cx1, cx2, cx3, cx4, cx5⟩ := cells6 Bx
              have fx := Bx.frozen; have lx := Bx.lt
              obtain ⟨cy0, cy1, cy2, cy3, cy4, cy5⟩ := cells6 By
              have fy := By.frozen; have ly := By.lt
              go_wp2_with fail
              go_roundg (3 - k)
              case measure => omega
              case rel => exact ⟨k + 1, by omega, by omega, by go_num, hB, Ba, Bb, Bn⟩
            · by_cases t0 : (j : Int) = 0
              · obtain rfl : j = 0 := by omega
                go_wp2_with fail
                refine (k_A _).mono ?_
                rintro e w4 ⟨rfl, hb⟩
                clear ca0 ca1 ca2 ca3 ca4 ca5 fa la
                clear cb0 cb1 cb2 cb3 cb4 cb5 fb lb
                clear cn0 cn1 fn ln
                clear cx0 cx1 cx2 cx3 cx4 cx5 fx lx
                clear cy0 cy1 cy2 cy3 cy4 cy5 fy ly
                replace Ba := (Ba).next hb
                replace Bb := (Bb).next hb
                replace Bn := (Bn).next hb
                replace Bx := (Bx).next hb
                replace By := (By).next hb
                replace hB : Below w.heap.size w w4 := by repeat (first | exact hB | (refine Bl_set ?_ (by first | omega | (simp; omega)) _) | apply Bl_alloc | (refine Bl_trans ?_ hb))
                clear hb
                obtain ⟨ca0, ca1, ca2, ca3, ca4, ca5⟩ := cells6 Ba
                have fa := Ba.frozen; have la := Ba.lt
                obtain ⟨cb0, cb1, cb2, cb3, cb4, cb5⟩ := cells6 Bb
                have fb := Bb.frozen; have lb := Bb.lt
                obtain ⟨cn0, cn1⟩ := cells2 Bn
                have fn := Bn.frozen; have ln := Bn.lt
                obtain ⟨cx0, cx1, cx2, cx3, cx4, cx5⟩ := cells6 Bx
                have fx := Bx.frozen; have lx := Bx.lt
                obtain ⟨cy0, cy1, cy2, cy3, cy4, cy5⟩ := cells6 By
                have fy := By.frozen; have ly := By.lt
                go_wp2_with fail
                refine (k_B _).mono ?_
                rintro e w5 ⟨rfl, hb⟩
                clear ca0 ca1 ca2 ca3 ca4 ca5 fa la
                clear cb0 cb1 cb2 cb3 cb4 cb5 fb lb
                clear cn0 cn1 fn ln
                clear cx0 cx1 cx2 cx3 cx4 cx5 fx lx
                clear cy0 cy1 cy2 cy3 cy4 cy5 fy ly
                replace Ba := (Ba).next hb
                replace Bb := (Bb).next hb
                replace Bn := (Bn).next hb
                replace Bx := (Bx).next hb
                replace By := (By).next hb
                replace hB : Below w.heap.size w w5 := by repeat (first | exact hB | (refine Bl_set ?_ (by first | omega | (simp; omega)) _) | apply Bl_alloc | (refine Bl_trans ?_ hb))
                clear hb
                obtain ⟨ca0, ca1, ca2, ca3, ca4, ca5⟩ := cells6 Ba
                have fa := Ba.frozen; have la := Ba.lt
                obtain ⟨cb0, cb1, cb2, cb3, cb4, cb5⟩ := cells6 Bb
                have fb := Bb.frozen; have lb := Bb.lt
                obtain ⟨cn0, cn1⟩ := cells2 Bn
                have fn := Bn.frozen; have ln := Bn.lt
                obtain ⟨cx0, cx1, cx2, cx3, cx4, cx5⟩ := cells6 Bx
                have fx := Bx.frozen; have lx := Bx.lt
                obtain ⟨cy0, cy1, cy2, cy3, cy4, cy5⟩ := cells6 By
                have fy := By.frozen; have ly := By.lt
                go_wp2_with fail
                go_roundg (3 - k)
                case measure => omega
                case rel => exact ⟨k + 1, by omega, by omega, by go_num, hB, Ba, Bb, Bn⟩
              · by_cases t8 : (j : Int) = 8
                · obtain rfl : j = 8 := by omega
                  go_wp2_with fail
                  refine (k_A _).mono ?_
                  rintro e w4 ⟨rfl, hb⟩
                  clear ca0 ca1 ca2 ca3 ca4 ca5 fa la
                  clear cb0 cb1 cb2 cb3 cb4 cb5 fb lb
                  clear cn0 cn1 fn ln
                  clear cx0 cx1 cx2 cx3 cx4 cx5 fx lx
                  clear cy0 cy1 cy2 cy3 cy4 cy5 fy ly
                  replace Ba := (Ba).next hb
                  replace Bb := (Bb).next hb
                  replace Bn := (Bn).next hb
                  replace Bx := (Bx).next hb
                  replace By := (By).next hb
                  replace hB : Below w.heap.size w w4 := by repeat (first | exact hB | (refine Bl_set ?_ (by first | omega | (simp; omega)) _) | apply Bl_alloc | (refine Bl_trans ?_ hb))
                  clear hb
                  obtain ⟨ca0, ca1, ca2, ca3, ca4, ca5⟩ := cells6 Ba
                  have fa := Ba.frozen; have la := Ba.lt
                  obtain ⟨cb0, cb1, cb2, cb3, cb4, cb5⟩ := cells6 Bb
                  have fb := Bb.frozen; have lb := Bb.lt
                  obtain ⟨cn0, cn1⟩ := cells2 Bn
                  have fn := Bn.frozen; have ln := Bn.lt
                  obtain ⟨cx0, cx1, cx2, cx3, cx4, cx5⟩ := cells6 Bx
                  have fx := Bx.frozen; have lx := Bx.lt
                  obtain ⟨cy0, cy1, cy2, cy3, cy4, cy5⟩ := cells6 By
                  have fy := By.frozen; have ly := By.lt
                  go_wp2_with fail
                  refine (k_B _).mono ?_
                  rintro e w5 ⟨rfl, hb⟩
                  clear ca0 ca1 ca2 ca3 ca4 ca5 fa la
                  clear cb0 cb1 cb2 cb3 cb4 cb5 fb lb
                  clear cn0 cn1 fn ln
                  clear cx0 cx1 cx2 cx3 cx4 cx5 fx lx
                  clear cy0 cy1 cy2 cy3 cy4 cy5 fy ly
                  replace Ba := (Ba).next hb
                  replace Bb := (Bb).next hb
                  replace Bn := (Bn).next hb
                  replace Bx := (Bx).next hb
                  replace By := (By).next hb
                  replace hB : Below w.heap.size w w5 := by repeat (first | exact hB | (refine Bl_set ?_ (by first | omega | (simp; omega)) _) | apply Bl_alloc | (refine Bl_trans ?_ hb))
                  clear hb
                  obtain ⟨ca0, ca1, ca2, ca3, ca4, ca5⟩ := cells6 Ba
                  have fa := Ba.frozen; have la := Ba.lt
                  obtain ⟨cb0, cb1, cb2, cb3, cb4, cb5⟩ := cells6 Bb
                  have fb := Bb.frozen; have lb := Bb.lt
                  obtain ⟨cn0, cn1⟩ := cells2 Bn
                  have fn := Bn.frozen; have ln := Bn.lt
                  obtain ⟨cx0, cx1, cx2, cx3, cx4, cx5⟩ := cells6 Bx
                  have fx := Bx.frozen; have lx := Bx.lt
                  obtain ⟨cy0, cy1, cy2, cy3, cy4, cy5⟩ := cells6 By
                  have fy := By.frozen; have ly := By.lt
                  go_wp2_with fail
                  go_roundg (3 - k)
                  case measure => omega
                  case rel => exact ⟨k + 1, by omega, by omega, by go_num, hB, Ba, Bb, Bn⟩
                · by_cases t9 : (j : Int) = 9
                  · obtain rfl : j = 9 := by omega
                    go_wp2_with fail
                    refine (k_A _).mono ?_
                    rintro e w4 ⟨rfl, hb⟩
                    clear ca0 ca1 ca2 ca3 ca4 ca5 fa la
                    clear cb0 cb1 cb2 cb3 cb4 cb5 fb lb
                    clear cn0 cn1 fn ln
                    clear cx0 cx1 cx2 cx3 cx4 cx5 fx lx
                    clear cy0 cy1 cy2 cy3 cy4 cy5 fy ly
                    replace Ba := (Ba).next hb
                    replace Bb := (Bb).next hb
                    replace Bn := (Bn).next hb
                    replace Bx := (Bx).next hb
                    replace By := (By).next hb
                    replace hB : Below w.heap.size w w4 := by repeat (first | exact hB | (refine Bl_set ?_ (by first | omega | (simp; omega)) _) | apply Bl_alloc | (refine Bl_trans ?_ hb))
                    clear hb
                    obtain ⟨ca0, ca1, ca2, ca3, ca4, ca5⟩ := cells6 Ba
                    have fa := Ba.frozen; have la := Ba.lt
                    obtain ⟨cb0, cb1, cb2, cb3, cb4, cb5⟩ := cells6 Bb
                    have fb := Bb.frozen; have lb := Bb.lt
                    obtain ⟨cn0, cn1⟩ := cells2 Bn
                    have fn := Bn.frozen; have ln := Bn.lt
                    obtain ⟨cx0, cx1, cx2, cx3, cx4, cx5⟩ := cells6 Bx
                    have fx := Bx.frozen; have lx := Bx.lt
                    obtain ⟨cy0, cy1, cy2, cy3, cy4, cy5⟩ := cells6 By
                    have fy := By.frozen; have ly := By.lt
                    go_wp2_with fail
                    refine (k_B _).mono ?_
                    rintro e w5 ⟨rfl, hb⟩
                    clear ca0 ca1 ca2 ca3 ca4 ca5 fa la
                    clear cb0 cb1 cb2 cb3 cb4 cb5 fb lb
                    clear cn0 cn1 fn ln
                    clear cx0 cx1 cx2 cx3 cx4 cx5 fx lx
                    clear cy0 cy1 cy2 cy3 cy4 cy5 fy ly
                    replace Ba := (Ba).next hb
                    replace Bb := (Bb).next hb
                    replace Bn := (Bn).next hb
                    replace Bx := (Bx).next hb
                    replace By := (By).next hb
                    replace hB : Below w.heap.size w w5 := by repeat (first | exact hB | (refine Bl_set ?_ (by first | omega | (simp; omega)) _) | apply Bl_alloc | (refine Bl_trans ?_ hb))
                    clear hb
                    obtain ⟨ca0, ca1, ca2, ca3, ca4, ca5⟩ := cells6 Ba
                    have fa := Ba.frozen; have la := Ba.lt
                    obtain ⟨cb0, cb1, cb2, cb3, cb4, cb5⟩ := cells6 Bb
                    have fb := Bb.frozen; have lb := Bb.lt
                    obtain ⟨cn0, cn1⟩ := cells2 Bn
                    have fn := Bn.frozen; have ln := Bn.lt
                    obtain ⟨cx0, cx1, cx2, cx3, cx4, cx5⟩ := cells6 Bx
                    have fx := Bx.frozen; have lx := Bx.lt
                    obtain ⟨cy0, cy1, cy2, cy3, cy4, cy5⟩ := cells6 By
                    have fy := By.frozen; have ly := By.lt
                    go_wp2_with fail
                    go_roundg (3 - k)
                    case measure => omega
                    case rel => exact ⟨k + 1, by omega, by omega, by go_num, hB, Ba, Bb, Bn⟩
                  · by_cases t14 : (j : Int) = 14
                    · obtain rfl : j = 14 := by omega
                      go_wp2_with fail
                      refine (k_A _).mono ?_
                      rintro e w4 ⟨rfl, hb⟩
                      clear ca0 ca1 ca2 ca3 ca4 ca5 fa la
                      clear cb0 cb1 cb2 cb3 cb4 cb5 fb lb
                      clear cn0 cn1 fn ln
                      clear cx0 cx1 cx2 cx3 cx4 cx5 fx lx
                      clear cy0 cy1 cy2 cy3 cy4 cy5 fy ly
                      replace Ba := (Ba).next hb
                      replace Bb := (Bb).next hb
                      replace Bn := (Bn).next hb
                      replace Bx := (Bx).next hb
                      replace By := (By).next hb
                      replace hB : Below w.heap.size w w4 := by repeat (first | exact hB | (refine Bl_set ?_ (by first | omega | (simp; omega)) _) | apply Bl_alloc | (refine Bl_trans ?_ hb))
                      clear hb
                      obtain ⟨ca0, ca1, ca2, ca3, ca4, ca5⟩ := cells6 Ba
                      have fa := Ba.frozen; have la := Ba.lt
                      obtain ⟨cb0, cb1, cb2, cb3, cb4, cb5⟩ := cells6 Bb
                      have fb := Bb.frozen; have lb := Bb.lt
                      obtain ⟨cn0, cn1⟩ := cells2 Bn
                      have fn := Bn.frozen; have ln := Bn.lt
                      obtain ⟨cx0, cx1, cx2, cx3, cx4, cx5⟩ := cells6 Bx
                      have fx := Bx.frozen; have lx := Bx.lt
                      obtain ⟨cy0, cy1, cy2, cy3, cy4, cy5⟩ := cells6 By
                      have fy := By.frozen; have ly := By.lt
                      go_wp2_with fail
                      refine (k_B _).mono ?_
                      rintro e w5 ⟨rfl, hb⟩
                      clear ca0 ca1 ca2 ca3 ca4 ca5 fa la
                      clear cb0 cb1 cb2 cb3 cb4 cb5 fb lb
                      clear cn0 cn1 fn ln
                      clear cx0 cx1 cx2 cx3 cx4 cx5 fx lx
                      clear cy0 cy1 cy2 cy3 cy4 cy5 fy ly
                      replace Ba := (Ba).next hb
                      replace Bb := (Bb).next hb
                      replace Bn := (Bn).next hb
                      replace Bx := (Bx).next hb
                      replace By := (By).next hb
                      replace hB : Below w.heap.size w w5 := by repeat (first | exact hB | (refine Bl_set ?_ (by first | omega | (simp; omega)) _) | apply Bl_alloc | (refine Bl_trans ?_ hb))
                      clear hb
                      obtain ⟨ca0, ca1, ca2, ca3, ca4, ca5⟩ := cells6 Ba
                      have fa := Ba.frozen; have la := Ba.lt
                      obtain ⟨cb0, cb1, cb2, cb3, cb4, cb5⟩ := cells6 Bb
                      have fb := Bb.frozen; have lb := Bb.lt
                      obtain ⟨cn0, cn1⟩ := cells2 Bn
                      have fn := Bn.frozen; have ln := Bn.lt
                      obtain ⟨cx0, cx1, cx2, cx3, cx4, cx5⟩ := cells6 Bx
                      have fx := Bx.frozen; have lx := Bx.lt
                      obtain ⟨cy0, cy1, cy2, cy3, cy4, cy5⟩ := cells6 By
                      have fy := By.frozen; have ly := By.lt
                      go_wp2_with fail
                      go_roundg (3 - k)
                      case measure => omega
                      case rel => exact ⟨k + 1, by omega, by omega, by go_num, hB, Ba, Bb, Bn⟩
                    · have ho : PlainBranch.isOp (j : Int) := by unfold PlainBranch.isOp; omega
                      cases H
                      · cases h
                        · obtain ⟨rfl, hu, hv⟩ := hr rfl rfl ho rfl
                          go_wp2_with fail
                          refine (k_A _).mono ?_
                          rintro e w4 ⟨rfl, hb⟩
                          clear ca0 ca1 ca2 ca3 ca4 ca5 fa la
                          clear cb0 cb1 cb2 cb3 cb4 cb5 fb lb
                          clear cn0 cn1 fn ln
                          clear cx0 cx1 cx2 cx3 cx4 cx5 fx lx
                          clear cy0 cy1 cy2 cy3 cy4 cy5 fy ly
                          replace Ba := (Ba).next hb
                          replace Bb := (Bb).next hb
                          replace Bn := (Bn).next hb
                          replace Bx := (Bx).next hb
                          replace By := (By).next hb
                          replace hB : Below w.heap.size w w4 := by repeat (first | exact hB | (refine Bl_set ?_ (by first | omega | (simp; omega)) _) | apply Bl_alloc | (refine Bl_trans ?_ hb))
                          clear hb
                          obtain ⟨ca0, ca1, ca2, ca3, ca4, ca5⟩ := cells6 Ba
                          have fa := Ba.frozen; have la := Ba.lt
                          obtain ⟨cb0, cb1, cb2, cb3, cb4, cb5⟩ := cells6 Bb
                          have fb := Bb.frozen; have lb := Bb.lt
                          obtain ⟨cn0, cn1⟩ := cells2 Bn
                          have fn := Bn.frozen; have ln := Bn.lt
                          obtain ⟨cx0, cx1, cx2, cx3, cx4, cx5⟩ := cells6 Bx
                          have fx := Bx.frozen; have lx := Bx.lt
                          obtain ⟨cy0, cy1, cy2, cy3, cy4, cy5⟩ := cells6 By
                          have fy := By.frozen; have ly := By.lt
                          go_wp2_with fail
                          refine (k_B _).mono ?_
                          rintro e w5 ⟨rfl, hb⟩
                          clear ca0 ca1 ca2 ca3 ca4 ca5 fa la
                          clear cb0 cb1 cb2 cb3 cb4 cb5 fb lb
                          clear cn0 cn1 fn ln
                          clear cx0 cx1 cx2 cx3 cx4 cx5 fx lx
                          clear cy0 cy1 cy2 cy3 cy4 cy5 fy ly
                          replace Ba := (Ba).next hb
                          replace Bb := (Bb).next hb
                          replace Bn := (Bn).next hb
                          replace Bx := (Bx).next hb
                          replace By := (By).next hb
                          replace hB : Below w.heap.size w w5 := by repeat (first | exact hB | (refine Bl_set ?_ (by first | omega | (simp; omega)) _) | apply Bl_alloc | (refine Bl_trans ?_ hb))
                          clear hb
                          obtain ⟨ca0, ca1, ca2, ca3, ca4, ca5⟩ := cells6 Ba
                          have fa := Ba.frozen; have la := Ba.lt
                          obtain ⟨cb0, cb1, cb2, cb3, cb4, cb5⟩ := cells6 Bb
                          have fb := Bb.frozen; have lb := Bb.lt
                          obtain ⟨cn0, cn1⟩ := cells2 Bn
                          have fn := Bn.frozen; have ln := Bn.lt
                          obtain ⟨cx0, cx1, cx2, cx3, cx4, cx5⟩ := cells6 Bx
                          have fx := Bx.frozen; have lx := Bx.lt
                          obtain ⟨cy0, cy1, cy2, cy3, cy4, cy5⟩ := cells6 By
                          have fy := By.frozen; have ly := By.lt
                          go_wp2_with fail
                          refine (k_H _).mono ?_
                          rintro e w6 ⟨rfl, hb⟩
                          clear ca0 ca1 ca2 ca3 ca4 ca5 fa la
                          clear cb0 cb1 cb2 cb3 cb4 cb5 fb lb
                          clear cn0 cn1 fn ln
                          clear cx0 cx1 cx2 cx3 cx4 cx5 fx lx
                          clear cy0 cy1 cy2 cy3 cy4 cy5 fy ly
                          replace Ba := (Ba).next hb
                          replace Bb := (Bb).next hb
                          replace Bn := (Bn).next hb
                          replace Bx := (Bx).next hb
                          replace By := (By).next hb
                          replace hB : Below w.heap.size w w6 := by repeat (first | exact hB | (refine Bl_set ?_ (by first | omega | (simp; omega)) _) | apply Bl_alloc | (refine Bl_trans ?_ hb))
                          clear hb
                          obtain ⟨ca0, ca1, ca2, ca3, ca4, ca5⟩ := cells6 Ba
                          have fa := Ba.frozen; have la := Ba.lt
                          obtain ⟨cb0, cb1, cb2, cb3, cb4, cb5⟩ := cells6 Bb
                          have fb := Bb.frozen; have lb := Bb.lt
                          obtain ⟨cn0, cn1⟩ := cells2 Bn
                          have fn := Bn.frozen; have ln := Bn.lt
                          obtain ⟨cx0, cx1, cx2, cx3, cx4, cx5⟩ := cells6 Bx
                          have fx := Bx.frozen; have lx := Bx.lt
                          obtain ⟨cy0, cy1, cy2, cy3, cy4, cy5⟩ := cells6 By
                          have fy := By.frozen; have ly := By.lt
                          go_wp2_with fail
                          refine (shast_c u p hu _).mono ?_
                          rintro e w7 ⟨rfl, hb⟩
                          clear ca0 ca1 ca2 ca3 ca4 ca5 fa la
                          clear cb0 cb1 cb2 cb3 cb4 cb5 fb lb
                          clear cn0 cn1 fn ln
                          clear cx0 cx1 cx2 cx3 cx4 cx5 fx lx
                          clear cy0 cy1 cy2 cy3 cy4 cy5 fy ly
                          replace Ba := (Ba).next hb
                          replace Bb := (Bb).next hb
                          replace Bn := (Bn).next hb
                          replace Bx := (Bx).next hb
                          replace By := (By).next hb
                          replace hB : Below w.heap.size w w7 := by repeat (first | exact hB | (refine Bl_set ?_ (by first | omega | (simp; omega)) _) | apply Bl_alloc | (refine Bl_trans ?_ hb))
                          clear hb
                          obtain ⟨ca0, ca1, ca2, ca3, ca4, ca5⟩ := cells6 Ba
                          have fa := Ba.frozen; have la := Ba.lt
                          obtain ⟨cb0, cb1, cb2, cb3, cb4, cb5⟩ := cells6 Bb
                          have fb := Bb.frozen; have lb := Bb.lt
                          obtain ⟨cn0, cn1⟩ := cells2 Bn
                          have fn := Bn.frozen; have ln := Bn.lt
                          obtain ⟨cx0, cx1, cx2, cx3, cx4, cx5⟩ := cells6 Bx
                          have fx := Bx.frozen; have lx := Bx.lt
                          obtain ⟨cy0, cy1, cy2, cy3, cy4, cy5⟩ := cells6 By
                          have fy := By.frozen; have ly := By.lt
                          go_wp2_with fail
                          refine (shast_c v q hv _).mono ?_
                          rintro e w8 ⟨rfl, hb⟩
                          clear ca0 ca1 ca2 ca3 ca4 ca5 fa la
                          clear cb0 cb1 cb2 cb3 cb4 cb5 fb lb
                          clear cn0 cn1 fn ln
                          clear cx0 cx1 cx2 cx3 cx4 cx5 fx lx
                          clear cy0 cy1 cy2 cy3 cy4 cy5 fy ly
                          replace Ba := (Ba).next hb
                          replace Bb := (Bb).next hb
                          replace Bn := (Bn).next hb
                          replace Bx := (Bx).next hb
                          replace By := (By).next hb
                          replace hB : Below w.heap.size w w8 := by repeat (first | exact hB | (refine Bl_set ?_ (by first | omega | (simp; omega)) _) | apply Bl_alloc | (refine Bl_trans ?_ hb))
                          clear hb
                          obtain ⟨ca0, ca1, ca2, ca3, ca4, ca5⟩ := cells6 Ba
                          have fa := Ba.frozen; have la := Ba.lt
                          obtain ⟨cb0, cb1, cb2, cb3, cb4, cb5⟩ := cells6 Bb
                          have fb := Bb.frozen; have lb := Bb.lt
                          obtain ⟨cn0, cn1⟩ := cells2 Bn
                          have fn := Bn.frozen; have ln := Bn.lt
                          obtain ⟨cx0, cx1, cx2, cx3, cx4, cx5⟩ := cells6 Bx
                          have fx := Bx.frozen; have lx := Bx.lt
                          obtain ⟨cy0, cy1, cy2, cy3, cy4, cy5⟩ := cells6 By
                          have fy := By.frozen; have ly := By.lt
                          go_wp2_with fail
                          go_roundg (3 - k)
                          case measure => omega
                          case rel => exact ⟨k + 1, by omega, by omega, by go_num, hB, Ba, Bb, Bn⟩
                        · go_wp2_with fail
                          refine (k_A _).mono ?_
                          rintro e w4 ⟨rfl, hb⟩
                          clear ca0 ca1 ca2 ca3 ca4 ca5 fa la
                          clear cb0 cb1 cb2 cb3 cb4 cb5 fb lb
                          clear cn0 cn1 fn ln
                          clear cx0 cx1 cx2 cx3 cx4 cx5 fx lx
                          clear cy0 cy1 cy2 cy3 cy4 cy5 fy ly
                          replace Ba := (Ba).next hb
                          replace Bb := (Bb).next hb
                          replace Bn := (Bn).next hb
                          replace Bx := (Bx).next hb
                          replace By := (By).next hb
                          replace hB : Below w.heap.size w w4 := by repeat (first | exact hB | (refine Bl_set ?_ (by first | omega | (simp; omega)) _) | apply Bl_alloc | (refine Bl_trans ?_ hb))
                          clear hb
                          obtain ⟨ca0, ca1, ca2, ca3, ca4, ca5⟩ := cells6 Ba
                          have fa := Ba.frozen; have la := Ba.lt
                          obtain ⟨cb0, cb1, cb2, cb3, cb4, cb5⟩ := cells6 Bb
                          have fb := Bb.frozen; have lb := Bb.lt
                          obtain ⟨cn0, cn1⟩ := cells2 Bn
                          have fn := Bn.frozen; have ln := Bn.lt
                          obtain ⟨cx0, cx1, cx2, cx3, cx4, cx5⟩ := cells6 Bx
                          have fx := Bx.frozen; have lx := Bx.lt
                          obtain ⟨cy0, cy1, cy2, cy3, cy4, cy5⟩ := cells6 By
                          have fy := By.frozen; have ly := By.lt
                          go_wp2_with fail
                          refine (k_B _).mono ?_
                          rintro e w5 ⟨rfl, hb⟩
                          clear ca0 ca1 ca2 ca3 ca4 ca5 fa la
                          clear cb0 cb1 cb2 cb3 cb4 cb5 fb lb
                          clear cn0 cn1 fn ln
                          clear cx0 cx1 cx2 cx3 cx4 cx5 fx lx
                          clear cy0 cy1 cy2 cy3 cy4 cy5 fy ly
                          replace Ba := (Ba).next hb
                          replace Bb := (Bb).next hb
                          replace Bn := (Bn).next hb
                          replace Bx := (Bx).next hb
                          replace By := (By).next hb
                          replace hB : Below w.heap.size w w5 := by repeat (first | exact hB | (refine Bl_set ?_ (by first | omega | (simp; omega)) _) | apply Bl_alloc | (refine Bl_trans ?_ hb))
                          clear hb
                          obtain ⟨ca0, ca1, ca2, ca3, ca4, ca5⟩ := cells6 Ba
                          have fa := Ba.frozen; have la := Ba.lt
                          obtain ⟨cb0, cb1, cb2, cb3, cb4, cb5⟩ := cells6 Bb
                          have fb := Bb.frozen; have lb := Bb.lt
                          obtain ⟨cn0, cn1⟩ := cells2 Bn
                          have fn := Bn.frozen; have ln := Bn.lt
                          obtain ⟨cx0, cx1, cx2, cx3, cx4, cx5⟩ := cells6 Bx
                          have fx := Bx.frozen; have lx := Bx.lt
                          obtain ⟨cy0, cy1, cy2, cy3, cy4, cy5⟩ := cells6 By
                          have fy := By.frozen; have ly := By.lt
                          go_wp2_with fail
                          refine (k_H _).mono ?_
                          rintro e w6 ⟨rfl, hb⟩
                          clear ca0 ca1 ca2 ca3 ca4 ca5 fa la
                          clear cb0 cb1 cb2 cb3 cb4 cb5 fb lb
                          clear cn0 cn1 fn ln
                          clear cx0 cx1 cx2 cx3 cx4 cx5 fx lx
                          clear cy0 cy1 cy2 cy3 cy4 cy5 fy ly
                          replace Ba := (Ba).next hb
                          replace Bb := (Bb).next hb
                          replace Bn := (Bn).next hb
                          replace Bx := (Bx).next hb
                          replace By := (By).next hb
                          replace hB : Below w.heap.size w w6 := by repeat (first | exact hB | (refine Bl_set ?_ (by first | omega | (simp; omega)) _) | apply Bl_alloc | (refine Bl_trans ?_ hb))
                          clear hb
                          obtain ⟨ca0, ca1, ca2, ca3, ca4, ca5⟩ := cells6 Ba
                          have fa := Ba.frozen; have la := Ba.lt
                          obtain ⟨cb0, cb1, cb2, cb3, cb4, cb5⟩ := cells6 Bb
                          have fb := Bb.frozen; have lb := Bb.lt
                          obtain ⟨cn0, cn1⟩ := cells2 Bn
                          have fn := Bn.frozen; have ln := Bn.lt
                          obtain ⟨cx0, cx1, cx2, cx3, cx4, cx5⟩ := cells6 Bx
                          have fx := Bx.frozen; have lx := Bx.lt
                          obtain ⟨cy0, cy1, cy2, cy3, cy4, cy5⟩ := cells6 By
                          have fy := By.frozen; have ly := By.lt
                          go_wp2_with fail
                          go_roundg (3 - k)
                          case measure => omega
                          case rel => exact ⟨k + 1, by omega, by omega, by go_num, hB, Ba, Bb, Bn⟩
                      · cases h
                        · go_wp2_with fail
                          refine (k_A _).mono ?_
                          rintro e w4 ⟨rfl, hb⟩
                          clear ca0 ca1 ca2 ca3 ca4 ca5 fa la
                          clear cb0 cb1 cb2 cb3 cb4 cb5 fb lb
                          clear cn0 cn1 fn ln
                          clear cx0 cx1 cx2 cx3 cx4 cx5 fx lx
                          clear cy0 cy1 cy2 cy3 cy4 cy5 fy ly
                          replace Ba := (Ba).next hb
                          replace Bb := (Bb).next hb
                          replace Bn := (Bn).next hb
                          replace Bx := (Bx).next hb
                          replace By := (By).next hb
                          replace hB : Below w.heap.size w w4 := by repeat (first | exact hB | (refine Bl_set ?_ (by first | omega | (simp; omega)) _) | apply Bl_alloc | (refine Bl_trans ?_ hb))
                          clear hb
                          obtain ⟨ca0, ca1, ca2, ca3, ca4, ca5⟩ := cells6 Ba
                          have fa := Ba.frozen; have la := Ba.lt
                          obtain ⟨cb0, cb1, cb2, cb3, cb4, cb5⟩ := cells6 Bb
                          have fb := Bb.frozen; have lb := Bb.lt
                          obtain ⟨cn0, cn1⟩ := cells2 Bn
                          have fn := Bn.frozen; have ln := Bn.lt
                          obtain ⟨cx0, cx1, cx2, cx3, cx4, cx5⟩ := cells6 Bx
                          have fx := Bx.frozen; have lx := Bx.lt
                          obtain ⟨cy0, cy1, cy2, cy3, cy4, cy5⟩ := cells6 By
                          have fy := By.frozen; have ly := By.lt
                          go_wp2_with fail
                          refine (k_B _).mono ?_
                          rintro e w5 ⟨rfl, hb⟩
                          clear ca0 ca1 ca2 ca3 ca4 ca5 fa la
                          clear cb0 cb1 cb2 cb3 cb4 cb5 fb lb
                          clear cn0 cn1 fn ln
                          clear cx0 cx1 cx2 cx3 cx4 cx5 fx lx
                          clear cy0 cy1 cy2 cy3 cy4 cy5 fy ly
                          replace Ba := (Ba).next hb
                          replace Bb := (Bb).next hb
                          replace Bn := (Bn).next hb
                          replace Bx := (Bx).next hb
                          replace By := (By).next hb
                          replace hB : Below w.heap.size w w5 := by repeat (first | exact hB | (refine Bl_set ?_ (by first | omega | (simp; omega)) _) | apply Bl_alloc | (refine Bl_trans ?_ hb))
                          clear hb
                          obtain ⟨ca0, ca1, ca2, ca3, ca4, ca5⟩ := cells6 Ba
                          have fa := Ba.frozen; have la := Ba.lt
                          obtain ⟨cb0, cb1, cb2, cb3, cb4, cb5⟩ := cells6 Bb
                          have fb := Bb.frozen; have lb := Bb.lt
                          obtain ⟨cn0, cn1⟩ := cells2 Bn
                          have fn := Bn.frozen; have ln := Bn.lt
                          obtain ⟨cx0, cx1, cx2, cx3, cx4, cx5⟩ := cells6 Bx
                          have fx := Bx.frozen; have lx := Bx.lt
                          obtain ⟨cy0, cy1, cy2, cy3, cy4, cy5⟩ := cells6 By
                          have fy := By.frozen; have ly := By.lt
                          go_wp2_with fail
                          refine (k_H _).mono ?_
                          rintro e w6 ⟨rfl, hb⟩
                          clear ca0 ca1 ca2 ca3 ca4 ca5 fa la
                          clear cb0 cb1 cb2 cb3 cb4 cb5 fb lb
                          clear cn0 cn1 fn ln
                          clear cx0 cx1 cx2 cx3 cx4 cx5 fx lx
                          clear cy0 cy1 cy2 cy3 cy4 cy5 fy ly
                          replace Ba := (Ba).next hb
                          replace Bb := (Bb).next hb
                          replace Bn := (Bn).next hb
                          replace Bx := (Bx).next hb
                          replace By := (By).next hb
                          replace hB : Below w.heap.size w w6 := by repeat (first | exact hB | (refine Bl_set ?_ (by first | omega | (simp; omega)) _) | apply Bl_alloc | (refine Bl_trans ?_ hb))
                          clear hb
                          obtain ⟨ca0, ca1, ca2, ca3, ca4, ca5⟩ := cells6 Ba
                          have fa := Ba.frozen; have la := Ba.lt
                          obtain ⟨cb0, cb1, cb2, cb3, cb4, cb5⟩ := cells6 Bb
                          have fb := Bb.frozen; have lb := Bb.lt
                          obtain ⟨cn0, cn1⟩ := cells2 Bn
                          have fn := Bn.frozen; have ln := Bn.lt
                          obtain ⟨cx0, cx1, cx2, cx3, cx4, cx5⟩ := cells6 Bx
                          have fx := Bx.frozen; have lx := Bx.lt
                          obtain ⟨cy0, cy1, cy2, cy3, cy4, cy5⟩ := cells6 By
                          have fy := By.frozen; have ly := By.lt
                          go_wp2_with fail
                          go_roundg (3 - k)
                          case measure => omega
                          case rel => exact ⟨k + 1, by omega, by omega, by go_num, hB, Ba, Bb, Bn⟩
                        · obtain ⟨rfl, hu, hv⟩ := hr rfl rfl ho rfl
                          go_wp2_with fail
                          refine (k_A _).mono ?_
                          rintro e w4 ⟨rfl, hb⟩
                          clear ca0 ca1 ca2 ca3 ca4 ca5 fa la
                          clear cb0 cb1 cb2 cb3 cb4 cb5 fb lb
                          clear cn0 cn1 fn ln
                          clear cx0 cx1 cx2 cx3 cx4 cx5 fx lx
                          clear cy0 cy1 cy2 cy3 cy4 cy5 fy ly
                          replace Ba := (Ba).next hb
                          replace Bb := (Bb).next hb
                          replace Bn := (Bn).next hb
                          replace Bx := (Bx).next hb
                          replace By := (By).next hb
                          replace hB : Below w.heap.size w w4 := by repeat (first | exact hB | (refine Bl_set ?_ (by first | omega | (simp; omega)) _) | apply Bl_alloc | (refine Bl_trans ?_ hb))
                          clear hb
                          obtain ⟨ca0, ca1, ca2, ca3, ca4, ca5⟩ := cells6 Ba
                          have fa := Ba.frozen; have la := Ba.lt
                          obtain ⟨cb0, cb1, cb2, cb3, cb4, cb5⟩ := cells6 Bb
                          have fb := Bb.frozen; have lb := Bb.lt
                          obtain ⟨cn0, cn1⟩ := cells2 Bn
                          have fn := Bn.frozen; have ln := Bn.lt
                          obtain ⟨cx0, cx1, cx2, cx3, cx4, cx5⟩ := cells6 Bx
                          have fx := Bx.frozen; have lx := Bx.lt
                          obtain ⟨cy0, cy1, cy2, cy3, cy4, cy5⟩ := cells6 By
                          have fy := By.frozen; have ly := By.lt
                          go_wp2_with fail
                          refine (k_B _).mono ?_
                          rintro e w5 ⟨rfl, hb⟩
                          clear ca0 ca1 ca2 ca3 ca4 ca5 fa la
                          clear cb0 cb1 cb2 cb3 cb4 cb5 fb lb
                          clear cn0 cn1 fn ln
                          clear cx0 cx1 cx2 cx3 cx4 cx5 fx lx
                          clear cy0 cy1 cy2 cy3 cy4 cy5 fy ly
                          replace Ba := (Ba).next hb
                          replace Bb := (Bb).next hb
                          replace Bn := (Bn).next hb
                          replace Bx := (Bx).next hb
                          replace By := (By).next hb
                          replace hB : Below w.heap.size w w5 := by repeat (first | exact hB | (refine Bl_set ?_ (by first | omega | (simp; omega)) _) | apply Bl_alloc | (refine Bl_trans ?_ hb))
                          clear hb
                          obtain ⟨ca0, ca1, ca2, ca3, ca4, ca5⟩ := cells6 Ba
                          have fa := Ba.frozen; have la := Ba.lt
                          obtain ⟨cb0, cb1, cb2, cb3, cb4, cb5⟩ := cells6 Bb
                          have fb := Bb.frozen; have lb := Bb.lt
                          obtain ⟨cn0, cn1⟩ := cells2 Bn
                          have fn := Bn.frozen; have ln := Bn.lt
                          obtain ⟨cx0, cx1, cx2, cx3, cx4, cx5⟩ := cells6 Bx
                          have fx := Bx.frozen; have lx := Bx.lt
                          obtain ⟨cy0, cy1, cy2, cy3, cy4, cy5⟩ := cells6 By
                          have fy := By.frozen; have ly := By.lt
                          go_wp2_with fail
                          refine (k_H _).mono ?_
                          rintro e w6 ⟨rfl, hb⟩
                          clear ca0 ca1 ca2 ca3 ca4 ca5 fa la
                          clear cb0 cb1 cb2 cb3 cb4 cb5 fb lb
                          clear cn0 cn1 fn ln
                          clear cx0 cx1 cx2 cx3 cx4 cx5 fx lx
                          clear cy0 cy1 cy2 cy3 cy4 cy5 fy ly
                          replace Ba := (Ba).next hb
                          replace Bb := (Bb).next hb
                          replace Bn := (Bn).next hb
                          replace Bx := (Bx).next hb
                          replace By := (By).next hb
                          replace hB : Below w.heap.size w w6 := by repeat (first | exact hB | (refine Bl_set ?_ (by first | omega | (simp; omega)) _) | apply Bl_alloc | (refine Bl_trans ?_ hb))
                          clear hb
                          obtain ⟨ca0, ca1, ca2, ca3, ca4, ca5⟩ := cells6 Ba
                          have fa := Ba.frozen; have la := Ba.lt
                          obtain ⟨cb0, cb1, cb2, cb3, cb4, cb5⟩ := cells6 Bb
                          have fb := Bb.frozen; have lb := Bb.lt
                          obtain ⟨cn0, cn1⟩ := cells2 Bn
                          have fn := Bn.frozen; have ln := Bn.lt
                          obtain ⟨cx0, cx1, cx2, cx3, cx4, cx5⟩ := cells6 Bx
                          have fx := Bx.frozen; have lx := Bx.lt
                          obtain ⟨cy0, cy1, cy2, cy3, cy4, cy5⟩ := cells6 By
                          have fy := By.frozen; have ly := By.lt
                          go_wp2_with fail
                          refine (shast_c u p hu _).mono ?_
                          rintro e w7 ⟨rfl, hb⟩
                          clear ca0 ca1 ca2 ca3 ca4 ca5 fa la
                          clear cb0 cb1 cb2 cb3 cb4 cb5 fb lb
                          clear cn0 cn1 fn ln
                          clear cx0 cx1 cx2 cx3 cx4 cx5 fx lx
                          clear cy0 cy1 cy2 cy3 cy4 cy5 fy ly
                          replace Ba := (Ba).next hb
                          replace Bb := (Bb).next hb
                          replace Bn := (Bn).next hb
                          replace Bx := (Bx).next hb
                          replace By := (By).next hb
                          replace hB : Below w.heap.size w w7 := by repeat (first | exact hB | (refine Bl_set ?_ (by first | omega | (simp; omega)) _) | apply Bl_alloc | (refine Bl_trans ?_ hb))
                          clear hb
                          obtain ⟨ca0, ca1, ca2, ca3, ca4, ca5⟩ := cells6 Ba
                          have fa := Ba.frozen; have la := Ba.lt
                          obtain ⟨cb0, cb1, cb2, cb3, cb4, cb5⟩ := cells6 Bb
                          have fb := Bb.frozen; have lb := Bb.lt
                          obtain ⟨cn0, cn1⟩ := cells2 Bn
                          have fn := Bn.frozen; have ln := Bn.lt
                          obtain ⟨cx0, cx1, cx2, cx3, cx4, cx5⟩ := cells6 Bx
                          have fx := Bx.frozen; have lx := Bx.lt
                          obtain ⟨cy0, cy1, cy2, cy3, cy4, cy5⟩ := cells6 By
                          have fy := By.frozen; have ly := By.lt
                          go_wp2_with fail
                          refine (shast_c v q hv _).mono ?_
                          rintro e w8 ⟨rfl, hb⟩
                          clear ca0 ca1 ca2 ca3 ca4 ca5 fa la
                          clear cb0 cb1 cb2 cb3 cb4 cb5 fb lb
                          clear cn0 cn1 fn ln
                          clear cx0 cx1 cx2 cx3 cx4 cx5 fx lx
                          clear cy0 cy1 cy2 cy3 cy4 cy5 fy ly
                          replace Ba := (Ba).next hb
                          replace Bb := (Bb).next hb
                          replace Bn := (Bn).next hb
                          replace Bx := (Bx).next hb
                          replace By := (By).next hb
                          replace hB : Below w.heap.size w w8 := by repeat (first | exact hB | (refine Bl_set ?_ (by first | omega | (simp; omega)) _) | apply Bl_alloc | (refine Bl_trans ?_ hb))
                          clear hb
                          obtain ⟨ca0, ca1, ca2, ca3, ca4, ca5⟩ := cells6 Ba
                          have fa := Ba.frozen; have la := Ba.lt
                          obtain ⟨cb0, cb1, cb2, cb3, cb4, cb5⟩ := cells6 Bb
                          have fb := Bb.frozen; have lb := Bb.lt
                          obtain ⟨cn0, cn1⟩ := cells2 Bn
                          have fn := Bn.frozen; have ln := Bn.lt
                          obtain ⟨cx0, cx1, cx2, cx3, cx4, cx5⟩ := cells6 Bx
                          have fx := Bx.frozen; have lx := Bx.lt
                          obtain ⟨cy0, cy1, cy2, cy3, cy4, cy5⟩ := cells6 By
                          have fy := By.frozen; have ly := By.lt
                          go_wp2_with fail
                          go_roundg (3 - k)
                          case measure => omega
                          case rel => exact ⟨k + 1, by omega, by omega, by go_num, hB, Ba, Bb, Bn⟩
theorem walkN_BranchRaw (a b : Rng) (p q : W) (w : World) : Calls Try.prog 11 #[rv a, rv b, .agg #[.int .u64 (T p), .int .u64 (T q)]] w fun e w' => e = .returned (.bool true) ∧ Below w.heap.size w w' := walk_BranchRaw a b p q w
namespace branchRaw
set_option maxRecDepth 100000 in
theorem lifted (os : Os) (started : os.Started) (H : Type) (enc : TypeId × Value → H) :
    ReturnsInHanded {} Try.checked os 11 .any (Rows.branchRawSpec.pre6 enc Try.prog Try.f11 Rows.branchRawRow.domain false) (Rows.branchRawSpec.post enc Try.prog Try.f11 false true false false) := by
  refine returnsInHanded_of_change (C := Try.checked) own started (by kernel_rfl) Try.func11
    (ChangeSpec.witness6 (enc := enc) (C := Try.checked) false ⟨#[], #[.agg #[.int .u64 0, .int .u64 0, .int .u64 0, .int .u64 0, .int .i64 0, .int .i64 0], .agg #[.int .u64 0, .int .u64 0, .int .u64 0, .int .u64 0, .int .i64 0, .int .i64 0], .agg #[.int .u64 0, .int .u64 0]], []⟩ 8 (by kernel_rfl) (by kernel_rfl) (by kernel_rfl) (by kernel_rfl)) ?_
  intro W base args ds gs before hval0 hW hcnd _
  have hval : ∀ (j : Nat) t v, Try.f11.params[j]? = some t → args[j]? = some v → Value.okWide Try.prog W .any base t v := hval0
  have hW' := hW
  obtain ⟨p, q, hA0, hV, rfl, hfz, hnd⟩ := hW
  have hA : DataW.TrodAll enc Try.prog W 0 (fun _ => true) true Try.f11.params.toList args.toList ds p := hA0
  rw [Try.params11] at hA hval
  obtain ⟨v0, vs0, d0, ds0, p0, q0, hargs, rfl, rfl, h0, r0⟩ := trodAll_cons hA
  obtain ⟨v1, vs1, d1, ds1, p1, q1, rfl, rfl, rfl, h1, r1⟩ := trodAll_cons r0
  obtain ⟨v2, vs2, d2, ds2, p2, q2, rfl, rfl, rfl, h2, r2⟩ := trodAll_cons r1
  obtain ⟨rfl, rfl, rfl⟩ := trodAll_nil r2
  obtain rfl : args = #[v0, v1, v2] := by cases args; simp_all
  obtain ⟨rfl, rfl⟩ := trodVars_none hV
  have lt0 : ∀ x ∈ p0, x.block < W.heap.size := by obtain ⟨m, hm⟩ := h0; exact DataW.trod_lt m _ _ _ hm
  obtain ⟨x0, rfl⟩ := open_rng Try.underlying22 Try.underlying2 (by rw [Try.underlying53]) (by kernel_rfl) (by kernel_rfl) (hval 0 53 v0 rfl rfl)
  have lt1 : ∀ x ∈ p1, x.block < W.heap.size := by obtain ⟨m, hm⟩ := h1; exact DataW.trod_lt m _ _ _ hm
  obtain ⟨x1, rfl⟩ := open_rng Try.underlying22 Try.underlying2 (by rw [Try.underlying53]) (by kernel_rfl) (by kernel_rfl) (hval 1 53 v1 rfl rfl)
  have lt2 : ∀ x ∈ p2, x.block < W.heap.size := by obtain ⟨m, hm⟩ := h2; exact DataW.trod_lt m _ _ _ hm
  obtain ⟨x2, y2, rfl⟩ := open_uu Try.underlying22 (by rw [Try.underlying47]) (by kernel_rfl) (by kernel_rfl) (hval 2 47 v2 rfl rfl)
  refine (walkN_BranchRaw x0 x1 x2 y2 W).mono fun e W' ⟨he, bel⟩ => ?_
  subst he
  exact ⟨_, rfl, _, _, _, [], _, [], hW', trodAll_mk1 (shut_bool Try.underlying4 _), (trodAll_cons_mk (Below.trod laidOut (by kernel_rfl) (of_decide_eq_true (by kernel_rfl)) h0 bel lt0) (trodAll_cons_mk (Below.trod laidOut (by kernel_rfl) (of_decide_eq_true (by kernel_rfl)) h1 bel lt1) (trodAll_cons_mk (Below.trod laidOut (by kernel_rfl) (of_decide_eq_true (by kernel_rfl)) h2 bel lt2) trodAll_mk0))), rfl, bel.frame _, fun h => by cases h⟩
theorem over : Rows.branchRawRow.holds Try.pinned (OpenSpec.ofChange Rows.branchRawSpec) :=
  OpenClaim.holds_of_wide 11 Try.f11 rfl rfl rfl rfl rfl rfl rfl ⟨rfl, rfl, rfl, rfl, rfl⟩ rfl rfl rfl rfl rfl (by kernel_rfl) Try.func11 (by kernel_rfl)
    (of_decide_eq_true (by kernel_rfl)) (by unfold Func.isWrapper; first | (rw [if_pos (by decide +kernel)]; kernel_rfl) | (rw [if_neg (by decide +kernel)]; exact ⟨rfl, rfl⟩))
    (fun os started H enc _ => lifted os started H enc)
/-- The given statement. -/
theorem proved : Rows.BranchRawSaid := over
#print axioms proved
end branchRaw
end Go.Proofs.Ytmghpoagpiljhab
