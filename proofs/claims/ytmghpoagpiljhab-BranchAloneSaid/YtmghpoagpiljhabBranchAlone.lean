/- BranchAlone: for every comparison and two numbers the law returns true, and its arguments read as before. No condition. -/
import Derived.Test.YtmghpoagpiljhabOpen
import Derived.Test.YtmghpoagpiljhabBr7
set_option linter.unusedSimpArgs false
namespace Go.Proofs.Ytmghpoagpiljhab
open Go.ChangeShapes Go.WideShapes Go.ChangeAt Go.RowKit
open PlainTnum (N)
open PlainScalar (Rng)
set_option linter.unusedVariables false
set_option maxRecDepth 100000 in
set_option maxHeartbeats 4000000 in
theorem walk_BranchAlone (op : Int) (l : Bool) (p q : W) (w : World) : Calls Try.prog 9 #[.int .i64 op, .bool l, .agg #[uv p, uv q]] w fun e w' => e = .returned (.bool true) ∧ Below w.heap.size w w' := by
  obtain ⟨n, hn, hby⟩ := rem_is 11 (by decide) (by decide) op
  replace hby : wrap64 ((IntKind.u64.wrap op).tmod 11) = (n : Int) := hby
  obtain ⟨K, hKo, hK⟩ : ∃ K : Int, PlainBranch.isOp K ∧ (#[.int .i64 1, .int .i64 2, .int .i64 3, .int .i64 4, .int .i64 5, .int .i64 6, .int .i64 7, .int .i64 10, .int .i64 11, .int .i64 12, .int .i64 13] : Array Value)[n]? = some (.int .i64 K) := by
    match n, hn with
    | 0, _ => exact ⟨1, by unfold PlainBranch.isOp; omega, rfl⟩
    | 1, _ => exact ⟨2, by unfold PlainBranch.isOp; omega, rfl⟩
    | 2, _ => exact ⟨3, by unfold PlainBranch.isOp; omega, rfl⟩
    | 3, _ => exact ⟨4, by unfold PlainBranch.isOp; omega, rfl⟩
    | 4, _ => exact ⟨5, by unfold PlainBranch.isOp; omega, rfl⟩
    | 5, _ => exact ⟨6, by unfold PlainBranch.isOp; omega, rfl⟩
    | 6, _ => exact ⟨7, by unfold PlainBranch.isOp; omega, rfl⟩
    | 7, _ => exact ⟨10, by unfold PlainBranch.isOp; omega, rfl⟩
    | 8, _ => exact ⟨11, by unfold PlainBranch.isOp; omega, rfl⟩
    | 9, _ => exact ⟨12, by unfold PlainBranch.isOp; omega, rfl⟩
    | 10, _ => exact ⟨13, by unfold PlainBranch.isOp; omega, rfl⟩
  have HK := Lib.hid hK; clear hK
  have k_H := rholds_c K l p q
  have c1 := PlainBranch.refine_const K l p q true; have c2 := PlainBranch.refine_const K l p q false
  have k_R1 := refine_c K l (PlainScalar.const p) (PlainScalar.const q) true; have k_R2 := refine_c K l (PlainScalar.const p) (PlainScalar.const q) false
  rw [c1] at k_R1; rw [c2] at k_R2; clear c1 c2 hKo
  have k_P := sconst_c p; have k_Q := sconst_c q
  generalize PlainScalar.const p = vP at k_P k_R1 k_R2; generalize PlainScalar.const q = vQ at k_Q k_R1 k_R2; generalize PlainBranch.holds K l p q = H at k_H k_R1 k_R2
  unfold PlainBranch.zero at k_R1 k_R2; generalize PlainScalar.none_ = Z0 at k_R1 k_R2
  cases H
  · replace k_R1 : ∀ w : World, Calls Try.prog 38 #[.int .i64 K, .bool l, rv vP, rv vQ, .bool true] w fun e w' => e = .returned (.tuple #[rv Z0, rv Z0, .bool false]) ∧ Below w.heap.size w w' := k_R1
    replace k_R2 : ∀ w : World, Calls Try.prog 38 #[.int .i64 K, .bool l, rv vP, rv vQ, .bool false] w fun e w' => e = .returned (.tuple #[rv vP, rv vQ, .bool true]) ∧ Below w.heap.size w w' := k_R2
    go_enter Try.func9, Try.ntmps9
    go_upto_region 1 with fail
    obtain ⟨gn, hgn⟩ : ∃ g, g = w.heap.size := ⟨_, rfl⟩
    have Bn : Blk (w.alloc (.cells #[uv p, uv q] 47)) (w.heap.size) 47 #[uv p, uv q] := (Blk.new w 47 #[uv p, uv q])
    have hB : Below w.heap.size w (w.alloc (.cells #[uv p, uv q] 47)) := (Bl_alloc (Bl_refl w) _)
    clear hgn
    clear gn
    generalize (w.alloc (.cells #[uv p, uv q] 47)) = w1 at *
    obtain ⟨cn0, cn1⟩ := cells2 Bn
    have fn := Bn.frozen; have ln := Bn.lt
    go_upto_region 2 with fail
    clear cn0 cn1 fn ln
    have Bs := Blk.new w1 3 #[.int .i64 1, .int .i64 2, .int .i64 3, .int .i64 4, .int .i64 5, .int .i64 6, .int .i64 7, .int .i64 10, .int .i64 11, .int .i64 12, .int .i64 13]
    have hgs := hB.size
    have hnns := Nat.ne_of_lt Bn.lt; have hltns := Bn.lt
    replace Bn : Blk (w1.alloc (.cells #[.int .i64 1, .int .i64 2, .int .i64 3, .int .i64 4, .int .i64 5, .int .i64 6, .int .i64 7, .int .i64 10, .int .i64 11, .int .i64 12, .int .i64 13] 3)) (w.heap.size) 47 #[uv p, uv q] := Bn.alloc _
    replace hB : Below w.heap.size w (w1.alloc (.cells #[.int .i64 1, .int .i64 2, .int .i64 3, .int .i64 4, .int .i64 5, .int .i64 6, .int .i64 7, .int .i64 10, .int .i64 11, .int .i64 12, .int .i64 13] 3)) := Bl_alloc hB _
    generalize (w1.alloc (.cells #[.int .i64 1, .int .i64 2, .int .i64 3, .int .i64 4, .int .i64 5, .int .i64 6, .int .i64 7, .int .i64 10, .int .i64 11, .int .i64 12, .int .i64 13] 3)) = w2 at *
    generalize w1.heap.size = gs at *
    obtain ⟨cn0, cn1⟩ := cells2 Bn
    have fn := Bn.frozen; have ln := Bn.lt
    have cs0 : w2.cell? ⟨gs, 0, none⟩ = some (.int .i64 1) := Bs.cell 0
    have cs1 : w2.cell? ⟨gs, 1, none⟩ = some (.int .i64 2) := Bs.cell 1
    have cs2 : w2.cell? ⟨gs, 2, none⟩ = some (.int .i64 3) := Bs.cell 2
    have cs3 : w2.cell? ⟨gs, 3, none⟩ = some (.int .i64 4) := Bs.cell 3
    have cs4 : w2.cell? ⟨gs, 4, none⟩ = some (.int .i64 5) := Bs.cell 4
    have cs5 : w2.cell? ⟨gs, 5, none⟩ = some (.int .i64 6) := Bs.cell 5
    have cs6 : w2.cell? ⟨gs, 6, none⟩ = some (.int .i64 7) := Bs.cell 6
    have cs7 : w2.cell? ⟨gs, 7, none⟩ = some (.int .i64 10) := Bs.cell 7
    have cs8 : w2.cell? ⟨gs, 8, none⟩ = some (.int .i64 11) := Bs.cell 8
    have cs9 : w2.cell? ⟨gs, 9, none⟩ = some (.int .i64 12) := Bs.cell 9
    have cs10 : w2.cell? ⟨gs, 10, none⟩ = some (.int .i64 13) := Bs.cell 10
    have fs := Bs.frozen; have ls := Bs.lt
    have cK := (Bs.cell n).trans HK.out
    go_wp2_with fail
    refine (k_H _).mono ?_
    rintro e w3 ⟨rfl, hb⟩
    clear cn0 cn1 fn ln
    clear cs0 cs1 cs2 cs3 cs4 cs5 cs6 cs7 cs8 cs9 cs10 fs ls
    replace Bn := (Bn).next hb
    replace Bs := (Bs).next hb
    replace hB : Below w.heap.size w w3 := by repeat (first | exact hB | (refine Bl_set ?_ (by first | omega | (simp; omega)) _) | apply Bl_alloc | (refine Bl_trans ?_ hb))
    clear hb
    obtain ⟨cn0, cn1⟩ := cells2 Bn
    have fn := Bn.frozen; have ln := Bn.lt
    have cs0 : w3.cell? ⟨gs, 0, none⟩ = some (.int .i64 1) := Bs.cell 0
    have cs1 : w3.cell? ⟨gs, 1, none⟩ = some (.int .i64 2) := Bs.cell 1
    have cs2 : w3.cell? ⟨gs, 2, none⟩ = some (.int .i64 3) := Bs.cell 2
    have cs3 : w3.cell? ⟨gs, 3, none⟩ = some (.int .i64 4) := Bs.cell 3
    have cs4 : w3.cell? ⟨gs, 4, none⟩ = some (.int .i64 5) := Bs.cell 4
    have cs5 : w3.cell? ⟨gs, 5, none⟩ = some (.int .i64 6) := Bs.cell 5
    have cs6 : w3.cell? ⟨gs, 6, none⟩ = some (.int .i64 7) := Bs.cell 6
    have cs7 : w3.cell? ⟨gs, 7, none⟩ = some (.int .i64 10) := Bs.cell 7
    have cs8 : w3.cell? ⟨gs, 8, none⟩ = some (.int .i64 11) := Bs.cell 8
    have cs9 : w3.cell? ⟨gs, 9, none⟩ = some (.int .i64 12) := Bs.cell 9
    have cs10 : w3.cell? ⟨gs, 10, none⟩ = some (.int .i64 13) := Bs.cell 10
    have fs := Bs.frozen; have ls := Bs.lt
    go_wp2_with fail
    clear cn0 cn1; obtain ⟨cn0, cn1⟩ := lcells2 Bn
    replace cs0 : ∀ g : Later w3, g.w.cell? ⟨gs, 0, none⟩ = some (.int .i64 1) := fun g => g.cell (Bs.cell 0)
    replace cs1 : ∀ g : Later w3, g.w.cell? ⟨gs, 1, none⟩ = some (.int .i64 2) := fun g => g.cell (Bs.cell 1)
    replace cs2 : ∀ g : Later w3, g.w.cell? ⟨gs, 2, none⟩ = some (.int .i64 3) := fun g => g.cell (Bs.cell 2)
    replace cs3 : ∀ g : Later w3, g.w.cell? ⟨gs, 3, none⟩ = some (.int .i64 4) := fun g => g.cell (Bs.cell 3)
    replace cs4 : ∀ g : Later w3, g.w.cell? ⟨gs, 4, none⟩ = some (.int .i64 5) := fun g => g.cell (Bs.cell 4)
    replace cs5 : ∀ g : Later w3, g.w.cell? ⟨gs, 5, none⟩ = some (.int .i64 6) := fun g => g.cell (Bs.cell 5)
    replace cs6 : ∀ g : Later w3, g.w.cell? ⟨gs, 6, none⟩ = some (.int .i64 7) := fun g => g.cell (Bs.cell 6)
    replace cs7 : ∀ g : Later w3, g.w.cell? ⟨gs, 7, none⟩ = some (.int .i64 10) := fun g => g.cell (Bs.cell 7)
    replace cs8 : ∀ g : Later w3, g.w.cell? ⟨gs, 8, none⟩ = some (.int .i64 11) := fun g => g.cell (Bs.cell 8)
    replace cs9 : ∀ g : Later w3, g.w.cell? ⟨gs, 9, none⟩ = some (.int .i64 12) := fun g => g.cell (Bs.cell 9)
    replace cs10 : ∀ g : Later w3, g.w.cell? ⟨gs, 10, none⟩ = some (.int .i64 13) := fun g => g.cell (Bs.cell 10)
    refine wp_region_mixL 15 (fun k => k == 11 || k == 12) (fun _ => #[.int .u64 0, .int .u64 0, .int .u64 0, .int .u64 0, .int .i64 0, .int .i64 0]) (by kernel_rfl) (by kernel_rfl) (fun d _ _ _ _ h => by cases d <;> exact h) (fun o t ho ht => by
      simp at ho
      rcases ho with rfl | rfl | rfl | rfl | rfl | rfl | rfl | rfl | rfl | rfl | rfl | rfl | rfl | rfl | rfl <;> first | (cases ht; done) | (obtain rfl := Option.some.inj ht; exact fun ρ w => new_rng14 ht ρ w)) ?_
    simp only [List.take_succ_cons, List.take_zero, List.drop_succ_cons, List.drop_zero]
    repeat ((with_reducible refine wpMixL_step (fun K hK => ?_)); go_simp; first | ((with_reducible refine hK _ ?_); clear hK K) | (rw [if_neg (by decide)]; (with_reducible refine hK _ ?_); clear hK K) | (apply Exists.intro; refine ⟨fun g => ?_, hK _ ?_⟩; ((with_reducible refine Calls.mono (k_P g.w) ?_); exact fun _ _ h => h); clear hK K) | (apply Exists.intro; refine ⟨fun g => ?_, hK _ ?_⟩; ((with_reducible refine Calls.mono (k_Q g.w) ?_); exact fun _ _ h => h); clear hK K) | (apply Exists.intro; refine ⟨fun g => ?_, hK _ ?_⟩; ((with_reducible refine Calls.mono (k_R1 g.w) ?_); exact fun _ _ h => h); clear hK K))
    refine wpMixL_nil ?_
    intro G w4 hgr hblk hdist
    have hb : Below w3.heap.size w3 w4 := hgr
    replace Bn := Bn.next hb
    replace Bs := Bs.next hb
    obtain ⟨Bx, hlx⟩ := hblk 13 _ rfl
    obtain ⟨By, hly⟩ := hblk 14 _ rfl
    have hdxy := hdist 13 14 _ _ rfl rfl (by decide)
    have hgx : w.heap.size ≤ G 13 := Nat.le_trans hB.size hlx
    have hnnx : w.heap.size ≠ G 13 := Nat.ne_of_lt (Nat.lt_of_lt_of_le ln hlx)
    have hnsx : gs ≠ G 13 := Nat.ne_of_lt (Nat.lt_of_lt_of_le ls hlx)
    clear hlx
    have hgy : w.heap.size ≤ G 14 := Nat.le_trans hB.size hly
    have hnny : w.heap.size ≠ G 14 := Nat.ne_of_lt (Nat.lt_of_lt_of_le ln hly)
    have hnsy : gs ≠ G 14 := Nat.ne_of_lt (Nat.lt_of_lt_of_le ls hly)
    clear hly
    clear cn0 cn1 fn ln
    clear cs0 cs1 cs2 cs3 cs4 cs5 cs6 cs7 cs8 cs9 cs10 fs ls
    replace hB : Below w.heap.size w w4 := Bl_trans hB hb
    simp only [putAll, isAlloc, Act.put]
    generalize G 13 = gx at *
    generalize G 14 = gy at *
    clear hb hgr hblk hdist
    obtain ⟨cn0, cn1⟩ := cells2 Bn
    have fn := Bn.frozen; have ln := Bn.lt
    have cs0 : w4.cell? ⟨gs, 0, none⟩ = some (.int .i64 1) := Bs.cell 0
    have cs1 : w4.cell? ⟨gs, 1, none⟩ = some (.int .i64 2) := Bs.cell 1
    have cs2 : w4.cell? ⟨gs, 2, none⟩ = some (.int .i64 3) := Bs.cell 2
    have cs3 : w4.cell? ⟨gs, 3, none⟩ = some (.int .i64 4) := Bs.cell 3
    have cs4 : w4.cell? ⟨gs, 4, none⟩ = some (.int .i64 5) := Bs.cell 4
    have cs5 : w4.cell? ⟨gs, 5, none⟩ = some (.int .i64 6) := Bs.cell 5
    have cs6 : w4.cell? ⟨gs, 6, none⟩ = some (.int .i64 7) := Bs.cell 6
    have cs7 : w4.cell? ⟨gs, 7, none⟩ = some (.int .i64 10) := Bs.cell 7
    have cs8 : w4.cell? ⟨gs, 8, none⟩ = some (.int .i64 11) := Bs.cell 8
    have cs9 : w4.cell? ⟨gs, 9, none⟩ = some (.int .i64 12) := Bs.cell 9
    have cs10 : w4.cell? ⟨gs, 10, none⟩ = some (.int .i64 13) := Bs.cell 10
    have fs := Bs.frozen; have ls := Bs.lt
    obtain ⟨cx0, cx1, cx2, cx3, cx4, cx5⟩ := cells6 Bx
    have fx := Bx.frozen; have lx := Bx.lt
    obtain ⟨cy0, cy1, cy2, cy3, cy4, cy5⟩ := cells6 By
    have fy := By.frozen; have ly := By.lt
    go_upto_region 5 with fail
    clear cn0 cn1 fn ln
    clear cs0 cs1 cs2 cs3 cs4 cs5 cs6 cs7 cs8 cs9 cs10 fs ls
    clear cx0 cx1 cx2 cx3 cx4 cx5 fx lx
    clear cy0 cy1 cy2 cy3 cy4 cy5 fy ly
    replace Bn : Blk ((((((w4.setCell ⟨gx, 0, none⟩ (uv Z0.b.v)).setCell ⟨gx, 1, none⟩ (uv Z0.b.m)).setCell ⟨gx, 2, none⟩ (uv Z0.lo)).setCell ⟨gx, 3, none⟩ (uv Z0.hi)).setCell ⟨gx, 4, none⟩ (sv Z0.sl)).setCell ⟨gx, 5, none⟩ (sv Z0.sh)) (w.heap.size) 47 #[uv p, uv q] := ((((((Bn.far (by first | (simp; done) | (simp; omega) | (simp [*]; done) | (simp only [ne_eq]; constructor <;> omega)) _).far (by first | (simp; done) | (simp; omega) | (simp [*]; done) | (simp only [ne_eq]; constructor <;> omega)) _).far (by first | (simp; done) | (simp; omega) | (simp [*]; done) | (simp only [ne_eq]; constructor <;> omega)) _).far (by first | (simp; done) | (simp; omega) | (simp [*]; done) | (simp only [ne_eq]; constructor <;> omega)) _).far (by first | (simp; done) | (simp; omega) | (simp [*]; done) | (simp only [ne_eq]; constructor <;> omega)) _).far (by first | (simp; done) | (simp; omega) | (simp [*]; done) | (simp only [ne_eq]; constructor <;> omega)) _)
    replace Bs : Blk ((((((w4.setCell ⟨gx, 0, none⟩ (uv Z0.b.v)).setCell ⟨gx, 1, none⟩ (uv Z0.b.m)).setCell ⟨gx, 2, none⟩ (uv Z0.lo)).setCell ⟨gx, 3, none⟩ (uv Z0.hi)).setCell ⟨gx, 4, none⟩ (sv Z0.sl)).setCell ⟨gx, 5, none⟩ (sv Z0.sh)) (gs) 3 #[.int .i64 1, .int .i64 2, .int .i64 3, .int .i64 4, .int .i64 5, .int .i64 6, .int .i64 7, .int .i64 10, .int .i64 11, .int .i64 12, .int .i64 13] := ((((((Bs.far (by first | (simp; done) | (simp; omega) | (simp [*]; done) | (simp only [ne_eq]; constructor <;> omega)) _).far (by first | (simp; done) | (simp; omega) | (simp [*]; done) | (simp only [ne_eq]; constructor <;> omega)) _).far (by first | (simp; done) | (simp; omega) | (simp [*]; done) | (simp only [ne_eq]; constructor <;> omega)) _).far (by first | (simp; done) | (simp; omega) | (simp [*]; done) | (simp only [ne_eq]; constructor <;> omega)) _).far (by first | (simp; done) | (simp; omega) | (simp [*]; done) | (simp only [ne_eq]; constructor <;> omega)) _).far (by first | (simp; done) | (simp; omega) | (simp [*]; done) | (simp only [ne_eq]; constructor <;> omega)) _)
    replace Bx : Blk ((((((w4.setCell ⟨gx, 0, none⟩ (uv Z0.b.v)).setCell ⟨gx, 1, none⟩ (uv Z0.b.m)).setCell ⟨gx, 2, none⟩ (uv Z0.lo)).setCell ⟨gx, 3, none⟩ (uv Z0.hi)).setCell ⟨gx, 4, none⟩ (sv Z0.sl)).setCell ⟨gx, 5, none⟩ (sv Z0.sh)) (gx) 27 #[uv Z0.b.v, uv Z0.b.m, uv Z0.lo, uv Z0.hi, sv Z0.sl, sv Z0.sh] := ((((((Bx.set_ 0 _).set_ 1 _).set_ 2 _).set_ 3 _).set_ 4 _).set_ 5 _)
    replace By : Blk ((((((w4.setCell ⟨gx, 0, none⟩ (uv Z0.b.v)).setCell ⟨gx, 1, none⟩ (uv Z0.b.m)).setCell ⟨gx, 2, none⟩ (uv Z0.lo)).setCell ⟨gx, 3, none⟩ (uv Z0.hi)).setCell ⟨gx, 4, none⟩ (sv Z0.sl)).setCell ⟨gx, 5, none⟩ (sv Z0.sh)) (gy) 27 #[.int .u64 0, .int .u64 0, .int .u64 0, .int .u64 0, .int .i64 0, .int .i64 0] := ((((((By.far (by first | (simp; done) | (simp; omega) | (simp [*]; done) | (simp only [ne_eq]; constructor <;> omega)) _).far (by first | (simp; done) | (simp; omega) | (simp [*]; done) | (simp only [ne_eq]; constructor <;> omega)) _).far (by first | (simp; done) | (simp; omega) | (simp [*]; done) | (simp only [ne_eq]; constructor <;> omega)) _).far (by first | (simp; done) | (simp; omega) | (simp [*]; done) | (simp only [ne_eq]; constructor <;> omega)) _).far (by first | (simp; done) | (simp; omega) | (simp [*]; done) | (simp only [ne_eq]; constructor <;> omega)) _).far (by first | (simp; done) | (simp; omega) | (simp [*]; done) | (simp only [ne_eq]; constructor <;> omega)) _)
    replace hB : Below w.heap.size w ((((((w4.setCell ⟨gx, 0, none⟩ (uv Z0.b.v)).setCell ⟨gx, 1, none⟩ (uv Z0.b.m)).setCell ⟨gx, 2, none⟩ (uv Z0.lo)).setCell ⟨gx, 3, none⟩ (uv Z0.hi)).setCell ⟨gx, 4, none⟩ (sv Z0.sl)).setCell ⟨gx, 5, none⟩ (sv Z0.sh)) := (Bl_set (Bl_set (Bl_set (Bl_set (Bl_set (Bl_set hB (by first | omega | (simp; done) | (simp; omega)) _) (by first | omega | (simp; done) | (simp; omega)) _) (by first | omega | (simp; done) | (simp; omega)) _) (by first | omega | (simp; done) | (simp; omega)) _) (by first | omega | (simp; done) | (simp; omega)) _) (by first | omega | (simp; done) | (simp; omega)) _)
    replace Bn : Blk ((((((((((((w4.setCell ⟨gx, 0, none⟩ (uv Z0.b.v)).setCell ⟨gx, 1, none⟩ (uv Z0.b.m)).setCell ⟨gx, 2, none⟩ (uv Z0.lo)).setCell ⟨gx, 3, none⟩ (uv Z0.hi)).setCell ⟨gx, 4, none⟩ (sv Z0.sl)).setCell ⟨gx, 5, none⟩ (sv Z0.sh)).setCell ⟨gy, 0, none⟩ (uv Z0.b.v)).setCell ⟨gy, 1, none⟩ (uv Z0.b.m)).setCell ⟨gy, 2, none⟩ (uv Z0.lo)).setCell ⟨gy, 3, none⟩ (uv Z0.hi)).setCell ⟨gy, 4, none⟩ (sv Z0.sl)).setCell ⟨gy, 5, none⟩ (sv Z0.sh)) (w.heap.size) 47 #[uv p, uv q] := ((((((Bn.far (by first | (simp; done) | (simp; omega) | (simp [*]; done) | (simp only [ne_eq]; constructor <;> omega)) _).far (by first | (simp; done) | (simp; omega) | (simp [*]; done) | (simp only [ne_eq]; constructor <;> omega)) _).far (by first | (simp; done) | (simp; omega) | (simp [*]; done) | (simp only [ne_eq]; constructor <;> omega)) _).far (by first | (simp; done) | (simp; omega) | (simp [*]; done) | (simp only [ne_eq]; constructor <;> omega)) _).far (by first | (simp; done) | (simp; omega) | (simp [*]; done) | (simp only [ne_eq]; constructor <;> omega)) _).far (by first | (simp; done) | (simp; omega) | (simp [*]; done) | (simp only [ne_eq]; constructor <;> omega)) _)
    replace Bs : Blk ((((((((((((w4.setCell ⟨gx, 0, none⟩ (uv Z0.b.v)).setCell ⟨gx, 1, none⟩ (uv Z0.b.m)).setCell ⟨gx, 2, none⟩ (uv Z0.lo)).setCell ⟨gx, 3, none⟩ (uv Z0.hi)).setCell ⟨gx, 4, none⟩ (sv Z0.sl)).setCell ⟨gx, 5, none⟩ (sv Z0.sh)).setCell ⟨gy, 0, none⟩ (uv Z0.b.v)).setCell ⟨gy, 1, none⟩ (uv Z0.b.m)).setCell ⟨gy, 2, none⟩ (uv Z0.lo)).setCell ⟨gy, 3, none⟩ (uv Z0.hi)).setCell ⟨gy, 4, none⟩ (sv Z0.sl)).setCell ⟨gy, 5, none⟩ (sv Z0.sh)) (gs) 3 #[.int .i64 1, .int .i64 2, .int .i64 3, .int .i64 4, .int .i64 5, .int .i64 6, .int .i64 7, .int .i64 10, .int .i64 11, .int .i64 12, .int .i64 13] := ((((((Bs.far (by first | (simp; done) | (simp; omega) | (simp [*]; done) | (simp only [ne_eq]; constructor <;> omega)) _).far (by first | (simp; done) | (simp; omega) | (simp [*]; done) | (simp only [ne_eq]; constructor <;> omega)) _).far (by first | (simp; done) | (simp; omega) | (simp [*]; done) | (simp only [ne_eq]; constructor <;> omega)) _).far (by first | (simp; done) | (simp; omega) | (simp [*]; done) | (simp only [ne_eq]; constructor <;> omega)) _).far (by first | (simp; done) | (simp; omega) | (simp [*]; done) | (simp only [ne_eq]; constructor <;> omega)) _).far (by first | (simp; done) | (simp; omega) | (simp [*]; done) | (simp only [ne_eq]; constructor <;> omega)) _)
    replace Bx : Blk ((((((((((((w4.setCell ⟨gx, 0, none⟩ (uv Z0.b.v)).setCell ⟨gx, 1, none⟩ (uv Z0.b.m)).setCell ⟨gx, 2, none⟩ (uv Z0.lo)).setCell ⟨gx, 3, none⟩ (uv Z0.hi)).setCell ⟨gx, 4, none⟩ (sv Z0.sl)).setCell ⟨gx, 5, none⟩ (sv Z0.sh)).setCell ⟨gy, 0, none⟩ (uv Z0.b.v)).setCell ⟨gy, 1, none⟩ (uv Z0.b.m)).setCell ⟨gy, 2, none⟩ (uv Z0.lo)).setCell ⟨gy, 3, none⟩ (uv Z0.hi)).setCell ⟨gy, 4, none⟩ (sv Z0.sl)).setCell ⟨gy, 5, none⟩ (sv Z0.sh)) (gx) 27 #[uv Z0.b.v, uv Z0.b.m, uv Z0.lo, uv Z0.hi, sv Z0.sl, sv Z0.sh] := ((((((Bx.far (by first | (simp; done) | (simp; omega) | (simp [*]; done) | (simp only [ne_eq]; constructor <;> omega)) _).far (by first | (simp; done) | (simp; omega) | (simp [*]; done) | (simp only [ne_eq]; constructor <;> omega)) _).far (by first | (simp; done) | (simp; omega) | (simp [*]; done) | (simp only [ne_eq]; constructor <;> omega)) _).far (by first | (simp; done) | (simp; omega) | (simp [*]; done) | (simp only [ne_eq]; constructor <;> omega)) _).far (by first | (simp; done) | (simp; omega) | (simp [*]; done) | (simp only [ne_eq]; constructor <;> omega)) _).far (by first | (simp; done) | (simp; omega) | (simp [*]; done) | (simp only [ne_eq]; constructor <;> omega)) _)
    replace By : Blk ((((((((((((w4.setCell ⟨gx, 0, none⟩ (uv Z0.b.v)).setCell ⟨gx, 1, none⟩ (uv Z0.b.m)).setCell ⟨gx, 2, none⟩ (uv Z0.lo)).setCell ⟨gx, 3, none⟩ (uv Z0.hi)).setCell ⟨gx, 4, none⟩ (sv Z0.sl)).setCell ⟨gx, 5, none⟩ (sv Z0.sh)).setCell ⟨gy, 0, none⟩ (uv Z0.b.v)).setCell ⟨gy, 1, none⟩ (uv Z0.b.m)).setCell ⟨gy, 2, none⟩ (uv Z0.lo)).setCell ⟨gy, 3, none⟩ (uv Z0.hi)).setCell ⟨gy, 4, none⟩ (sv Z0.sl)).setCell ⟨gy, 5, none⟩ (sv Z0.sh)) (gy) 27 #[uv Z0.b.v, uv Z0.b.m, uv Z0.lo, uv Z0.hi, sv Z0.sl, sv Z0.sh] := ((((((By.set_ 0 _).set_ 1 _).set_ 2 _).set_ 3 _).set_ 4 _).set_ 5 _)
    replace hB : Below w.heap.size w ((((((((((((w4.setCell ⟨gx, 0, none⟩ (uv Z0.b.v)).setCell ⟨gx, 1, none⟩ (uv Z0.b.m)).setCell ⟨gx, 2, none⟩ (uv Z0.lo)).setCell ⟨gx, 3, none⟩ (uv Z0.hi)).setCell ⟨gx, 4, none⟩ (sv Z0.sl)).setCell ⟨gx, 5, none⟩ (sv Z0.sh)).setCell ⟨gy, 0, none⟩ (uv Z0.b.v)).setCell ⟨gy, 1, none⟩ (uv Z0.b.m)).setCell ⟨gy, 2, none⟩ (uv Z0.lo)).setCell ⟨gy, 3, none⟩ (uv Z0.hi)).setCell ⟨gy, 4, none⟩ (sv Z0.sl)).setCell ⟨gy, 5, none⟩ (sv Z0.sh)) := (Bl_set (Bl_set (Bl_set (Bl_set (Bl_set (Bl_set hB (by first | omega | (simp; done) | (simp; omega)) _) (by first | omega | (simp; done) | (simp; omega)) _) (by first | omega | (simp; done) | (simp; omega)) _) (by first | omega | (simp; done) | (simp; omega)) _) (by first | omega | (simp; done) | (simp; omega)) _) (by first | omega | (simp; done) | (simp; omega)) _)
    generalize ((((((((((((w4.setCell ⟨gx, 0, none⟩ (uv Z0.b.v)).setCell ⟨gx, 1, none⟩ (uv Z0.b.m)).setCell ⟨gx, 2, none⟩ (uv Z0.lo)).setCell ⟨gx, 3, none⟩ (uv Z0.hi)).setCell ⟨gx, 4, none⟩ (sv Z0.sl)).setCell ⟨gx, 5, none⟩ (sv Z0.sh)).setCell ⟨gy, 0, none⟩ (uv Z0.b.v)).setCell ⟨gy, 1, none⟩ (uv Z0.b.m)).setCell ⟨gy, 2, none⟩ (uv Z0.lo)).setCell ⟨gy, 3, none⟩ (uv Z0.hi)).setCell ⟨gy, 4, none⟩ (sv Z0.sl)).setCell ⟨gy, 5, none⟩ (sv Z0.sh)) = w5 at *
    obtain ⟨cn0, cn1⟩ := cells2 Bn
    have fn := Bn.frozen; have ln := Bn.lt
    have cs0 : w5.cell? ⟨gs, 0, none⟩ = some (.int .i64 1) := Bs.cell 0
    have cs1 : w5.cell? ⟨gs, 1, none⟩ = some (.int .i64 2) := Bs.cell 1
    have cs2 : w5.cell? ⟨gs, 2, none⟩ = some (.int .i64 3) := Bs.cell 2
    have cs3 : w5.cell? ⟨gs, 3, none⟩ = some (.int .i64 4) := Bs.cell 3
    have cs4 : w5.cell? ⟨gs, 4, none⟩ = some (.int .i64 5) := Bs.cell 4
    have cs5 : w5.cell? ⟨gs, 5, none⟩ = some (.int .i64 6) := Bs.cell 5
    have cs6 : w5.cell? ⟨gs, 6, none⟩ = some (.int .i64 7) := Bs.cell 6
    have cs7 : w5.cell? ⟨gs, 7, none⟩ = some (.int .i64 10) := Bs.cell 7
    have cs8 : w5.cell? ⟨gs, 8, none⟩ = some (.int .i64 11) := Bs.cell 8
    have cs9 : w5.cell? ⟨gs, 9, none⟩ = some (.int .i64 12) := Bs.cell 9
    have cs10 : w5.cell? ⟨gs, 10, none⟩ = some (.int .i64 13) := Bs.cell 10
    have fs := Bs.frozen; have ls := Bs.lt
    obtain ⟨cx0, cx1, cx2, cx3, cx4, cx5⟩ := cells6 Bx
    have fx := Bx.frozen; have lx := Bx.lt
    obtain ⟨cy0, cy1, cy2, cy3, cy4, cy5⟩ := cells6 By
    have fy := By.frozen; have ly := By.lt
    go_wp2_with fail
    clear cn0 cn1; obtain ⟨cn0, cn1⟩ := lcells2 Bn
    replace cs0 : ∀ g : Later w5, g.w.cell? ⟨gs, 0, none⟩ = some (.int .i64 1) := fun g => g.cell (Bs.cell 0)
    replace cs1 : ∀ g : Later w5, g.w.cell? ⟨gs, 1, none⟩ = some (.int .i64 2) := fun g => g.cell (Bs.cell 1)
    replace cs2 : ∀ g : Later w5, g.w.cell? ⟨gs, 2, none⟩ = some (.int .i64 3) := fun g => g.cell (Bs.cell 2)
    replace cs3 : ∀ g : Later w5, g.w.cell? ⟨gs, 3, none⟩ = some (.int .i64 4) := fun g => g.cell (Bs.cell 3)
    replace cs4 : ∀ g : Later w5, g.w.cell? ⟨gs, 4, none⟩ = some (.int .i64 5) := fun g => g.cell (Bs.cell 4)
    replace cs5 : ∀ g : Later w5, g.w.cell? ⟨gs, 5, none⟩ = some (.int .i64 6) := fun g => g.cell (Bs.cell 5)
    replace cs6 : ∀ g : Later w5, g.w.cell? ⟨gs, 6, none⟩ = some (.int .i64 7) := fun g => g.cell (Bs.cell 6)
    replace cs7 : ∀ g : Later w5, g.w.cell? ⟨gs, 7, none⟩ = some (.int .i64 10) := fun g => g.cell (Bs.cell 7)
    replace cs8 : ∀ g : Later w5, g.w.cell? ⟨gs, 8, none⟩ = some (.int .i64 11) := fun g => g.cell (Bs.cell 8)
    replace cs9 : ∀ g : Later w5, g.w.cell? ⟨gs, 9, none⟩ = some (.int .i64 12) := fun g => g.cell (Bs.cell 9)
    replace cs10 : ∀ g : Later w5, g.w.cell? ⟨gs, 10, none⟩ = some (.int .i64 13) := fun g => g.cell (Bs.cell 10)
    clear cx0 cx1 cx2 cx3 cx4 cx5; obtain ⟨cx0, cx1, cx2, cx3, cx4, cx5⟩ := lcells6 Bx
    clear cy0 cy1 cy2 cy3 cy4 cy5; obtain ⟨cy0, cy1, cy2, cy3, cy4, cy5⟩ := lcells6 By
    refine wp_region_mixL 15 (fun k => k == 11 || k == 12) (fun _ => #[.int .u64 0, .int .u64 0, .int .u64 0, .int .u64 0, .int .i64 0, .int .i64 0]) (by kernel_rfl) (by kernel_rfl) (fun d _ _ _ _ h => by cases d <;> exact h) (fun o t ho ht => by
      simp at ho
      rcases ho with rfl | rfl | rfl | rfl | rfl | rfl | rfl | rfl | rfl | rfl | rfl | rfl | rfl | rfl | rfl <;> first | (cases ht; done) | (obtain rfl := Option.some.inj ht; exact fun ρ w => new_rng14 ht ρ w)) ?_
    simp only [List.take_succ_cons, List.take_zero, List.drop_succ_cons, List.drop_zero]
    repeat ((with_reducible refine wpMixL_step (fun K hK => ?_)); go_simp; first | ((with_reducible refine hK _ ?_); clear hK K) | (rw [if_neg (by decide)]; (with_reducible refine hK _ ?_); clear hK K) | (apply Exists.intro; refine ⟨fun g => ?_, hK _ ?_⟩; ((with_reducible refine Calls.mono (k_P g.w) ?_); exact fun _ _ h => h); clear hK K) | (apply Exists.intro; refine ⟨fun g => ?_, hK _ ?_⟩; ((with_reducible refine Calls.mono (k_Q g.w) ?_); exact fun _ _ h => h); clear hK K) | (apply Exists.intro; refine ⟨fun g => ?_, hK _ ?_⟩; ((with_reducible refine Calls.mono (k_R2 g.w) ?_); exact fun _ _ h => h); clear hK K))
    refine wpMixL_nil ?_
    intro G w6 hgr hblk hdist
    have hb : Below w5.heap.size w5 w6 := hgr
    replace Bn := Bn.next hb
    replace Bs := Bs.next hb
    replace Bx := Bx.next hb
    replace By := By.next hb
    obtain ⟨Bz, hlz⟩ := hblk 13 _ rfl
    obtain ⟨Bt, hlt⟩ := hblk 14 _ rfl
    have hdzt := hdist 13 14 _ _ rfl rfl (by decide)
    have hgz : w.heap.size ≤ G 13 := Nat.le_trans hB.size hlz
    have hnnz : w.heap.size ≠ G 13 := Nat.ne_of_lt (Nat.lt_of_lt_of_le ln hlz)
    have hnsz : gs ≠ G 13 := Nat.ne_of_lt (Nat.lt_of_lt_of_le ls hlz)
    have hnxz : gx ≠ G 13 := Nat.ne_of_lt (Nat.lt_of_lt_of_le lx hlz)
    have hnyz : gy ≠ G 13 := Nat.ne_of_lt (Nat.lt_of_lt_of_le ly hlz)
    clear hlz
    have hgt : w.heap.size ≤ G 14 := Nat.le_trans hB.size hlt
    have hnnt : w.heap.size ≠ G 14 := Nat.ne_of_lt (Nat.lt_of_lt_of_le ln hlt)
    have hnst : gs ≠ G 14 := Nat.ne_of_lt (Nat.lt_of_lt_of_le ls hlt)
    have hnxt : gx ≠ G 14 := Nat.ne_of_lt (Nat.lt_of_lt_of_le lx hlt)
    have hnyt : gy ≠ G 14 := Nat.ne_of_lt (Nat.lt_of_lt_of_le ly hlt)
    clear hlt
    clear cn0 cn1 fn ln
    clear cs0 cs1 cs2 cs3 cs4 cs5 cs6 cs7 cs8 cs9 cs10 fs ls
    clear cx0 cx1 cx2 cx3 cx4 cx5 fx lx
    clear cy0 cy1 cy2 cy3 cy4 cy5 fy ly
    replace hB : Below w.heap.size w w6 := Bl_trans hB hb
    simp only [putAll, isAlloc, Act.put]
    generalize G 13 = gz at *
    generalize G 14 = gt at *
    clear hb hgr hblk hdist
    obtain ⟨cn0, cn1⟩ := cells2 Bn
    have fn := Bn.frozen; have ln := Bn.lt
    have cs0 : w6.cell? ⟨gs, 0, none⟩ = some (.int .i64 1) := Bs.cell 0
    have cs1 : w6.cell? ⟨gs, 1, none⟩ = some (.int .i64 2) := Bs.cell 1
    have cs2 : w6.cell? ⟨gs, 2, none⟩ = some (.int .i64 3) := Bs.cell 2
    have cs3 : w6.cell? ⟨gs, 3, none⟩ = some (.int .i64 4) := Bs.cell 3
    have cs4 : w6.cell? ⟨gs, 4, none⟩ = some (.int .i64 5) := Bs.cell 4
    have cs5 : w6.cell? ⟨gs, 5, none⟩ = some (.int .i64 6) := Bs.cell 5
    have cs6 : w6.cell? ⟨gs, 6, none⟩ = some (.int .i64 7) := Bs.cell 6
    have cs7 : w6.cell? ⟨gs, 7, none⟩ = some (.int .i64 10) := Bs.cell 7
    have cs8 : w6.cell? ⟨gs, 8, none⟩ = some (.int .i64 11) := Bs.cell 8
    have cs9 : w6.cell? ⟨gs, 9, none⟩ = some (.int .i64 12) := Bs.cell 9
    have cs10 : w6.cell? ⟨gs, 10, none⟩ = some (.int .i64 13) := Bs.cell 10
    have fs := Bs.frozen; have ls := Bs.lt
    obtain ⟨cx0, cx1, cx2, cx3, cx4, cx5⟩ := cells6 Bx
    have fx := Bx.frozen; have lx := Bx.lt
    obtain ⟨cy0, cy1, cy2, cy3, cy4, cy5⟩ := cells6 By
    have fy := By.frozen; have ly := By.lt
    obtain ⟨cz0, cz1, cz2, cz3, cz4, cz5⟩ := cells6 Bz
    have fz := Bz.frozen; have lz := Bz.lt
    obtain ⟨ct0, ct1, ct2, ct3, ct4, ct5⟩ := cells6 Bt
    have ft := Bt.frozen; have lt := Bt.lt
    go_upto_region 6 with fail
    clear cn0 cn1 fn ln
    clear cs0 cs1 cs2 cs3 cs4 cs5 cs6 cs7 cs8 cs9 cs10 fs ls
    clear cx0 cx1 cx2 cx3 cx4 cx5 fx lx
    clear cy0 cy1 cy2 cy3 cy4 cy5 fy ly
    clear cz0 cz1 cz2 cz3 cz4 cz5 fz lz
    clear ct0 ct1 ct2 ct3 ct4 ct5 ft lt
    replace Bn : Blk ((((((w6.setCell ⟨gz, 0, none⟩ (uv vP.b.v)).setCell ⟨gz, 1, none⟩ (uv vP.b.m)).setCell ⟨gz, 2, none⟩ (uv vP.lo)).setCell ⟨gz, 3, none⟩ (uv vP.hi)).setCell ⟨gz, 4, none⟩ (sv vP.sl)).setCell ⟨gz, 5, none⟩ (sv vP.sh)) (w.heap.size) 47 #[uv p, uv q] := ((((((Bn.far (by first | (simp; done) | (simp; omega) | (simp [*]; done) | (simp only [ne_eq]; constructor <;> omega)) _).far (by first | (simp; done) | (simp; omega) | (simp [*]; done) | (simp only [ne_eq]; constructor <;> omega)) _).far (by first | (simp; done) | (simp; omega) | (simp [*]; done) | (simp only [ne_eq]; constructor <;> omega)) _).far (by first | (simp; done) | (simp; omega) | (simp [*]; done) | (simp only [ne_eq]; constructor <;> omega)) _).far (by first | (simp; done) | (simp; omega) | (simp [*]; done) | (simp only [ne_eq]; constructor <;> omega)) _).far (by first | (simp; done) | (simp; omega) | (simp [*]; done) | (simp only [ne_eq]; constructor <;> omega)) _)
    replace Bs : Blk ((((((w6.setCell ⟨gz, 0, none⟩ (uv vP.b.v)).setCell ⟨gz, 1, none⟩ (uv vP.b.m)).setCell ⟨gz, 2, none⟩ (uv vP.lo)).setCell ⟨gz, 3, none⟩ (uv vP.hi)).setCell ⟨gz, 4, none⟩ (sv vP.sl)).setCell ⟨gz, 5, none⟩ (sv vP.sh)) (gs) 3 #[.int .i64 1, .int .i64 2, .int .i64 3, .int .i64 4, .int .i64 5, .int .i64 6, .int .i64 7, .int .i64 10, .int .i64 11, .int .i64 12, .int .i64 13] := ((((((Bs.far (by first | (simp; done) | (simp; omega) | (simp [*]; done) | (simp only [ne_eq]; constructor <;> omega)) _).far (by first | (simp; done) | (simp; omega) | (simp [*]; done) | (simp only [ne_eq]; constructor <;> omega)) _).far (by first | (simp; done) | (simp; omega) | (simp [*]; done) | (simp only [ne_eq]; constructor <;> omega)) _).far (by first | (simp; done) | (simp; omega) | (simp [*]; done) | (simp only [ne_eq]; constructor <;> omega)) _).far (by first | (simp; done) | (simp; omega) | (simp [*]; done) | (simp only [ne_eq]; constructor <;> omega)) _).far (by first | (simp; done) | (simp; omega) | (simp [*]; done) | (simp only [ne_eq]; constructor <;> omega)) _)
    replace Bx : Blk ((((((w6.setCell ⟨gz, 0, none⟩ (uv vP.b.v)).setCell ⟨gz, 1, none⟩ (uv vP.b.m)).setCell ⟨gz, 2, none⟩ (uv vP.lo)).setCell ⟨gz, 3, none⟩ (uv vP.hi)).setCell ⟨gz, 4, none⟩ (sv vP.sl)).setCell ⟨gz, 5, none⟩ (sv vP.sh)) (gx) 27 #[uv Z0.b.v, uv Z0.b.m, uv Z0.lo, uv Z0.hi, sv Z0.sl, sv Z0.sh] := ((((((Bx.far (by first | (simp; done) | (simp; omega) | (simp [*]; done) | (simp only [ne_eq]; constructor <;> omega)) _).far (by first | (simp; done) | (simp; omega) | (simp [*]; done) | (simp only [ne_eq]; constructor <;> omega)) _).far (by first | (simp; done) | (simp; omega) | (simp [*]; done) | (simp only [ne_eq]; constructor <;> omega)) _).far (by first | (simp; done) | (simp; omega) | (simp [*]; done) | (simp only [ne_eq]; constructor <;> omega)) _).far (by first | (simp; done) | (simp; omega) | (simp [*]; done) | (simp only [ne_eq]; constructor <;> omega)) _).far (by first | (simp; done) | (simp; omega) | (simp [*]; done) | (simp only [ne_eq]; constructor <;> omega)) _)
    replace By : Blk ((((((w6.setCell ⟨gz, 0, none⟩ (uv vP.b.v)).setCell ⟨gz, 1, none⟩ (uv vP.b.m)).setCell ⟨gz, 2, none⟩ (uv vP.lo)).setCell ⟨gz, 3, none⟩ (uv vP.hi)).setCell ⟨gz, 4, none⟩ (sv vP.sl)).setCell ⟨gz, 5, none⟩ (sv vP.sh)) (gy) 27 #[uv Z0.b.v, uv Z0.b.m, uv Z0.lo, uv Z0.hi, sv Z0.sl, sv Z0.sh] := ((((((By.far (by first | (simp; done) | (simp; omega) | (simp [*]; done) | (simp only [ne_eq]; constructor <;> omega)) _).far (by first | (simp; done) | (simp; omega) | (simp [*]; done) | (simp only [ne_eq]; constructor <;> omega)) _).far (by first | (simp; done) | (simp; omega) | (simp [*]; done) | (simp only [ne_eq]; constructor <;> omega)) _).far (by first | (simp; done) | (simp; omega) | (simp [*]; done) | (simp only [ne_eq]; constructor <;> omega)) _).far (by first | (simp; done) | (simp; omega) | (simp [*]; done) | (simp only [ne_eq]; constructor <;> omega)) _).far (by first | (simp; done) | (simp; omega) | (simp [*]; done) | (simp only [ne_eq]; constructor <;> omega)) _)
    replace Bz : Blk ((((((w6.setCell ⟨gz, 0, none⟩ (uv vP.b.v)).setCell ⟨gz, 1, none⟩ (uv vP.b.m)).setCell ⟨gz, 2, none⟩ (uv vP.lo)).setCell ⟨gz, 3, none⟩ (uv vP.hi)).setCell ⟨gz, 4, none⟩ (sv vP.sl)).setCell ⟨gz, 5, none⟩ (sv vP.sh)) (gz) 27 #[uv vP.b.v, uv vP.b.m, uv vP.lo, uv vP.hi, sv vP.sl, sv vP.sh] := ((((((Bz.set_ 0 _).set_ 1 _).set_ 2 _).set_ 3 _).set_ 4 _).set_ 5 _)
    replace Bt : Blk ((((((w6.setCell ⟨gz, 0, none⟩ (uv vP.b.v)).setCell ⟨gz, 1, none⟩ (uv vP.b.m)).setCell ⟨gz, 2, none⟩ (uv vP.lo)).setCell ⟨gz, 3, none⟩ (uv vP.hi)).setCell ⟨gz, 4, none⟩ (sv vP.sl)).setCell ⟨gz, 5, none⟩ (sv vP.sh)) (gt) 27 #[.int .u64 0, .int .u64 0, .int .u64 0, .int .u64 0, .int .i64 0, .int .i64 0] := ((((((Bt.far (by first | (simp; done) | (simp; omega) | (simp [*]; done) | (simp only [ne_eq]; constructor <;> omega)) _).far (by first | (simp; done) | (simp; omega) | (simp [*]; done) | (simp only [ne_eq]; constructor <;> omega)) _).far (by first | (simp; done) | (simp; omega) | (simp [*]; done) | (simp only [ne_eq]; constructor <;> omega)) _).far (by first | (simp; done) | (simp; omega) | (simp [*]; done) | (simp only [ne_eq]; constructor <;> omega)) _).far (by first | (simp; done) | (simp; omega) | (simp [*]; done) | (simp only [ne_eq]; constructor <;> omega)) _).far (by first | (simp; done) | (simp; omega) | (simp [*]; done) | (simp only [ne_eq]; constructor <;> omega)) _)
    replace hB : Below w.heap.size w ((((((w6.setCell ⟨gz, 0, none⟩ (uv vP.b.v)).setCell ⟨gz, 1, none⟩ (uv vP.b.m)).setCell ⟨gz, 2, none⟩ (uv vP.lo)).setCell ⟨gz, 3, none⟩ (uv vP.hi)).setCell ⟨gz, 4, none⟩ (sv vP.sl)).setCell ⟨gz, 5, none⟩ (sv vP.sh)) := (Bl_set (Bl_set (Bl_set (Bl_set (Bl_set (Bl_set hB (by first | omega | (simp; done) | (simp; omega)) _) (by first | omega | (simp; done) | (simp; omega)) _) (by first | omega | (simp; done) | (simp; omega)) _) (by first | omega | (simp; done) | (simp; omega)) _) (by first | omega | (simp; done) | (simp; omega)) _) (by first | omega | (simp; done) | (simp; omega)) _)
    replace Bn : Blk ((((((((((((w6.setCell ⟨gz, 0, none⟩ (uv vP.b.v)).setCell ⟨gz, 1, none⟩ (uv vP.b.m)).setCell ⟨gz, 2, none⟩ (uv vP.lo)).setCell ⟨gz, 3, none⟩ (uv vP.hi)).setCell ⟨gz, 4, none⟩ (sv vP.sl)).setCell ⟨gz, 5, none⟩ (sv vP.sh)).setCell ⟨gt, 0, none⟩ (uv vQ.b.v)).setCell ⟨gt, 1, none⟩ (uv vQ.b.m)).setCell ⟨gt, 2, none⟩ (uv vQ.lo)).setCell ⟨gt, 3, none⟩ (uv vQ.hi)).setCell ⟨gt, 4, none⟩ (sv vQ.sl)).setCell ⟨gt, 5, none⟩ (sv vQ.sh)) (w.heap.size) 47 #[uv p, uv q] := ((((((Bn.far (by first | (simp; done) | (simp; omega) | (simp [*]; done) | (simp only [ne_eq]; constructor <;> omega)) _).far (by first | (simp; done) | (simp; omega) | (simp [*]; done) | (simp only [ne_eq]; constructor <;> omega)) _).far (by first | (simp; done) | (simp; omega) | (simp [*]; done) | (simp only [ne_eq]; constructor <;> omega)) _).far (by first | (simp; done) | (simp; omega) | (simp [*]; done) | (simp only [ne_eq]; constructor <;> omega)) _).far (by first | (simp; done) | (simp; omega) | (simp [*]; done) | (simp only [ne_eq]; constructor <;> omega)) _).far (by first | (simp; done) | (simp; omega) | (simp [*]; done) | (simp only [ne_eq]; constructor <;> omega)) _)
    replace Bs : Blk ((((((((((((w6.setCell ⟨gz, 0, none⟩ (uv vP.b.v)).setCell ⟨gz, 1, none⟩ (uv vP.b.m)).setCell ⟨gz, 2, none⟩ (uv vP.lo)).setCell ⟨gz, 3, none⟩ (uv vP.hi)).setCell ⟨gz, 4, none⟩ (sv vP.sl)).setCell ⟨gz, 5, none⟩ (sv vP.sh)).setCell ⟨gt, 0, none⟩ (uv vQ.b.v)).setCell ⟨gt, 1, none⟩ (uv vQ.b.m)).setCell ⟨gt, 2, none⟩ (uv vQ.lo)).setCell ⟨gt, 3, none⟩ (uv vQ.hi)).setCell ⟨gt, 4, none⟩ (sv vQ.sl)).setCell ⟨gt, 5, none⟩ (sv vQ.sh)) (gs) 3 #[.int .i64 1, .int .i64 2, .int .i64 3, .int .i64 4, .int .i64 5, .int .i64 6, .int .i64 7, .int .i64 10, .int .i64 11, .int .i64 12, .int .i64 13] := ((((((Bs.far (by first | (simp; done) | (simp; omega) | (simp [*]; done) | (simp only [ne_eq]; constructor <;> omega)) _).far (by first | (simp; done) | (simp; omega) | (simp [*]; done) | (simp only [ne_eq]; constructor <;> omega)) _).far (by first | (simp; done) | (simp; omega) | (simp [*]; done) | (simp only [ne_eq]; constructor <;> omega)) _).far (by first | (simp; done) | (simp; omega) | (simp [*]; done) | (simp only [ne_eq]; constructor <;> omega)) _).far (by first | (simp; done) | (simp; omega) | (simp [*]; done) | (simp only [ne_eq]; constructor <;> omega)) _).far (by first | (simp; done) | (simp; omega) | (simp [*]; done) | (simp only [ne_eq]; constructor <;> omega)) _)
    replace Bx : Blk ((((((((((((w6.setCell ⟨gz, 0, none⟩ (uv vP.b.v)).setCell ⟨gz, 1, none⟩ (uv vP.b.m)).setCell ⟨gz, 2, none⟩ (uv vP.lo)).setCell ⟨gz, 3, none⟩ (uv vP.hi)).setCell ⟨gz, 4, none⟩ (sv vP.sl)).setCell ⟨gz, 5, none⟩ (sv vP.sh)).setCell ⟨gt, 0, none⟩ (uv vQ.b.v)).setCell ⟨gt, 1, none⟩ (uv vQ.b.m)).setCell ⟨gt, 2, none⟩ (uv vQ.lo)).setCell ⟨gt, 3, none⟩ (uv vQ.hi)).setCell ⟨gt, 4, none⟩ (sv vQ.sl)).setCell ⟨gt, 5, none⟩ (sv vQ.sh)) (gx) 27 #[uv Z0.b.v, uv Z0.b.m, uv Z0.lo, uv Z0.hi, sv Z0.sl, sv Z0.sh] := ((((((Bx.far (by first | (simp; done) | (simp; omega) | (simp [*]; done) | (simp only [ne_eq]; constructor <;> omega)) _).far (by first | (simp; done) | (simp; omega) | (simp [*]; done) | (simp only [ne_eq]; constructor <;> omega)) _).far (by first | (simp; done) | (simp; omega) | (simp [*]; done) | (simp only [ne_eq]; constructor <;> omega)) _).far (by first | (simp; done) | (simp; omega) | (simp [*]; done) | (simp only [ne_eq]; constructor <;> omega)) _).far (by first | (simp; done) | (simp; omega) | (simp [*]; done) | (simp only [ne_eq]; constructor <;> omega)) _).far (by first | (simp; done) | (simp; omega) | (simp [*]; done) | (simp only [ne_eq]; constructor <;> omega)) _)
    replace By : Blk ((((((((((((w6.setCell ⟨gz, 0, none⟩ (uv vP.b.v)).setCell ⟨gz, 1, none⟩ (uv vP.b.m)).setCell ⟨gz, 2, none⟩ (uv vP.lo)).setCell ⟨gz, 3, none⟩ (uv vP.hi)).setCell ⟨gz, 4, none⟩ (sv vP.sl)).setCell ⟨gz, 5, none⟩ (sv vP.sh)).setCell ⟨gt, 0, none⟩ (uv vQ.b.v)).setCell ⟨gt, 1, none⟩ (uv vQ.b.m)).setCell ⟨gt, 2, none⟩ (uv vQ.lo)).setCell ⟨gt, 3, none⟩ (uv vQ.hi)).setCell ⟨gt, 4, none⟩ (sv vQ.sl)).setCell ⟨gt, 5, none⟩ (sv vQ.sh)) (gy) 27 #[uv Z0.b.v, uv Z0.b.m, uv Z0.lo, uv Z0.hi, sv Z0.sl, sv Z0.sh] := ((((((By.far (by first | (simp; done) | (simp; omega) | (simp [*]; done) | (simp only [ne_eq]; constructor <;> omega)) _).far (by first | (simp; done) | (simp; omega) | (simp [*]; done) | (simp only [ne_eq]; constructor <;> omega)) _).far (by first | (simp; done) | (simp; omega) | (simp [*]; done) | (simp only [ne_eq]; constructor <;> omega)) _).far (by first | (simp; done) | (simp; omega) | (simp [*]; done) | (simp only [ne_eq]; constructor <;> omega)) _).far (by first | (simp; done) | (simp; omega) | (simp [*]; done) | (simp only [ne_eq]; constructor <;> omega)) _).far (by first | (simp; done) | (simp; omega) | (simp [*]; done) | (simp only [ne_eq]; constructor <;> omega)) _)
    replace Bz : Blk ((((((((((((w6.setCell ⟨gz, 0, none⟩ (uv vP.b.v)).setCell ⟨gz, 1, none⟩ (uv vP.b.m)).setCell ⟨gz, 2, none⟩ (uv vP.lo)).setCell ⟨gz, 3, none⟩ (uv vP.hi)).setCell ⟨gz, 4, none⟩ (sv vP.sl)).setCell ⟨gz, 5, none⟩ (sv vP.sh)).setCell ⟨gt, 0, none⟩ (uv vQ.b.v)).setCell ⟨gt, 1, none⟩ (uv vQ.b.m)).setCell ⟨gt, 2, none⟩ (uv vQ.lo)).setCell ⟨gt, 3, none⟩ (uv vQ.hi)).setCell ⟨gt, 4, none⟩ (sv vQ.sl)).setCell ⟨gt, 5, none⟩ (sv vQ.sh)) (gz) 27 #[uv vP.b.v, uv vP.b.m, uv vP.lo, uv vP.hi, sv vP.sl, sv vP.sh] := ((((((Bz.far (by first | (simp; done) | (simp; omega) | (simp [*]; done) | (simp only [ne_eq]; constructor <;> omega)) _).far (by first | (simp; done) | (simp; omega) | (simp [*]; done) | (simp only [ne_eq]; constructor <;> omega)) _).far (by first | (simp; done) | (simp; omega) | (simp [*]; done) | (simp only [ne_eq]; constructor <;> omega)) _).far (by first | (simp; done) | (simp; omega) | (simp [*]; done) | (simp only [ne_eq]; constructor <;> omega)) _).far (by first | (simp; done) | (simp; omega) | (simp [*]; done) | (simp only [ne_eq]; constructor <;> omega)) _).far (by first | (simp; done) | (simp; omega) | (simp [*]; done) | (simp only [ne_eq]; constructor <;> omega)) _)
    replace Bt : Blk ((((((((((((w6.setCell ⟨gz, 0, none⟩ (uv vP.b.v)).setCell ⟨gz, 1, none⟩ (uv vP.b.m)).setCell ⟨gz, 2, none⟩ (uv vP.lo)).setCell ⟨gz, 3, none⟩ (uv vP.hi)).setCell ⟨gz, 4, none⟩ (sv vP.sl)).setCell ⟨gz, 5, none⟩ (sv vP.sh)).setCell ⟨gt, 0, none⟩ (uv vQ.b.v)).setCell ⟨gt, 1, none⟩ (uv vQ.b.m)).setCell ⟨gt, 2, none⟩ (uv vQ.lo)).setCell ⟨gt, 3, none⟩ (uv vQ.hi)).setCell ⟨gt, 4, none⟩ (sv vQ.sl)).setCell ⟨gt, 5, none⟩ (sv vQ.sh)) (gt) 27 #[uv vQ.b.v, uv vQ.b.m, uv vQ.lo, uv vQ.hi, sv vQ.sl, sv vQ.sh] := ((((((Bt.set_ 0 _).set_ 1 _).set_ 2 _).set_ 3 _).set_ 4 _).set_ 5 _)
    replace hB : Below w.heap.size w ((((((((((((w6.setCell ⟨gz, 0, none⟩ (uv vP.b.v)).setCell ⟨gz, 1, none⟩ (uv vP.b.m)).setCell ⟨gz, 2, none⟩ (uv vP.lo)).setCell ⟨gz, 3, none⟩ (uv vP.hi)).setCell ⟨gz, 4, none⟩ (sv vP.sl)).setCell ⟨gz, 5, none⟩ (sv vP.sh)).setCell ⟨gt, 0, none⟩ (uv vQ.b.v)).setCell ⟨gt, 1, none⟩ (uv vQ.b.m)).setCell ⟨gt, 2, none⟩ (uv vQ.lo)).setCell ⟨gt, 3, none⟩ (uv vQ.hi)).setCell ⟨gt, 4, none⟩ (sv vQ.sl)).setCell ⟨gt, 5, none⟩ (sv vQ.sh)) := (Bl_set (Bl_set (Bl_set (Bl_set (Bl_set (Bl_set hB (by first | omega | (simp; done) | (simp; omega)) _) (by first | omega | (simp; done) | (simp; omega)) _) (by first | omega | (simp; done) | (simp; omega)) _) (by first | omega | (simp; done) | (simp; omega)) _) (by first | omega | (simp; done) | (simp; omega)) _) (by first | omega | (simp; done) | (simp; omega)) _)
    generalize ((((((((((((w6.setCell ⟨gz, 0, none⟩ (uv vP.b.v)).setCell ⟨gz, 1, none⟩ (uv vP.b.m)).setCell ⟨gz, 2, none⟩ (uv vP.lo)).setCell ⟨gz, 3, none⟩ (uv vP.hi)).setCell ⟨gz, 4, none⟩ (sv vP.sl)).setCell ⟨gz, 5, none⟩ (sv vP.sh)).setCell ⟨gt, 0, none⟩ (uv vQ.b.v)).setCell ⟨gt, 1, none⟩ (uv vQ.b.m)).setCell ⟨gt, 2, none⟩ (uv vQ.lo)).setCell ⟨gt, 3, none⟩ (uv vQ.hi)).setCell ⟨gt, 4, none⟩ (sv vQ.sl)).setCell ⟨gt, 5, none⟩ (sv vQ.sh)) = w7 at *
    obtain ⟨cn0, cn1⟩ := cells2 Bn
    have fn := Bn.frozen; have ln := Bn.lt
    have cs0 : w7.cell? ⟨gs, 0, none⟩ = some (.int .i64 1) := Bs.cell 0
    have cs1 : w7.cell? ⟨gs, 1, none⟩ = some (.int .i64 2) := Bs.cell 1
    have cs2 : w7.cell? ⟨gs, 2, none⟩ = some (.int .i64 3) := Bs.cell 2
    have cs3 : w7.cell? ⟨gs, 3, none⟩ = some (.int .i64 4) := Bs.cell 3
    have cs4 : w7.cell? ⟨gs, 4, none⟩ = some (.int .i64 5) := Bs.cell 4
    have cs5 : w7.cell? ⟨gs, 5, none⟩ = some (.int .i64 6) := Bs.cell 5
    have cs6 : w7.cell? ⟨gs, 6, none⟩ = some (.int .i64 7) := Bs.cell 6
    have cs7 : w7.cell? ⟨gs, 7, none⟩ = some (.int .i64 10) := Bs.cell 7
    have cs8 : w7.cell? ⟨gs, 8, none⟩ = some (.int .i64 11) := Bs.cell 8
    have cs9 : w7.cell? ⟨gs, 9, none⟩ = some (.int .i64 12) := Bs.cell 9
    have cs10 : w7.cell? ⟨gs, 10, none⟩ = some (.int .i64 13) := Bs.cell 10
    have fs := Bs.frozen; have ls := Bs.lt
    obtain ⟨cx0, cx1, cx2, cx3, cx4, cx5⟩ := cells6 Bx
    have fx := Bx.frozen; have lx := Bx.lt
    obtain ⟨cy0, cy1, cy2, cy3, cy4, cy5⟩ := cells6 By
    have fy := By.frozen; have ly := By.lt
    obtain ⟨cz0, cz1, cz2, cz3, cz4, cz5⟩ := cells6 Bz
    have fz := Bz.frozen; have lz := Bz.lt
    obtain ⟨ct0, ct1, ct2, ct3, ct4, ct5⟩ := cells6 Bt
    have ft := Bt.frozen; have lt := Bt.lt
    go_wp2_with fail
    clear cn0 cn1; obtain ⟨cn0, cn1⟩ := lcells2 Bn
    replace cs0 : ∀ g : Later w7, g.w.cell? ⟨gs, 0, none⟩ = some (.int .i64 1) := fun g => g.cell (Bs.cell 0)
    replace cs1 : ∀ g : Later w7, g.w.cell? ⟨gs, 1, none⟩ = some (.int .i64 2) := fun g => g.cell (Bs.cell 1)
    replace cs2 : ∀ g : Later w7, g.w.cell? ⟨gs, 2, none⟩ = some (.int .i64 3) := fun g => g.cell (Bs.cell 2)
    replace cs3 : ∀ g : Later w7, g.w.cell? ⟨gs, 3, none⟩ = some (.int .i64 4) := fun g => g.cell (Bs.cell 3)
    replace cs4 : ∀ g : Later w7, g.w.cell? ⟨gs, 4, none⟩ = some (.int .i64 5) := fun g => g.cell (Bs.cell 4)
    replace cs5 : ∀ g : Later w7, g.w.cell? ⟨gs, 5, none⟩ = some (.int .i64 6) := fun g => g.cell (Bs.cell 5)
    replace cs6 : ∀ g : Later w7, g.w.cell? ⟨gs, 6, none⟩ = some (.int .i64 7) := fun g => g.cell (Bs.cell 6)
    replace cs7 : ∀ g : Later w7, g.w.cell? ⟨gs, 7, none⟩ = some (.int .i64 10) := fun g => g.cell (Bs.cell 7)
    replace cs8 : ∀ g : Later w7, g.w.cell? ⟨gs, 8, none⟩ = some (.int .i64 11) := fun g => g.cell (Bs.cell 8)
    replace cs9 : ∀ g : Later w7, g.w.cell? ⟨gs, 9, none⟩ = some (.int .i64 12) := fun g => g.cell (Bs.cell 9)
    replace cs10 : ∀ g : Later w7, g.w.cell? ⟨gs, 10, none⟩ = some (.int .i64 13) := fun g => g.cell (Bs.cell 10)
    clear cx0 cx1 cx2 cx3 cx4 cx5; obtain ⟨cx0, cx1, cx2, cx3, cx4, cx5⟩ := lcells6 Bx
    clear cy0 cy1 cy2 cy3 cy4 cy5; obtain ⟨cy0, cy1, cy2, cy3, cy4, cy5⟩ := lcells6 By
    clear cz0 cz1 cz2 cz3 cz4 cz5; obtain ⟨cz0, cz1, cz2, cz3, cz4, cz5⟩ := lcells6 Bz
    clear ct0 ct1 ct2 ct3 ct4 ct5; obtain ⟨ct0, ct1, ct2, ct3, ct4, ct5⟩ := lcells6 Bt
    refine wp_region_mix 30 (fun _ => #[]) (by kernel_rfl) (by kernel_rfl) (no_alloc (by kernel_rfl)) ?_
    simp only [List.take_succ_cons, List.take_zero, List.drop_succ_cons, List.drop_zero]
    repeat ((with_reducible refine wpMix_step (fun K hK => ?_)); go_simp; first | ((with_reducible refine hK _ ?_); clear hK K) | (rw [if_neg (by decide)]; (with_reducible refine hK _ ?_); clear hK K) | (apply Exists.intro; refine ⟨fun g => ?_, hK _ ?_⟩; ((with_reducible refine Calls.mono (tells_c g.w) ?_); exact fun _ _ h => h); clear hK K) | (apply Exists.intro; refine ⟨fun g => ?_, hK _ ?_⟩; ((with_reducible refine Calls.mono (k_P g.w) ?_); exact fun _ _ h => h); clear hK K) | (apply Exists.intro; refine ⟨fun g => ?_, hK _ ?_⟩; ((with_reducible refine Calls.mono (k_Q g.w) ?_); exact fun _ _ h => h); clear hK K))
    refine wpMix_nil ?_
    intro G w8 hgr hblk hdist
    have hb : Below w7.heap.size w7 w8 := hgr
    replace Bn := Bn.next hb
    replace Bs := Bs.next hb
    replace Bx := Bx.next hb
    replace By := By.next hb
    replace Bz := Bz.next hb
    replace Bt := Bt.next hb
    clear cn0 cn1 fn ln
    clear cs0 cs1 cs2 cs3 cs4 cs5 cs6 cs7 cs8 cs9 cs10 fs ls
    clear cx0 cx1 cx2 cx3 cx4 cx5 fx lx
    clear cy0 cy1 cy2 cy3 cy4 cy5 fy ly
    clear cz0 cz1 cz2 cz3 cz4 cz5 fz lz
    clear ct0 ct1 ct2 ct3 ct4 ct5 ft lt
    replace hB : Below w.heap.size w w8 := Bl_trans hB hb
    simp only [putAll, isAlloc]
    clear hb hgr hblk hdist
    obtain ⟨cn0, cn1⟩ := cells2 Bn
    have fn := Bn.frozen; have ln := Bn.lt
    have cs0 : w8.cell? ⟨gs, 0, none⟩ = some (.int .i64 1) := Bs.cell 0
    have cs1 : w8.cell? ⟨gs, 1, none⟩ = some (.int .i64 2) := Bs.cell 1
    have cs2 : w8.cell? ⟨gs, 2, none⟩ = some (.int .i64 3) := Bs.cell 2
    have cs3 : w8.cell? ⟨gs, 3, none⟩ = some (.int .i64 4) := Bs.cell 3
    have cs4 : w8.cell? ⟨gs, 4, none⟩ = some (.int .i64 5) := Bs.cell 4
    have cs5 : w8.cell? ⟨gs, 5, none⟩ = some (.int .i64 6) := Bs.cell 5
    have cs6 : w8.cell? ⟨gs, 6, none⟩ = some (.int .i64 7) := Bs.cell 6
    have cs7 : w8.cell? ⟨gs, 7, none⟩ = some (.int .i64 10) := Bs.cell 7
    have cs8 : w8.cell? ⟨gs, 8, none⟩ = some (.int .i64 11) := Bs.cell 8
    have cs9 : w8.cell? ⟨gs, 9, none⟩ = some (.int .i64 12) := Bs.cell 9
    have cs10 : w8.cell? ⟨gs, 10, none⟩ = some (.int .i64 13) := Bs.cell 10
    have fs := Bs.frozen; have ls := Bs.lt
    obtain ⟨cx0, cx1, cx2, cx3, cx4, cx5⟩ := cells6 Bx
    have fx := Bx.frozen; have lx := Bx.lt
    obtain ⟨cy0, cy1, cy2, cy3, cy4, cy5⟩ := cells6 By
    have fy := By.frozen; have ly := By.lt
    obtain ⟨cz0, cz1, cz2, cz3, cz4, cz5⟩ := cells6 Bz
    have fz := Bz.frozen; have lz := Bz.lt
    obtain ⟨ct0, ct1, ct2, ct3, ct4, ct5⟩ := cells6 Bt
    have ft := Bt.frozen; have lt := Bt.lt
    go_wp2
    go_ret
    exact ⟨rfl, by repeat (first | exact hB | (refine Bl_set ?_ (by first | omega | (simp; omega)) _) | apply Bl_alloc)⟩
  · replace k_R1 : ∀ w : World, Calls Try.prog 38 #[.int .i64 K, .bool l, rv vP, rv vQ, .bool true] w fun e w' => e = .returned (.tuple #[rv vP, rv vQ, .bool true]) ∧ Below w.heap.size w w' := k_R1
    replace k_R2 : ∀ w : World, Calls Try.prog 38 #[.int .i64 K, .bool l, rv vP, rv vQ, .bool false] w fun e w' => e = .returned (.tuple #[rv Z0, rv Z0, .bool false]) ∧ Below w.heap.size w w' := k_R2
    go_enter Try.func9, Try.ntmps9
    go_upto_region 1 with fail
    obtain ⟨gn, hgn⟩ : ∃ g, g = w.heap.size := ⟨_, rfl⟩
    have Bn : Blk (w.alloc (.cells #[uv p, uv q] 47)) (w.heap.size) 47 #[uv p, uv q] := (Blk.new w 47 #[uv p, uv q])
    have hB : Below w.heap.size w (w.alloc (.cells #[uv p, uv q] 47)) := (Bl_alloc (Bl_refl w) _)
    clear hgn
    clear gn
    generalize (w.alloc (.cells #[uv p, uv q] 47)) = w1 at *
    obtain ⟨cn0, cn1⟩ := cells2 Bn
    have fn := Bn.frozen; have ln := Bn.lt
    go_upto_region 2 with fail
    clear cn0 cn1 fn ln
    have Bs := Blk.new w1 3 #[.int .i64 1, .int .i64 2, .int .i64 3, .int .i64 4, .int .i64 5, .int .i64 6, .int .i64 7, .int .i64 10, .int .i64 11, .int .i64 12, .int .i64 13]
    have hgs := hB.size
    have hnns := Nat.ne_of_lt Bn.lt; have hltns := Bn.lt
    replace Bn : Blk (w1.alloc (.cells #[.int .i64 1, .int .i64 2, .int .i64 3, .int .i64 4, .int .i64 5, .int .i64 6, .int .i64 7, .int .i64 10, .int .i64 11, .int .i64 12, .int .i64 13] 3)) (w.heap.size) 47 #[uv p, uv q] := Bn.alloc _
    replace hB : Below w.heap.size w (w1.alloc (.cells #[.int .i64 1, .int .i64 2, .int .i64 3, .int .i64 4, .int .i64 5, .int .i64 6, .int .i64 7, .int .i64 10, .int .i64 11, .int .i64 12, .int .i64 13] 3)) := Bl_alloc hB _
    generalize (w1.alloc (.cells #[.int .i64 1, .int .i64 2, .int .i64 3, .int .i64 4, .int .i64 5, .int .i64 6, .int .i64 7, .int .i64 10, .int .i64 11, .int .i64 12, .int .i64 13] 3)) = w2 at *
    generalize w1.heap.size = gs at *
    obtain ⟨cn0, cn1⟩ := cells2 Bn
    have fn := Bn.frozen; have ln := Bn.lt
    have cs0 : w2.cell? ⟨gs, 0, none⟩ = some (.int .i64 1) := Bs.cell 0
    have cs1 : w2.cell? ⟨gs, 1, none⟩ = some (.int .i64 2) := Bs.cell 1
    have cs2 : w2.cell? ⟨gs, 2, none⟩ = some (.int .i64 3) := Bs.cell 2
    have cs3 : w2.cell? ⟨gs, 3, none⟩ = some (.int .i64 4) := Bs.cell 3
    have cs4 : w2.cell? ⟨gs, 4, none⟩ = some (.int .i64 5) := Bs.cell 4
    have cs5 : w2.cell? ⟨gs, 5, none⟩ = some (.int .i64 6) := Bs.cell 5
    have cs6 : w2.cell? ⟨gs, 6, none⟩ = some (.int .i64 7) := Bs.cell 6
    have cs7 : w2.cell? ⟨gs, 7, none⟩ = some (.int .i64 10) := Bs.cell 7
    have cs8 : w2.cell? ⟨gs, 8, none⟩ = some (.int .i64 11) := Bs.cell 8
    have cs9 : w2.cell? ⟨gs, 9, none⟩ = some (.int .i64 12) := Bs.cell 9
    have cs10 : w2.cell? ⟨gs, 10, none⟩ = some (.int .i64 13) := Bs.cell 10
    have fs := Bs.frozen; have ls := Bs.lt
    have cK := (Bs.cell n).trans HK.out
    go_wp2_with fail
    refine (k_H _).mono ?_
    rintro e w3 ⟨rfl, hb⟩
    clear cn0 cn1 fn ln
    clear cs0 cs1 cs2 cs3 cs4 cs5 cs6 cs7 cs8 cs9 cs10 fs ls
    replace Bn := (Bn).next hb
    replace Bs := (Bs).next hb
    replace hB : Below w.heap.size w w3 := by repeat (first | exact hB | (refine Bl_set ?_ (by first | omega | (simp; omega)) _) | apply Bl_alloc | (refine Bl_trans ?_ hb))
    clear hb
    obtain ⟨cn0, cn1⟩ := cells2 Bn
    have fn := Bn.frozen; have ln := Bn.lt
    have cs0 : w3.cell? ⟨gs, 0, none⟩ = some (.int .i64 1) := Bs.cell 0
    have cs1 : w3.cell? ⟨gs, 1, none⟩ = some (.int .i64 2) := Bs.cell 1
    have cs2 : w3.cell? ⟨gs, 2, none⟩ = some (.int .i64 3) := Bs.cell 2
    have cs3 : w3.cell? ⟨gs, 3, none⟩ = some (.int .i64 4) := Bs.cell 3
    have cs4 : w3.cell? ⟨gs, 4, none⟩ = some (.int .i64 5) := Bs.cell 4
    have cs5 : w3.cell? ⟨gs, 5, none⟩ = some (.int .i64 6) := Bs.cell 5
    have cs6 : w3.cell? ⟨gs, 6, none⟩ = some (.int .i64 7) := Bs.cell 6
    have cs7 : w3.cell? ⟨gs, 7, none⟩ = some (.int .i64 10) := Bs.cell 7
    have cs8 : w3.cell? ⟨gs, 8, none⟩ = some (.int .i64 11) := Bs.cell 8
    have cs9 : w3.cell? ⟨gs, 9, none⟩ = some (.int .i64 12) := Bs.cell 9
    have cs10 : w3.cell? ⟨gs, 10, none⟩ = some (.int .i64 13) := Bs.cell 10
    have fs := Bs.frozen; have ls := Bs.lt
    go_wp2_with fail
    clear cn0 cn1; obtain ⟨cn0, cn1⟩ := lcells2 Bn
    replace cs0 : ∀ g : Later w3, g.w.cell? ⟨gs, 0, none⟩ = some (.int .i64 1) := fun g => g.cell (Bs.cell 0)
    replace cs1 : ∀ g : Later w3, g.w.cell? ⟨gs, 1, none⟩ = some (.int .i64 2) := fun g => g.cell (Bs.cell 1)
    replace cs2 : ∀ g : Later w3, g.w.cell? ⟨gs, 2, none⟩ = some (.int .i64 3) := fun g => g.cell (Bs.cell 2)
    replace cs3 : ∀ g : Later w3, g.w.cell? ⟨gs, 3, none⟩ = some (.int .i64 4) := fun g => g.cell (Bs.cell 3)
    replace cs4 : ∀ g : Later w3, g.w.cell? ⟨gs, 4, none⟩ = some (.int .i64 5) := fun g => g.cell (Bs.cell 4)
    replace cs5 : ∀ g : Later w3, g.w.cell? ⟨gs, 5, none⟩ = some (.int .i64 6) := fun g => g.cell (Bs.cell 5)
    replace cs6 : ∀ g : Later w3, g.w.cell? ⟨gs, 6, none⟩ = some (.int .i64 7) := fun g => g.cell (Bs.cell 6)
    replace cs7 : ∀ g : Later w3, g.w.cell? ⟨gs, 7, none⟩ = some (.int .i64 10) := fun g => g.cell (Bs.cell 7)
    replace cs8 : ∀ g : Later w3, g.w.cell? ⟨gs, 8, none⟩ = some (.int .i64 11) := fun g => g.cell (Bs.cell 8)
    replace cs9 : ∀ g : Later w3, g.w.cell? ⟨gs, 9, none⟩ = some (.int .i64 12) := fun g => g.cell (Bs.cell 9)
    replace cs10 : ∀ g : Later w3, g.w.cell? ⟨gs, 10, none⟩ = some (.int .i64 13) := fun g => g.cell (Bs.cell 10)
    refine wp_region_mixL 15 (fun k => k == 11 || k == 12) (fun _ => #[.int .u64 0, .int .u64 0, .int .u64 0, .int .u64 0, .int .i64 0, .int .i64 0]) (by kernel_rfl) (by kernel_rfl) (fun d _ _ _ _ h => by cases d <;> exact h) (fun o t ho ht => by
      simp at ho
      rcases ho with rfl | rfl | rfl | rfl | rfl | rfl | rfl | rfl | rfl | rfl | rfl | rfl | rfl | rfl | rfl <;> first | (cases ht; done) | (obtain rfl := Option.some.inj ht; exact fun ρ w => new_rng14 ht ρ w)) ?_
    simp only [List.take_succ_cons, List.take_zero, List.drop_succ_cons, List.drop_zero]
    repeat ((with_reducible refine wpMixL_step (fun K hK => ?_)); go_simp; first | ((with_reducible refine hK _ ?_); clear hK K) | (rw [if_neg (by decide)]; (with_reducible refine hK _ ?_); clear hK K) | (apply Exists.intro; refine ⟨fun g => ?_, hK _ ?_⟩; ((with_reducible refine Calls.mono (k_P g.w) ?_); exact fun _ _ h => h); clear hK K) | (apply Exists.intro; refine ⟨fun g => ?_, hK _ ?_⟩; ((with_reducible refine Calls.mono (k_Q g.w) ?_); exact fun _ _ h => h); clear hK K) | (apply Exists.intro; refine ⟨fun g => ?_, hK _ ?_⟩; ((with_reducible refine Calls.mono (k_R1 g.w) ?_); exact fun _ _ h => h); clear hK K))
    refine wpMixL_nil ?_
    intro G w4 hgr hblk hdist
    have hb : Below w3.heap.size w3 w4 := hgr
    replace Bn := Bn.next hb
    replace Bs := Bs.next hb
    obtain ⟨Bx, hlx⟩ := hblk 13 _ rfl
    obtain ⟨By, hly⟩ := hblk 14 _ rfl
    have hdxy := hdist 13 14 _ _ rfl rfl (by decide)
    have hgx : w.heap.size ≤ G 13 := Nat.le_trans hB.size hlx
    have hnnx : w.heap.size ≠ G 13 := Nat.ne_of_lt (Nat.lt_of_lt_of_le ln hlx)
    have hnsx : gs ≠ G 13 := Nat.ne_of_lt (Nat.lt_of_lt_of_le ls hlx)
    clear hlx
    have hgy : w.heap.size ≤ G 14 := Nat.le_trans hB.size hly
    have hnny : w.heap.size ≠ G 14 := Nat.ne_of_lt (Nat.lt_of_lt_of_le ln hly)
    have hnsy : gs ≠ G 14 := Nat.ne_of_lt (Nat.lt_of_lt_of_le ls hly)
    clear hly
    clear cn0 cn1 fn ln
    clear cs0 cs1 cs2 cs3 cs4 cs5 cs6 cs7 cs8 cs9 cs10 fs ls
    replace hB : Below w.heap.size w w4 := Bl_trans hB hb
    simp only [putAll, isAlloc, Act.put]
    generalize G 13 = gx at *
    generalize G 14 = gy at *
    clear hb hgr hblk hdist
    obtain ⟨cn0, cn1⟩ := cells2 Bn
    have fn := Bn.frozen; have ln := Bn.lt
    have cs0 : w4.cell? ⟨gs, 0, none⟩ = some (.int .i64 1) := Bs.cell 0
    have cs1 : w4.cell? ⟨gs, 1, none⟩ = some (.int .i64 2) := Bs.cell 1
    have cs2 : w4.cell? ⟨gs, 2, none⟩ = some (.int .i64 3) := Bs.cell 2
    have cs3 : w4.cell? ⟨gs, 3, none⟩ = some (.int .i64 4) := Bs.cell 3
    have cs4 : w4.cell? ⟨gs, 4, none⟩ = some (.int .i64 5) := Bs.cell 4
    have cs5 : w4.cell? ⟨gs, 5, none⟩ = some (.int .i64 6) := Bs.cell 5
    have cs6 : w4.cell? ⟨gs, 6, none⟩ = some (.int .i64 7) := Bs.cell 6
    have cs7 : w4.cell? ⟨gs, 7, none⟩ = some (.int .i64 10) := Bs.cell 7
    have cs8 : w4.cell? ⟨gs, 8, none⟩ = some (.int .i64 11) := Bs.cell 8
    have cs9 : w4.cell? ⟨gs, 9, none⟩ = some (.int .i64 12) := Bs.cell 9
    have cs10 : w4.cell? ⟨gs, 10, none⟩ = some (.int .i64 13) := Bs.cell 10
    have fs := Bs.frozen; have ls := Bs.lt
    obtain ⟨cx0, cx1, cx2, cx3, cx4, cx5⟩ := cells6 Bx
    have fx := Bx.frozen; have lx := Bx.lt
    obtain ⟨cy0, cy1, cy2, cy3, cy4, cy5⟩ := cells6 By
    have fy := By.frozen; have ly := By.lt
    go_upto_region 5 with fail
    clear cn0 cn1 fn ln
    clear cs0 cs1 cs2 cs3 cs4 cs5 cs6 cs7 cs8 cs9 cs10 fs ls
    clear cx0 cx1 cx2 cx3 cx4 cx5 fx lx
    clear cy0 cy1 cy2 cy3 cy4 cy5 fy ly
    replace Bn : Blk ((((((w4.setCell ⟨gx, 0, none⟩ (uv vP.b.v)).setCell ⟨gx, 1, none⟩ (uv vP.b.m)).setCell ⟨gx, 2, none⟩ (uv vP.lo)).setCell ⟨gx, 3, none⟩ (uv vP.hi)).setCell ⟨gx, 4, none⟩ (sv vP.sl)).setCell ⟨gx, 5, none⟩ (sv vP.sh)) (w.heap.size) 47 #[uv p, uv q] := ((((((Bn.far (by first | (simp; done) | (simp; omega) | (simp [*]; done) | (simp only [ne_eq]; constructor <;> omega)) _).far (by first | (simp; done) | (simp; omega) | (simp [*]; done) | (simp only [ne_eq]; constructor <;> omega)) _).far (by first | (simp; done) | (simp; omega) | (simp [*]; done) | (simp only [ne_eq]; constructor <;> omega)) _).far (by first | (simp; done) | (simp; omega) | (simp [*]; done) | (simp only [ne_eq]; constructor <;> omega)) _).far (by first | (simp; done) | (simp; omega) | (simp [*]; done) | (simp only [ne_eq]; constructor <;> omega)) _).far (by first | (simp; done) | (simp; omega) | (simp [*]; done) | (simp only [ne_eq]; constructor <;> omega)) _)
    replace Bs : Blk ((((((w4.setCell ⟨gx, 0, none⟩ (uv vP.b.v)).setCell ⟨gx, 1, none⟩ (uv vP.b.m)).setCell ⟨gx, 2, none⟩ (uv vP.lo)).setCell ⟨gx, 3, none⟩ (uv vP.hi)).setCell ⟨gx, 4, none⟩ (sv vP.sl)).setCell ⟨gx, 5, none⟩ (sv vP.sh)) (gs) 3 #[.int .i64 1, .int .i64 2, .int .i64 3, .int .i64 4, .int .i64 5, .int .i64 6, .int .i64 7, .int .i64 10, .int .i64 11, .int .i64 12, .int .i64 13] := ((((((Bs.far (by first | (simp; done) | (simp; omega) | (simp [*]; done) | (simp only [ne_eq]; constructor <;> omega)) _).far (by first | (simp; done) | (simp; omega) | (simp [*]; done) | (simp only [ne_eq]; constructor <;> omega)) _).far (by first | (simp; done) | (simp; omega) | (simp [*]; done) | (simp only [ne_eq]; constructor <;> omega)) _).far (by first | (simp; done) | (simp; omega) | (simp [*]; done) | (simp only [ne_eq]; constructor <;> omega)) _).far (by first | (simp; done) | (simp; omega) | (simp [*]; done) | (simp only [ne_eq]; constructor <;> omega)) _).far (by first | (simp; done) | (simp; omega) | (simp [*]; done) | (simp only [ne_eq]; constructor <;> omega)) _)
    replace Bx : Blk ((((((w4.setCell ⟨gx, 0, none⟩ (uv vP.b.v)).setCell ⟨gx, 1, none⟩ (uv vP.b.m)).setCell ⟨gx, 2, none⟩ (uv vP.lo)).setCell ⟨gx, 3, none⟩ (uv vP.hi)).setCell ⟨gx, 4, none⟩ (sv vP.sl)).setCell ⟨gx, 5, none⟩ (sv vP.sh)) (gx) 27 #[uv vP.b.v, uv vP.b.m, uv vP.lo, uv vP.hi, sv vP.sl, sv vP.sh] := ((((((Bx.set_ 0 _).set_ 1 _).set_ 2 _).set_ 3 _).set_ 4 _).set_ 5 _)
    replace By : Blk ((((((w4.setCell ⟨gx, 0, none⟩ (uv vP.b.v)).setCell ⟨gx, 1, none⟩ (uv vP.b.m)).setCell ⟨gx, 2, none⟩ (uv vP.lo)).setCell ⟨gx, 3, none⟩ (uv vP.hi)).setCell ⟨gx, 4, none⟩ (sv vP.sl)).setCell ⟨gx, 5, none⟩ (sv vP.sh)) (gy) 27 #[.int .u64 0, .int .u64 0, .int .u64 0, .int .u64 0, .int .i64 0, .int .i64 0] := ((((((By.far (by first | (simp; done) | (simp; omega) | (simp [*]; done) | (simp only [ne_eq]; constructor <;> omega)) _).far (by first | (simp; done) | (simp; omega) | (simp [*]; done) | (simp only [ne_eq]; constructor <;> omega)) _).far (by first | (simp; done) | (simp; omega) | (simp [*]; done) | (simp only [ne_eq]; constructor <;> omega)) _).far (by first | (simp; done) | (simp; omega) | (simp [*]; done) | (simp only [ne_eq]; constructor <;> omega)) _).far (by first | (simp; done) | (simp; omega) | (simp [*]; done) | (simp only [ne_eq]; constructor <;> omega)) _).far (by first | (simp; done) | (simp; omega) | (simp [*]; done) | (simp only [ne_eq]; constructor <;> omega)) _)
    replace hB : Below w.heap.size w ((((((w4.setCell ⟨gx, 0, none⟩ (uv vP.b.v)).setCell ⟨gx, 1, none⟩ (uv vP.b.m)).setCell ⟨gx, 2, none⟩ (uv vP.lo)).setCell ⟨gx, 3, none⟩ (uv vP.hi)).setCell ⟨gx, 4, none⟩ (sv vP.sl)).setCell ⟨gx, 5, none⟩ (sv vP.sh)) := (Bl_set (Bl_set (Bl_set (Bl_set (Bl_set (Bl_set hB (by first | omega | (simp; done) | (simp; omega)) _) (by first | omega | (simp; done) | (simp; omega)) _) (by first | omega | (simp; done) | (simp; omega)) _) (by first | omega | (simp; done) | (simp; omega)) _) (by first | omega | (simp; done) | (simp; omega)) _) (by first | omega | (simp; done) | (simp; omega)) _)
    replace Bn : Blk ((((((((((((w4.setCell ⟨gx, 0, none⟩ (uv vP.b.v)).setCell ⟨gx, 1, none⟩ (uv vP.b.m)).setCell ⟨gx, 2, none⟩ (uv vP.lo)).setCell ⟨gx, 3, none⟩ (uv vP.hi)).setCell ⟨gx, 4, none⟩ (sv vP.sl)).setCell ⟨gx, 5, none⟩ (sv vP.sh)).setCell ⟨gy, 0, none⟩ (uv vQ.b.v)).setCell ⟨gy, 1, none⟩ (uv vQ.b.m)).setCell ⟨gy, 2, none⟩ (uv vQ.lo)).setCell ⟨gy, 3, none⟩ (uv vQ.hi)).setCell ⟨gy, 4, none⟩ (sv vQ.sl)).setCell ⟨gy, 5, none⟩ (sv vQ.sh)) (w.heap.size) 47 #[uv p, uv q] := ((((((Bn.far (by first | (simp; done) | (simp; omega) | (simp [*]; done) | (simp only [ne_eq]; constructor <;> omega)) _).far (by first | (simp; done) | (simp; omega) | (simp [*]; done) | (simp only [ne_eq]; constructor <;> omega)) _).far (by first | (simp; done) | (simp; omega) | (simp [*]; done) | (simp only [ne_eq]; constructor <;> omega)) _).far (by first | (simp; done) | (simp; omega) | (simp [*]; done) | (simp only [ne_eq]; constructor <;> omega)) _).far (by first | (simp; done) | (simp; omega) | (simp [*]; done) | (simp only [ne_eq]; constructor <;> omega)) _).far (by first | (simp; done) | (simp; omega) | (simp [*]; done) | (simp only [ne_eq]; constructor <;> omega)) _)
    replace Bs : Blk ((((((((((((w4.setCell ⟨gx, 0, none⟩ (uv vP.b.v)).setCell ⟨gx, 1, none⟩ (uv vP.b.m)).setCell ⟨gx, 2, none⟩ (uv vP.lo)).setCell ⟨gx, 3, none⟩ (uv vP.hi)).setCell ⟨gx, 4, none⟩ (sv vP.sl)).setCell ⟨gx, 5, none⟩ (sv vP.sh)).setCell ⟨gy, 0, none⟩ (uv vQ.b.v)).setCell ⟨gy, 1, none⟩ (uv vQ.b.m)).setCell ⟨gy, 2, none⟩ (uv vQ.lo)).setCell ⟨gy, 3, none⟩ (uv vQ.hi)).setCell ⟨gy, 4, none⟩ (sv vQ.sl)).setCell ⟨gy, 5, none⟩ (sv vQ.sh)) (gs) 3 #[.int .i64 1, .int .i64 2, .int .i64 3, .int .i64 4, .int .i64 5, .int .i64 6, .int .i64 7, .int .i64 10, .int .i64 11, .int .i64 12, .int .i64 13] := ((((((Bs.far (by first | (simp; done) | (simp; omega) | (simp [*]; done) | (simp only [ne_eq]; constructor <;> omega)) _).far (by first | (simp; done) | (simp; omega) | (simp [*]; done) | (simp only [ne_eq]; constructor <;> omega)) _).far (by first | (simp; done) | (simp; omega) | (simp [*]; done) | (simp only [ne_eq]; constructor <;> omega)) _).far (by first | (simp; done) | (simp; omega) | (simp [*]; done) | (simp only [ne_eq]; constructor <;> omega)) _).far (by first | (simp; done) | (simp; omega) | (simp [*]; done) | (simp only [ne_eq]; constructor <;> omega)) _).far (by first | (simp; done) | (simp; omega) | (simp [*]; done) | (simp only [ne_eq]; constructor <;> omega)) _)
    replace Bx : Blk ((((((((((((w4.setCell ⟨gx, 0, none⟩ (uv vP.b.v)).setCell ⟨gx, 1, none⟩ (uv vP.b.m)).setCell ⟨gx, 2, none⟩ (uv vP.lo)).setCell ⟨gx, 3, none⟩ (uv vP.hi)).setCell ⟨gx, 4, none⟩ (sv vP.sl)).setCell ⟨gx, 5, none⟩ (sv vP.sh)).setCell ⟨gy, 0, none⟩ (uv vQ.b.v)).setCell ⟨gy, 1, none⟩ (uv vQ.b.m)).setCell ⟨gy, 2, none⟩ (uv vQ.lo)).setCell ⟨gy, 3, none⟩ (uv vQ.hi)).setCell ⟨gy, 4, none⟩ (sv vQ.sl)).setCell ⟨gy, 5, none⟩ (sv vQ.sh)) (gx) 27 #[uv vP.b.v, uv vP.b.m, uv vP.lo, uv vP.hi, sv vP.sl, sv vP.sh] := ((((((Bx.far (by first | (simp; done) | (simp; omega) | (simp [*]; done) | (simp only [ne_eq]; constructor <;> omega)) _).far (by first | (simp; done) | (simp; omega) | (simp [*]; done) | (simp only [ne_eq]; constructor <;> omega)) _).far (by first | (simp; done) | (simp; omega) | (simp [*]; done) | (simp only [ne_eq]; constructor <;> omega)) _).far (by first | (simp; done) | (simp; omega) | (simp [*]; done) | (simp only [ne_eq]; constructor <;> omega)) _).far (by first | (simp; done) | (simp; omega) | (simp [*]; done) | (simp only [ne_eq]; constructor <;> omega)) _).far (by first | (simp; done) | (simp; omega) | (simp [*]; done) | (simp only [ne_eq]; constructor <;> omega)) _)
    replace By : Blk ((((((((((((w4.setCell ⟨gx, 0, none⟩ (uv vP.b.v)).setCell ⟨gx, 1, none⟩ (uv vP.b.m)).setCell ⟨gx, 2, none⟩ (uv vP.lo)).setCell ⟨gx, 3, none⟩ (uv vP.hi)).setCell ⟨gx, 4, none⟩ (sv vP.sl)).setCell ⟨gx, 5, none⟩ (sv vP.sh)).setCell ⟨gy, 0, none⟩ (uv vQ.b.v)).setCell ⟨gy, 1, none⟩ (uv vQ.b.m)).setCell ⟨gy, 2, none⟩ (uv vQ.lo)).setCell ⟨gy, 3, none⟩ (uv vQ.hi)).setCell ⟨gy, 4, none⟩ (sv vQ.sl)).setCell ⟨gy, 5, none⟩ (sv vQ.sh)) (gy) 27 #[uv vQ.b.v, uv vQ.b.m, uv vQ.lo, uv vQ.hi, sv vQ.sl, sv vQ.sh] := ((((((By.set_ 0 _).set_ 1 _).set_ 2 _).set_ 3 _).set_ 4 _).set_ 5 _)
    replace hB : Below w.heap.size w ((((((((((((w4.setCell ⟨gx, 0, none⟩ (uv vP.b.v)).setCell ⟨gx, 1, none⟩ (uv vP.b.m)).setCell ⟨gx, 2, none⟩ (uv vP.lo)).setCell ⟨gx, 3, none⟩ (uv vP.hi)).setCell ⟨gx, 4, none⟩ (sv vP.sl)).setCell ⟨gx, 5, none⟩ (sv vP.sh)).setCell ⟨gy, 0, none⟩ (uv vQ.b.v)).setCell ⟨gy, 1, none⟩ (uv vQ.b.m)).setCell ⟨gy, 2, none⟩ (uv vQ.lo)).setCell ⟨gy, 3, none⟩ (uv vQ.hi)).setCell ⟨gy, 4, none⟩ (sv vQ.sl)).setCell ⟨gy, 5, none⟩ (sv vQ.sh)) := (Bl_set (Bl_set (Bl_set (Bl_set (Bl_set (Bl_set hB (by first | omega | (simp; done) | (simp; omega)) _) (by first | omega | (simp; done) | (simp; omega)) _) (by first | omega | (simp; done) | (simp; omega)) _) (by first | omega | (simp; done) | (simp; omega)) _) (by first | omega | (simp; done) | (simp; omega)) _) (by first | omega | (simp; done) | (simp; omega)) _)
    generalize ((((((((((((w4.setCell ⟨gx, 0, none⟩ (uv vP.b.v)).setCell ⟨gx, 1, none⟩ (uv vP.b.m)).setCell ⟨gx, 2, none⟩ (uv vP.lo)).setCell ⟨gx, 3, none⟩ (uv vP.hi)).setCell ⟨gx, 4, none⟩ (sv vP.sl)).setCell ⟨gx, 5, none⟩ (sv vP.sh)).setCell ⟨gy, 0, none⟩ (uv vQ.b.v)).setCell ⟨gy, 1, none⟩ (uv vQ.b.m)).setCell ⟨gy, 2, none⟩ (uv vQ.lo)).setCell ⟨gy, 3, none⟩ (uv vQ.hi)).setCell ⟨gy, 4, none⟩ (sv vQ.sl)).setCell ⟨gy, 5, none⟩ (sv vQ.sh)) = w5 at *
    obtain ⟨cn0, cn1⟩ := cells2 Bn
    have fn := Bn.frozen; have ln := Bn.lt
    have cs0 : w5.cell? ⟨gs, 0, none⟩ = some (.int .i64 1) := Bs.cell 0
    have cs1 : w5.cell? ⟨gs, 1, none⟩ = some (.int .i64 2) := Bs.cell 1
    have cs2 : w5.cell? ⟨gs, 2, none⟩ = some (.int .i64 3) := Bs.cell 2
    have cs3 : w5.cell? ⟨gs, 3, none⟩ = some (.int .i64 4) := Bs.cell 3
    have cs4 : w5.cell? ⟨gs, 4, none⟩ = some (.int .i64 5) := Bs.cell 4
    have cs5 : w5.cell? ⟨gs, 5, none⟩ = some (.int .i64 6) := Bs.cell 5
    have cs6 : w5.cell? ⟨gs, 6, none⟩ = some (.int .i64 7) := Bs.cell 6
    have cs7 : w5.cell? ⟨gs, 7, none⟩ = some (.int .i64 10) := Bs.cell 7
    have cs8 : w5.cell? ⟨gs, 8, none⟩ = some (.int .i64 11) := Bs.cell 8
    have cs9 : w5.cell? ⟨gs, 9, none⟩ = some (.int .i64 12) := Bs.cell 9
    have cs10 : w5.cell? ⟨gs, 10, none⟩ = some (.int .i64 13) := Bs.cell 10
    have fs := Bs.frozen; have ls := Bs.lt
    obtain ⟨cx0, cx1, cx2, cx3, cx4, cx5⟩ := cells6 Bx
    have fx := Bx.frozen; have lx := Bx.lt
    obtain ⟨cy0, cy1, cy2, cy3, cy4, cy5⟩ := cells6 By
    have fy := By.frozen; have ly := By.lt
    go_wp2_with fail
    clear cn0 cn1; obtain ⟨cn0, cn1⟩ := lcells2 Bn
    replace cs0 : ∀ g : Later w5, g.w.cell? ⟨gs, 0, none⟩ = some (.int .i64 1) := fun g => g.cell (Bs.cell 0)
    replace cs1 : ∀ g : Later w5, g.w.cell? ⟨gs, 1, none⟩ = some (.int .i64 2) := fun g => g.cell (Bs.cell 1)
    replace cs2 : ∀ g : Later w5, g.w.cell? ⟨gs, 2, none⟩ = some (.int .i64 3) := fun g => g.cell (Bs.cell 2)
    replace cs3 : ∀ g : Later w5, g.w.cell? ⟨gs, 3, none⟩ = some (.int .i64 4) := fun g => g.cell (Bs.cell 3)
    replace cs4 : ∀ g : Later w5, g.w.cell? ⟨gs, 4, none⟩ = some (.int .i64 5) := fun g => g.cell (Bs.cell 4)
    replace cs5 : ∀ g : Later w5, g.w.cell? ⟨gs, 5, none⟩ = some (.int .i64 6) := fun g => g.cell (Bs.cell 5)
    replace cs6 : ∀ g : Later w5, g.w.cell? ⟨gs, 6, none⟩ = some (.int .i64 7) := fun g => g.cell (Bs.cell 6)
    replace cs7 : ∀ g : Later w5, g.w.cell? ⟨gs, 7, none⟩ = some (.int .i64 10) := fun g => g.cell (Bs.cell 7)
    replace cs8 : ∀ g : Later w5, g.w.cell? ⟨gs, 8, none⟩ = some (.int .i64 11) := fun g => g.cell (Bs.cell 8)
    replace cs9 : ∀ g : Later w5, g.w.cell? ⟨gs, 9, none⟩ = some (.int .i64 12) := fun g => g.cell (Bs.cell 9)
    replace cs10 : ∀ g : Later w5, g.w.cell? ⟨gs, 10, none⟩ = some (.int .i64 13) := fun g => g.cell (Bs.cell 10)
    clear cx0 cx1 cx2 cx3 cx4 cx5; obtain ⟨cx0, cx1, cx2, cx3, cx4, cx5⟩ := lcells6 Bx
    clear cy0 cy1 cy2 cy3 cy4 cy5; obtain ⟨cy0, cy1, cy2, cy3, cy4, cy5⟩ := lcells6 By
    refine wp_region_mixL 15 (fun k => k == 11 || k == 12) (fun _ => #[.int .u64 0, .int .u64 0, .int .u64 0, .int .u64 0, .int .i64 0, .int .i64 0]) (by kernel_rfl) (by kernel_rfl) (fun d _ _ _ _ h => by cases d <;> exact h) (fun o t ho ht => by
      simp at ho
      rcases ho with rfl | rfl | rfl | rfl | rfl | rfl | rfl | rfl | rfl | rfl | rfl | rfl | rfl | rfl | rfl <;> first | (cases ht; done) | (obtain rfl := Option.some.inj ht; exact fun ρ w => new_rng14 ht ρ w)) ?_
    simp only [List.take_succ_cons, List.take_zero, List.drop_succ_cons, List.drop_zero]
    repeat ((with_reducible refine wpMixL_step (fun K hK => ?_)); go_simp; first | ((with_reducible refine hK _ ?_); clear hK K) | (rw [if_neg (by decide)]; (with_reducible refine hK _ ?_); clear hK K) | (apply Exists.intro; refine ⟨fun g => ?_, hK _ ?_⟩; ((with_reducible refine Calls.mono (k_P g.w) ?_); exact fun _ _ h => h); clear hK K) | (apply Exists.intro; refine ⟨fun g => ?_, hK _ ?_⟩; ((with_reducible refine Calls.mono (k_Q g.w) ?_); exact fun _ _ h => h); clear hK K) | (apply Exists.intro; refine ⟨fun g => ?_, hK _ ?_⟩; ((with_reducible refine Calls.mono (k_R2 g.w) ?_); exact fun _ _ h => h); clear hK K))
    refine wpMixL_nil ?_
    intro G w6 hgr hblk hdist
    have hb : Below w5.heap.size w5 w6 := hgr
    replace Bn := Bn.next hb
    replace Bs := Bs.next hb
    replace Bx := Bx.next hb
    replace By := By.next hb
    obtain ⟨Bz, hlz⟩ := hblk 13 _ rfl
    obtain ⟨Bt, hlt⟩ := hblk 14 _ rfl
    have hdzt := hdist 13 14 _ _ rfl rfl (by decide)
    have hgz : w.heap.size ≤ G 13 := Nat.le_trans hB.size hlz
    have hnnz : w.heap.size ≠ G 13 := Nat.ne_of_lt (Nat.lt_of_lt_of_le ln hlz)
    have hnsz : gs ≠ G 13 := Nat.ne_of_lt (Nat.lt_of_lt_of_le ls hlz)
    have hnxz : gx ≠ G 13 := Nat.ne_of_lt (Nat.lt_of_lt_of_le lx hlz)
    have hnyz : gy ≠ G 13 := Nat.ne_of_lt (Nat.lt_of_lt_of_le ly hlz)
    clear hlz
    have hgt : w.heap.size ≤ G 14 := Nat.le_trans hB.size hlt
    have hnnt : w.heap.size ≠ G 14 := Nat.ne_of_lt (Nat.lt_of_lt_of_le ln hlt)
    have hnst : gs ≠ G 14 := Nat.ne_of_lt (Nat.lt_of_lt_of_le ls hlt)
    have hnxt : gx ≠ G 14 := Nat.ne_of_lt (Nat.lt_of_lt_of_le lx hlt)
    have hnyt : gy ≠ G 14 := Nat.ne_of_lt (Nat.lt_of_lt_of_le ly hlt)
    clear hlt
    clear cn0 cn1 fn ln
    clear cs0 cs1 cs2 cs3 cs4 cs5 cs6 cs7 cs8 cs9 cs10 fs ls
    clear cx0 cx1 cx2 cx3 cx4 cx5 fx lx
    clear cy0 cy1 cy2 cy3 cy4 cy5 fy ly
    replace hB : Below w.heap.size w w6 := Bl_trans hB hb
    simp only [putAll, isAlloc, Act.put]
    generalize G 13 = gz at *
    generalize G 14 = gt at *
    clear hb hgr hblk hdist
    obtain ⟨cn0, cn1⟩ := cells2 Bn
    have fn := Bn.frozen; have ln := Bn.lt
    have cs0 : w6.cell? ⟨gs, 0, none⟩ = some (.int .i64 1) := Bs.cell 0
    have cs1 : w6.cell? ⟨gs, 1, none⟩ = some (.int .i64 2) := Bs.cell 1
    have cs2 : w6.cell? ⟨gs, 2, none⟩ = some (.int .i64 3) := Bs.cell 2
    have cs3 : w6.cell? ⟨gs, 3, none⟩ = some (.int .i64 4) := Bs.cell 3
    have cs4 : w6.cell? ⟨gs, 4, none⟩ = some (.int .i64 5) := Bs.cell 4
    have cs5 : w6.cell? ⟨gs, 5, none⟩ = some (.int .i64 6) := Bs.cell 5
    have cs6 : w6.cell? ⟨gs, 6, none⟩ = some (.int .i64 7) := Bs.cell 6
    have cs7 : w6.cell? ⟨gs, 7, none⟩ = some (.int .i64 10) := Bs.cell 7
    have cs8 : w6.cell? ⟨gs, 8, none⟩ = some (.int .i64 11) := Bs.cell 8
    have cs9 : w6.cell? ⟨gs, 9, none⟩ = some (.int .i64 12) := Bs.cell 9
    have cs10 : w6.cell? ⟨gs, 10, none⟩ = some (.int .i64 13) := Bs.cell 10
    have fs := Bs.frozen; have ls := Bs.lt
    obtain ⟨cx0, cx1, cx2, cx3, cx4, cx5⟩ := cells6 Bx
    have fx := Bx.frozen; have lx := Bx.lt
    obtain ⟨cy0, cy1, cy2, cy3, cy4, cy5⟩ := cells6 By
    have fy := By.frozen; have ly := By.lt
    obtain ⟨cz0, cz1, cz2, cz3, cz4, cz5⟩ := cells6 Bz
    have fz := Bz.frozen; have lz := Bz.lt
    obtain ⟨ct0, ct1, ct2, ct3, ct4, ct5⟩ := cells6 Bt
    have ft := Bt.frozen; have lt := Bt.lt
    go_upto_region 6 with fail
    clear cn0 cn1 fn ln
    clear cs0 cs1 cs2 cs3 cs4 cs5 cs6 cs7 cs8 cs9 cs10 fs ls
    clear cx0 cx1 cx2 cx3 cx4 cx5 fx lx
    clear cy0 cy1 cy2 cy3 cy4 cy5 fy ly
    clear cz0 cz1 cz2 cz3 cz4 cz5 fz lz
    clear ct0 ct1 ct2 ct3 ct4 ct5 ft lt
    replace Bn : Blk ((((((w6.setCell ⟨gz, 0, none⟩ (uv Z0.b.v)).setCell ⟨gz, 1, none⟩ (uv Z0.b.m)).setCell ⟨gz, 2, none⟩ (uv Z0.lo)).setCell ⟨gz, 3, none⟩ (uv Z0.hi)).setCell ⟨gz, 4, none⟩ (sv Z0.sl)).setCell ⟨gz, 5, none⟩ (sv Z0.sh)) (w.heap.size) 47 #[uv p, uv q] := ((((((Bn.far (by first | (simp; done) | (simp; omega) | (simp [*]; done) | (simp only [ne_eq]; constructor <;> omega)) _).far (by first | (simp; done) | (simp; omega) | (simp [*]; done) | (simp only [ne_eq]; constructor <;> omega)) _).far (by first | (simp; done) | (simp; omega) | (simp [*]; done) | (simp only [ne_eq]; constructor <;> omega)) _).far (by first | (simp; done) | (simp; omega) | (simp [*]; done) | (simp only [ne_eq]; constructor <;> omega)) _).far (by first | (simp; done) | (simp; omega) | (simp [*]; done) | (simp only [ne_eq]; constructor <;> omega)) _).far (by first | (simp; done) | (simp; omega) | (simp [*]; done) | (simp only [ne_eq]; constructor <;> omega)) _)
    replace Bs : Blk ((((((w6.setCell ⟨gz, 0, none⟩ (uv Z0.b.v)).setCell ⟨gz, 1, none⟩ (uv Z0.b.m)).setCell ⟨gz, 2, none⟩ (uv Z0.lo)).setCell ⟨gz, 3, none⟩ (uv Z0.hi)).setCell ⟨gz, 4, none⟩ (sv Z0.sl)).setCell ⟨gz, 5, none⟩ (sv Z0.sh)) (gs) 3 #[.int .i64 1, .int .i64 2, .int .i64 3, .int .i64 4, .int .i64 5, .int .i64 6, .int .i64 7, .int .i64 10, .int .i64 11, .int .i64 12, .int .i64 13] := ((((((Bs.far (by first | (simp; done) | (simp; omega) | (simp [*]; done) | (simp only [ne_eq]; constructor <;> omega)) _).far (by first | (simp; done) | (simp; omega) | (simp [*]; done) | (simp only [ne_eq]; constructor <;> omega)) _).far (by first | (simp; done) | (simp; omega) | (simp [*]; done) | (simp only [ne_eq]; constructor <;> omega)) _).far (by first | (simp; done) | (simp; omega) | (simp [*]; done) | (simp only [ne_eq]; constructor <;> omega)) _).far (by first | (simp; done) | (simp; omega) | (simp [*]; done) | (simp only [ne_eq]; constructor <;> omega)) _).far (by first | (simp; done) | (simp; omega) | (simp [*]; done) | (simp only [ne_eq]; constructor <;> omega)) _)
    replace Bx : Blk ((((((w6.setCell ⟨gz, 0, none⟩ (uv Z0.b.v)).setCell ⟨gz, 1, none⟩ (uv Z0.b.m)).setCell ⟨gz, 2, none⟩ (uv Z0.lo)).setCell ⟨gz, 3, none⟩ (uv Z0.hi)).setCell ⟨gz, 4, none⟩ (sv Z0.sl)).setCell ⟨gz, 5, none⟩ (sv Z0.sh)) (gx) 27 #[uv vP.b.v, uv vP.b.m, uv vP.lo, uv vP.hi, sv vP.sl, sv vP.sh] := ((((((Bx.far (by first | (simp; done) | (simp; omega) | (simp [*]; done) | (simp only [ne_eq]; constructor <;> omega)) _).far (by first | (simp; done) | (simp; omega) | (simp [*]; done) | (simp only [ne_eq]; constructor <;> omega)) _).far (by first | (simp; done) | (simp; omega) | (simp [*]; done) | (simp only [ne_eq]; constructor <;> omega)) _).far (by first | (simp; done) | (simp; omega) | (simp [*]; done) | (simp only [ne_eq]; constructor <;> omega)) _).far (by first | (simp; done) | (simp; omega) | (simp [*]; done) | (simp only [ne_eq]; constructor <;> omega)) _).far (by first | (simp; done) | (simp; omega) | (simp [*]; done) | (simp only [ne_eq]; constructor <;> omega)) _)
    replace By : Blk ((((((w6.setCell ⟨gz, 0, none⟩ (uv Z0.b.v)).setCell ⟨gz, 1, none⟩ (uv Z0.b.m)).setCell ⟨gz, 2, none⟩ (uv Z0.lo)).setCell ⟨gz, 3, none⟩ (uv Z0.hi)).setCell ⟨gz, 4, none⟩ (sv Z0.sl)).setCell ⟨gz, 5, none⟩ (sv Z0.sh)) (gy) 27 #[uv vQ.b.v, uv vQ.b.m, uv vQ.lo, uv vQ.hi, sv vQ.sl, sv vQ.sh] := ((((((By.far (by first | (simp; done) | (simp; omega) | (simp [*]; done) | (simp only [ne_eq]; constructor <;> omega)) _).far (by first | (simp; done) | (simp; omega) | (simp [*]; done) | (simp only [ne_eq]; constructor <;> omega)) _).far (by first | (simp; done) | (simp; omega) | (simp [*]; done) | (simp only [ne_eq]; constructor <;> omega)) _).far (by first | (simp; done) | (simp; omega) | (simp [*]; done) | (simp only [ne_eq]; constructor <;> omega)) _).far (by first | (simp; done) | (simp; omega) | (simp [*]; done) | (simp only [ne_eq]; constructor <;> omega)) _).far (by first | (simp; done) | (simp; omega) | (simp [*]; done) | (simp only [ne_eq]; constructor <;> omega)) _)
    replace Bz : Blk ((((((w6.setCell ⟨gz, 0, none⟩ (uv Z0.b.v)).setCell ⟨gz, 1, none⟩ (uv Z0.b.m)).setCell ⟨gz, 2, none⟩ (uv Z0.lo)).setCell ⟨gz, 3, none⟩ (uv Z0.hi)).setCell ⟨gz, 4, none⟩ (sv Z0.sl)).setCell ⟨gz, 5, none⟩ (sv Z0.sh)) (gz) 27 #[uv Z0.b.v, uv Z0.b.m, uv Z0.lo, uv Z0.hi, sv Z0.sl, sv Z0.sh] := ((((((Bz.set_ 0 _).set_ 1 _).set_ 2 _).set_ 3 _).set_ 4 _).set_ 5 _)
    replace Bt : Blk ((((((w6.setCell ⟨gz, 0, none⟩ (uv Z0.b.v)).setCell ⟨gz, 1, none⟩ (uv Z0.b.m)).setCell ⟨gz, 2, none⟩ (uv Z0.lo)).setCell ⟨gz, 3, none⟩ (uv Z0.hi)).setCell ⟨gz, 4, none⟩ (sv Z0.sl)).setCell ⟨gz, 5, none⟩ (sv Z0.sh)) (gt) 27 #[.int .u64 0, .int .u64 0, .int .u64 0, .int .u64 0, .int .i64 0, .int .i64 0] := ((((((Bt.far (by first | (simp; done) | (simp; omega) | (simp [*]; done) | (simp only [ne_eq]; constructor <;> omega)) _).far (by first | (simp; done) | (simp; omega) | (simp [*]; done) | (simp only [ne_eq]; constructor <;> omega)) _).far (by first | (simp; done) | (simp; omega) | (simp [*]; done) | (simp only [ne_eq]; constructor <;> omega)) _).far (by first | (simp; done) | (simp; omega) | (simp [*]; done) | (simp only [ne_eq]; constructor <;> omega)) _).far (by first | (simp; done) | (simp; omega) | (simp [*]; done) | (simp only [ne_eq]; constructor <;> omega)) _).far (by first | (simp; done) | (simp; omega) | (simp [*]; done) | (simp only [ne_eq]; constructor <;> omega)) _)
    replace hB : Below w.heap.size w ((((((w6.setCell ⟨gz, 0, none⟩ (uv Z0.b.v)).setCell ⟨gz, 1, none⟩ (uv Z0.b.m)).setCell ⟨gz, 2, none⟩ (uv Z0.lo)).setCell ⟨gz, 3, none⟩ (uv Z0.hi)).setCell ⟨gz, 4, none⟩ (sv Z0.sl)).setCell ⟨gz, 5, none⟩ (sv Z0.sh)) := (Bl_set (Bl_set (Bl_set (Bl_set (Bl_set (Bl_set hB (by first | omega | (simp; done) | (simp; omega)) _) (by first | omega | (simp; done) | (simp; omega)) _) (by first | omega | (simp; done) | (simp; omega)) _) (by first | omega | (simp; done) | (simp; omega)) _) (by first | omega | (simp; done) | (simp; omega)) _) (by first | omega | (simp; done) | (simp; omega)) _)
    replace Bn : Blk ((((((((((((w6.setCell ⟨gz, 0, none⟩ (uv Z0.b.v)).setCell ⟨gz, 1, none⟩ (uv Z0.b.m)).setCell ⟨gz, 2, none⟩ (uv Z0.lo)).setCell ⟨gz, 3, none⟩ (uv Z0.hi)).setCell ⟨gz, 4, none⟩ (sv Z0.sl)).setCell ⟨gz, 5, none⟩ (sv Z0.sh)).setCell ⟨gt, 0, none⟩ (uv Z0.b.v)).setCell ⟨gt, 1, none⟩ (uv Z0.b.m)).setCell ⟨gt, 2, none⟩ (uv Z0.lo)).setCell ⟨gt, 3, none⟩ (uv Z0.hi)).setCell ⟨gt, 4, none⟩ (sv Z0.sl)).setCell ⟨gt, 5, none⟩ (sv Z0.sh)) (w.heap.size) 47 #[uv p, uv q] := ((((((Bn.far (by first | (simp; done) | (simp; omega) | (simp [*]; done) | (simp only [ne_eq]; constructor <;> omega)) _).far (by first | (simp; done) | (simp; omega) | (simp [*]; done) | (simp only [ne_eq]; constructor <;> omega)) _).far (by first | (simp; done) | (simp; omega) | (simp [*]; done) | (simp only [ne_eq]; constructor <;> omega)) _).far (by first | (simp; done) | (simp; omega) | (simp [*]; done) | (simp only [ne_eq]; constructor <;> omega)) _).far (by first | (simp; done) | (simp; omega) | (simp [*]; done) | (simp only [ne_eq]; constructor <;> omega)) _).far (by first | (simp; done) | (simp; omega) | (simp [*]; done) | (simp only [ne_eq]; constructor <;> omega)) _)
    replace Bs : Blk ((((((((((((w6.setCell ⟨gz, 0, none⟩ (uv Z0.b.v)).setCell ⟨gz, 1, none⟩ (uv Z0.b.m)).setCell ⟨gz, 2, none⟩ (uv Z0.lo)).setCell ⟨gz, 3, none⟩ (uv Z0.hi)).setCell ⟨gz, 4, none⟩ (sv Z0.sl)).setCell ⟨gz, 5, none⟩ (sv Z0.sh)).setCell ⟨gt, 0, none⟩ (uv Z0.b.v)).setCell ⟨gt, 1, none⟩ (uv Z0.b.m)).setCell ⟨gt, 2, none⟩ (uv Z0.lo)).setCell ⟨gt, 3, none⟩ (uv Z0.hi)).setCell ⟨gt, 4, none⟩ (sv Z0.sl)).setCell ⟨gt, 5, none⟩ (sv Z0.sh)) (gs) 3 #[.int .i64 1, .int .i64 2, .int .i64 3, .int .i64 4, .int .i64 5, .int .i64 6, .int .i64 7, .int .i64 10, .int .i64 11, .int .i64 12, .int .i64 13] := ((((((Bs.far (by first | (simp; done) | (simp; omega) | (simp [*]; done) | (simp only [ne_eq]; constructor <;> omega)) _).far (by first | (simp; done) | (simp; omega) | (simp [*]; done) | (simp only [ne_eq]; constructor <;> omega)) _).far (by first | (simp; done) | (simp; omega) | (simp [*]; done) | (simp only [ne_eq]; constructor <;> omega)) _).far (by first | (simp; done) | (simp; omega) | (simp [*]; done) | (simp only [ne_eq]; constructor <;> omega)) _).far (by first | (simp; done) | (simp; omega) | (simp [*]; done) | (simp only [ne_eq]; constructor <;> omega)) _).far (by first | (simp; done) | (simp; omega) | (simp [*]; done) | (simp only [ne_eq]; constructor <;> omega)) _)
    replace Bx : Blk ((((((((((((w6.setCell ⟨gz, 0, none⟩ (uv Z0.b.v)).setCell ⟨gz, 1, none⟩ (uv Z0.b.m)).setCell ⟨gz, 2, none⟩ (uv Z0.lo)).setCell ⟨gz, 3, none⟩ (uv Z0.hi)).setCell ⟨gz, 4, none⟩ (sv Z0.sl)).setCell ⟨gz, 5, none⟩ (sv Z0.sh)).setCell ⟨gt, 0, none⟩ (uv Z0.b.v)).setCell ⟨gt, 1, none⟩ (uv Z0.b.m)).setCell ⟨gt, 2, none⟩ (uv Z0.lo)).setCell ⟨gt, 3, none⟩ (uv Z0.hi)).setCell ⟨gt, 4, none⟩ (sv Z0.sl)).setCell ⟨gt, 5, none⟩ (sv Z0.sh)) (gx) 27 #[uv vP.b.v, uv vP.b.m, uv vP.lo, uv vP.hi, sv vP.sl, sv vP.sh] := ((((((Bx.far (by first | (simp; done) | (simp; omega) | (simp [*]; done) | (simp only [ne_eq]; constructor <;> omega)) _).far (by first | (simp; done) | (simp; omega) | (simp [*]; done) | (simp only [ne_eq]; constructor <;> omega)) _).far (by first | (simp; done) | (simp; omega) | (simp [*]; done) | (simp only [ne_eq]; constructor <;> omega)) _).far (by first | (simp; done) | (simp; omega) | (simp [*]; done) | (simp only [ne_eq]; constructor <;> omega)) _).far (by first | (simp; done) | (simp; omega) | (simp [*]; done) | (simp only [ne_eq]; constructor <;> omega)) _).far (by first | (simp; done) | (simp; omega) | (simp [*]; done) | (simp only [ne_eq]; constructor <;> omega)) _)
    replace By : Blk ((((((((((((w6.setCell ⟨gz, 0, none⟩ (uv Z0.b.v)).setCell ⟨gz, 1, none⟩ (uv Z0.b.m)).setCell ⟨gz, 2, none⟩ (uv Z0.lo)).setCell ⟨gz, 3, none⟩ (uv Z0.hi)).setCell ⟨gz, 4, none⟩ (sv Z0.sl)).setCell ⟨gz, 5, none⟩ (sv Z0.sh)).setCell ⟨gt, 0, none⟩ (uv Z0.b.v)).setCell ⟨gt, 1, none⟩ (uv Z0.b.m)).setCell ⟨gt, 2, none⟩ (uv Z0.lo)).setCell ⟨gt, 3, none⟩ (uv Z0.hi)).setCell ⟨gt, 4, none⟩ (sv Z0.sl)).setCell ⟨gt, 5, none⟩ (sv Z0.sh)) (gy) 27 #[uv vQ.b.v, uv vQ.b.m, uv vQ.lo, uv vQ.hi, sv vQ.sl, sv vQ.sh] := ((((((By.far (by first | (simp; done) | (simp; omega) | (simp [*]; done) | (simp only [ne_eq]; constructor <;> omega)) _).far (by first | (simp; done) | (simp; omega) | (simp [*]; done) | (simp only [ne_eq]; constructor <;> omega)) _).far (by first | (simp; done) | (simp; omega) | (simp [*]; done) | (simp only [ne_eq]; constructor <;> omega)) _).far (by first | (simp; done) | (simp; omega) | (simp [*]; done) | (simp only [ne_eq]; constructor <;> omega)) _).far (by first | (simp; done) | (simp; omega) | (simp [*]; done) | (simp only [ne_eq]; constructor <;> omega)) _).far (by first | (simp; done) | (simp; omega) | (simp [*]; done) | (simp only [ne_eq]; constructor <;> omega)) _)
    replace Bz : Blk ((((((((((((w6.setCell ⟨gz, 0, none⟩ (uv Z0.b.v)).setCell ⟨gz, 1, none⟩ (uv Z0.b.m)).setCell ⟨gz, 2, none⟩ (uv Z0.lo)).setCell ⟨gz, 3, none⟩ (uv Z0.hi)).setCell ⟨gz, 4, none⟩ (sv Z0.sl)).setCell ⟨gz, 5, none⟩ (sv Z0.sh)).setCell ⟨gt, 0, none⟩ (uv Z0.b.v)).setCell ⟨gt, 1, none⟩ (uv Z0.b.m)).setCell ⟨gt, 2, none⟩ (uv Z0.lo)).setCell ⟨gt, 3, none⟩ (uv Z0.hi)).setCell ⟨gt, 4, none⟩ (sv Z0.sl)).setCell ⟨gt, 5, none⟩ (sv Z0.sh)) (gz) 27 #[uv Z0.b.v, uv Z0.b.m, uv Z0.lo, uv Z0.hi, sv Z0.sl, sv Z0.sh] := ((((((Bz.far (by first | (simp; done) | (simp; omega) | (simp [*]; done) | (simp only [ne_eq]; constructor <;> omega)) _).far (by first | (simp; done) | (simp; omega) | (simp [*]; done) | (simp only [ne_eq]; constructor <;> omega)) _).far (by first | (simp; done) | (simp; omega) | (simp [*]; done) | (simp only [ne_eq]; constructor <;> omega)) _).far (by first | (simp; done) | (simp; omega) | (simp [*]; done) | (simp only [ne_eq]; constructor <;> omega)) _).far (by first | (simp; done) | (simp; omega) | (simp [*]; done) | (simp only [ne_eq]; constructor <;> omega)) _).far (by first | (simp; done) | (simp; omega) | (simp [*]; done) | (simp only [ne_eq]; constructor <;> omega)) _)
    replace Bt : Blk ((((((((((((w6.setCell ⟨gz, 0, none⟩ (uv Z0.b.v)).setCell ⟨gz, 1, none⟩ (uv Z0.b.m)).setCell ⟨gz, 2, none⟩ (uv Z0.lo)).setCell ⟨gz, 3, none⟩ (uv Z0.hi)).setCell ⟨gz, 4, none⟩ (sv Z0.sl)).setCell ⟨gz, 5, none⟩ (sv Z0.sh)).setCell ⟨gt, 0, none⟩ (uv Z0.b.v)).setCell ⟨gt, 1, none⟩ (uv Z0.b.m)).setCell ⟨gt, 2, none⟩ (uv Z0.lo)).setCell ⟨gt, 3, none⟩ (uv Z0.hi)).setCell ⟨gt, 4, none⟩ (sv Z0.sl)).setCell ⟨gt, 5, none⟩ (sv Z0.sh)) (gt) 27 #[uv Z0.b.v, uv Z0.b.m, uv Z0.lo, uv Z0.hi, sv Z0.sl, sv Z0.sh] := ((((((Bt.set_ 0 _).set_ 1 _).set_ 2 _).set_ 3 _).set_ 4 _).set_ 5 _)
    replace hB : Below w.heap.size w ((((((((((((w6.setCell ⟨gz, 0, none⟩ (uv Z0.b.v)).setCell ⟨gz, 1, none⟩ (uv Z0.b.m)).setCell ⟨gz, 2, none⟩ (uv Z0.lo)).setCell ⟨gz, 3, none⟩ (uv Z0.hi)).setCell ⟨gz, 4, none⟩ (sv Z0.sl)).setCell ⟨gz, 5, none⟩ (sv Z0.sh)).setCell ⟨gt, 0, none⟩ (uv Z0.b.v)).setCell ⟨gt, 1, none⟩ (uv Z0.b.m)).setCell ⟨gt, 2, none⟩ (uv Z0.lo)).setCell ⟨gt, 3, none⟩ (uv Z0.hi)).setCell ⟨gt, 4, none⟩ (sv Z0.sl)).setCell ⟨gt, 5, none⟩ (sv Z0.sh)) := (Bl_set (Bl_set (Bl_set (Bl_set (Bl_set (Bl_set hB (by first | omega | (simp; done) | (simp; omega)) _) (by first | omega | (simp; done) | (simp; omega)) _) (by first | omega | (simp; done) | (simp; omega)) _) (by first | omega | (simp; done) | (simp; omega)) _) (by first | omega | (simp; done) | (simp; omega)) _) (by first | omega | (simp; done) | (simp; omega)) _)
    generalize ((((((((((((w6.setCell ⟨gz, 0, none⟩ (uv Z0.b.v)).setCell ⟨gz, 1, none⟩ (uv Z0.b.m)).setCell ⟨gz, 2, none⟩ (uv Z0.lo)).setCell ⟨gz, 3, none⟩ (uv Z0.hi)).setCell ⟨gz, 4, none⟩ (sv Z0.sl)).setCell ⟨gz, 5, none⟩ (sv Z0.sh)).setCell ⟨gt, 0, none⟩ (uv Z0.b.v)).setCell ⟨gt, 1, none⟩ (uv Z0.b.m)).setCell ⟨gt, 2, none⟩ (uv Z0.lo)).setCell ⟨gt, 3, none⟩ (uv Z0.hi)).setCell ⟨gt, 4, none⟩ (sv Z0.sl)).setCell ⟨gt, 5, none⟩ (sv Z0.sh)) = w7 at *
    obtain ⟨cn0, cn1⟩ := cells2 Bn
    have fn := Bn.frozen; have ln := Bn.lt
    have cs0 : w7.cell? ⟨gs, 0, none⟩ = some (.int .i64 1) := Bs.cell 0
    have cs1 : w7.cell? ⟨gs, 1, none⟩ = some (.int .i64 2) := Bs.cell 1
    have cs2 : w7.cell? ⟨gs, 2, none⟩ = some (.int .i64 3) := Bs.cell 2
    have cs3 : w7.cell? ⟨gs, 3, none⟩ = some (.int .i64 4) := Bs.cell 3
    have cs4 : w7.cell? ⟨gs, 4, none⟩ = some (.int .i64 5) := Bs.cell 4
    have cs5 : w7.cell? ⟨gs, 5, none⟩ = some (.int .i64 6) := Bs.cell 5
    have cs6 : w7.cell? ⟨gs, 6, none⟩ = some (.int .i64 7) := Bs.cell 6
    have cs7 : w7.cell? ⟨gs, 7, none⟩ = some (.int .i64 10) := Bs.cell 7
    have cs8 : w7.cell? ⟨gs, 8, none⟩ = some (.int .i64 11) := Bs.cell 8
    have cs9 : w7.cell? ⟨gs, 9, none⟩ = some (.int .i64 12) := Bs.cell 9
    have cs10 : w7.cell? ⟨gs, 10, none⟩ = some (.int .i64 13) := Bs.cell 10
    have fs := Bs.frozen; have ls := Bs.lt
    obtain ⟨cx0, cx1, cx2, cx3, cx4, cx5⟩ := cells6 Bx
    have fx := Bx.frozen; have lx := Bx.lt
    obtain ⟨cy0, cy1, cy2, cy3, cy4, cy5⟩ := cells6 By
    have fy := By.frozen; have ly := By.lt
    obtain ⟨cz0, cz1, cz2, cz3, cz4, cz5⟩ := cells6 Bz
    have fz := Bz.frozen; have lz := Bz.lt
    obtain ⟨ct0, ct1, ct2, ct3, ct4, ct5⟩ := cells6 Bt
    have ft := Bt.frozen; have lt := Bt.lt
    go_wp2_with fail
    clear cn0 cn1; obtain ⟨cn0, cn1⟩ := lcells2 Bn
    replace cs0 : ∀ g : Later w7, g.w.cell? ⟨gs, 0, none⟩ = some (.int .i64 1) := fun g => g.cell (Bs.cell 0)
    replace cs1 : ∀ g : Later w7, g.w.cell? ⟨gs, 1, none⟩ = some (.int .i64 2) := fun g => g.cell (Bs.cell 1)
    replace cs2 : ∀ g : Later w7, g.w.cell? ⟨gs, 2, none⟩ = some (.int .i64 3) := fun g => g.cell (Bs.cell 2)
    replace cs3 : ∀ g : Later w7, g.w.cell? ⟨gs, 3, none⟩ = some (.int .i64 4) := fun g => g.cell (Bs.cell 3)
    replace cs4 : ∀ g : Later w7, g.w.cell? ⟨gs, 4, none⟩ = some (.int .i64 5) := fun g => g.cell (Bs.cell 4)
    replace cs5 : ∀ g : Later w7, g.w.cell? ⟨gs, 5, none⟩ = some (.int .i64 6) := fun g => g.cell (Bs.cell 5)
    replace cs6 : ∀ g : Later w7, g.w.cell? ⟨gs, 6, none⟩ = some (.int .i64 7) := fun g => g.cell (Bs.cell 6)
    replace cs7 : ∀ g : Later w7, g.w.cell? ⟨gs, 7, none⟩ = some (.int .i64 10) := fun g => g.cell (Bs.cell 7)
    replace cs8 : ∀ g : Later w7, g.w.cell? ⟨gs, 8, none⟩ = some (.int .i64 11) := fun g => g.cell (Bs.cell 8)
    replace cs9 : ∀ g : Later w7, g.w.cell? ⟨gs, 9, none⟩ = some (.int .i64 12) := fun g => g.cell (Bs.cell 9)
    replace cs10 : ∀ g : Later w7, g.w.cell? ⟨gs, 10, none⟩ = some (.int .i64 13) := fun g => g.cell (Bs.cell 10)
    clear cx0 cx1 cx2 cx3 cx4 cx5; obtain ⟨cx0, cx1, cx2, cx3, cx4, cx5⟩ := lcells6 Bx
    clear cy0 cy1 cy2 cy3 cy4 cy5; obtain ⟨cy0, cy1, cy2, cy3, cy4, cy5⟩ := lcells6 By
    clear cz0 cz1 cz2 cz3 cz4 cz5; obtain ⟨cz0, cz1, cz2, cz3, cz4, cz5⟩ := lcells6 Bz
    clear ct0 ct1 ct2 ct3 ct4 ct5; obtain ⟨ct0, ct1, ct2, ct3, ct4, ct5⟩ := lcells6 Bt
    refine wp_region_mix 30 (fun _ => #[]) (by kernel_rfl) (by kernel_rfl) (no_alloc (by kernel_rfl)) ?_
    simp only [List.take_succ_cons, List.take_zero, List.drop_succ_cons, List.drop_zero]
    repeat ((with_reducible refine wpMix_step (fun K hK => ?_)); go_simp; first | ((with_reducible refine hK _ ?_); clear hK K) | (rw [if_neg (by decide)]; (with_reducible refine hK _ ?_); clear hK K) | (apply Exists.intro; refine ⟨fun g => ?_, hK _ ?_⟩; ((with_reducible refine Calls.mono (tells_c g.w) ?_); exact fun _ _ h => h); clear hK K) | (apply Exists.intro; refine ⟨fun g => ?_, hK _ ?_⟩; ((with_reducible refine Calls.mono (k_P g.w) ?_); exact fun _ _ h => h); clear hK K) | (apply Exists.intro; refine ⟨fun g => ?_, hK _ ?_⟩; ((with_reducible refine Calls.mono (k_Q g.w) ?_); exact fun _ _ h => h); clear hK K))
    refine wpMix_nil ?_
    intro G w8 hgr hblk hdist
    have hb : Below w7.heap.size w7 w8 := hgr
    replace Bn := Bn.next hb
    replace Bs := Bs.next hb
    replace Bx := Bx.next hb
    replace By := By.next hb
    replace Bz := Bz.next hb
    replace Bt := Bt.next hb
    clear cn0 cn1 fn ln
    clear cs0 cs1 cs2 cs3 cs4 cs5 cs6 cs7 cs8 cs9 cs10 fs ls
    clear cx0 cx1 cx2 cx3 cx4 cx5 fx lx
    clear cy0 cy1 cy2 cy3 cy4 cy5 fy ly
    clear cz0 cz1 cz2 cz3 cz4 cz5 fz lz
    clear ct0 ct1 ct2 ct3 ct4 ct5 ft lt
    replace hB : Below w.heap.size w w8 := Bl_trans hB hb
    simp only [putAll, isAlloc]
    clear hb hgr hblk hdist
    obtain ⟨cn0, cn1⟩ := cells2 Bn
    have fn := Bn.frozen; have ln := Bn.lt
    have cs0 : w8.cell? ⟨gs, 0, none⟩ = some (.int .i64 1) := Bs.cell 0
    have cs1 : w8.cell? ⟨gs, 1, none⟩ = some (.int .i64 2) := Bs.cell 1
    have cs2 : w8.cell? ⟨gs, 2, none⟩ = some (.int .i64 3) := Bs.cell 2
    have cs3 : w8.cell? ⟨gs, 3, none⟩ = some (.int .i64 4) := Bs.cell 3
    have cs4 : w8.cell? ⟨gs, 4, none⟩ = some (.int .i64 5) := Bs.cell 4
    have cs5 : w8.cell? ⟨gs, 5, none⟩ = some (.int .i64 6) := Bs.cell 5
    have cs6 : w8.cell? ⟨gs, 6, none⟩ = some (.int .i64 7) := Bs.cell 6
    have cs7 : w8.cell? ⟨gs, 7, none⟩ = some (.int .i64 10) := Bs.cell 7
    have cs8 : w8.cell? ⟨gs, 8, none⟩ = some (.int .i64 11) := Bs.cell 8
    have cs9 : w8.cell? ⟨gs, 9, none⟩ = some (.int .i64 12) := Bs.cell 9
    have cs10 : w8.cell? ⟨gs, 10, none⟩ = some (.int .i64 13) := Bs.cell 10
    have fs := Bs.frozen; have ls := Bs.lt
    obtain ⟨cx0, cx1, cx2, cx3, cx4, cx5⟩ := cells6 Bx
    have fx := Bx.frozen; have lx := Bx.lt
    obtain ⟨cy0, cy1, cy2, cy3, cy4, cy5⟩ := cells6 By
    have fy := By.frozen; have ly := By.lt
    obtain ⟨cz0, cz1, cz2, cz3, cz4, cz5⟩ := cells6 Bz
    have fz := Bz.frozen; have lz := Bz.lt
    obtain ⟨ct0, ct1, ct2, ct3, ct4, ct5⟩ := cells6 Bt
    have ft := Bt.frozen; have lt := Bt.lt
    go_wp2
    go_ret
    exact ⟨rfl, by repeat (first | exact hB | (refine Bl_set ?_ (by first | omega | (simp; omega)) _) | apply Bl_alloc)⟩
theorem walkN_BranchAlone (op : Int) (lo : -9223372036854775808 ≤ op) (hi : op ≤ 9223372036854775807) (l : Bool) (p q : W) (w : World) : Calls Try.prog 9 #[.int .i64 op, .bool l, .agg #[.int .u64 (T p), .int .u64 (T q)]] w fun e w' => e = .returned (.bool true) ∧ Below w.heap.size w w' := walk_BranchAlone op l p q w
namespace branchAlone
set_option maxRecDepth 100000 in
theorem lifted (os : Os) (started : os.Started) (H : Type) (enc : TypeId × Value → H) :
    ReturnsInHanded {} Try.checked os 9 .any (Rows.branchAloneSpec.pre6 enc Try.prog Try.f9 Rows.branchAloneRow.domain false) (Rows.branchAloneSpec.post enc Try.prog Try.f9 false true false false) := by
  refine returnsInHanded_of_change (C := Try.checked) own started (by kernel_rfl) Try.func9
    (ChangeSpec.witness6 (enc := enc) (C := Try.checked) false ⟨#[], #[.int .i64 0, .bool false, .agg #[.int .u64 0, .int .u64 0]], []⟩ 8 (by kernel_rfl) (by kernel_rfl) (by kernel_rfl) (by kernel_rfl)) ?_
  intro W base args ds gs before hval0 hW hcnd _
  have hval : ∀ (j : Nat) t v, Try.f9.params[j]? = some t → args[j]? = some v → Value.okWide Try.prog W .any base t v := hval0
  have hW' := hW
  obtain ⟨p, q, hA0, hV, rfl, hfz, hnd⟩ := hW
  have hA : DataW.TrodAll enc Try.prog W 0 (fun _ => true) true Try.f9.params.toList args.toList ds p := hA0
  rw [Try.params9] at hA hval
  obtain ⟨v0, vs0, d0, ds0, p0, q0, hargs, rfl, rfl, h0, r0⟩ := trodAll_cons hA
  obtain ⟨v1, vs1, d1, ds1, p1, q1, rfl, rfl, rfl, h1, r1⟩ := trodAll_cons r0
  obtain ⟨v2, vs2, d2, ds2, p2, q2, rfl, rfl, rfl, h2, r2⟩ := trodAll_cons r1
  obtain ⟨rfl, rfl, rfl⟩ := trodAll_nil r2
  obtain rfl : args = #[v0, v1, v2] := by cases args; simp_all
  obtain ⟨rfl, rfl⟩ := trodVars_none hV
  have lt0 : ∀ x ∈ p0, x.block < W.heap.size := by obtain ⟨m, hm⟩ := h0; exact DataW.trod_lt m _ _ _ hm
  obtain ⟨x0, rfl, lo0, hi0⟩ := open_i64 Try.underlying3 (hval 0 3 v0 rfl rfl)
  have lt1 : ∀ x ∈ p1, x.block < W.heap.size := by obtain ⟨m, hm⟩ := h1; exact DataW.trod_lt m _ _ _ hm
  obtain ⟨x1, rfl⟩ := okWide_bool Try.underlying4 (hval 1 4 v1 rfl rfl)
  have lt2 : ∀ x ∈ p2, x.block < W.heap.size := by obtain ⟨m, hm⟩ := h2; exact DataW.trod_lt m _ _ _ hm
  obtain ⟨x2, y2, rfl⟩ := open_uu Try.underlying22 (by rw [Try.underlying47]) (by kernel_rfl) (by kernel_rfl) (hval 2 47 v2 rfl rfl)
  refine (walkN_BranchAlone x0 lo0 hi0 x1 x2 y2 W).mono fun e W' ⟨he, bel⟩ => ?_
  subst he
  exact ⟨_, rfl, _, _, _, [], _, [], hW', trodAll_mk1 (shut_bool Try.underlying4 _), (trodAll_cons_mk (Below.trod laidOut (by kernel_rfl) (of_decide_eq_true (by kernel_rfl)) h0 bel lt0) (trodAll_cons_mk (Below.trod laidOut (by kernel_rfl) (of_decide_eq_true (by kernel_rfl)) h1 bel lt1) (trodAll_cons_mk (Below.trod laidOut (by kernel_rfl) (of_decide_eq_true (by kernel_rfl)) h2 bel lt2) trodAll_mk0))), rfl, bel.frame _, fun h => by cases h⟩
theorem over : Rows.branchAloneRow.holds Try.pinned (OpenSpec.ofChange Rows.branchAloneSpec) :=
  OpenClaim.holds_of_wide 9 Try.f9 rfl rfl rfl rfl rfl rfl rfl ⟨rfl, rfl, rfl, rfl, rfl⟩ rfl rfl rfl rfl rfl (by kernel_rfl) Try.func9 (by kernel_rfl)
    (of_decide_eq_true (by kernel_rfl)) (by unfold Func.isWrapper; first | (rw [if_pos (by decide +kernel)]; kernel_rfl) | (rw [if_neg (by decide +kernel)]; exact ⟨rfl, rfl⟩))
    (fun os started H enc _ => lifted os started H enc)
/-- The given statement. -/
theorem proved : Rows.BranchAloneSaid := over
#print axioms proved
end branchAlone
end Go.Proofs.Ytmghpoagpiljhab
