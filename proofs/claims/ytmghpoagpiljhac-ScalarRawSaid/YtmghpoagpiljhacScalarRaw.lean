/- ScalarRaw: for all ranges, also ones without numbers, and every number the law returns true, and its arguments read as before. No condition. -/
import Derived.Test.YtmghpoagpiljhacOpen
import Derived.Test.YtmghpoagpiljhacLaw14
import Derived.Test.YtmghpoagpiljhacSc11
set_option linter.unusedSimpArgs false
namespace Go.Proofs.Ytmghpoagpiljhac
open Go.ChangeShapes Go.WideShapes Go.ChangeAt Go.RowKit
open PlainTnum (N)
open PlainScalar (Rng)
set_option linter.unusedVariables false
theorem open_rng {P : Program} {w : World} {r : Reach} {base : Nat} {t u i : TypeId} {v : Value} (hu : P.underlying u = some (.int .u64)) (hi : P.underlying i = some (.int .i64)) (hs : (match P.underlying t with | some (.struct _) | some (.array _ _) => true | _ => false) = true)
    (hc : P.cellTypes P.depth t = some [u, u, u, u, i, i]) (hn : P.cellsOf t = 6) (hv : Value.okWide P w r base t v) : ∃ a : Rng, v = rv a := by
  obtain ⟨cs, rfl, hsz, hcell⟩ := open_flat hs hc hn hv
  obtain ⟨l⟩ := cs
  match l, hsz with
  | [c0, c1, c2, c3, c4, c5], _ =>
    obtain ⟨x0, rfl⟩ := cell_u64 hu (hcell 0 c0 u rfl rfl)
    obtain ⟨x1, rfl⟩ := cell_u64 hu (hcell 1 c1 u rfl rfl)
    obtain ⟨x2, rfl⟩ := cell_u64 hu (hcell 2 c2 u rfl rfl)
    obtain ⟨x3, rfl⟩ := cell_u64 hu (hcell 3 c3 u rfl rfl)
    obtain ⟨x4, rfl⟩ := cell_i64 hi (hcell 4 c4 i rfl rfl)
    obtain ⟨x5, rfl⟩ := cell_i64 hi (hcell 5 c5 i rfl rfl)
    exact ⟨⟨⟨x0, x1⟩, x2, x3, x4, x5⟩, rfl⟩
set_option maxRecDepth 100000 in
set_option maxHeartbeats 3200000 in
theorem walk_ScalarRaw (a b : Rng) (n : W) (w : World) : Calls Try.prog 6 #[rv a, rv b, uv n] w fun e w' => e = .returned (.bool true) ∧ Below w.heap.size w w' := by
  obtain ⟨st, e_st⟩ : ∃ z', z' = (PlainScalar.settle a).1 := ⟨_, rfl⟩
  obtain ⟨ok, e_ok⟩ : ∃ z', z' = (PlainScalar.settle a).2 := ⟨_, rfl⟩
  have k_st : ∀ w : World, Calls Try.prog 18 #[rv a] w fun e w' => e = .returned (.tuple #[rv st, .bool ok]) ∧ Below w.heap.size w w' := fun w => by rw [e_st, e_ok]; exact settle_c a w
  have hin : PlainScalar.has a n = true → ok = true ∧ PlainScalar.Has st n := fun h => by have := PlainScalar.settle_has (PlainScalar.has_iff.1 h); rw [e_st, e_ok]; exact this
  clear e_st e_ok
  obtain ⟨hv, e_hv⟩ : ∃ z', z' = PlainScalar.has a n := ⟨_, rfl⟩
  have k_h : ∀ w : World, Calls Try.prog 9 #[rv a, uv n] w fun e w' => e = .returned (.bool hv) ∧ Below w.heap.size w w' := fun w => by rw [e_hv]; exact shas_c a n w
  have k_g : ∀ w : World, Calls Try.prog 19 #[rv a, uv n] w fun e w' => e = .returned (.bool hv) ∧ Below w.heap.size w w' := fun w => by rw [e_hv]; exact r14has_c a n w
  rw [← e_hv] at hin
  clear e_hv
  go_enter Try.func6, Try.ntmps6
  go_wp2_with fail
  obtain ⟨ga, hga⟩ : ∃ g, g = w.heap.size := ⟨_, rfl⟩
  obtain ⟨gb, hgb⟩ : ∃ g, g = w.heap.size + 1 := ⟨_, rfl⟩
  have Ba : Blk ((w.alloc (.cells #[uv a.b.v, uv a.b.m, uv a.lo, uv a.hi, sv a.sl, sv a.sh] 31)).alloc (.cells #[uv b.b.v, uv b.b.m, uv b.lo, uv b.hi, sv b.sl, sv b.sh] 31)) (w.heap.size) 31 #[uv a.b.v, uv a.b.m, uv a.lo, uv a.hi, sv a.sl, sv a.sh] := ((Blk.new w 31 #[uv a.b.v, uv a.b.m, uv a.lo, uv a.hi, sv a.sl, sv a.sh])).alloc _
  have Bb : Blk ((w.alloc (.cells #[uv a.b.v, uv a.b.m, uv a.lo, uv a.hi, sv a.sl, sv a.sh] 31)).alloc (.cells #[uv b.b.v, uv b.b.m, uv b.lo, uv b.hi, sv b.sl, sv b.sh] 31)) (w.heap.size + 1) 31 #[uv b.b.v, uv b.b.m, uv b.lo, uv b.hi, sv b.sl, sv b.sh] := (by simpa using Blk.new (w.alloc (.cells #[uv a.b.v, uv a.b.m, uv a.lo, uv a.hi, sv a.sl, sv a.sh] 31)) 31 #[uv b.b.v, uv b.b.m, uv b.lo, uv b.hi, sv b.sl, sv b.sh] : Blk _ (w.heap.size + 1) 31 #[uv b.b.v, uv b.b.m, uv b.lo, uv b.hi, sv b.sl, sv b.sh])
  have hB : Below w.heap.size w ((w.alloc (.cells #[uv a.b.v, uv a.b.m, uv a.lo, uv a.hi, sv a.sl, sv a.sh] 31)).alloc (.cells #[uv b.b.v, uv b.b.m, uv b.lo, uv b.hi, sv b.sl, sv b.sh] 31)) := (Bl_alloc (Bl_alloc (Bl_refl w) _) _)
  clear hga
  clear ga
  clear hgb
  clear gb
  generalize ((w.alloc (.cells #[uv a.b.v, uv a.b.m, uv a.lo, uv a.hi, sv a.sl, sv a.sh] 31)).alloc (.cells #[uv b.b.v, uv b.b.m, uv b.lo, uv b.hi, sv b.sl, sv b.sh] 31)) = w1 at *
  have ca0 : w1.cell? ⟨w.heap.size, 0, none⟩ = some (uv a.b.v) := Ba.cell 0
  have ca1 : w1.cell? ⟨w.heap.size, 1, none⟩ = some (uv a.b.m) := Ba.cell 1
  have ca2 : w1.cell? ⟨w.heap.size, 2, none⟩ = some (uv a.lo) := Ba.cell 2
  have ca3 : w1.cell? ⟨w.heap.size, 3, none⟩ = some (uv a.hi) := Ba.cell 3
  have ca4 : w1.cell? ⟨w.heap.size, 4, none⟩ = some (sv a.sl) := Ba.cell 4
  have ca5 : w1.cell? ⟨w.heap.size, 5, none⟩ = some (sv a.sh) := Ba.cell 5
  have fa := Ba.frozen
  have la := Ba.lt
  have cb0 : w1.cell? ⟨w.heap.size + 1, 0, none⟩ = some (uv b.b.v) := Bb.cell 0
  have cb1 : w1.cell? ⟨w.heap.size + 1, 1, none⟩ = some (uv b.b.m) := Bb.cell 1
  have cb2 : w1.cell? ⟨w.heap.size + 1, 2, none⟩ = some (uv b.lo) := Bb.cell 2
  have cb3 : w1.cell? ⟨w.heap.size + 1, 3, none⟩ = some (uv b.hi) := Bb.cell 3
  have cb4 : w1.cell? ⟨w.heap.size + 1, 4, none⟩ = some (sv b.sl) := Bb.cell 4
  have cb5 : w1.cell? ⟨w.heap.size + 1, 5, none⟩ = some (sv b.sh) := Bb.cell 5
  have fb := Bb.frozen
  have lb := Bb.lt
  go_wp2_with fail
  replace ca0 : ∀ g : Later w1, g.w.cell? ⟨w.heap.size, 0, none⟩ = some (uv a.b.v) := fun g => g.cell (Ba.cell 0)
  replace ca1 : ∀ g : Later w1, g.w.cell? ⟨w.heap.size, 1, none⟩ = some (uv a.b.m) := fun g => g.cell (Ba.cell 1)
  replace ca2 : ∀ g : Later w1, g.w.cell? ⟨w.heap.size, 2, none⟩ = some (uv a.lo) := fun g => g.cell (Ba.cell 2)
  replace ca3 : ∀ g : Later w1, g.w.cell? ⟨w.heap.size, 3, none⟩ = some (uv a.hi) := fun g => g.cell (Ba.cell 3)
  replace ca4 : ∀ g : Later w1, g.w.cell? ⟨w.heap.size, 4, none⟩ = some (sv a.sl) := fun g => g.cell (Ba.cell 4)
  replace ca5 : ∀ g : Later w1, g.w.cell? ⟨w.heap.size, 5, none⟩ = some (sv a.sh) := fun g => g.cell (Ba.cell 5)
  replace cb0 : ∀ g : Later w1, g.w.cell? ⟨w.heap.size + 1, 0, none⟩ = some (uv b.b.v) := fun g => g.cell (Bb.cell 0)
  replace cb1 : ∀ g : Later w1, g.w.cell? ⟨w.heap.size + 1, 1, none⟩ = some (uv b.b.m) := fun g => g.cell (Bb.cell 1)
  replace cb2 : ∀ g : Later w1, g.w.cell? ⟨w.heap.size + 1, 2, none⟩ = some (uv b.lo) := fun g => g.cell (Bb.cell 2)
  replace cb3 : ∀ g : Later w1, g.w.cell? ⟨w.heap.size + 1, 3, none⟩ = some (uv b.hi) := fun g => g.cell (Bb.cell 3)
  replace cb4 : ∀ g : Later w1, g.w.cell? ⟨w.heap.size + 1, 4, none⟩ = some (sv b.sl) := fun g => g.cell (Bb.cell 4)
  replace cb5 : ∀ g : Later w1, g.w.cell? ⟨w.heap.size + 1, 5, none⟩ = some (sv b.sh) := fun g => g.cell (Bb.cell 5)
  refine wp_region_mix 6 (fun _ => #[.int .u64 0, .int .u64 0, .int .u64 0, .int .u64 0, .int .i64 0, .int .i64 0]) (by kernel_rfl) (by kernel_rfl) (fun o t ho ht => by
    simp at ho
    rcases ho with rfl | rfl | rfl | rfl | rfl | rfl <;> first | (cases ht; done) | (obtain rfl := Option.some.inj ht; exact fun ρ w => new_rng14 ht ρ w)) ?_
  simp only [List.take_succ_cons, List.take_zero, List.drop_succ_cons, List.drop_zero]
  repeat (refine wpMix_step (fun K hK => ?_); go_simp; first | (refine hK _ ?_; clear hK K) | (apply Exists.intro; refine ⟨fun g => ?_, hK _ ?_⟩; ((with_reducible refine Calls.mono (to14_c a g.w) ?_); exact fun _ _ h => h); clear hK K) | (apply Exists.intro; refine ⟨fun g => ?_, hK _ ?_⟩; ((with_reducible refine Calls.mono (to14_c b g.w) ?_); exact fun _ _ h => h); clear hK K))
  refine wpMix_nil ?_
  intro G w2 hgr hblk hdist
  have hb : Below w1.heap.size w1 w2 := hgr
  replace Ba := Ba.next hb
  replace Bb := Bb.next hb
  obtain ⟨Bx, hlx⟩ := hblk 4 _ rfl
  obtain ⟨By, hly⟩ := hblk 5 _ rfl
  have hdxy := hdist 4 5 _ _ rfl rfl (by decide)
  have hgx : w.heap.size ≤ G 4 := Nat.le_trans hB.size hlx
  have hnax : w.heap.size ≠ G 4 := Nat.ne_of_lt (Nat.lt_of_lt_of_le la hlx)
  have hnbx : w.heap.size + 1 ≠ G 4 := Nat.ne_of_lt (Nat.lt_of_lt_of_le lb hlx)
  clear hlx
  have hgy : w.heap.size ≤ G 5 := Nat.le_trans hB.size hly
  have hnay : w.heap.size ≠ G 5 := Nat.ne_of_lt (Nat.lt_of_lt_of_le la hly)
  have hnby : w.heap.size + 1 ≠ G 5 := Nat.ne_of_lt (Nat.lt_of_lt_of_le lb hly)
  clear hly
  clear ca0 ca1 ca2 ca3 ca4 ca5 fa la
  clear cb0 cb1 cb2 cb3 cb4 cb5 fb lb
  replace hB : Below w.heap.size w w2 := Bl_trans hB hb
  simp only [putAll, isAlloc, Act.put]
  generalize G 4 = gx at *
  generalize G 5 = gy at *
  clear hb hgr hblk hdist
  have ca0 : w2.cell? ⟨w.heap.size, 0, none⟩ = some (uv a.b.v) := Ba.cell 0
  have ca1 : w2.cell? ⟨w.heap.size, 1, none⟩ = some (uv a.b.m) := Ba.cell 1
  have ca2 : w2.cell? ⟨w.heap.size, 2, none⟩ = some (uv a.lo) := Ba.cell 2
  have ca3 : w2.cell? ⟨w.heap.size, 3, none⟩ = some (uv a.hi) := Ba.cell 3
  have ca4 : w2.cell? ⟨w.heap.size, 4, none⟩ = some (sv a.sl) := Ba.cell 4
  have ca5 : w2.cell? ⟨w.heap.size, 5, none⟩ = some (sv a.sh) := Ba.cell 5
  have fa := Ba.frozen
  have la := Ba.lt
  have cb0 : w2.cell? ⟨w.heap.size + 1, 0, none⟩ = some (uv b.b.v) := Bb.cell 0
  have cb1 : w2.cell? ⟨w.heap.size + 1, 1, none⟩ = some (uv b.b.m) := Bb.cell 1
  have cb2 : w2.cell? ⟨w.heap.size + 1, 2, none⟩ = some (uv b.lo) := Bb.cell 2
  have cb3 : w2.cell? ⟨w.heap.size + 1, 3, none⟩ = some (uv b.hi) := Bb.cell 3
  have cb4 : w2.cell? ⟨w.heap.size + 1, 4, none⟩ = some (sv b.sl) := Bb.cell 4
  have cb5 : w2.cell? ⟨w.heap.size + 1, 5, none⟩ = some (sv b.sh) := Bb.cell 5
  have fb := Bb.frozen
  have lb := Bb.lt
  have cx0 : w2.cell? ⟨gx, 0, none⟩ = some (.int .u64 0) := Bx.cell 0
  have cx1 : w2.cell? ⟨gx, 1, none⟩ = some (.int .u64 0) := Bx.cell 1
  have cx2 : w2.cell? ⟨gx, 2, none⟩ = some (.int .u64 0) := Bx.cell 2
  have cx3 : w2.cell? ⟨gx, 3, none⟩ = some (.int .u64 0) := Bx.cell 3
  have cx4 : w2.cell? ⟨gx, 4, none⟩ = some (.int .i64 0) := Bx.cell 4
  have cx5 : w2.cell? ⟨gx, 5, none⟩ = some (.int .i64 0) := Bx.cell 5
  have fx := Bx.frozen
  have lx := Bx.lt
  have cy0 : w2.cell? ⟨gy, 0, none⟩ = some (.int .u64 0) := By.cell 0
  have cy1 : w2.cell? ⟨gy, 1, none⟩ = some (.int .u64 0) := By.cell 1
  have cy2 : w2.cell? ⟨gy, 2, none⟩ = some (.int .u64 0) := By.cell 2
  have cy3 : w2.cell? ⟨gy, 3, none⟩ = some (.int .u64 0) := By.cell 3
  have cy4 : w2.cell? ⟨gy, 4, none⟩ = some (.int .i64 0) := By.cell 4
  have cy5 : w2.cell? ⟨gy, 5, none⟩ = some (.int .i64 0) := By.cell 5
  have fy := By.frozen
  have ly := By.lt
  go_upto_region 2 with fail
  clear ca0 ca1 ca2 ca3 ca4 ca5 fa la
  clear cb0 cb1 cb2 cb3 cb4 cb5 fb lb
  clear cx0 cx1 cx2 cx3 cx4 cx5 fx lx
  clear cy0 cy1 cy2 cy3 cy4 cy5 fy ly
  replace Ba : Blk ((((((w2.setCell ⟨gx, 0, none⟩ (uv a.b.v)).setCell ⟨gx, 1, none⟩ (uv a.b.m)).setCell ⟨gx, 2, none⟩ (uv a.lo)).setCell ⟨gx, 3, none⟩ (uv a.hi)).setCell ⟨gx, 4, none⟩ (sv a.sl)).setCell ⟨gx, 5, none⟩ (sv a.sh)) (w.heap.size) 31 #[uv a.b.v, uv a.b.m, uv a.lo, uv a.hi, sv a.sl, sv a.sh] := ((((((Ba.far (by first | (simp; done) | (simp; omega) | (simp [*]; done) | (simp only [ne_eq]; constructor <;> omega)) _).far (by first | (simp; done) | (simp; omega) | (simp [*]; done) | (simp only [ne_eq]; constructor <;> omega)) _).far (by first | (simp; done) | (simp; omega) | (simp [*]; done) | (simp only [ne_eq]; constructor <;> omega)) _).far (by first | (simp; done) | (simp; omega) | (simp [*]; done) | (simp only [ne_eq]; constructor <;> omega)) _).far (by first | (simp; done) | (simp; omega) | (simp [*]; done) | (simp only [ne_eq]; constructor <;> omega)) _).far (by first | (simp; done) | (simp; omega) | (simp [*]; done) | (simp only [ne_eq]; constructor <;> omega)) _)
  replace Bb : Blk ((((((w2.setCell ⟨gx, 0, none⟩ (uv a.b.v)).setCell ⟨gx, 1, none⟩ (uv a.b.m)).setCell ⟨gx, 2, none⟩ (uv a.lo)).setCell ⟨gx, 3, none⟩ (uv a.hi)).setCell ⟨gx, 4, none⟩ (sv a.sl)).setCell ⟨gx, 5, none⟩ (sv a.sh)) (w.heap.size + 1) 31 #[uv b.b.v, uv b.b.m, uv b.lo, uv b.hi, sv b.sl, sv b.sh] := ((((((Bb.far (by first | (simp; done) | (simp; omega) | (simp [*]; done) | (simp only [ne_eq]; constructor <;> omega)) _).far (by first | (simp; done) | (simp; omega) | (simp [*]; done) | (simp only [ne_eq]; constructor <;> omega)) _).far (by first | (simp; done) | (simp; omega) | (simp [*]; done) | (simp only [ne_eq]; constructor <;> omega)) _).far (by first | (simp; done) | (simp; omega) | (simp [*]; done) | (simp only [ne_eq]; constructor <;> omega)) _).far (by first | (simp; done) | (simp; omega) | (simp [*]; done) | (simp only [ne_eq]; constructor <;> omega)) _).far (by first | (simp; done) | (simp; omega) | (simp [*]; done) | (simp only [ne_eq]; constructor <;> omega)) _)
  replace Bx : Blk ((((((w2.setCell ⟨gx, 0, none⟩ (uv a.b.v)).setCell ⟨gx, 1, none⟩ (uv a.b.m)).setCell ⟨gx, 2, none⟩ (uv a.lo)).setCell ⟨gx, 3, none⟩ (uv a.hi)).setCell ⟨gx, 4, none⟩ (sv a.sl)).setCell ⟨gx, 5, none⟩ (sv a.sh)) (gx) 39 #[uv a.b.v, uv a.b.m, uv a.lo, uv a.hi, sv a.sl, sv a.sh] := ((((((Bx.set_ 0 _).set_ 1 _).set_ 2 _).set_ 3 _).set_ 4 _).set_ 5 _)
  replace By : Blk ((((((w2.setCell ⟨gx, 0, none⟩ (uv a.b.v)).setCell ⟨gx, 1, none⟩ (uv a.b.m)).setCell ⟨gx, 2, none⟩ (uv a.lo)).setCell ⟨gx, 3, none⟩ (uv a.hi)).setCell ⟨gx, 4, none⟩ (sv a.sl)).setCell ⟨gx, 5, none⟩ (sv a.sh)) (gy) 39 #[.int .u64 0, .int .u64 0, .int .u64 0, .int .u64 0, .int .i64 0, .int .i64 0] := ((((((By.far (by first | (simp; done) | (simp; omega) | (simp [*]; done) | (simp only [ne_eq]; constructor <;> omega)) _).far (by first | (simp; done) | (simp; omega) | (simp [*]; done) | (simp only [ne_eq]; constructor <;> omega)) _).far (by first | (simp; done) | (simp; omega) | (simp [*]; done) | (simp only [ne_eq]; constructor <;> omega)) _).far (by first | (simp; done) | (simp; omega) | (simp [*]; done) | (simp only [ne_eq]; constructor <;> omega)) _).far (by first | (simp; done) | (simp; omega) | (simp [*]; done) | (simp only [ne_eq]; constructor <;> omega)) _).far (by first | (simp; done) | (simp; omega) | (simp [*]; done) | (simp only [ne_eq]; constructor <;> omega)) _)
  replace hB : Below w.heap.size w ((((((w2.setCell ⟨gx, 0, none⟩ (uv a.b.v)).setCell ⟨gx, 1, none⟩ (uv a.b.m)).setCell ⟨gx, 2, none⟩ (uv a.lo)).setCell ⟨gx, 3, none⟩ (uv a.hi)).setCell ⟨gx, 4, none⟩ (sv a.sl)).setCell ⟨gx, 5, none⟩ (sv a.sh)) := (Bl_set (Bl_set (Bl_set (Bl_set (Bl_set (Bl_set hB (by first | omega | (simp; done) | (simp; omega)) _) (by first | omega | (simp; done) | (simp; omega)) _) (by first | omega | (simp; done) | (simp; omega)) _) (by first | omega | (simp; done) | (simp; omega)) _) (by first | omega | (simp; done) | (simp; omega)) _) (by first | omega | (simp; done) | (simp; omega)) _)
  replace Ba : Blk ((((((((((((w2.setCell ⟨gx, 0, none⟩ (uv a.b.v)).setCell ⟨gx, 1, none⟩ (uv a.b.m)).setCell ⟨gx, 2, none⟩ (uv a.lo)).setCell ⟨gx, 3, none⟩ (uv a.hi)).setCell ⟨gx, 4, none⟩ (sv a.sl)).setCell ⟨gx, 5, none⟩ (sv a.sh)).setCell ⟨gy, 0, none⟩ (uv b.b.v)).setCell ⟨gy, 1, none⟩ (uv b.b.m)).setCell ⟨gy, 2, none⟩ (uv b.lo)).setCell ⟨gy, 3, none⟩ (uv b.hi)).setCell ⟨gy, 4, none⟩ (sv b.sl)).setCell ⟨gy, 5, none⟩ (sv b.sh)) (w.heap.size) 31 #[uv a.b.v, uv a.b.m, uv a.lo, uv a.hi, sv a.sl, sv a.sh] := ((((((Ba.far (by first | (simp; done) | (simp; omega) | (simp [*]; done) | (simp only [ne_eq]; constructor <;> omega)) _).far (by first | (simp; done) | (simp; omega) | (simp [*]; done) | (simp only [ne_eq]; constructor <;> omega)) _).far (by first | (simp; done) | (simp; omega) | (simp [*]; done) | (simp only [ne_eq]; constructor <;> omega)) _).far (by first | (simp; done) | (simp; omega) | (simp [*]; done) | (simp only [ne_eq]; constructor <;> omega)) _).far (by first | (simp; done) | (simp; omega) | (simp [*]; done) | (simp only [ne_eq]; constructor <;> omega)) _).far (by first | (simp; done) | (simp; omega) | (simp [*]; done) | (simp only [ne_eq]; constructor <;> omega)) _)
  replace Bb : Blk ((((((((((((w2.setCell ⟨gx, 0, none⟩ (uv a.b.v)).setCell ⟨gx, 1, none⟩ (uv a.b.m)).setCell ⟨gx, 2, none⟩ (uv a.lo)).setCell ⟨gx, 3, none⟩ (uv a.hi)).setCell ⟨gx, 4, none⟩ (sv a.sl)).setCell ⟨gx, 5, none⟩ (sv a.sh)).setCell ⟨gy, 0, none⟩ (uv b.b.v)).setCell ⟨gy, 1, none⟩ (uv b.b.m)).setCell ⟨gy, 2, none⟩ (uv b.lo)).setCell ⟨gy, 3, none⟩ (uv b.hi)).setCell ⟨gy, 4, none⟩ (sv b.sl)).setCell ⟨gy, 5, none⟩ (sv b.sh)) (w.heap.size + 1) 31 #[uv b.b.v, uv b.b.m, uv b.lo, uv b.hi, sv b.sl, sv b.sh] := ((((((Bb.far (by first | (simp; done) | (simp; omega) | (simp [*]; done) | (simp only [ne_eq]; constructor <;> omega)) _).far (by first | (simp; done) | (simp; omega) | (simp [*]; done) | (simp only [ne_eq]; constructor <;> omega)) _).far (by first | (simp; done) | (simp; omega) | (simp [*]; done) | (simp only [ne_eq]; constructor <;> omega)) _).far (by first | (simp; done) | (simp; omega) | (simp [*]; done) | (simp only [ne_eq]; constructor <;> omega)) _).far (by first | (simp; done) | (simp; omega) | (simp [*]; done) | (simp only [ne_eq]; constructor <;> omega)) _).far (by first | (simp; done) | (simp; omega) | (simp [*]; done) | (simp only [ne_eq]; constructor <;> omega)) _)
  replace Bx : Blk ((((((((((((w2.setCell ⟨gx, 0, none⟩ (uv a.b.v)).setCell ⟨gx, 1, none⟩ (uv a.b.m)).setCell ⟨gx, 2, none⟩ (uv a.lo)).setCell ⟨gx, 3, none⟩ (uv a.hi)).setCell ⟨gx, 4, none⟩ (sv a.sl)).setCell ⟨gx, 5, none⟩ (sv a.sh)).setCell ⟨gy, 0, none⟩ (uv b.b.v)).setCell ⟨gy, 1, none⟩ (uv b.b.m)).setCell ⟨gy, 2, none⟩ (uv b.lo)).setCell ⟨gy, 3, none⟩ (uv b.hi)).setCell ⟨gy, 4, none⟩ (sv b.sl)).setCell ⟨gy, 5, none⟩ (sv b.sh)) (gx) 39 #[uv a.b.v, uv a.b.m, uv a.lo, uv a.hi, sv a.sl, sv a.sh] := ((((((Bx.far (by first | (simp; done) | (simp; omega) | (simp [*]; done) | (simp only [ne_eq]; constructor <;> omega)) _).far (by first | (simp; done) | (simp; omega) | (simp [*]; done) | (simp only [ne_eq]; constructor <;> omega)) _).far (by first | (simp; done) | (simp; omega) | (simp [*]; done) | (simp only [ne_eq]; constructor <;> omega)) _).far (by first | (simp; done) | (simp; omega) | (simp [*]; done) | (simp only [ne_eq]; constructor <;> omega)) _).far (by first | (simp; done) | (simp; omega) | (simp [*]; done) | (simp only [ne_eq]; constructor <;> omega)) _).far (by first | (simp; done) | (simp; omega) | (simp [*]; done) | (simp only [ne_eq]; constructor <;> omega)) _)
  replace By : Blk ((((((((((((w2.setCell ⟨gx, 0, none⟩ (uv a.b.v)).setCell ⟨gx, 1, none⟩ (uv a.b.m)).setCell ⟨gx, 2, none⟩ (uv a.lo)).setCell ⟨gx, 3, none⟩ (uv a.hi)).setCell ⟨gx, 4, none⟩ (sv a.sl)).setCell ⟨gx, 5, none⟩ (sv a.sh)).setCell ⟨gy, 0, none⟩ (uv b.b.v)).setCell ⟨gy, 1, none⟩ (uv b.b.m)).setCell ⟨gy, 2, none⟩ (uv b.lo)).setCell ⟨gy, 3, none⟩ (uv b.hi)).setCell ⟨gy, 4, none⟩ (sv b.sl)).setCell ⟨gy, 5, none⟩ (sv b.sh)) (gy) 39 #[uv b.b.v, uv b.b.m, uv b.lo, uv b.hi, sv b.sl, sv b.sh] := ((((((By.set_ 0 _).set_ 1 _).set_ 2 _).set_ 3 _).set_ 4 _).set_ 5 _)
  replace hB : Below w.heap.size w ((((((((((((w2.setCell ⟨gx, 0, none⟩ (uv a.b.v)).setCell ⟨gx, 1, none⟩ (uv a.b.m)).setCell ⟨gx, 2, none⟩ (uv a.lo)).setCell ⟨gx, 3, none⟩ (uv a.hi)).setCell ⟨gx, 4, none⟩ (sv a.sl)).setCell ⟨gx, 5, none⟩ (sv a.sh)).setCell ⟨gy, 0, none⟩ (uv b.b.v)).setCell ⟨gy, 1, none⟩ (uv b.b.m)).setCell ⟨gy, 2, none⟩ (uv b.lo)).setCell ⟨gy, 3, none⟩ (uv b.hi)).setCell ⟨gy, 4, none⟩ (sv b.sl)).setCell ⟨gy, 5, none⟩ (sv b.sh)) := (Bl_set (Bl_set (Bl_set (Bl_set (Bl_set (Bl_set hB (by first | omega | (simp; done) | (simp; omega)) _) (by first | omega | (simp; done) | (simp; omega)) _) (by first | omega | (simp; done) | (simp; omega)) _) (by first | omega | (simp; done) | (simp; omega)) _) (by first | omega | (simp; done) | (simp; omega)) _) (by first | omega | (simp; done) | (simp; omega)) _)
  generalize ((((((((((((w2.setCell ⟨gx, 0, none⟩ (uv a.b.v)).setCell ⟨gx, 1, none⟩ (uv a.b.m)).setCell ⟨gx, 2, none⟩ (uv a.lo)).setCell ⟨gx, 3, none⟩ (uv a.hi)).setCell ⟨gx, 4, none⟩ (sv a.sl)).setCell ⟨gx, 5, none⟩ (sv a.sh)).setCell ⟨gy, 0, none⟩ (uv b.b.v)).setCell ⟨gy, 1, none⟩ (uv b.b.m)).setCell ⟨gy, 2, none⟩ (uv b.lo)).setCell ⟨gy, 3, none⟩ (uv b.hi)).setCell ⟨gy, 4, none⟩ (sv b.sl)).setCell ⟨gy, 5, none⟩ (sv b.sh)) = w3 at *
  have ca0 : w3.cell? ⟨w.heap.size, 0, none⟩ = some (uv a.b.v) := Ba.cell 0
  have ca1 : w3.cell? ⟨w.heap.size, 1, none⟩ = some (uv a.b.m) := Ba.cell 1
  have ca2 : w3.cell? ⟨w.heap.size, 2, none⟩ = some (uv a.lo) := Ba.cell 2
  have ca3 : w3.cell? ⟨w.heap.size, 3, none⟩ = some (uv a.hi) := Ba.cell 3
  have ca4 : w3.cell? ⟨w.heap.size, 4, none⟩ = some (sv a.sl) := Ba.cell 4
  have ca5 : w3.cell? ⟨w.heap.size, 5, none⟩ = some (sv a.sh) := Ba.cell 5
  have fa := Ba.frozen
  have la := Ba.lt
  have cb0 : w3.cell? ⟨w.heap.size + 1, 0, none⟩ = some (uv b.b.v) := Bb.cell 0
  have cb1 : w3.cell? ⟨w.heap.size + 1, 1, none⟩ = some (uv b.b.m) := Bb.cell 1
  have cb2 : w3.cell? ⟨w.heap.size + 1, 2, none⟩ = some (uv b.lo) := Bb.cell 2
  have cb3 : w3.cell? ⟨w.heap.size + 1, 3, none⟩ = some (uv b.hi) := Bb.cell 3
  have cb4 : w3.cell? ⟨w.heap.size + 1, 4, none⟩ = some (sv b.sl) := Bb.cell 4
  have cb5 : w3.cell? ⟨w.heap.size + 1, 5, none⟩ = some (sv b.sh) := Bb.cell 5
  have fb := Bb.frozen
  have lb := Bb.lt
  have cx0 : w3.cell? ⟨gx, 0, none⟩ = some (uv a.b.v) := Bx.cell 0
  have cx1 : w3.cell? ⟨gx, 1, none⟩ = some (uv a.b.m) := Bx.cell 1
  have cx2 : w3.cell? ⟨gx, 2, none⟩ = some (uv a.lo) := Bx.cell 2
  have cx3 : w3.cell? ⟨gx, 3, none⟩ = some (uv a.hi) := Bx.cell 3
  have cx4 : w3.cell? ⟨gx, 4, none⟩ = some (sv a.sl) := Bx.cell 4
  have cx5 : w3.cell? ⟨gx, 5, none⟩ = some (sv a.sh) := Bx.cell 5
  have fx := Bx.frozen
  have lx := Bx.lt
  have cy0 : w3.cell? ⟨gy, 0, none⟩ = some (uv b.b.v) := By.cell 0
  have cy1 : w3.cell? ⟨gy, 1, none⟩ = some (uv b.b.m) := By.cell 1
  have cy2 : w3.cell? ⟨gy, 2, none⟩ = some (uv b.lo) := By.cell 2
  have cy3 : w3.cell? ⟨gy, 3, none⟩ = some (uv b.hi) := By.cell 3
  have cy4 : w3.cell? ⟨gy, 4, none⟩ = some (sv b.sl) := By.cell 4
  have cy5 : w3.cell? ⟨gy, 5, none⟩ = some (sv b.sh) := By.cell 5
  have fy := By.frozen
  have ly := By.lt
  go_wp2_with fail
  clear ca0 ca1 ca2 ca3 ca4 ca5 fa la
  clear cb0 cb1 cb2 cb3 cb4 cb5 fb lb
  clear cx0 cx1 cx2 cx3 cx4 cx5 fx lx
  clear cy0 cy1 cy2 cy3 cy4 cy5 fy ly
  go_loopg [9] 14 (fun m i wr => ∃ j : Nat, j ≤ 14 ∧ m + j = 14 ∧ i = .int .i64 (j : Int) ∧ Below w.heap.size w wr ∧ Blk wr (w.heap.size) 31 #[uv a.b.v, uv a.b.m, uv a.lo, uv a.hi, sv a.sl, sv a.sh] ∧ Blk wr (w.heap.size + 1) 31 #[uv b.b.v, uv b.b.m, uv b.lo, uv b.hi, sv b.sl, sv b.sh] ∧ Blk wr (gx) 39 #[uv a.b.v, uv a.b.m, uv a.lo, uv a.hi, sv a.sl, sv a.sh] ∧ Blk wr (gy) 39 #[uv b.b.v, uv b.b.m, uv b.lo, uv b.hi, sv b.sl, sv b.sh])
  case atStart => exact ⟨0, by omega, rfl, rfl, hB, Ba, Bb, Bx, By⟩
  case round =>
    clear hB Ba Bb Bx By
    obtain ⟨j, hj, hgk, rfl, hB, Ba, Bb, Bx, By⟩ := hrel
    have ca0 : wr.cell? ⟨w.heap.size, 0, none⟩ = some (uv a.b.v) := Ba.cell 0
    have ca1 : wr.cell? ⟨w.heap.size, 1, none⟩ = some (uv a.b.m) := Ba.cell 1
    have ca2 : wr.cell? ⟨w.heap.size, 2, none⟩ = some (uv a.lo) := Ba.cell 2
    have ca3 : wr.cell? ⟨w.heap.size, 3, none⟩ = some (uv a.hi) := Ba.cell 3
    have ca4 : wr.cell? ⟨w.heap.size, 4, none⟩ = some (sv a.sl) := Ba.cell 4
    have ca5 : wr.cell? ⟨w.heap.size, 5, none⟩ = some (sv a.sh) := Ba.cell 5
    have fa := Ba.frozen
    have la := Ba.lt
    have cb0 : wr.cell? ⟨w.heap.size + 1, 0, none⟩ = some (uv b.b.v) := Bb.cell 0
    have cb1 : wr.cell? ⟨w.heap.size + 1, 1, none⟩ = some (uv b.b.m) := Bb.cell 1
    have cb2 : wr.cell? ⟨w.heap.size + 1, 2, none⟩ = some (uv b.lo) := Bb.cell 2
    have cb3 : wr.cell? ⟨w.heap.size + 1, 3, none⟩ = some (uv b.hi) := Bb.cell 3
    have cb4 : wr.cell? ⟨w.heap.size + 1, 4, none⟩ = some (sv b.sl) := Bb.cell 4
    have cb5 : wr.cell? ⟨w.heap.size + 1, 5, none⟩ = some (sv b.sh) := Bb.cell 5
    have fb := Bb.frozen
    have lb := Bb.lt
    have cx0 : wr.cell? ⟨gx, 0, none⟩ = some (uv a.b.v) := Bx.cell 0
    have cx1 : wr.cell? ⟨gx, 1, none⟩ = some (uv a.b.m) := Bx.cell 1
    have cx2 : wr.cell? ⟨gx, 2, none⟩ = some (uv a.lo) := Bx.cell 2
    have cx3 : wr.cell? ⟨gx, 3, none⟩ = some (uv a.hi) := Bx.cell 3
    have cx4 : wr.cell? ⟨gx, 4, none⟩ = some (sv a.sl) := Bx.cell 4
    have cx5 : wr.cell? ⟨gx, 5, none⟩ = some (sv a.sh) := Bx.cell 5
    have fx := Bx.frozen
    have lx := Bx.lt
    have cy0 : wr.cell? ⟨gy, 0, none⟩ = some (uv b.b.v) := By.cell 0
    have cy1 : wr.cell? ⟨gy, 1, none⟩ = some (uv b.b.m) := By.cell 1
    have cy2 : wr.cell? ⟨gy, 2, none⟩ = some (uv b.lo) := By.cell 2
    have cy3 : wr.cell? ⟨gy, 3, none⟩ = some (uv b.hi) := By.cell 3
    have cy4 : wr.cell? ⟨gy, 4, none⟩ = some (sv b.sl) := By.cell 4
    have cy5 : wr.cell? ⟨gy, 5, none⟩ = some (sv b.sh) := By.cell 5
    have fy := By.frozen
    have ly := By.lt
    cases qj : decide ((j : Int) < 14)
    · clear hgk hj
      go_wp2_with fail
      refine (sjoin_c a b _).mono ?_
      rintro e w4 ⟨rfl, hb⟩
      clear ca0 ca1 ca2 ca3 ca4 ca5 fa la
      clear cb0 cb1 cb2 cb3 cb4 cb5 fb lb
      clear cx0 cx1 cx2 cx3 cx4 cx5 fx lx
      clear cy0 cy1 cy2 cy3 cy4 cy5 fy ly
      replace Ba := (Ba).next hb
      replace Bb := (Bb).next hb
      replace Bx := (Bx).next hb
      replace By := (By).next hb
      replace hB : Below w.heap.size w w4 := by repeat (first | exact hB | (refine Bl_set ?_ (by first | omega | (simp; omega)) _) | apply Bl_alloc | (refine Bl_trans ?_ hb))
      clear hb
      have ca0 : w4.cell? ⟨w.heap.size, 0, none⟩ = some (uv a.b.v) := Ba.cell 0
      have ca1 : w4.cell? ⟨w.heap.size, 1, none⟩ = some (uv a.b.m) := Ba.cell 1
      have ca2 : w4.cell? ⟨w.heap.size, 2, none⟩ = some (uv a.lo) := Ba.cell 2
      have ca3 : w4.cell? ⟨w.heap.size, 3, none⟩ = some (uv a.hi) := Ba.cell 3
      have ca4 : w4.cell? ⟨w.heap.size, 4, none⟩ = some (sv a.sl) := Ba.cell 4
      have ca5 : w4.cell? ⟨w.heap.size, 5, none⟩ = some (sv a.sh) := Ba.cell 5
      have fa := Ba.frozen
      have la := Ba.lt
      have cb0 : w4.cell? ⟨w.heap.size + 1, 0, none⟩ = some (uv b.b.v) := Bb.cell 0
      have cb1 : w4.cell? ⟨w.heap.size + 1, 1, none⟩ = some (uv b.b.m) := Bb.cell 1
      have cb2 : w4.cell? ⟨w.heap.size + 1, 2, none⟩ = some (uv b.lo) := Bb.cell 2
      have cb3 : w4.cell? ⟨w.heap.size + 1, 3, none⟩ = some (uv b.hi) := Bb.cell 3
      have cb4 : w4.cell? ⟨w.heap.size + 1, 4, none⟩ = some (sv b.sl) := Bb.cell 4
      have cb5 : w4.cell? ⟨w.heap.size + 1, 5, none⟩ = some (sv b.sh) := Bb.cell 5
      have fb := Bb.frozen
      have lb := Bb.lt
      have cx0 : w4.cell? ⟨gx, 0, none⟩ = some (uv a.b.v) := Bx.cell 0
      have cx1 : w4.cell? ⟨gx, 1, none⟩ = some (uv a.b.m) := Bx.cell 1
      have cx2 : w4.cell? ⟨gx, 2, none⟩ = some (uv a.lo) := Bx.cell 2
      have cx3 : w4.cell? ⟨gx, 3, none⟩ = some (uv a.hi) := Bx.cell 3
      have cx4 : w4.cell? ⟨gx, 4, none⟩ = some (sv a.sl) := Bx.cell 4
      have cx5 : w4.cell? ⟨gx, 5, none⟩ = some (sv a.sh) := Bx.cell 5
      have fx := Bx.frozen
      have lx := Bx.lt
      have cy0 : w4.cell? ⟨gy, 0, none⟩ = some (uv b.b.v) := By.cell 0
      have cy1 : w4.cell? ⟨gy, 1, none⟩ = some (uv b.b.m) := By.cell 1
      have cy2 : w4.cell? ⟨gy, 2, none⟩ = some (uv b.lo) := By.cell 2
      have cy3 : w4.cell? ⟨gy, 3, none⟩ = some (uv b.hi) := By.cell 3
      have cy4 : w4.cell? ⟨gy, 4, none⟩ = some (sv b.sl) := By.cell 4
      have cy5 : w4.cell? ⟨gy, 5, none⟩ = some (sv b.sh) := By.cell 5
      have fy := By.frozen
      have ly := By.lt
      go_wp2_with fail
      refine (swithin_c a b _).mono ?_
      rintro e w5 ⟨rfl, hb⟩
      clear ca0 ca1 ca2 ca3 ca4 ca5 fa la
      clear cb0 cb1 cb2 cb3 cb4 cb5 fb lb
      clear cx0 cx1 cx2 cx3 cx4 cx5 fx lx
      clear cy0 cy1 cy2 cy3 cy4 cy5 fy ly
      replace Ba := (Ba).next hb
      replace Bb := (Bb).next hb
      replace Bx := (Bx).next hb
      replace By := (By).next hb
      replace hB : Below w.heap.size w w5 := by repeat (first | exact hB | (refine Bl_set ?_ (by first | omega | (simp; omega)) _) | apply Bl_alloc | (refine Bl_trans ?_ hb))
      clear hb
      have ca0 : w5.cell? ⟨w.heap.size, 0, none⟩ = some (uv a.b.v) := Ba.cell 0
      have ca1 : w5.cell? ⟨w.heap.size, 1, none⟩ = some (uv a.b.m) := Ba.cell 1
      have ca2 : w5.cell? ⟨w.heap.size, 2, none⟩ = some (uv a.lo) := Ba.cell 2
      have ca3 : w5.cell? ⟨w.heap.size, 3, none⟩ = some (uv a.hi) := Ba.cell 3
      have ca4 : w5.cell? ⟨w.heap.size, 4, none⟩ = some (sv a.sl) := Ba.cell 4
      have ca5 : w5.cell? ⟨w.heap.size, 5, none⟩ = some (sv a.sh) := Ba.cell 5
      have fa := Ba.frozen
      have la := Ba.lt
      have cb0 : w5.cell? ⟨w.heap.size + 1, 0, none⟩ = some (uv b.b.v) := Bb.cell 0
      have cb1 : w5.cell? ⟨w.heap.size + 1, 1, none⟩ = some (uv b.b.m) := Bb.cell 1
      have cb2 : w5.cell? ⟨w.heap.size + 1, 2, none⟩ = some (uv b.lo) := Bb.cell 2
      have cb3 : w5.cell? ⟨w.heap.size + 1, 3, none⟩ = some (uv b.hi) := Bb.cell 3
      have cb4 : w5.cell? ⟨w.heap.size + 1, 4, none⟩ = some (sv b.sl) := Bb.cell 4
      have cb5 : w5.cell? ⟨w.heap.size + 1, 5, none⟩ = some (sv b.sh) := Bb.cell 5
      have fb := Bb.frozen
      have lb := Bb.lt
      have cx0 : w5.cell? ⟨gx, 0, none⟩ = some (uv a.b.v) := Bx.cell 0
      have cx1 : w5.cell? ⟨gx, 1, none⟩ = some (uv a.b.m) := Bx.cell 1
      have cx2 : w5.cell? ⟨gx, 2, none⟩ = some (uv a.lo) := Bx.cell 2
      have cx3 : w5.cell? ⟨gx, 3, none⟩ = some (uv a.hi) := Bx.cell 3
      have cx4 : w5.cell? ⟨gx, 4, none⟩ = some (sv a.sl) := Bx.cell 4
      have cx5 : w5.cell? ⟨gx, 5, none⟩ = some (sv a.sh) := Bx.cell 5
      have fx := Bx.frozen
      have lx := Bx.lt
      have cy0 : w5.cell? ⟨gy, 0, none⟩ = some (uv b.b.v) := By.cell 0
      have cy1 : w5.cell? ⟨gy, 1, none⟩ = some (uv b.b.m) := By.cell 1
      have cy2 : w5.cell? ⟨gy, 2, none⟩ = some (uv b.lo) := By.cell 2
      have cy3 : w5.cell? ⟨gy, 3, none⟩ = some (uv b.hi) := By.cell 3
      have cy4 : w5.cell? ⟨gy, 4, none⟩ = some (sv b.sl) := By.cell 4
      have cy5 : w5.cell? ⟨gy, 5, none⟩ = some (sv b.sh) := By.cell 5
      have fy := By.frozen
      have ly := By.lt
      go_wp2_with fail
      refine (k_st _).mono ?_
      rintro e w6 ⟨rfl, hb⟩
      clear ca0 ca1 ca2 ca3 ca4 ca5 fa la
      clear cb0 cb1 cb2 cb3 cb4 cb5 fb lb
      clear cx0 cx1 cx2 cx3 cx4 cx5 fx lx
      clear cy0 cy1 cy2 cy3 cy4 cy5 fy ly
      replace Ba := (Ba).next hb
      replace Bb := (Bb).next hb
      replace Bx := (Bx).next hb
      replace By := (By).next hb
      replace hB : Below w.heap.size w w6 := by repeat (first | exact hB | (refine Bl_set ?_ (by first | omega | (simp; omega)) _) | apply Bl_alloc | (refine Bl_trans ?_ hb))
      clear hb
      have ca0 : w6.cell? ⟨w.heap.size, 0, none⟩ = some (uv a.b.v) := Ba.cell 0
      have ca1 : w6.cell? ⟨w.heap.size, 1, none⟩ = some (uv a.b.m) := Ba.cell 1
      have ca2 : w6.cell? ⟨w.heap.size, 2, none⟩ = some (uv a.lo) := Ba.cell 2
      have ca3 : w6.cell? ⟨w.heap.size, 3, none⟩ = some (uv a.hi) := Ba.cell 3
      have ca4 : w6.cell? ⟨w.heap.size, 4, none⟩ = some (sv a.sl) := Ba.cell 4
      have ca5 : w6.cell? ⟨w.heap.size, 5, none⟩ = some (sv a.sh) := Ba.cell 5
      have fa := Ba.frozen
      have la := Ba.lt
      have cb0 : w6.cell? ⟨w.heap.size + 1, 0, none⟩ = some (uv b.b.v) := Bb.cell 0
      have cb1 : w6.cell? ⟨w.heap.size + 1, 1, none⟩ = some (uv b.b.m) := Bb.cell 1
      have cb2 : w6.cell? ⟨w.heap.size + 1, 2, none⟩ = some (uv b.lo) := Bb.cell 2
      have cb3 : w6.cell? ⟨w.heap.size + 1, 3, none⟩ = some (uv b.hi) := Bb.cell 3
      have cb4 : w6.cell? ⟨w.heap.size + 1, 4, none⟩ = some (sv b.sl) := Bb.cell 4
      have cb5 : w6.cell? ⟨w.heap.size + 1, 5, none⟩ = some (sv b.sh) := Bb.cell 5
      have fb := Bb.frozen
      have lb := Bb.lt
      have cx0 : w6.cell? ⟨gx, 0, none⟩ = some (uv a.b.v) := Bx.cell 0
      have cx1 : w6.cell? ⟨gx, 1, none⟩ = some (uv a.b.m) := Bx.cell 1
      have cx2 : w6.cell? ⟨gx, 2, none⟩ = some (uv a.lo) := Bx.cell 2
      have cx3 : w6.cell? ⟨gx, 3, none⟩ = some (uv a.hi) := Bx.cell 3
      have cx4 : w6.cell? ⟨gx, 4, none⟩ = some (sv a.sl) := Bx.cell 4
      have cx5 : w6.cell? ⟨gx, 5, none⟩ = some (sv a.sh) := Bx.cell 5
      have fx := Bx.frozen
      have lx := Bx.lt
      have cy0 : w6.cell? ⟨gy, 0, none⟩ = some (uv b.b.v) := By.cell 0
      have cy1 : w6.cell? ⟨gy, 1, none⟩ = some (uv b.b.m) := By.cell 1
      have cy2 : w6.cell? ⟨gy, 2, none⟩ = some (uv b.lo) := By.cell 2
      have cy3 : w6.cell? ⟨gy, 3, none⟩ = some (uv b.hi) := By.cell 3
      have cy4 : w6.cell? ⟨gy, 4, none⟩ = some (sv b.sl) := By.cell 4
      have cy5 : w6.cell? ⟨gy, 5, none⟩ = some (sv b.sh) := By.cell 5
      have fy := By.frozen
      have ly := By.lt
      go_upto_region 10 with fail
      clear ca0 ca1 ca2 ca3 ca4 ca5 fa la
      clear cb0 cb1 cb2 cb3 cb4 cb5 fb lb
      clear cx0 cx1 cx2 cx3 cx4 cx5 fx lx
      clear cy0 cy1 cy2 cy3 cy4 cy5 fy ly
      have Bs := Blk.new w6 39 #[uv st.b.v, uv st.b.m, uv st.lo, uv st.hi, sv st.sl, sv st.sh]
      have hgs := hB.size
      have hnas := Nat.ne_of_lt Ba.lt; have hltas := Ba.lt
      have hnbs := Nat.ne_of_lt Bb.lt; have hltbs := Bb.lt
      have hnxs := Nat.ne_of_lt Bx.lt; have hltxs := Bx.lt
      have hnys := Nat.ne_of_lt By.lt; have hltys := By.lt
      replace Ba : Blk (w6.alloc (.cells #[uv st.b.v, uv st.b.m, uv st.lo, uv st.hi, sv st.sl, sv st.sh] 39)) (w.heap.size) 31 #[uv a.b.v, uv a.b.m, uv a.lo, uv a.hi, sv a.sl, sv a.sh] := Ba.alloc _
      replace Bb : Blk (w6.alloc (.cells #[uv st.b.v, uv st.b.m, uv st.lo, uv st.hi, sv st.sl, sv st.sh] 39)) (w.heap.size + 1) 31 #[uv b.b.v, uv b.b.m, uv b.lo, uv b.hi, sv b.sl, sv b.sh] := Bb.alloc _
      replace Bx : Blk (w6.alloc (.cells #[uv st.b.v, uv st.b.m, uv st.lo, uv st.hi, sv st.sl, sv st.sh] 39)) (gx) 39 #[uv a.b.v, uv a.b.m, uv a.lo, uv a.hi, sv a.sl, sv a.sh] := Bx.alloc _
      replace By : Blk (w6.alloc (.cells #[uv st.b.v, uv st.b.m, uv st.lo, uv st.hi, sv st.sl, sv st.sh] 39)) (gy) 39 #[uv b.b.v, uv b.b.m, uv b.lo, uv b.hi, sv b.sl, sv b.sh] := By.alloc _
      replace hB : Below w.heap.size w (w6.alloc (.cells #[uv st.b.v, uv st.b.m, uv st.lo, uv st.hi, sv st.sl, sv st.sh] 39)) := Bl_alloc hB _
      generalize (w6.alloc (.cells #[uv st.b.v, uv st.b.m, uv st.lo, uv st.hi, sv st.sl, sv st.sh] 39)) = w7 at *
      generalize w6.heap.size = gs at *
      have ca0 : w7.cell? ⟨w.heap.size, 0, none⟩ = some (uv a.b.v) := Ba.cell 0
      have ca1 : w7.cell? ⟨w.heap.size, 1, none⟩ = some (uv a.b.m) := Ba.cell 1
      have ca2 : w7.cell? ⟨w.heap.size, 2, none⟩ = some (uv a.lo) := Ba.cell 2
      have ca3 : w7.cell? ⟨w.heap.size, 3, none⟩ = some (uv a.hi) := Ba.cell 3
      have ca4 : w7.cell? ⟨w.heap.size, 4, none⟩ = some (sv a.sl) := Ba.cell 4
      have ca5 : w7.cell? ⟨w.heap.size, 5, none⟩ = some (sv a.sh) := Ba.cell 5
      have fa := Ba.frozen
      have la := Ba.lt
      have cb0 : w7.cell? ⟨w.heap.size + 1, 0, none⟩ = some (uv b.b.v) := Bb.cell 0
      have cb1 : w7.cell? ⟨w.heap.size + 1, 1, none⟩ = some (uv b.b.m) := Bb.cell 1
      have cb2 : w7.cell? ⟨w.heap.size + 1, 2, none⟩ = some (uv b.lo) := Bb.cell 2
      have cb3 : w7.cell? ⟨w.heap.size + 1, 3, none⟩ = some (uv b.hi) := Bb.cell 3
      have cb4 : w7.cell? ⟨w.heap.size + 1, 4, none⟩ = some (sv b.sl) := Bb.cell 4
      have cb5 : w7.cell? ⟨w.heap.size + 1, 5, none⟩ = some (sv b.sh) := Bb.cell 5
      have fb := Bb.frozen
      have lb := Bb.lt
      have cx0 : w7.cell? ⟨gx, 0, none⟩ = some (uv a.b.v) := Bx.cell 0
      have cx1 : w7.cell? ⟨gx, 1, none⟩ = some (uv a.b.m) := Bx.cell 1
      have cx2 : w7.cell? ⟨gx, 2, none⟩ = some (uv a.lo) := Bx.cell 2
      have cx3 : w7.cell? ⟨gx, 3, none⟩ = some (uv a.hi) := Bx.cell 3
      have cx4 : w7.cell? ⟨gx, 4, none⟩ = some (sv a.sl) := Bx.cell 4
      have cx5 : w7.cell? ⟨gx, 5, none⟩ = some (sv a.sh) := Bx.cell 5
      have fx := Bx.frozen
      have lx := Bx.lt
      have cy0 : w7.cell? ⟨gy, 0, none⟩ = some (uv b.b.v) := By.cell 0
      have cy1 : w7.cell? ⟨gy, 1, none⟩ = some (uv b.b.m) := By.cell 1
      have cy2 : w7.cell? ⟨gy, 2, none⟩ = some (uv b.lo) := By.cell 2
      have cy3 : w7.cell? ⟨gy, 3, none⟩ = some (uv b.hi) := By.cell 3
      have cy4 : w7.cell? ⟨gy, 4, none⟩ = some (sv b.sl) := By.cell 4
      have cy5 : w7.cell? ⟨gy, 5, none⟩ = some (sv b.sh) := By.cell 5
      have fy := By.frozen
      have ly := By.lt
      have cs0 : w7.cell? ⟨gs, 0, none⟩ = some (uv st.b.v) := Bs.cell 0
      have cs1 : w7.cell? ⟨gs, 1, none⟩ = some (uv st.b.m) := Bs.cell 1
      have cs2 : w7.cell? ⟨gs, 2, none⟩ = some (uv st.lo) := Bs.cell 2
      have cs3 : w7.cell? ⟨gs, 3, none⟩ = some (uv st.hi) := Bs.cell 3
      have cs4 : w7.cell? ⟨gs, 4, none⟩ = some (sv st.sl) := Bs.cell 4
      have cs5 : w7.cell? ⟨gs, 5, none⟩ = some (sv st.sh) := Bs.cell 5
      have fs := Bs.frozen
      have ls := Bs.lt
      cases hv
      · go_wp2_with fail
        replace ca0 : ∀ g : Later w7, g.w.cell? ⟨w.heap.size, 0, none⟩ = some (uv a.b.v) := fun g => g.cell (Ba.cell 0)
        replace ca1 : ∀ g : Later w7, g.w.cell? ⟨w.heap.size, 1, none⟩ = some (uv a.b.m) := fun g => g.cell (Ba.cell 1)
        replace ca2 : ∀ g : Later w7, g.w.cell? ⟨w.heap.size, 2, none⟩ = some (uv a.lo) := fun g => g.cell (Ba.cell 2)
        replace ca3 : ∀ g : Later w7, g.w.cell? ⟨w.heap.size, 3, none⟩ = some (uv a.hi) := fun g => g.cell (Ba.cell 3)
        replace ca4 : ∀ g : Later w7, g.w.cell? ⟨w.heap.size, 4, none⟩ = some (sv a.sl) := fun g => g.cell (Ba.cell 4)
        replace ca5 : ∀ g : Later w7, g.w.cell? ⟨w.heap.size, 5, none⟩ = some (sv a.sh) := fun g => g.cell (Ba.cell 5)
        replace cb0 : ∀ g : Later w7, g.w.cell? ⟨w.heap.size + 1, 0, none⟩ = some (uv b.b.v) := fun g => g.cell (Bb.cell 0)
        replace cb1 : ∀ g : Later w7, g.w.cell? ⟨w.heap.size + 1, 1, none⟩ = some (uv b.b.m) := fun g => g.cell (Bb.cell 1)
        replace cb2 : ∀ g : Later w7, g.w.cell? ⟨w.heap.size + 1, 2, none⟩ = some (uv b.lo) := fun g => g.cell (Bb.cell 2)
        replace cb3 : ∀ g : Later w7, g.w.cell? ⟨w.heap.size + 1, 3, none⟩ = some (uv b.hi) := fun g => g.cell (Bb.cell 3)
        replace cb4 : ∀ g : Later w7, g.w.cell? ⟨w.heap.size + 1, 4, none⟩ = some (sv b.sl) := fun g => g.cell (Bb.cell 4)
        replace cb5 : ∀ g : Later w7, g.w.cell? ⟨w.heap.size + 1, 5, none⟩ = some (sv b.sh) := fun g => g.cell (Bb.cell 5)
        replace cx0 : ∀ g : Later w7, g.w.cell? ⟨gx, 0, none⟩ = some (uv a.b.v) := fun g => g.cell (Bx.cell 0)
        replace cx1 : ∀ g : Later w7, g.w.cell? ⟨gx, 1, none⟩ = some (uv a.b.m) := fun g => g.cell (Bx.cell 1)
        replace cx2 : ∀ g : Later w7, g.w.cell? ⟨gx, 2, none⟩ = some (uv a.lo) := fun g => g.cell (Bx.cell 2)
        replace cx3 : ∀ g : Later w7, g.w.cell? ⟨gx, 3, none⟩ = some (uv a.hi) := fun g => g.cell (Bx.cell 3)
        replace cx4 : ∀ g : Later w7, g.w.cell? ⟨gx, 4, none⟩ = some (sv a.sl) := fun g => g.cell (Bx.cell 4)
        replace cx5 : ∀ g : Later w7, g.w.cell? ⟨gx, 5, none⟩ = some (sv a.sh) := fun g => g.cell (Bx.cell 5)
        replace cy0 : ∀ g : Later w7, g.w.cell? ⟨gy, 0, none⟩ = some (uv b.b.v) := fun g => g.cell (By.cell 0)
        replace cy1 : ∀ g : Later w7, g.w.cell? ⟨gy, 1, none⟩ = some (uv b.b.m) := fun g => g.cell (By.cell 1)
        replace cy2 : ∀ g : Later w7, g.w.cell? ⟨gy, 2, none⟩ = some (uv b.lo) := fun g => g.cell (By.cell 2)
        replace cy3 : ∀ g : Later w7, g.w.cell? ⟨gy, 3, none⟩ = some (uv b.hi) := fun g => g.cell (By.cell 3)
        replace cy4 : ∀ g : Later w7, g.w.cell? ⟨gy, 4, none⟩ = some (sv b.sl) := fun g => g.cell (By.cell 4)
        replace cy5 : ∀ g : Later w7, g.w.cell? ⟨gy, 5, none⟩ = some (sv b.sh) := fun g => g.cell (By.cell 5)
        replace cs0 : ∀ g : Later w7, g.w.cell? ⟨gs, 0, none⟩ = some (uv st.b.v) := fun g => g.cell (Bs.cell 0)
        replace cs1 : ∀ g : Later w7, g.w.cell? ⟨gs, 1, none⟩ = some (uv st.b.m) := fun g => g.cell (Bs.cell 1)
        replace cs2 : ∀ g : Later w7, g.w.cell? ⟨gs, 2, none⟩ = some (uv st.lo) := fun g => g.cell (Bs.cell 2)
        replace cs3 : ∀ g : Later w7, g.w.cell? ⟨gs, 3, none⟩ = some (uv st.hi) := fun g => g.cell (Bs.cell 3)
        replace cs4 : ∀ g : Later w7, g.w.cell? ⟨gs, 4, none⟩ = some (sv st.sl) := fun g => g.cell (Bs.cell 4)
        replace cs5 : ∀ g : Later w7, g.w.cell? ⟨gs, 5, none⟩ = some (sv st.sh) := fun g => g.cell (Bs.cell 5)
        refine wp_region_mix 11 (fun _ => #[]) (by kernel_rfl) (by kernel_rfl) (no_alloc (by kernel_rfl)) ?_
        simp only [List.take_succ_cons, List.take_zero, List.drop_succ_cons, List.drop_zero]
        repeat (refine wpMix_step (fun K hK => ?_); go_simp; first | (refine hK _ ?_; clear hK K) | (apply Exists.intro; refine ⟨fun g => ?_, hK _ ?_⟩; ((with_reducible refine Calls.mono (evals_c g.w) ?_); exact fun _ _ h => h); clear hK K) | (apply Exists.intro; refine ⟨fun g => ?_, hK _ ?_⟩; ((with_reducible refine Calls.mono (k_h g.w) ?_); exact fun _ _ h => h); clear hK K) | (apply Exists.intro; refine ⟨fun g => ?_, hK _ ?_⟩; ((with_reducible refine Calls.mono (k_g g.w) ?_); exact fun _ _ h => h); clear hK K))
        refine wpMix_nil ?_
        intro G w8 hgr hblk hdist
        have hb : Below w7.heap.size w7 w8 := hgr
        replace Ba := Ba.next hb
        replace Bb := Bb.next hb
        replace Bx := Bx.next hb
        replace By := By.next hb
        replace Bs := Bs.next hb
        clear ca0 ca1 ca2 ca3 ca4 ca5 fa la
        clear cb0 cb1 cb2 cb3 cb4 cb5 fb lb
        clear cx0 cx1 cx2 cx3 cx4 cx5 fx lx
        clear cy0 cy1 cy2 cy3 cy4 cy5 fy ly
        clear cs0 cs1 cs2 cs3 cs4 cs5 fs ls
        replace hB : Below w.heap.size w w8 := Bl_trans hB hb
        simp only [putAll, isAlloc]
        clear hb hgr hblk hdist
        have ca0 : w8.cell? ⟨w.heap.size, 0, none⟩ = some (uv a.b.v) := Ba.cell 0
        have ca1 : w8.cell? ⟨w.heap.size, 1, none⟩ = some (uv a.b.m) := Ba.cell 1
        have ca2 : w8.cell? ⟨w.heap.size, 2, none⟩ = some (uv a.lo) := Ba.cell 2
        have ca3 : w8.cell? ⟨w.heap.size, 3, none⟩ = some (uv a.hi) := Ba.cell 3
        have ca4 : w8.cell? ⟨w.heap.size, 4, none⟩ = some (sv a.sl) := Ba.cell 4
        have ca5 : w8.cell? ⟨w.heap.size, 5, none⟩ = some (sv a.sh) := Ba.cell 5
        have fa := Ba.frozen
        have la := Ba.lt
        have cb0 : w8.cell? ⟨w.heap.size + 1, 0, none⟩ = some (uv b.b.v) := Bb.cell 0
        have cb1 : w8.cell? ⟨w.heap.size + 1, 1, none⟩ = some (uv b.b.m) := Bb.cell 1
        have cb2 : w8.cell? ⟨w.heap.size + 1, 2, none⟩ = some (uv b.lo) := Bb.cell 2
        have cb3 : w8.cell? ⟨w.heap.size + 1, 3, none⟩ = some (uv b.hi) := Bb.cell 3
        have cb4 : w8.cell? ⟨w.heap.size + 1, 4, none⟩ = some (sv b.sl) := Bb.cell 4
        have cb5 : w8.cell? ⟨w.heap.size + 1, 5, none⟩ = some (sv b.sh) := Bb.cell 5
        have fb := Bb.frozen
        have lb := Bb.lt
        have cx0 : w8.cell? ⟨gx, 0, none⟩ = some (uv a.b.v) := Bx.cell 0
        have cx1 : w8.cell? ⟨gx, 1, none⟩ = some (uv a.b.m) := Bx.cell 1
        have cx2 : w8.cell? ⟨gx, 2, none⟩ = some (uv a.lo) := Bx.cell 2
        have cx3 : w8.cell? ⟨gx, 3, none⟩ = some (uv a.hi) := Bx.cell 3
        have cx4 : w8.cell? ⟨gx, 4, none⟩ = some (sv a.sl) := Bx.cell 4
        have cx5 : w8.cell? ⟨gx, 5, none⟩ = some (sv a.sh) := Bx.cell 5
        have fx := Bx.frozen
        have lx := Bx.lt
        have cy0 : w8.cell? ⟨gy, 0, none⟩ = some (uv b.b.v) := By.cell 0
        have cy1 : w8.cell? ⟨gy, 1, none⟩ = some (uv b.b.m) := By.cell 1
        have cy2 : w8.cell? ⟨gy, 2, none⟩ = some (uv b.lo) := By.cell 2
        have cy3 : w8.cell? ⟨gy, 3, none⟩ = some (uv b.hi) := By.cell 3
        have cy4 : w8.cell? ⟨gy, 4, none⟩ = some (sv b.sl) := By.cell 4
        have cy5 : w8.cell? ⟨gy, 5, none⟩ = some (sv b.sh) := By.cell 5
        have fy := By.frozen
        have ly := By.lt
        have cs0 : w8.cell? ⟨gs, 0, none⟩ = some (uv st.b.v) := Bs.cell 0
        have cs1 : w8.cell? ⟨gs, 1, none⟩ = some (uv st.b.m) := Bs.cell 1
        have cs2 : w8.cell? ⟨gs, 2, none⟩ = some (uv st.lo) := Bs.cell 2
        have cs3 : w8.cell? ⟨gs, 3, none⟩ = some (uv st.hi) := Bs.cell 3
        have cs4 : w8.cell? ⟨gs, 4, none⟩ = some (sv st.sl) := Bs.cell 4
        have cs5 : w8.cell? ⟨gs, 5, none⟩ = some (sv st.sh) := Bs.cell 5
        have fs := Bs.frozen
        have ls := Bs.lt
        go_wp2_with fail
        refine (k_g _).mono ?_
        rintro e w9 ⟨rfl, hb⟩
        clear ca0 ca1 ca2 ca3 ca4 ca5 fa la
        clear cb0 cb1 cb2 cb3 cb4 cb5 fb lb
        clear cx0 cx1 cx2 cx3 cx4 cx5 fx lx
        clear cy0 cy1 cy2 cy3 cy4 cy5 fy ly
        clear cs0 cs1 cs2 cs3 cs4 cs5 fs ls
        replace Ba := (Ba).next hb
        replace Bb := (Bb).next hb
        replace Bx := (Bx).next hb
        replace By := (By).next hb
        replace Bs := (Bs).next hb
        replace hB : Below w.heap.size w w9 := by repeat (first | exact hB | (refine Bl_set ?_ (by first | omega | (simp; omega)) _) | apply Bl_alloc | (refine Bl_trans ?_ hb))
        clear hb
        have ca0 : w9.cell? ⟨w.heap.size, 0, none⟩ = some (uv a.b.v) := Ba.cell 0
        have ca1 : w9.cell? ⟨w.heap.size, 1, none⟩ = some (uv a.b.m) := Ba.cell 1
        have ca2 : w9.cell? ⟨w.heap.size, 2, none⟩ = some (uv a.lo) := Ba.cell 2
        have ca3 : w9.cell? ⟨w.heap.size, 3, none⟩ = some (uv a.hi) := Ba.cell 3
        have ca4 : w9.cell? ⟨w.heap.size, 4, none⟩ = some (sv a.sl) := Ba.cell 4
        have ca5 : w9.cell? ⟨w.heap.size, 5, none⟩ = some (sv a.sh) := Ba.cell 5
        have fa := Ba.frozen
        have la := Ba.lt
        have cb0 : w9.cell? ⟨w.heap.size + 1, 0, none⟩ = some (uv b.b.v) := Bb.cell 0
        have cb1 : w9.cell? ⟨w.heap.size + 1, 1, none⟩ = some (uv b.b.m) := Bb.cell 1
        have cb2 : w9.cell? ⟨w.heap.size + 1, 2, none⟩ = some (uv b.lo) := Bb.cell 2
        have cb3 : w9.cell? ⟨w.heap.size + 1, 3, none⟩ = some (uv b.hi) := Bb.cell 3
        have cb4 : w9.cell? ⟨w.heap.size + 1, 4, none⟩ = some (sv b.sl) := Bb.cell 4
        have cb5 : w9.cell? ⟨w.heap.size + 1, 5, none⟩ = some (sv b.sh) := Bb.cell 5
        have fb := Bb.frozen
        have lb := Bb.lt
        have cx0 : w9.cell? ⟨gx, 0, none⟩ = some (uv a.b.v) := Bx.cell 0
        have cx1 : w9.cell? ⟨gx, 1, none⟩ = some (uv a.b.m) := Bx.cell 1
        have cx2 : w9.cell? ⟨gx, 2, none⟩ = some (uv a.lo) := Bx.cell 2
        have cx3 : w9.cell? ⟨gx, 3, none⟩ = some (uv a.hi) := Bx.cell 3
        have cx4 : w9.cell? ⟨gx, 4, none⟩ = some (sv a.sl) := Bx.cell 4
        have cx5 : w9.cell? ⟨gx, 5, none⟩ = some (sv a.sh) := Bx.cell 5
        have fx := Bx.frozen
        have lx := Bx.lt
        have cy0 : w9.cell? ⟨gy, 0, none⟩ = some (uv b.b.v) := By.cell 0
        have cy1 : w9.cell? ⟨gy, 1, none⟩ = some (uv b.b.m) := By.cell 1
        have cy2 : w9.cell? ⟨gy, 2, none⟩ = some (uv b.lo) := By.cell 2
        have cy3 : w9.cell? ⟨gy, 3, none⟩ = some (uv b.hi) := By.cell 3
        have cy4 : w9.cell? ⟨gy, 4, none⟩ = some (sv b.sl) := By.cell 4
        have cy5 : w9.cell? ⟨gy, 5, none⟩ = some (sv b.sh) := By.cell 5
        have fy := By.frozen
        have ly := By.lt
        have cs0 : w9.cell? ⟨gs, 0, none⟩ = some (uv st.b.v) := Bs.cell 0
        have cs1 : w9.cell? ⟨gs, 1, none⟩ = some (uv st.b.m) := Bs.cell 1
        have cs2 : w9.cell? ⟨gs, 2, none⟩ = some (uv st.lo) := Bs.cell 2
        have cs3 : w9.cell? ⟨gs, 3, none⟩ = some (uv st.hi) := Bs.cell 3
        have cs4 : w9.cell? ⟨gs, 4, none⟩ = some (sv st.sl) := Bs.cell 4
        have cs5 : w9.cell? ⟨gs, 5, none⟩ = some (sv st.sh) := Bs.cell 5
        have fs := Bs.frozen
        have ls := Bs.lt
        go_wp2
        go_ret
        exact ⟨rfl, by repeat (first | exact hB | (refine Bl_set ?_ (by first | omega | (simp; omega)) _) | apply Bl_alloc)⟩
      · obtain ⟨rfl, Hst⟩ := hin rfl
        go_wp2_with fail
        replace ca0 : ∀ g : Later w7, g.w.cell? ⟨w.heap.size, 0, none⟩ = some (uv a.b.v) := fun g => g.cell (Ba.cell 0)
        replace ca1 : ∀ g : Later w7, g.w.cell? ⟨w.heap.size, 1, none⟩ = some (uv a.b.m) := fun g => g.cell (Ba.cell 1)
        replace ca2 : ∀ g : Later w7, g.w.cell? ⟨w.heap.size, 2, none⟩ = some (uv a.lo) := fun g => g.cell (Ba.cell 2)
        replace ca3 : ∀ g : Later w7, g.w.cell? ⟨w.heap.size, 3, none⟩ = some (uv a.hi) := fun g => g.cell (Ba.cell 3)
        replace ca4 : ∀ g : Later w7, g.w.cell? ⟨w.heap.size, 4, none⟩ = some (sv a.sl) := fun g => g.cell (Ba.cell 4)
        replace ca5 : ∀ g : Later w7, g.w.cell? ⟨w.heap.size, 5, none⟩ = some (sv a.sh) := fun g => g.cell (Ba.cell 5)
        replace cb0 : ∀ g : Later w7, g.w.cell? ⟨w.heap.size + 1, 0, none⟩ = some (uv b.b.v) := fun g => g.cell (Bb.cell 0)
        replace cb1 : ∀ g : Later w7, g.w.cell? ⟨w.heap.size + 1, 1, none⟩ = some (uv b.b.m) := fun g => g.cell (Bb.cell 1)
        replace cb2 : ∀ g : Later w7, g.w.cell? ⟨w.heap.size + 1, 2, none⟩ = some (uv b.lo) := fun g => g.cell (Bb.cell 2)
        replace cb3 : ∀ g : Later w7, g.w.cell? ⟨w.heap.size + 1, 3, none⟩ = some (uv b.hi) := fun g => g.cell (Bb.cell 3)
        replace cb4 : ∀ g : Later w7, g.w.cell? ⟨w.heap.size + 1, 4, none⟩ = some (sv b.sl) := fun g => g.cell (Bb.cell 4)
        replace cb5 : ∀ g : Later w7, g.w.cell? ⟨w.heap.size + 1, 5, none⟩ = some (sv b.sh) := fun g => g.cell (Bb.cell 5)
        replace cx0 : ∀ g : Later w7, g.w.cell? ⟨gx, 0, none⟩ = some (uv a.b.v) := fun g => g.cell (Bx.cell 0)
        replace cx1 : ∀ g : Later w7, g.w.cell? ⟨gx, 1, none⟩ = some (uv a.b.m) := fun g => g.cell (Bx.cell 1)
        replace cx2 : ∀ g : Later w7, g.w.cell? ⟨gx, 2, none⟩ = some (uv a.lo) := fun g => g.cell (Bx.cell 2)
        replace cx3 : ∀ g : Later w7, g.w.cell? ⟨gx, 3, none⟩ = some (uv a.hi) := fun g => g.cell (Bx.cell 3)
        replace cx4 : ∀ g : Later w7, g.w.cell? ⟨gx, 4, none⟩ = some (sv a.sl) := fun g => g.cell (Bx.cell 4)
        replace cx5 : ∀ g : Later w7, g.w.cell? ⟨gx, 5, none⟩ = some (sv a.sh) := fun g => g.cell (Bx.cell 5)
        replace cy0 : ∀ g : Later w7, g.w.cell? ⟨gy, 0, none⟩ = some (uv b.b.v) := fun g => g.cell (By.cell 0)
        replace cy1 : ∀ g : Later w7, g.w.cell? ⟨gy, 1, none⟩ = some (uv b.b.m) := fun g => g.cell (By.cell 1)
        replace cy2 : ∀ g : Later w7, g.w.cell? ⟨gy, 2, none⟩ = some (uv b.lo) := fun g => g.cell (By.cell 2)
        replace cy3 : ∀ g : Later w7, g.w.cell? ⟨gy, 3, none⟩ = some (uv b.hi) := fun g => g.cell (By.cell 3)
        replace cy4 : ∀ g : Later w7, g.w.cell? ⟨gy, 4, none⟩ = some (sv b.sl) := fun g => g.cell (By.cell 4)
        replace cy5 : ∀ g : Later w7, g.w.cell? ⟨gy, 5, none⟩ = some (sv b.sh) := fun g => g.cell (By.cell 5)
        replace cs0 : ∀ g : Later w7, g.w.cell? ⟨gs, 0, none⟩ = some (uv st.b.v) := fun g => g.cell (Bs.cell 0)
        replace cs1 : ∀ g : Later w7, g.w.cell? ⟨gs, 1, none⟩ = some (uv st.b.m) := fun g => g.cell (Bs.cell 1)
        replace cs2 : ∀ g : Later w7, g.w.cell? ⟨gs, 2, none⟩ = some (uv st.lo) := fun g => g.cell (Bs.cell 2)
        replace cs3 : ∀ g : Later w7, g.w.cell? ⟨gs, 3, none⟩ = some (uv st.hi) := fun g => g.cell (Bs.cell 3)
        replace cs4 : ∀ g : Later w7, g.w.cell? ⟨gs, 4, none⟩ = some (sv st.sl) := fun g => g.cell (Bs.cell 4)
        replace cs5 : ∀ g : Later w7, g.w.cell? ⟨gs, 5, none⟩ = some (sv st.sh) := fun g => g.cell (Bs.cell 5)
        refine wp_region_mix 11 (fun _ => #[]) (by kernel_rfl) (by kernel_rfl) (no_alloc (by kernel_rfl)) ?_
        simp only [List.take_succ_cons, List.take_zero, List.drop_succ_cons, List.drop_zero]
        repeat (refine wpMix_step (fun K hK => ?_); go_simp; first | (refine hK _ ?_; clear hK K) | (apply Exists.intro; refine ⟨fun g => ?_, hK _ ?_⟩; ((with_reducible refine Calls.mono (evals_c g.w) ?_); exact fun _ _ h => h); clear hK K) | (apply Exists.intro; refine ⟨fun g => ?_, hK _ ?_⟩; ((with_reducible refine Calls.mono (k_h g.w) ?_); exact fun _ _ h => h); clear hK K) | (apply Exists.intro; refine ⟨fun g => ?_, hK _ ?_⟩; ((with_reducible refine Calls.mono (k_g g.w) ?_); exact fun _ _ h => h); clear hK K))
        refine wpMix_nil ?_
        intro G w8 hgr hblk hdist
        have hb : Below w7.heap.size w7 w8 := hgr
        replace Ba := Ba.next hb
        replace Bb := Bb.next hb
        replace Bx := Bx.next hb
        replace By := By.next hb
        replace Bs := Bs.next hb
        clear ca0 ca1 ca2 ca3 ca4 ca5 fa la
        clear cb0 cb1 cb2 cb3 cb4 cb5 fb lb
        clear cx0 cx1 cx2 cx3 cx4 cx5 fx lx
        clear cy0 cy1 cy2 cy3 cy4 cy5 fy ly
        clear cs0 cs1 cs2 cs3 cs4 cs5 fs ls
        replace hB : Below w.heap.size w w8 := Bl_trans hB hb
        simp only [putAll, isAlloc]
        clear hb hgr hblk hdist
        have ca0 : w8.cell? ⟨w.heap.size, 0, none⟩ = some (uv a.b.v) := Ba.cell 0
        have ca1 : w8.cell? ⟨w.heap.size, 1, none⟩ = some (uv a.b.m) := Ba.cell 1
        have ca2 : w8.cell? ⟨w.heap.size, 2, none⟩ = some (uv a.lo) := Ba.cell 2
        have ca3 : w8.cell? ⟨w.heap.size, 3, none⟩ = some (uv a.hi) := Ba.cell 3
        have ca4 : w8.cell? ⟨w.heap.size, 4, none⟩ = some (sv a.sl) := Ba.cell 4
        have ca5 : w8.cell? ⟨w.heap.size, 5, none⟩ = some (sv a.sh) := Ba.cell 5
        have fa := Ba.frozen
        have la := Ba.lt
        have cb0 : w8.cell? ⟨w.heap.size + 1, 0, none⟩ = some (uv b.b.v) := Bb.cell 0
        have cb1 : w8.cell? ⟨w.heap.size + 1, 1, none⟩ = some (uv b.b.m) := Bb.cell 1
        have cb2 : w8.cell? ⟨w.heap.size + 1, 2, none⟩ = some (uv b.lo) := Bb.cell 2
        have cb3 : w8.cell? ⟨w.heap.size + 1, 3, none⟩ = some (uv b.hi) := Bb.cell 3
        have cb4 : w8.cell? ⟨w.heap.size + 1, 4, none⟩ = some (sv b.sl) := Bb.cell 4
        have cb5 : w8.cell? ⟨w.heap.size + 1, 5, none⟩ = some (sv b.sh) := Bb.cell 5
        have fb := Bb.frozen
        have lb := Bb.lt
        have cx0 : w8.cell? ⟨gx, 0, none⟩ = some (uv a.b.v) := Bx.cell 0
        have cx1 : w8.cell? ⟨gx, 1, none⟩ = some (uv a.b.m) := Bx.cell 1
        have cx2 : w8.cell? ⟨gx, 2, none⟩ = some (uv a.lo) := Bx.cell 2
        have cx3 : w8.cell? ⟨gx, 3, none⟩ = some (uv a.hi) := Bx.cell 3
        have cx4 : w8.cell? ⟨gx, 4, none⟩ = some (sv a.sl) := Bx.cell 4
        have cx5 : w8.cell? ⟨gx, 5, none⟩ = some (sv a.sh) := Bx.cell 5
        have fx := Bx.frozen
        have lx := Bx.lt
        have cy0 : w8.cell? ⟨gy, 0, none⟩ = some (uv b.b.v) := By.cell 0
        have cy1 : w8.cell? ⟨gy, 1, none⟩ = some (uv b.b.m) := By.cell 1
        have cy2 : w8.cell? ⟨gy, 2, none⟩ = some (uv b.lo) := By.cell 2
        have cy3 : w8.cell? ⟨gy, 3, none⟩ = some (uv b.hi) := By.cell 3
        have cy4 : w8.cell? ⟨gy, 4, none⟩ = some (sv b.sl) := By.cell 4
        have cy5 : w8.cell? ⟨gy, 5, none⟩ = some (sv b.sh) := By.cell 5
        have fy := By.frozen
        have ly := By.lt
        have cs0 : w8.cell? ⟨gs, 0, none⟩ = some (uv st.b.v) := Bs.cell 0
        have cs1 : w8.cell? ⟨gs, 1, none⟩ = some (uv st.b.m) := Bs.cell 1
        have cs2 : w8.cell? ⟨gs, 2, none⟩ = some (uv st.lo) := Bs.cell 2
        have cs3 : w8.cell? ⟨gs, 3, none⟩ = some (uv st.hi) := Bs.cell 3
        have cs4 : w8.cell? ⟨gs, 4, none⟩ = some (sv st.sl) := Bs.cell 4
        have cs5 : w8.cell? ⟨gs, 5, none⟩ = some (sv st.sh) := Bs.cell 5
        have fs := Bs.frozen
        have ls := Bs.lt
        go_wp2_with fail
        refine (k_g _).mono ?_
        rintro e w9 ⟨rfl, hb⟩
        clear ca0 ca1 ca2 ca3 ca4 ca5 fa la
        clear cb0 cb1 cb2 cb3 cb4 cb5 fb lb
        clear cx0 cx1 cx2 cx3 cx4 cx5 fx lx
        clear cy0 cy1 cy2 cy3 cy4 cy5 fy ly
        clear cs0 cs1 cs2 cs3 cs4 cs5 fs ls
        replace Ba := (Ba).next hb
        replace Bb := (Bb).next hb
        replace Bx := (Bx).next hb
        replace By := (By).next hb
        replace Bs := (Bs).next hb
        replace hB : Below w.heap.size w w9 := by repeat (first | exact hB | (refine Bl_set ?_ (by first | omega | (simp; omega)) _) | apply Bl_alloc | (refine Bl_trans ?_ hb))
        clear hb
        have ca0 : w9.cell? ⟨w.heap.size, 0, none⟩ = some (uv a.b.v) := Ba.cell 0
        have ca1 : w9.cell? ⟨w.heap.size, 1, none⟩ = some (uv a.b.m) := Ba.cell 1
        have ca2 : w9.cell? ⟨w.heap.size, 2, none⟩ = some (uv a.lo) := Ba.cell 2
        have ca3 : w9.cell? ⟨w.heap.size, 3, none⟩ = some (uv a.hi) := Ba.cell 3
        have ca4 : w9.cell? ⟨w.heap.size, 4, none⟩ = some (sv a.sl) := Ba.cell 4
        have ca5 : w9.cell? ⟨w.heap.size, 5, none⟩ = some (sv a.sh) := Ba.cell 5
        have fa := Ba.frozen
        have la := Ba.lt
        have cb0 : w9.cell? ⟨w.heap.size + 1, 0, none⟩ = some (uv b.b.v) := Bb.cell 0
        have cb1 : w9.cell? ⟨w.heap.size + 1, 1, none⟩ = some (uv b.b.m) := Bb.cell 1
        have cb2 : w9.cell? ⟨w.heap.size + 1, 2, none⟩ = some (uv b.lo) := Bb.cell 2
        have cb3 : w9.cell? ⟨w.heap.size + 1, 3, none⟩ = some (uv b.hi) := Bb.cell 3
        have cb4 : w9.cell? ⟨w.heap.size + 1, 4, none⟩ = some (sv b.sl) := Bb.cell 4
        have cb5 : w9.cell? ⟨w.heap.size + 1, 5, none⟩ = some (sv b.sh) := Bb.cell 5
        have fb := Bb.frozen
        have lb := Bb.lt
        have cx0 : w9.cell? ⟨gx, 0, none⟩ = some (uv a.b.v) := Bx.cell 0
        have cx1 : w9.cell? ⟨gx, 1, none⟩ = some (uv a.b.m) := Bx.cell 1
        have cx2 : w9.cell? ⟨gx, 2, none⟩ = some (uv a.lo) := Bx.cell 2
        have cx3 : w9.cell? ⟨gx, 3, none⟩ = some (uv a.hi) := Bx.cell 3
        have cx4 : w9.cell? ⟨gx, 4, none⟩ = some (sv a.sl) := Bx.cell 4
        have cx5 : w9.cell? ⟨gx, 5, none⟩ = some (sv a.sh) := Bx.cell 5
        have fx := Bx.frozen
        have lx := Bx.lt
        have cy0 : w9.cell? ⟨gy, 0, none⟩ = some (uv b.b.v) := By.cell 0
        have cy1 : w9.cell? ⟨gy, 1, none⟩ = some (uv b.b.m) := By.cell 1
        have cy2 : w9.cell? ⟨gy, 2, none⟩ = some (uv b.lo) := By.cell 2
        have cy3 : w9.cell? ⟨gy, 3, none⟩ = some (uv b.hi) := By.cell 3
        have cy4 : w9.cell? ⟨gy, 4, none⟩ = some (sv b.sl) := By.cell 4
        have cy5 : w9.cell? ⟨gy, 5, none⟩ = some (sv b.sh) := By.cell 5
        have fy := By.frozen
        have ly := By.lt
        have cs0 : w9.cell? ⟨gs, 0, none⟩ = some (uv st.b.v) := Bs.cell 0
        have cs1 : w9.cell? ⟨gs, 1, none⟩ = some (uv st.b.m) := Bs.cell 1
        have cs2 : w9.cell? ⟨gs, 2, none⟩ = some (uv st.lo) := Bs.cell 2
        have cs3 : w9.cell? ⟨gs, 3, none⟩ = some (uv st.hi) := Bs.cell 3
        have cs4 : w9.cell? ⟨gs, 4, none⟩ = some (sv st.sl) := Bs.cell 4
        have cs5 : w9.cell? ⟨gs, 5, none⟩ = some (sv st.sh) := Bs.cell 5
        have fs := Bs.frozen
        have ls := Bs.lt
        go_wp2_with fail
        refine (shast_c st n Hst _).mono ?_
        rintro e w10 ⟨rfl, hb⟩
        clear ca0 ca1 ca2 ca3 ca4 ca5 fa la
        clear cb0 cb1 cb2 cb3 cb4 cb5 fb lb
        clear cx0 cx1 cx2 cx3 cx4 cx5 fx lx
        clear cy0 cy1 cy2 cy3 cy4 cy5 fy ly
        clear cs0 cs1 cs2 cs3 cs4 cs5 fs ls
        replace Ba := (Ba).next hb
        replace Bb := (Bb).next hb
        replace Bx := (Bx).next hb
        replace By := (By).next hb
        replace Bs := (Bs).next hb
        replace hB : Below w.heap.size w w10 := by repeat (first | exact hB | (refine Bl_set ?_ (by first | omega | (simp; omega)) _) | apply Bl_alloc | (refine Bl_trans ?_ hb))
        clear hb
        have ca0 : w10.cell? ⟨w.heap.size, 0, none⟩ = some (uv a.b.v) := Ba.cell 0
        have ca1 : w10.cell? ⟨w.heap.size, 1, none⟩ = some (uv a.b.m) := Ba.cell 1
        have ca2 : w10.cell? ⟨w.heap.size, 2, none⟩ = some (uv a.lo) := Ba.cell 2
        have ca3 : w10.cell? ⟨w.heap.size, 3, none⟩ = some (uv a.hi) := Ba.cell 3
        have ca4 : w10.cell? ⟨w.heap.size, 4, none⟩ = some (sv a.sl) := Ba.cell 4
        have ca5 : w10.cell? ⟨w.heap.size, 5, none⟩ = some (sv a.sh) := Ba.cell 5
        have fa := Ba.frozen
        have la := Ba.lt
        have cb0 : w10.cell? ⟨w.heap.size + 1, 0, none⟩ = some (uv b.b.v) := Bb.cell 0
        have cb1 : w10.cell? ⟨w.heap.size + 1, 1, none⟩ = some (uv b.b.m) := Bb.cell 1
        have cb2 : w10.cell? ⟨w.heap.size + 1, 2, none⟩ = some (uv b.lo) := Bb.cell 2
        have cb3 : w10.cell? ⟨w.heap.size + 1, 3, none⟩ = some (uv b.hi) := Bb.cell 3
        have cb4 : w10.cell? ⟨w.heap.size + 1, 4, none⟩ = some (sv b.sl) := Bb.cell 4
        have cb5 : w10.cell? ⟨w.heap.size + 1, 5, none⟩ = some (sv b.sh) := Bb.cell 5
        have fb := Bb.frozen
        have lb := Bb.lt
        have cx0 : w10.cell? ⟨gx, 0, none⟩ = some (uv a.b.v) := Bx.cell 0
        have cx1 : w10.cell? ⟨gx, 1, none⟩ = some (uv a.b.m) := Bx.cell 1
        have cx2 : w10.cell? ⟨gx, 2, none⟩ = some (uv a.lo) := Bx.cell 2
        have cx3 : w10.cell? ⟨gx, 3, none⟩ = some (uv a.hi) := Bx.cell 3
        have cx4 : w10.cell? ⟨gx, 4, none⟩ = some (sv a.sl) := Bx.cell 4
        have cx5 : w10.cell? ⟨gx, 5, none⟩ = some (sv a.sh) := Bx.cell 5
        have fx := Bx.frozen
        have lx := Bx.lt
        have cy0 : w10.cell? ⟨gy, 0, none⟩ = some (uv b.b.v) := By.cell 0
        have cy1 : w10.cell? ⟨gy, 1, none⟩ = some (uv b.b.m) := By.cell 1
        have cy2 : w10.cell? ⟨gy, 2, none⟩ = some (uv b.lo) := By.cell 2
        have cy3 : w10.cell? ⟨gy, 3, none⟩ = some (uv b.hi) := By.cell 3
        have cy4 : w10.cell? ⟨gy, 4, none⟩ = some (sv b.sl) := By.cell 4
        have cy5 : w10.cell? ⟨gy, 5, none⟩ = some (sv b.sh) := By.cell 5
        have fy := By.frozen
        have ly := By.lt
        have cs0 : w10.cell? ⟨gs, 0, none⟩ = some (uv st.b.v) := Bs.cell 0
        have cs1 : w10.cell? ⟨gs, 1, none⟩ = some (uv st.b.m) := Bs.cell 1
        have cs2 : w10.cell? ⟨gs, 2, none⟩ = some (uv st.lo) := Bs.cell 2
        have cs3 : w10.cell? ⟨gs, 3, none⟩ = some (uv st.hi) := Bs.cell 3
        have cs4 : w10.cell? ⟨gs, 4, none⟩ = some (sv st.sl) := Bs.cell 4
        have cs5 : w10.cell? ⟨gs, 5, none⟩ = some (sv st.sh) := Bs.cell 5
        have fs := Bs.frozen
        have ls := Bs.lt
        go_wp2
        go_ret
        exact ⟨rfl, by repeat (first | exact hB | (refine Bl_set ?_ (by first | omega | (simp; omega)) _) | apply Bl_alloc)⟩
    · have hjl : (j : Int) < 14 := of_decide_eq_true qj
      go_wp2_with fail
      refine (sdo_c (j : Int) true a b _).mono ?_
      rintro e w4 ⟨rfl, hb⟩
      clear ca0 ca1 ca2 ca3 ca4 ca5 fa la
      clear cb0 cb1 cb2 cb3 cb4 cb5 fb lb
      clear cx0 cx1 cx2 cx3 cx4 cx5 fx lx
      clear cy0 cy1 cy2 cy3 cy4 cy5 fy ly
      replace Ba := (Ba).next hb
      replace Bb := (Bb).next hb
      replace Bx := (Bx).next hb
      replace By := (By).next hb
      replace hB : Below w.heap.size w w4 := by repeat (first | exact hB | (refine Bl_set ?_ (by first | omega | (simp; omega)) _) | apply Bl_alloc | (refine Bl_trans ?_ hb))
      clear hb
      have ca0 : w4.cell? ⟨w.heap.size, 0, none⟩ = some (uv a.b.v) := Ba.cell 0
      have ca1 : w4.cell? ⟨w.heap.size, 1, none⟩ = some (uv a.b.m) := Ba.cell 1
      have ca2 : w4.cell? ⟨w.heap.size, 2, none⟩ = some (uv a.lo) := Ba.cell 2
      have ca3 : w4.cell? ⟨w.heap.size, 3, none⟩ = some (uv a.hi) := Ba.cell 3
      have ca4 : w4.cell? ⟨w.heap.size, 4, none⟩ = some (sv a.sl) := Ba.cell 4
      have ca5 : w4.cell? ⟨w.heap.size, 5, none⟩ = some (sv a.sh) := Ba.cell 5
      have fa := Ba.frozen
      have la := Ba.lt
      have cb0 : w4.cell? ⟨w.heap.size + 1, 0, none⟩ = some (uv b.b.v) := Bb.cell 0
      have cb1 : w4.cell? ⟨w.heap.size + 1, 1, none⟩ = some (uv b.b.m) := Bb.cell 1
      have cb2 : w4.cell? ⟨w.heap.size + 1, 2, none⟩ = some (uv b.lo) := Bb.cell 2
      have cb3 : w4.cell? ⟨w.heap.size + 1, 3, none⟩ = some (uv b.hi) := Bb.cell 3
      have cb4 : w4.cell? ⟨w.heap.size + 1, 4, none⟩ = some (sv b.sl) := Bb.cell 4
      have cb5 : w4.cell? ⟨w.heap.size + 1, 5, none⟩ = some (sv b.sh) := Bb.cell 5
      have fb := Bb.frozen
      have lb := Bb.lt
      have cx0 : w4.cell? ⟨gx, 0, none⟩ = some (uv a.b.v) := Bx.cell 0
      have cx1 : w4.cell? ⟨gx, 1, none⟩ = some (uv a.b.m) := Bx.cell 1
      have cx2 : w4.cell? ⟨gx, 2, none⟩ = some (uv a.lo) := Bx.cell 2
      have cx3 : w4.cell? ⟨gx, 3, none⟩ = some (uv a.hi) := Bx.cell 3
      have cx4 : w4.cell? ⟨gx, 4, none⟩ = some (sv a.sl) := Bx.cell 4
      have cx5 : w4.cell? ⟨gx, 5, none⟩ = some (sv a.sh) := Bx.cell 5
      have fx := Bx.frozen
      have lx := Bx.lt
      have cy0 : w4.cell? ⟨gy, 0, none⟩ = some (uv b.b.v) := By.cell 0
      have cy1 : w4.cell? ⟨gy, 1, none⟩ = some (uv b.b.m) := By.cell 1
      have cy2 : w4.cell? ⟨gy, 2, none⟩ = some (uv b.lo) := By.cell 2
      have cy3 : w4.cell? ⟨gy, 3, none⟩ = some (uv b.hi) := By.cell 3
      have cy4 : w4.cell? ⟨gy, 4, none⟩ = some (sv b.sl) := By.cell 4
      have cy5 : w4.cell? ⟨gy, 5, none⟩ = some (sv b.sh) := By.cell 5
      have fy := By.frozen
      have ly := By.lt
      go_wp2_with fail
      refine (sdo_c (j : Int) false a b _).mono ?_
      rintro e w5 ⟨rfl, hb⟩
      clear ca0 ca1 ca2 ca3 ca4 ca5 fa la
      clear cb0 cb1 cb2 cb3 cb4 cb5 fb lb
      clear cx0 cx1 cx2 cx3 cx4 cx5 fx lx
      clear cy0 cy1 cy2 cy3 cy4 cy5 fy ly
      replace Ba := (Ba).next hb
      replace Bb := (Bb).next hb
      replace Bx := (Bx).next hb
      replace By := (By).next hb
      replace hB : Below w.heap.size w w5 := by repeat (first | exact hB | (refine Bl_set ?_ (by first | omega | (simp; omega)) _) | apply Bl_alloc | (refine Bl_trans ?_ hb))
      clear hb
      have ca0 : w5.cell? ⟨w.heap.size, 0, none⟩ = some (uv a.b.v) := Ba.cell 0
      have ca1 : w5.cell? ⟨w.heap.size, 1, none⟩ = some (uv a.b.m) := Ba.cell 1
      have ca2 : w5.cell? ⟨w.heap.size, 2, none⟩ = some (uv a.lo) := Ba.cell 2
      have ca3 : w5.cell? ⟨w.heap.size, 3, none⟩ = some (uv a.hi) := Ba.cell 3
      have ca4 : w5.cell? ⟨w.heap.size, 4, none⟩ = some (sv a.sl) := Ba.cell 4
      have ca5 : w5.cell? ⟨w.heap.size, 5, none⟩ = some (sv a.sh) := Ba.cell 5
      have fa := Ba.frozen
      have la := Ba.lt
      have cb0 : w5.cell? ⟨w.heap.size + 1, 0, none⟩ = some (uv b.b.v) := Bb.cell 0
      have cb1 : w5.cell? ⟨w.heap.size + 1, 1, none⟩ = some (uv b.b.m) := Bb.cell 1
      have cb2 : w5.cell? ⟨w.heap.size + 1, 2, none⟩ = some (uv b.lo) := Bb.cell 2
      have cb3 : w5.cell? ⟨w.heap.size + 1, 3, none⟩ = some (uv b.hi) := Bb.cell 3
      have cb4 : w5.cell? ⟨w.heap.size + 1, 4, none⟩ = some (sv b.sl) := Bb.cell 4
      have cb5 : w5.cell? ⟨w.heap.size + 1, 5, none⟩ = some (sv b.sh) := Bb.cell 5
      have fb := Bb.frozen
      have lb := Bb.lt
      have cx0 : w5.cell? ⟨gx, 0, none⟩ = some (uv a.b.v) := Bx.cell 0
      have cx1 : w5.cell? ⟨gx, 1, none⟩ = some (uv a.b.m) := Bx.cell 1
      have cx2 : w5.cell? ⟨gx, 2, none⟩ = some (uv a.lo) := Bx.cell 2
      have cx3 : w5.cell? ⟨gx, 3, none⟩ = some (uv a.hi) := Bx.cell 3
      have cx4 : w5.cell? ⟨gx, 4, none⟩ = some (sv a.sl) := Bx.cell 4
      have cx5 : w5.cell? ⟨gx, 5, none⟩ = some (sv a.sh) := Bx.cell 5
      have fx := Bx.frozen
      have lx := Bx.lt
      have cy0 : w5.cell? ⟨gy, 0, none⟩ = some (uv b.b.v) := By.cell 0
      have cy1 : w5.cell? ⟨gy, 1, none⟩ = some (uv b.b.m) := By.cell 1
      have cy2 : w5.cell? ⟨gy, 2, none⟩ = some (uv b.lo) := By.cell 2
      have cy3 : w5.cell? ⟨gy, 3, none⟩ = some (uv b.hi) := By.cell 3
      have cy4 : w5.cell? ⟨gy, 4, none⟩ = some (sv b.sl) := By.cell 4
      have cy5 : w5.cell? ⟨gy, 5, none⟩ = some (sv b.sh) := By.cell 5
      have fy := By.frozen
      have ly := By.lt
      go_wp2_with fail
      go_roundg (gk - 1)
      case measure => omega
      case rel => exact ⟨j + 1, by omega, by omega, by go_num, hB, Ba, Bb, Bx, By⟩
theorem walkN_ScalarRaw (a b : Rng) (n : W) (w : World) : Calls Try.prog 6 #[rv a, rv b, .int .u64 (T n)] w fun e w' => e = .returned (.bool true) ∧ Below w.heap.size w w' := walk_ScalarRaw a b n w
namespace scalarRaw
set_option maxRecDepth 100000 in
theorem lifted (os : Os) (started : os.Started) (H : Type) (enc : TypeId × Value → H) :
    ReturnsInHanded {} Try.checked os 6 .any (Rows.scalarRawSpec.pre6 enc Try.prog Try.f6 Rows.scalarRawRow.domain false) (Rows.scalarRawSpec.post enc Try.prog Try.f6 false true false false) := by
  refine returnsInHanded_of_change (C := Try.checked) own started (by kernel_rfl) Try.func6
    (ChangeSpec.witness6 (enc := enc) (C := Try.checked) false ⟨#[], #[.agg #[.int .u64 0, .int .u64 0, .int .u64 0, .int .u64 0, .int .i64 0, .int .i64 0], .agg #[.int .u64 0, .int .u64 0, .int .u64 0, .int .u64 0, .int .i64 0, .int .i64 0], .int .u64 0], []⟩ 8 (by kernel_rfl) (by kernel_rfl) (by kernel_rfl) (by kernel_rfl)) ?_
  intro W base args ds gs before hval0 hW hcnd _
  have hval : ∀ (j : Nat) t v, Try.f6.params[j]? = some t → args[j]? = some v → Value.okWide Try.prog W .any base t v := hval0
  have hW' := hW
  obtain ⟨p, q, hA0, hV, rfl, hfz, hnd⟩ := hW
  have hA : DataW.TrodAll enc Try.prog W 0 (fun _ => true) true Try.f6.params.toList args.toList ds p := hA0
  rw [Try.params6] at hA hval
  obtain ⟨v0, vs0, d0, ds0, p0, q0, hargs, rfl, rfl, h0, r0⟩ := trodAll_cons hA
  obtain ⟨v1, vs1, d1, ds1, p1, q1, rfl, rfl, rfl, h1, r1⟩ := trodAll_cons r0
  obtain ⟨v2, vs2, d2, ds2, p2, q2, rfl, rfl, rfl, h2, r2⟩ := trodAll_cons r1
  obtain ⟨rfl, rfl, rfl⟩ := trodAll_nil r2
  obtain rfl : args = #[v0, v1, v2] := by cases args; simp_all
  obtain ⟨rfl, rfl⟩ := trodVars_none hV
  have lt0 : ∀ x ∈ p0, x.block < W.heap.size := by obtain ⟨m, hm⟩ := h0; exact DataW.trod_lt m _ _ _ hm
  obtain ⟨x0, rfl⟩ := open_rng Try.underlying24 Try.underlying2 (by rw [Try.underlying31]) (by kernel_rfl) (by kernel_rfl) (hval 0 31 v0 rfl rfl)
  have lt1 : ∀ x ∈ p1, x.block < W.heap.size := by obtain ⟨m, hm⟩ := h1; exact DataW.trod_lt m _ _ _ hm
  obtain ⟨x1, rfl⟩ := open_rng Try.underlying24 Try.underlying2 (by rw [Try.underlying31]) (by kernel_rfl) (by kernel_rfl) (hval 1 31 v1 rfl rfl)
  have lt2 : ∀ x ∈ p2, x.block < W.heap.size := by obtain ⟨m, hm⟩ := h2; exact DataW.trod_lt m _ _ _ hm
  obtain ⟨x2, rfl⟩ := open_u64 Try.underlying24 (hval 2 24 v2 rfl rfl)
  refine (walkN_ScalarRaw x0 x1 x2 W).mono fun e W' ⟨he, bel⟩ => ?_
  subst he
  exact ⟨_, rfl, _, _, _, [], _, [], hW', trodAll_mk1 (shut_bool Try.underlying4 _), (trodAll_cons_mk (Below.trod laidOut (by kernel_rfl) (of_decide_eq_true (by kernel_rfl)) h0 bel lt0) (trodAll_cons_mk (Below.trod laidOut (by kernel_rfl) (of_decide_eq_true (by kernel_rfl)) h1 bel lt1) (trodAll_cons_mk (Below.trod laidOut (by kernel_rfl) (of_decide_eq_true (by kernel_rfl)) h2 bel lt2) trodAll_mk0))), rfl, bel.frame _, fun h => by cases h⟩
theorem over : Rows.scalarRawRow.holds Try.pinned (OpenSpec.ofChange Rows.scalarRawSpec) :=
  OpenClaim.holds_of_wide 6 Try.f6 rfl rfl rfl rfl rfl rfl rfl ⟨rfl, rfl, rfl, rfl, rfl⟩ rfl rfl rfl rfl rfl (by kernel_rfl) Try.func6 (by kernel_rfl)
    (of_decide_eq_true (by kernel_rfl)) (by unfold Func.isWrapper; first | (rw [if_pos (by decide +kernel)]; kernel_rfl) | (rw [if_neg (by decide +kernel)]; exact ⟨rfl, rfl⟩))
    (fun os started H enc _ => lifted os started H enc)
/-- The given statement. -/
theorem proved : Rows.ScalarRawSaid := over
#print axioms proved
end scalarRaw
end Go.Proofs.Ytmghpoagpiljhac
