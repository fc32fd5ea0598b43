/- TnumHas: for all pairs of nums and of numbers the law returns true, and its arguments read as before. No condition. -/
import Derived.Test.YtmghpoagpiljhaaOpen
import Derived.Test.YtmghpoagpiljhaaLaw13
namespace Go.Proofs.Ytmghpoagpiljhaa
open Go.ChangeShapes Go.WideShapes Go.ChangeAt Go.RowKit
open PlainTnum (N)
set_option linter.unusedVariables false
set_option maxRecDepth 100000 in
set_option maxHeartbeats 3200000 in
theorem walk_TnumHas (a b : N) (n0 n1 : W) (w : World) : Calls Try.prog 9 #[nv a, nv b, .agg #[uv n0, uv n1]] w fun e w' => e = .returned (.bool true) ∧ Below w.heap.size w w' := by
  have hA := Lib.hid (PlainTnum.R_right a)
  have hBr := Lib.hid (PlainTnum.R_right b)
  have hp := Lib.hid (PlainTnum.has_pick (PlainTnum.R_right a) n0)
  have hq := Lib.hid (PlainTnum.has_pick (PlainTnum.R_right b) n1)
  go_enter Try.func9, Try.ntmps9
  go_wp2_with fail
  obtain ⟨ga, hga⟩ : ∃ g, g = w.heap.size := ⟨_, rfl⟩
  obtain ⟨gb, hgb⟩ : ∃ g, g = w.heap.size + 1 := ⟨_, rfl⟩
  obtain ⟨gn, hgn⟩ : ∃ g, g = w.heap.size + 1 + 1 := ⟨_, rfl⟩
  have Ba : Blk (((w.alloc (.cells #[uv a.v, uv a.m] 24)).alloc (.cells #[uv b.v, uv b.m] 24)).alloc (.cells #[uv n0, uv n1] 50)) (w.heap.size) 24 #[uv a.v, uv a.m] := (((Blk.new w 24 #[uv a.v, uv a.m])).alloc _).alloc _
  have Bb : Blk (((w.alloc (.cells #[uv a.v, uv a.m] 24)).alloc (.cells #[uv b.v, uv b.m] 24)).alloc (.cells #[uv n0, uv n1] 50)) (w.heap.size + 1) 24 #[uv b.v, uv b.m] := ((by simpa using Blk.new (w.alloc (.cells #[uv a.v, uv a.m] 24)) 24 #[uv b.v, uv b.m] : Blk _ (w.heap.size + 1) 24 #[uv b.v, uv b.m])).alloc _
  have Bn : Blk (((w.alloc (.cells #[uv a.v, uv a.m] 24)).alloc (.cells #[uv b.v, uv b.m] 24)).alloc (.cells #[uv n0, uv n1] 50)) (w.heap.size + 1 + 1) 50 #[uv n0, uv n1] := (by simpa using Blk.new ((w.alloc (.cells #[uv a.v, uv a.m] 24)).alloc (.cells #[uv b.v, uv b.m] 24)) 50 #[uv n0, uv n1] : Blk _ (w.heap.size + 1 + 1) 50 #[uv n0, uv n1])
  have hB : Below w.heap.size w (((w.alloc (.cells #[uv a.v, uv a.m] 24)).alloc (.cells #[uv b.v, uv b.m] 24)).alloc (.cells #[uv n0, uv n1] 50)) := (Bl_alloc (Bl_alloc (Bl_alloc (Bl_refl w) _) _) _)
  clear hga
  clear ga
  clear hgb
  clear gb
  clear hgn
  clear gn
  generalize (((w.alloc (.cells #[uv a.v, uv a.m] 24)).alloc (.cells #[uv b.v, uv b.m] 24)).alloc (.cells #[uv n0, uv n1] 50)) = w1 at *
  have ca0 : w1.cell? ⟨w.heap.size, 0, none⟩ = some (uv a.v) := Ba.cell 0
  have ca1 : w1.cell? ⟨w.heap.size, 1, none⟩ = some (uv a.m) := Ba.cell 1
  have fa := Ba.frozen
  have la := Ba.lt
  have cb0 : w1.cell? ⟨w.heap.size + 1, 0, none⟩ = some (uv b.v) := Bb.cell 0
  have cb1 : w1.cell? ⟨w.heap.size + 1, 1, none⟩ = some (uv b.m) := Bb.cell 1
  have fb := Bb.frozen
  have lb := Bb.lt
  have cn0 : w1.cell? ⟨w.heap.size + 1 + 1, 0, none⟩ = some (uv n0) := Bn.cell 0
  have cn1 : w1.cell? ⟨w.heap.size + 1 + 1, 1, none⟩ = some (uv n1) := Bn.cell 1
  have fn := Bn.frozen
  have ln := Bn.lt
  go_wp2_with fail
  replace ca0 : ∀ g : Later w1, g.w.cell? ⟨w.heap.size, 0, none⟩ = some (uv a.v) := fun g => g.cell (Ba.cell 0)
  replace ca1 : ∀ g : Later w1, g.w.cell? ⟨w.heap.size, 1, none⟩ = some (uv a.m) := fun g => g.cell (Ba.cell 1)
  replace cb0 : ∀ g : Later w1, g.w.cell? ⟨w.heap.size + 1, 0, none⟩ = some (uv b.v) := fun g => g.cell (Bb.cell 0)
  replace cb1 : ∀ g : Later w1, g.w.cell? ⟨w.heap.size + 1, 1, none⟩ = some (uv b.m) := fun g => g.cell (Bb.cell 1)
  replace cn0 : ∀ g : Later w1, g.w.cell? ⟨w.heap.size + 1 + 1, 0, none⟩ = some (uv n0) := fun g => g.cell (Bn.cell 0)
  replace cn1 : ∀ g : Later w1, g.w.cell? ⟨w.heap.size + 1 + 1, 1, none⟩ = some (uv n1) := fun g => g.cell (Bn.cell 1)
  refine wp_region_mix 4 (fun _ => #[]) (by kernel_rfl) (by kernel_rfl) (no_alloc (by kernel_rfl)) ?_
  simp only [List.take_succ_cons, List.take_zero, List.drop_succ_cons, List.drop_zero]
  repeat (refine wpMix_step (fun K hK => ?_); go_simp; first | (refine hK _ ?_; clear hK K) | (apply Exists.intro; refine ⟨fun g => ?_, hK _ ?_⟩; (go_at_call 13; exact rightl_c _ _); clear hK K))
  refine wpMix_nil ?_
  intro G w2 hgr hblk hdist
  have hb : Below w1.heap.size w1 w2 := hgr
  replace Ba := Ba.next hb
  replace Bb := Bb.next hb
  replace Bn := Bn.next hb
  clear ca0 ca1 fa la
  clear cb0 cb1 fb lb
  clear cn0 cn1 fn ln
  replace hB : Below w.heap.size w w2 := Bl_trans hB hb
  simp only [putAll, isAlloc]
  clear hb hgr hblk hdist
  have ca0 : w2.cell? ⟨w.heap.size, 0, none⟩ = some (uv a.v) := Ba.cell 0
  have ca1 : w2.cell? ⟨w.heap.size, 1, none⟩ = some (uv a.m) := Ba.cell 1
  have fa := Ba.frozen
  have la := Ba.lt
  have cb0 : w2.cell? ⟨w.heap.size + 1, 0, none⟩ = some (uv b.v) := Bb.cell 0
  have cb1 : w2.cell? ⟨w.heap.size + 1, 1, none⟩ = some (uv b.m) := Bb.cell 1
  have fb := Bb.frozen
  have lb := Bb.lt
  have cn0 : w2.cell? ⟨w.heap.size + 1 + 1, 0, none⟩ = some (uv n0) := Bn.cell 0
  have cn1 : w2.cell? ⟨w.heap.size + 1 + 1, 1, none⟩ = some (uv n1) := Bn.cell 1
  have fn := Bn.frozen
  have ln := Bn.lt
  go_wp2_with fail
  clear ca0 ca1 fa la
  clear cb0 cb1 fb lb
  clear cn0 cn1 fn ln
  replace Ba : Blk ((w2.setCell ⟨w.heap.size, 0, none⟩ (uv (PlainTnum.right a).v)).setCell ⟨w.heap.size, 1, none⟩ (uv (PlainTnum.right a).m)) (w.heap.size) 24 #[uv (PlainTnum.right a).v, uv (PlainTnum.right a).m] := ((Ba.set_ 0 _).set_ 1 _)
  replace Bb : Blk ((w2.setCell ⟨w.heap.size, 0, none⟩ (uv (PlainTnum.right a).v)).setCell ⟨w.heap.size, 1, none⟩ (uv (PlainTnum.right a).m)) (w.heap.size + 1) 24 #[uv b.v, uv b.m] := ((Bb.far (by first | (simp; done) | (simp; omega) | (simp [*]; done) | (simp only [ne_eq]; constructor <;> omega)) _).far (by first | (simp; done) | (simp; omega) | (simp [*]; done) | (simp only [ne_eq]; constructor <;> omega)) _)
  replace Bn : Blk ((w2.setCell ⟨w.heap.size, 0, none⟩ (uv (PlainTnum.right a).v)).setCell ⟨w.heap.size, 1, none⟩ (uv (PlainTnum.right a).m)) (w.heap.size + 1 + 1) 50 #[uv n0, uv n1] := ((Bn.far (by first | (simp; done) | (simp; omega) | (simp [*]; done) | (simp only [ne_eq]; constructor <;> omega)) _).far (by first | (simp; done) | (simp; omega) | (simp [*]; done) | (simp only [ne_eq]; constructor <;> omega)) _)
  replace hB : Below w.heap.size w ((w2.setCell ⟨w.heap.size, 0, none⟩ (uv (PlainTnum.right a).v)).setCell ⟨w.heap.size, 1, none⟩ (uv (PlainTnum.right a).m)) := (Bl_set (Bl_set hB (by first | omega | (simp; done) | (simp; omega)) _) (by first | omega | (simp; done) | (simp; omega)) _)
  replace Ba : Blk ((((w2.setCell ⟨w.heap.size, 0, none⟩ (uv (PlainTnum.right a).v)).setCell ⟨w.heap.size, 1, none⟩ (uv (PlainTnum.right a).m)).setCell ⟨w.heap.size + 1, 0, none⟩ (uv (PlainTnum.right b).v)).setCell ⟨w.heap.size + 1, 1, none⟩ (uv (PlainTnum.right b).m)) (w.heap.size) 24 #[uv (PlainTnum.right a).v, uv (PlainTnum.right a).m] := ((Ba.far (by first | (simp; done) | (simp; omega) | (simp [*]; done) | (simp only [ne_eq]; constructor <;> omega)) _).far (by first | (simp; done) | (simp; omega) | (simp [*]; done) | (simp only [ne_eq]; constructor <;> omega)) _)
  replace Bb : Blk ((((w2.setCell ⟨w.heap.size, 0, none⟩ (uv (PlainTnum.right a).v)).setCell ⟨w.heap.size, 1, none⟩ (uv (PlainTnum.right a).m)).setCell ⟨w.heap.size + 1, 0, none⟩ (uv (PlainTnum.right b).v)).setCell ⟨w.heap.size + 1, 1, none⟩ (uv (PlainTnum.right b).m)) (w.heap.size + 1) 24 #[uv (PlainTnum.right b).v, uv (PlainTnum.right b).m] := ((Bb.set_ 0 _).set_ 1 _)
  replace Bn : Blk ((((w2.setCell ⟨w.heap.size, 0, none⟩ (uv (PlainTnum.right a).v)).setCell ⟨w.heap.size, 1, none⟩ (uv (PlainTnum.right a).m)).setCell ⟨w.heap.size + 1, 0, none⟩ (uv (PlainTnum.right b).v)).setCell ⟨w.heap.size + 1, 1, none⟩ (uv (PlainTnum.right b).m)) (w.heap.size + 1 + 1) 50 #[uv n0, uv n1] := ((Bn.far (by first | (simp; done) | (simp; omega) | (simp [*]; done) | (simp only [ne_eq]; constructor <;> omega)) _).far (by first | (simp; done) | (simp; omega) | (simp [*]; done) | (simp only [ne_eq]; constructor <;> omega)) _)
  replace hB : Below w.heap.size w ((((w2.setCell ⟨w.heap.size, 0, none⟩ (uv (PlainTnum.right a).v)).setCell ⟨w.heap.size, 1, none⟩ (uv (PlainTnum.right a).m)).setCell ⟨w.heap.size + 1, 0, none⟩ (uv (PlainTnum.right b).v)).setCell ⟨w.heap.size + 1, 1, none⟩ (uv (PlainTnum.right b).m)) := (Bl_set (Bl_set hB (by first | omega | (simp; done) | (simp; omega)) _) (by first | omega | (simp; done) | (simp; omega)) _)
  generalize ((((w2.setCell ⟨w.heap.size, 0, none⟩ (uv (PlainTnum.right a).v)).setCell ⟨w.heap.size, 1, none⟩ (uv (PlainTnum.right a).m)).setCell ⟨w.heap.size + 1, 0, none⟩ (uv (PlainTnum.right b).v)).setCell ⟨w.heap.size + 1, 1, none⟩ (uv (PlainTnum.right b).m)) = w3 at *
  have ca0 : w3.cell? ⟨w.heap.size, 0, none⟩ = some (uv (PlainTnum.right a).v) := Ba.cell 0
  have ca1 : w3.cell? ⟨w.heap.size, 1, none⟩ = some (uv (PlainTnum.right a).m) := Ba.cell 1
  have fa := Ba.frozen
  have la := Ba.lt
  have cb0 : w3.cell? ⟨w.heap.size + 1, 0, none⟩ = some (uv (PlainTnum.right b).v) := Bb.cell 0
  have cb1 : w3.cell? ⟨w.heap.size + 1, 1, none⟩ = some (uv (PlainTnum.right b).m) := Bb.cell 1
  have fb := Bb.frozen
  have lb := Bb.lt
  have cn0 : w3.cell? ⟨w.heap.size + 1 + 1, 0, none⟩ = some (uv n0) := Bn.cell 0
  have cn1 : w3.cell? ⟨w.heap.size + 1 + 1, 1, none⟩ = some (uv n1) := Bn.cell 1
  have fn := Bn.frozen
  have ln := Bn.lt
  go_wp2_with fail
  replace ca0 : ∀ g : Later w3, g.w.cell? ⟨w.heap.size, 0, none⟩ = some (uv (PlainTnum.right a).v) := fun g => g.cell (Ba.cell 0)
  replace ca1 : ∀ g : Later w3, g.w.cell? ⟨w.heap.size, 1, none⟩ = some (uv (PlainTnum.right a).m) := fun g => g.cell (Ba.cell 1)
  replace cb0 : ∀ g : Later w3, g.w.cell? ⟨w.heap.size + 1, 0, none⟩ = some (uv (PlainTnum.right b).v) := fun g => g.cell (Bb.cell 0)
  replace cb1 : ∀ g : Later w3, g.w.cell? ⟨w.heap.size + 1, 1, none⟩ = some (uv (PlainTnum.right b).m) := fun g => g.cell (Bb.cell 1)
  replace cn0 : ∀ g : Later w3, g.w.cell? ⟨w.heap.size + 1 + 1, 0, none⟩ = some (uv n0) := fun g => g.cell (Bn.cell 0)
  replace cn1 : ∀ g : Later w3, g.w.cell? ⟨w.heap.size + 1 + 1, 1, none⟩ = some (uv n1) := fun g => g.cell (Bn.cell 1)
  refine wp_region_mix 6 (fun _ => #[.int .u64 0, .int .u64 0]) (by kernel_rfl) (by kernel_rfl) (fun o t ho ht => by
    simp at ho
    rcases ho with rfl | rfl | rfl | rfl | rfl | rfl <;> first | (cases ht; done) | (obtain rfl := Option.some.inj ht; exact fun ρ w => new_num ht ρ w)) ?_
  simp only [List.take_succ_cons, List.take_zero, List.drop_succ_cons, List.drop_zero]
  repeat (refine wpMix_step (fun K hK => ?_); go_simp; first | (refine hK _ ?_; clear hK K) | (apply Exists.intro; refine ⟨fun g => ?_, hK _ ?_⟩; (go_at_call 14; exact to_c _ _); clear hK K))
  refine wpMix_nil ?_
  intro G w4 hgr hblk hdist
  have hb : Below w3.heap.size w3 w4 := hgr
  replace Ba := Ba.next hb
  replace Bb := Bb.next hb
  replace Bn := Bn.next hb
  obtain ⟨Bx, hlx⟩ := hblk 4 _ rfl
  obtain ⟨By, hly⟩ := hblk 5 _ rfl
  have hdxy := hdist 4 5 _ _ rfl rfl (by decide)
  have hgx : w.heap.size ≤ G 4 := Nat.le_trans hB.size hlx
  have hnax : w.heap.size ≠ G 4 := Nat.ne_of_lt (Nat.lt_of_lt_of_le la hlx)
  have hnbx : w.heap.size + 1 ≠ G 4 := Nat.ne_of_lt (Nat.lt_of_lt_of_le lb hlx)
  have hnnx : w.heap.size + 1 + 1 ≠ G 4 := Nat.ne_of_lt (Nat.lt_of_lt_of_le ln hlx)
  clear hlx
  have hgy : w.heap.size ≤ G 5 := Nat.le_trans hB.size hly
  have hnay : w.heap.size ≠ G 5 := Nat.ne_of_lt (Nat.lt_of_lt_of_le la hly)
  have hnby : w.heap.size + 1 ≠ G 5 := Nat.ne_of_lt (Nat.lt_of_lt_of_le lb hly)
  have hnny : w.heap.size + 1 + 1 ≠ G 5 := Nat.ne_of_lt (Nat.lt_of_lt_of_le ln hly)
  clear hly
  clear ca0 ca1 fa la
  clear cb0 cb1 fb lb
  clear cn0 cn1 fn ln
  replace hB : Below w.heap.size w w4 := Bl_trans hB hb
  simp only [putAll, isAlloc, Act.put]
  generalize G 4 = gx at *
  generalize G 5 = gy at *
  clear hb hgr hblk hdist
  have ca0 : w4.cell? ⟨w.heap.size, 0, none⟩ = some (uv (PlainTnum.right a).v) := Ba.cell 0
  have ca1 : w4.cell? ⟨w.heap.size, 1, none⟩ = some (uv (PlainTnum.right a).m) := Ba.cell 1
  have fa := Ba.frozen
  have la := Ba.lt
  have cb0 : w4.cell? ⟨w.heap.size + 1, 0, none⟩ = some (uv (PlainTnum.right b).v) := Bb.cell 0
  have cb1 : w4.cell? ⟨w.heap.size + 1, 1, none⟩ = some (uv (PlainTnum.right b).m) := Bb.cell 1
  have fb := Bb.frozen
  have lb := Bb.lt
  have cn0 : w4.cell? ⟨w.heap.size + 1 + 1, 0, none⟩ = some (uv n0) := Bn.cell 0
  have cn1 : w4.cell? ⟨w.heap.size + 1 + 1, 1, none⟩ = some (uv n1) := Bn.cell 1
  have fn := Bn.frozen
  have ln := Bn.lt
  have cx0 : w4.cell? ⟨gx, 0, none⟩ = some (.int .u64 0) := Bx.cell 0
  have cx1 : w4.cell? ⟨gx, 1, none⟩ = some (.int .u64 0) := Bx.cell 1
  have fx := Bx.frozen
  have lx := Bx.lt
  have cy0 : w4.cell? ⟨gy, 0, none⟩ = some (.int .u64 0) := By.cell 0
  have cy1 : w4.cell? ⟨gy, 1, none⟩ = some (.int .u64 0) := By.cell 1
  have fy := By.frozen
  have ly := By.lt
  go_wp2_with fail
  clear ca0 ca1 fa la
  clear cb0 cb1 fb lb
  clear cn0 cn1 fn ln
  clear cx0 cx1 fx lx
  clear cy0 cy1 fy ly
  replace Ba : Blk ((w4.setCell ⟨gx, 0, none⟩ (uv (PlainTnum.right a).v)).setCell ⟨gx, 1, none⟩ (uv (PlainTnum.right a).m)) (w.heap.size) 24 #[uv (PlainTnum.right a).v, uv (PlainTnum.right a).m] := ((Ba.far (by first | (simp; done) | (simp; omega) | (simp [*]; done) | (simp only [ne_eq]; constructor <;> omega)) _).far (by first | (simp; done) | (simp; omega) | (simp [*]; done) | (simp only [ne_eq]; constructor <;> omega)) _)
  replace Bb : Blk ((w4.setCell ⟨gx, 0, none⟩ (uv (PlainTnum.right a).v)).setCell ⟨gx, 1, none⟩ (uv (PlainTnum.right a).m)) (w.heap.size + 1) 24 #[uv (PlainTnum.right b).v, uv (PlainTnum.right b).m] := ((Bb.far (by first | (simp; done) | (simp; omega) | (simp [*]; done) | (simp only [ne_eq]; constructor <;> omega)) _).far (by first | (simp; done) | (simp; omega) | (simp [*]; done) | (simp only [ne_eq]; constructor <;> omega)) _)
  replace Bn : Blk ((w4.setCell ⟨gx, 0, none⟩ (uv (PlainTnum.right a).v)).setCell ⟨gx, 1, none⟩ (uv (PlainTnum.right a).m)) (w.heap.size + 1 + 1) 50 #[uv n0, uv n1] := ((Bn.far (by first | (simp; done) | (simp; omega) | (simp [*]; done) | (simp only [ne_eq]; constructor <;> omega)) _).far (by first | (simp; done) | (simp; omega) | (simp [*]; done) | (simp only [ne_eq]; constructor <;> omega)) _)
  replace Bx : Blk ((w4.setCell ⟨gx, 0, none⟩ (uv (PlainTnum.right a).v)).setCell ⟨gx, 1, none⟩ (uv (PlainTnum.right a).m)) (gx) 27 #[uv (PlainTnum.right a).v, uv (PlainTnum.right a).m] := ((Bx.set_ 0 _).set_ 1 _)
  replace By : Blk ((w4.setCell ⟨gx, 0, none⟩ (uv (PlainTnum.right a).v)).setCell ⟨gx, 1, none⟩ (uv (PlainTnum.right a).m)) (gy) 27 #[.int .u64 0, .int .u64 0] := ((By.far (by first | (simp; done) | (simp; omega) | (simp [*]; done) | (simp only [ne_eq]; constructor <;> omega)) _).far (by first | (simp; done) | (simp; omega) | (simp [*]; done) | (simp only [ne_eq]; constructor <;> omega)) _)
  replace hB : Below w.heap.size w ((w4.setCell ⟨gx, 0, none⟩ (uv (PlainTnum.right a).v)).setCell ⟨gx, 1, none⟩ (uv (PlainTnum.right a).m)) := (Bl_set (Bl_set hB (by first | omega | (simp; done) | (simp; omega)) _) (by first | omega | (simp; done) | (simp; omega)) _)
  replace Ba : Blk ((((w4.setCell ⟨gx, 0, none⟩ (uv (PlainTnum.right a).v)).setCell ⟨gx, 1, none⟩ (uv (PlainTnum.right a).m)).setCell ⟨gy, 0, none⟩ (uv (PlainTnum.right b).v)).setCell ⟨gy, 1, none⟩ (uv (PlainTnum.right b).m)) (w.heap.size) 24 #[uv (PlainTnum.right a).v, uv (PlainTnum.right a).m] := ((Ba.far (by first | (simp; done) | (simp; omega) | (simp [*]; done) | (simp only [ne_eq]; constructor <;> omega)) _).far (by first | (simp; done) | (simp; omega) | (simp [*]; done) | (simp only [ne_eq]; constructor <;> omega)) _)
  replace Bb : Blk ((((w4.setCell ⟨gx, 0, none⟩ (uv (PlainTnum.right a).v)).setCell ⟨gx, 1, none⟩ (uv (PlainTnum.right a).m)).setCell ⟨gy, 0, none⟩ (uv (PlainTnum.right b).v)).setCell ⟨gy, 1, none⟩ (uv (PlainTnum.right b).m)) (w.heap.size + 1) 24 #[uv (PlainTnum.right b).v, uv (PlainTnum.right b).m] := ((Bb.far (by first | (simp; done) | (simp; omega) | (simp [*]; done) | (simp only [ne_eq]; constructor <;> omega)) _).far (by first | (simp; done) | (simp; omega) | (simp [*]; done) | (simp only [ne_eq]; constructor <;> omega)) _)
  replace Bn : Blk ((((w4.setCell ⟨gx, 0, none⟩ (uv (PlainTnum.right a).v)).setCell ⟨gx, 1, none⟩ (uv (PlainTnum.right a).m)).setCell ⟨gy, 0, none⟩ (uv (PlainTnum.right b).v)).setCell ⟨gy, 1, none⟩ (uv (PlainTnum.right b).m)) (w.heap.size + 1 + 1) 50 #[uv n0, uv n1] := ((Bn.far (by first | (simp; done) | (simp; omega) | (simp [*]; done) | (simp only [ne_eq]; constructor <;> omega)) _).far (by first | (simp; done) | (simp; omega) | (simp [*]; done) | (simp only [ne_eq]; constructor <;> omega)) _)
  replace Bx : Blk ((((w4.setCell ⟨gx, 0, none⟩ (uv (PlainTnum.right a).v)).setCell ⟨gx, 1, none⟩ (uv (PlainTnum.right a).m)).setCell ⟨gy, 0, none⟩ (uv (PlainTnum.right b).v)).setCell ⟨gy, 1, none⟩ (uv (PlainTnum.right b).m)) (gx) 27 #[uv (PlainTnum.right a).v, uv (PlainTnum.right a).m] := ((Bx.far (by first | (simp; done) | (simp; omega) | (simp [*]; done) | (simp only [ne_eq]; constructor <;> omega)) _).far (by first | (simp; done) | (simp; omega) | (simp [*]; done) | (simp only [ne_eq]; constructor <;> omega)) _)
  replace By : Blk ((((w4.setCell ⟨gx, 0, none⟩ (uv (PlainTnum.right a).v)).setCell ⟨gx, 1, none⟩ (uv (PlainTnum.right a).m)).setCell ⟨gy, 0, none⟩ (uv (PlainTnum.right b).v)).setCell ⟨gy, 1, none⟩ (uv (PlainTnum.right b).m)) (gy) 27 #[uv (PlainTnum.right b).v, uv (PlainTnum.right b).m] := ((By.set_ 0 _).set_ 1 _)
  replace hB : Below w.heap.size w ((((w4.setCell ⟨gx, 0, none⟩ (uv (PlainTnum.right a).v)).setCell ⟨gx, 1, none⟩ (uv (PlainTnum.right a).m)).setCell ⟨gy, 0, none⟩ (uv (PlainTnum.right b).v)).setCell ⟨gy, 1, none⟩ (uv (PlainTnum.right b).m)) := (Bl_set (Bl_set hB (by first | omega | (simp; done) | (simp; omega)) _) (by first | omega | (simp; done) | (simp; omega)) _)
  generalize ((((w4.setCell ⟨gx, 0, none⟩ (uv (PlainTnum.right a).v)).setCell ⟨gx, 1, none⟩ (uv (PlainTnum.right a).m)).setCell ⟨gy, 0, none⟩ (uv (PlainTnum.right b).v)).setCell ⟨gy, 1, none⟩ (uv (PlainTnum.right b).m)) = w5 at *
  have ca0 : w5.cell? ⟨w.heap.size, 0, none⟩ = some (uv (PlainTnum.right a).v) := Ba.cell 0
  have ca1 : w5.cell? ⟨w.heap.size, 1, none⟩ = some (uv (PlainTnum.right a).m) := Ba.cell 1
  have fa := Ba.frozen
  have la := Ba.lt
  have cb0 : w5.cell? ⟨w.heap.size + 1, 0, none⟩ = some (uv (PlainTnum.right b).v) := Bb.cell 0
  have cb1 : w5.cell? ⟨w.heap.size + 1, 1, none⟩ = some (uv (PlainTnum.right b).m) := Bb.cell 1
  have fb := Bb.frozen
  have lb := Bb.lt
  have cn0 : w5.cell? ⟨w.heap.size + 1 + 1, 0, none⟩ = some (uv n0) := Bn.cell 0
  have cn1 : w5.cell? ⟨w.heap.size + 1 + 1, 1, none⟩ = some (uv n1) := Bn.cell 1
  have fn := Bn.frozen
  have ln := Bn.lt
  have cx0 : w5.cell? ⟨gx, 0, none⟩ = some (uv (PlainTnum.right a).v) := Bx.cell 0
  have cx1 : w5.cell? ⟨gx, 1, none⟩ = some (uv (PlainTnum.right a).m) := Bx.cell 1
  have fx := Bx.frozen
  have lx := Bx.lt
  have cy0 : w5.cell? ⟨gy, 0, none⟩ = some (uv (PlainTnum.right b).v) := By.cell 0
  have cy1 : w5.cell? ⟨gy, 1, none⟩ = some (uv (PlainTnum.right b).m) := By.cell 1
  have fy := By.frozen
  have ly := By.lt
  go_wp2_with fail
  replace ca0 : ∀ g : Later w5, g.w.cell? ⟨w.heap.size, 0, none⟩ = some (uv (PlainTnum.right a).v) := fun g => g.cell (Ba.cell 0)
  replace ca1 : ∀ g : Later w5, g.w.cell? ⟨w.heap.size, 1, none⟩ = some (uv (PlainTnum.right a).m) := fun g => g.cell (Ba.cell 1)
  replace cb0 : ∀ g : Later w5, g.w.cell? ⟨w.heap.size + 1, 0, none⟩ = some (uv (PlainTnum.right b).v) := fun g => g.cell (Bb.cell 0)
  replace cb1 : ∀ g : Later w5, g.w.cell? ⟨w.heap.size + 1, 1, none⟩ = some (uv (PlainTnum.right b).m) := fun g => g.cell (Bb.cell 1)
  replace cn0 : ∀ g : Later w5, g.w.cell? ⟨w.heap.size + 1 + 1, 0, none⟩ = some (uv n0) := fun g => g.cell (Bn.cell 0)
  replace cn1 : ∀ g : Later w5, g.w.cell? ⟨w.heap.size + 1 + 1, 1, none⟩ = some (uv n1) := fun g => g.cell (Bn.cell 1)
  replace cx0 : ∀ g : Later w5, g.w.cell? ⟨gx, 0, none⟩ = some (uv (PlainTnum.right a).v) := fun g => g.cell (Bx.cell 0)
  replace cx1 : ∀ g : Later w5, g.w.cell? ⟨gx, 1, none⟩ = some (uv (PlainTnum.right a).m) := fun g => g.cell (Bx.cell 1)
  replace cy0 : ∀ g : Later w5, g.w.cell? ⟨gy, 0, none⟩ = some (uv (PlainTnum.right b).v) := fun g => g.cell (By.cell 0)
  replace cy1 : ∀ g : Later w5, g.w.cell? ⟨gy, 1, none⟩ = some (uv (PlainTnum.right b).m) := fun g => g.cell (By.cell 1)
  refine wp_region_mix 10 (fun _ => #[]) (by kernel_rfl) (by kernel_rfl) (no_alloc (by kernel_rfl)) ?_
  simp only [List.take_succ_cons, List.take_zero, List.drop_succ_cons, List.drop_zero]
  repeat (refine wpMix_step (fun K hK => ?_); go_simp; first | (refine hK _ ?_; clear hK K) | (apply Exists.intro; refine ⟨fun g => ?_, hK _ ?_⟩; (go_at_call 32; exact pick_c _ _ _); clear hK K))
  refine wpMix_nil ?_
  intro G w6 hgr hblk hdist
  have hb : Below w5.heap.size w5 w6 := hgr
  replace Ba := Ba.next hb
  replace Bb := Bb.next hb
  replace Bn := Bn.next hb
  replace Bx := Bx.next hb
  replace By := By.next hb
  clear ca0 ca1 fa la
  clear cb0 cb1 fb lb
  clear cn0 cn1 fn ln
  clear cx0 cx1 fx lx
  clear cy0 cy1 fy ly
  replace hB : Below w.heap.size w w6 := Bl_trans hB hb
  simp only [putAll, isAlloc]
  clear hb hgr hblk hdist
  have ca0 : w6.cell? ⟨w.heap.size, 0, none⟩ = some (uv (PlainTnum.right a).v) := Ba.cell 0
  have ca1 : w6.cell? ⟨w.heap.size, 1, none⟩ = some (uv (PlainTnum.right a).m) := Ba.cell 1
  have fa := Ba.frozen
  have la := Ba.lt
  have cb0 : w6.cell? ⟨w.heap.size + 1, 0, none⟩ = some (uv (PlainTnum.right b).v) := Bb.cell 0
  have cb1 : w6.cell? ⟨w.heap.size + 1, 1, none⟩ = some (uv (PlainTnum.right b).m) := Bb.cell 1
  have fb := Bb.frozen
  have lb := Bb.lt
  have cn0 : w6.cell? ⟨w.heap.size + 1 + 1, 0, none⟩ = some (uv n0) := Bn.cell 0
  have cn1 : w6.cell? ⟨w.heap.size + 1 + 1, 1, none⟩ = some (uv n1) := Bn.cell 1
  have fn := Bn.frozen
  have ln := Bn.lt
  have cx0 : w6.cell? ⟨gx, 0, none⟩ = some (uv (PlainTnum.right a).v) := Bx.cell 0
  have cx1 : w6.cell? ⟨gx, 1, none⟩ = some (uv (PlainTnum.right a).m) := Bx.cell 1
  have fx := Bx.frozen
  have lx := Bx.lt
  have cy0 : w6.cell? ⟨gy, 0, none⟩ = some (uv (PlainTnum.right b).v) := By.cell 0
  have cy1 : w6.cell? ⟨gy, 1, none⟩ = some (uv (PlainTnum.right b).m) := By.cell 1
  have fy := By.frozen
  have ly := By.lt
  go_wp2_with fail
  refine (knows_c _).mono ?_
  rintro e w7 ⟨rfl, hb⟩
  clear ca0 ca1 fa la
  clear cb0 cb1 fb lb
  clear cn0 cn1 fn ln
  clear cx0 cx1 fx lx
  clear cy0 cy1 fy ly
  replace Ba := (Ba).next hb
  replace Bb := (Bb).next hb
  replace Bn := (Bn).next hb
  replace Bx := (Bx).next hb
  replace By := (By).next hb
  replace hB : Below w.heap.size w w7 := by repeat (first | exact hB | (refine Bl_set ?_ (by first | omega | (simp; omega)) _) | apply Bl_alloc | (refine Bl_trans ?_ hb))
  clear hb
  have ca0 : w7.cell? ⟨w.heap.size, 0, none⟩ = some (uv (PlainTnum.right a).v) := Ba.cell 0
  have ca1 : w7.cell? ⟨w.heap.size, 1, none⟩ = some (uv (PlainTnum.right a).m) := Ba.cell 1
  have fa := Ba.frozen
  have la := Ba.lt
  have cb0 : w7.cell? ⟨w.heap.size + 1, 0, none⟩ = some (uv (PlainTnum.right b).v) := Bb.cell 0
  have cb1 : w7.cell? ⟨w.heap.size + 1, 1, none⟩ = some (uv (PlainTnum.right b).m) := Bb.cell 1
  have fb := Bb.frozen
  have lb := Bb.lt
  have cn0 : w7.cell? ⟨w.heap.size + 1 + 1, 0, none⟩ = some (uv n0) := Bn.cell 0
  have cn1 : w7.cell? ⟨w.heap.size + 1 + 1, 1, none⟩ = some (uv n1) := Bn.cell 1
  have fn := Bn.frozen
  have ln := Bn.lt
  have cx0 : w7.cell? ⟨gx, 0, none⟩ = some (uv (PlainTnum.right a).v) := Bx.cell 0
  have cx1 : w7.cell? ⟨gx, 1, none⟩ = some (uv (PlainTnum.right a).m) := Bx.cell 1
  have fx := Bx.frozen
  have lx := Bx.lt
  have cy0 : w7.cell? ⟨gy, 0, none⟩ = some (uv (PlainTnum.right b).v) := By.cell 0
  have cy1 : w7.cell? ⟨gy, 1, none⟩ = some (uv (PlainTnum.right b).m) := By.cell 1
  have fy := By.frozen
  have ly := By.lt
  go_wp2_with fail
  refine (hast_c _ _ (by with_reducible first | exact hp.out | exact PlainTnum.has_add hBr.out hp.out hq.out | exact PlainTnum.has_sub hp.out hq.out | exact PlainTnum.has_mul hp.out hq.out | exact PlainTnum.has_and hp.out hq.out | exact PlainTnum.has_or hp.out hq.out | exact PlainTnum.has_xor hp.out hq.out | exact PlainTnum.has_join_l hA.out hp.out | exact PlainTnum.has_join_r hBr.out hq.out) _).mono ?_
  rintro e w8 ⟨rfl, hb⟩
  clear ca0 ca1 fa la
  clear cb0 cb1 fb lb
  clear cn0 cn1 fn ln
  clear cx0 cx1 fx lx
  clear cy0 cy1 fy ly
  replace Ba := (Ba).next hb
  replace Bb := (Bb).next hb
  replace Bn := (Bn).next hb
  replace Bx := (Bx).next hb
  replace By := (By).next hb
  replace hB : Below w.heap.size w w8 := by repeat (first | exact hB | (refine Bl_set ?_ (by first | omega | (simp; omega)) _) | apply Bl_alloc | (refine Bl_trans ?_ hb))
  clear hb
  have ca0 : w8.cell? ⟨w.heap.size, 0, none⟩ = some (uv (PlainTnum.right a).v) := Ba.cell 0
  have ca1 : w8.cell? ⟨w.heap.size, 1, none⟩ = some (uv (PlainTnum.right a).m) := Ba.cell 1
  have fa := Ba.frozen
  have la := Ba.lt
  have cb0 : w8.cell? ⟨w.heap.size + 1, 0, none⟩ = some (uv (PlainTnum.right b).v) := Bb.cell 0
  have cb1 : w8.cell? ⟨w.heap.size + 1, 1, none⟩ = some (uv (PlainTnum.right b).m) := Bb.cell 1
  have fb := Bb.frozen
  have lb := Bb.lt
  have cn0 : w8.cell? ⟨w.heap.size + 1 + 1, 0, none⟩ = some (uv n0) := Bn.cell 0
  have cn1 : w8.cell? ⟨w.heap.size + 1 + 1, 1, none⟩ = some (uv n1) := Bn.cell 1
  have fn := Bn.frozen
  have ln := Bn.lt
  have cx0 : w8.cell? ⟨gx, 0, none⟩ = some (uv (PlainTnum.right a).v) := Bx.cell 0
  have cx1 : w8.cell? ⟨gx, 1, none⟩ = some (uv (PlainTnum.right a).m) := Bx.cell 1
  have fx := Bx.frozen
  have lx := Bx.lt
  have cy0 : w8.cell? ⟨gy, 0, none⟩ = some (uv (PlainTnum.right b).v) := By.cell 0
  have cy1 : w8.cell? ⟨gy, 1, none⟩ = some (uv (PlainTnum.right b).m) := By.cell 1
  have fy := By.frozen
  have ly := By.lt
  go_wp2_with fail
  refine (add_c _ _ _).mono ?_
  rintro e w9 ⟨rfl, hb⟩
  clear ca0 ca1 fa la
  clear cb0 cb1 fb lb
  clear cn0 cn1 fn ln
  clear cx0 cx1 fx lx
  clear cy0 cy1 fy ly
  replace Ba := (Ba).next hb
  replace Bb := (Bb).next hb
  replace Bn := (Bn).next hb
  replace Bx := (Bx).next hb
  replace By := (By).next hb
  replace hB : Below w.heap.size w w9 := by repeat (first | exact hB | (refine Bl_set ?_ (by first | omega | (simp; omega)) _) | apply Bl_alloc | (refine Bl_trans ?_ hb))
  clear hb
  have ca0 : w9.cell? ⟨w.heap.size, 0, none⟩ = some (uv (PlainTnum.right a).v) := Ba.cell 0
  have ca1 : w9.cell? ⟨w.heap.size, 1, none⟩ = some (uv (PlainTnum.right a).m) := Ba.cell 1
  have fa := Ba.frozen
  have la := Ba.lt
  have cb0 : w9.cell? ⟨w.heap.size + 1, 0, none⟩ = some (uv (PlainTnum.right b).v) := Bb.cell 0
  have cb1 : w9.cell? ⟨w.heap.size + 1, 1, none⟩ = some (uv (PlainTnum.right b).m) := Bb.cell 1
  have fb := Bb.frozen
  have lb := Bb.lt
  have cn0 : w9.cell? ⟨w.heap.size + 1 + 1, 0, none⟩ = some (uv n0) := Bn.cell 0
  have cn1 : w9.cell? ⟨w.heap.size + 1 + 1, 1, none⟩ = some (uv n1) := Bn.cell 1
  have fn := Bn.frozen
  have ln := Bn.lt
  have cx0 : w9.cell? ⟨gx, 0, none⟩ = some (uv (PlainTnum.right a).v) := Bx.cell 0
  have cx1 : w9.cell? ⟨gx, 1, none⟩ = some (uv (PlainTnum.right a).m) := Bx.cell 1
  have fx := Bx.frozen
  have lx := Bx.lt
  have cy0 : w9.cell? ⟨gy, 0, none⟩ = some (uv (PlainTnum.right b).v) := By.cell 0
  have cy1 : w9.cell? ⟨gy, 1, none⟩ = some (uv (PlainTnum.right b).m) := By.cell 1
  have fy := By.frozen
  have ly := By.lt
  go_wp2_with fail
  refine (hast_c _ _ (by with_reducible first | exact hp.out | exact PlainTnum.has_add hBr.out hp.out hq.out | exact PlainTnum.has_sub hp.out hq.out | exact PlainTnum.has_mul hp.out hq.out | exact PlainTnum.has_and hp.out hq.out | exact PlainTnum.has_or hp.out hq.out | exact PlainTnum.has_xor hp.out hq.out | exact PlainTnum.has_join_l hA.out hp.out | exact PlainTnum.has_join_r hBr.out hq.out) _).mono ?_
  rintro e w10 ⟨rfl, hb⟩
  clear ca0 ca1 fa la
  clear cb0 cb1 fb lb
  clear cn0 cn1 fn ln
  clear cx0 cx1 fx lx
  clear cy0 cy1 fy ly
  replace Ba := (Ba).next hb
  replace Bb := (Bb).next hb
  replace Bn := (Bn).next hb
  replace Bx := (Bx).next hb
  replace By := (By).next hb
  replace hB : Below w.heap.size w w10 := by repeat (first | exact hB | (refine Bl_set ?_ (by first | omega | (simp; omega)) _) | apply Bl_alloc | (refine Bl_trans ?_ hb))
  clear hb
  have ca0 : w10.cell? ⟨w.heap.size, 0, none⟩ = some (uv (PlainTnum.right a).v) := Ba.cell 0
  have ca1 : w10.cell? ⟨w.heap.size, 1, none⟩ = some (uv (PlainTnum.right a).m) := Ba.cell 1
  have fa := Ba.frozen
  have la := Ba.lt
  have cb0 : w10.cell? ⟨w.heap.size + 1, 0, none⟩ = some (uv (PlainTnum.right b).v) := Bb.cell 0
  have cb1 : w10.cell? ⟨w.heap.size + 1, 1, none⟩ = some (uv (PlainTnum.right b).m) := Bb.cell 1
  have fb := Bb.frozen
  have lb := Bb.lt
  have cn0 : w10.cell? ⟨w.heap.size + 1 + 1, 0, none⟩ = some (uv n0) := Bn.cell 0
  have cn1 : w10.cell? ⟨w.heap.size + 1 + 1, 1, none⟩ = some (uv n1) := Bn.cell 1
  have fn := Bn.frozen
  have ln := Bn.lt
  have cx0 : w10.cell? ⟨gx, 0, none⟩ = some (uv (PlainTnum.right a).v) := Bx.cell 0
  have cx1 : w10.cell? ⟨gx, 1, none⟩ = some (uv (PlainTnum.right a).m) := Bx.cell 1
  have fx := Bx.frozen
  have lx := Bx.lt
  have cy0 : w10.cell? ⟨gy, 0, none⟩ = some (uv (PlainTnum.right b).v) := By.cell 0
  have cy1 : w10.cell? ⟨gy, 1, none⟩ = some (uv (PlainTnum.right b).m) := By.cell 1
  have fy := By.frozen
  have ly := By.lt
  go_wp2_with fail
  refine (sub_c _ _ _).mono ?_
  rintro e w11 ⟨rfl, hb⟩
  clear ca0 ca1 fa la
  clear cb0 cb1 fb lb
  clear cn0 cn1 fn ln
  clear cx0 cx1 fx lx
  clear cy0 cy1 fy ly
  replace Ba := (Ba).next hb
  replace Bb := (Bb).next hb
  replace Bn := (Bn).next hb
  replace Bx := (Bx).next hb
  replace By := (By).next hb
  replace hB : Below w.heap.size w w11 := by repeat (first | exact hB | (refine Bl_set ?_ (by first | omega | (simp; omega)) _) | apply Bl_alloc | (refine Bl_trans ?_ hb))
  clear hb
  have ca0 : w11.cell? ⟨w.heap.size, 0, none⟩ = some (uv (PlainTnum.right a).v) := Ba.cell 0
  have ca1 : w11.cell? ⟨w.heap.size, 1, none⟩ = some (uv (PlainTnum.right a).m) := Ba.cell 1
  have fa := Ba.frozen
  have la := Ba.lt
  have cb0 : w11.cell? ⟨w.heap.size + 1, 0, none⟩ = some (uv (PlainTnum.right b).v) := Bb.cell 0
  have cb1 : w11.cell? ⟨w.heap.size + 1, 1, none⟩ = some (uv (PlainTnum.right b).m) := Bb.cell 1
  have fb := Bb.frozen
  have lb := Bb.lt
  have cn0 : w11.cell? ⟨w.heap.size + 1 + 1, 0, none⟩ = some (uv n0) := Bn.cell 0
  have cn1 : w11.cell? ⟨w.heap.size + 1 + 1, 1, none⟩ = some (uv n1) := Bn.cell 1
  have fn := Bn.frozen
  have ln := Bn.lt
  have cx0 : w11.cell? ⟨gx, 0, none⟩ = some (uv (PlainTnum.right a).v) := Bx.cell 0
  have cx1 : w11.cell? ⟨gx, 1, none⟩ = some (uv (PlainTnum.right a).m) := Bx.cell 1
  have fx := Bx.frozen
  have lx := Bx.lt
  have cy0 : w11.cell? ⟨gy, 0, none⟩ = some (uv (PlainTnum.right b).v) := By.cell 0
  have cy1 : w11.cell? ⟨gy, 1, none⟩ = some (uv (PlainTnum.right b).m) := By.cell 1
  have fy := By.frozen
  have ly := By.lt
  go_wp2_with fail
  refine (hast_c _ _ (by with_reducible first | exact hp.out | exact PlainTnum.has_add hBr.out hp.out hq.out | exact PlainTnum.has_sub hp.out hq.out | exact PlainTnum.has_mul hp.out hq.out | exact PlainTnum.has_and hp.out hq.out | exact PlainTnum.has_or hp.out hq.out | exact PlainTnum.has_xor hp.out hq.out | exact PlainTnum.has_join_l hA.out hp.out | exact PlainTnum.has_join_r hBr.out hq.out) _).mono ?_
  rintro e w12 ⟨rfl, hb⟩
  clear ca0 ca1 fa la
  clear cb0 cb1 fb lb
  clear cn0 cn1 fn ln
  clear cx0 cx1 fx lx
  clear cy0 cy1 fy ly
  replace Ba := (Ba).next hb
  replace Bb := (Bb).next hb
  replace Bn := (Bn).next hb
  replace Bx := (Bx).next hb
  replace By := (By).next hb
  replace hB : Below w.heap.size w w12 := by repeat (first | exact hB | (refine Bl_set ?_ (by first | omega | (simp; omega)) _) | apply Bl_alloc | (refine Bl_trans ?_ hb))
  clear hb
  have ca0 : w12.cell? ⟨w.heap.size, 0, none⟩ = some (uv (PlainTnum.right a).v) := Ba.cell 0
  have ca1 : w12.cell? ⟨w.heap.size, 1, none⟩ = some (uv (PlainTnum.right a).m) := Ba.cell 1
  have fa := Ba.frozen
  have la := Ba.lt
  have cb0 : w12.cell? ⟨w.heap.size + 1, 0, none⟩ = some (uv (PlainTnum.right b).v) := Bb.cell 0
  have cb1 : w12.cell? ⟨w.heap.size + 1, 1, none⟩ = some (uv (PlainTnum.right b).m) := Bb.cell 1
  have fb := Bb.frozen
  have lb := Bb.lt
  have cn0 : w12.cell? ⟨w.heap.size + 1 + 1, 0, none⟩ = some (uv n0) := Bn.cell 0
  have cn1 : w12.cell? ⟨w.heap.size + 1 + 1, 1, none⟩ = some (uv n1) := Bn.cell 1
  have fn := Bn.frozen
  have ln := Bn.lt
  have cx0 : w12.cell? ⟨gx, 0, none⟩ = some (uv (PlainTnum.right a).v) := Bx.cell 0
  have cx1 : w12.cell? ⟨gx, 1, none⟩ = some (uv (PlainTnum.right a).m) := Bx.cell 1
  have fx := Bx.frozen
  have lx := Bx.lt
  have cy0 : w12.cell? ⟨gy, 0, none⟩ = some (uv (PlainTnum.right b).v) := By.cell 0
  have cy1 : w12.cell? ⟨gy, 1, none⟩ = some (uv (PlainTnum.right b).m) := By.cell 1
  have fy := By.frozen
  have ly := By.lt
  go_wp2_with fail
  refine (mul_c _ _ _).mono ?_
  rintro e w13 ⟨rfl, hb⟩
  clear ca0 ca1 fa la
  clear cb0 cb1 fb lb
  clear cn0 cn1 fn ln
  clear cx0 cx1 fx lx
  clear cy0 cy1 fy ly
  replace Ba := (Ba).next hb
  replace Bb := (Bb).next hb
  replace Bn := (Bn).next hb
  replace Bx := (Bx).next hb
  replace By := (By).next hb
  replace hB : Below w.heap.size w w13 := by repeat (first | exact hB | (refine Bl_set ?_ (by first | omega | (simp; omega)) _) | apply Bl_alloc | (refine Bl_trans ?_ hb))
  clear hb
  have ca0 : w13.cell? ⟨w.heap.size, 0, none⟩ = some (uv (PlainTnum.right a).v) := Ba.cell 0
  have ca1 : w13.cell? ⟨w.heap.size, 1, none⟩ = some (uv (PlainTnum.right a).m) := Ba.cell 1
  have fa := Ba.frozen
  have la := Ba.lt
  have cb0 : w13.cell? ⟨w.heap.size + 1, 0, none⟩ = some (uv (PlainTnum.right b).v) := Bb.cell 0
  have cb1 : w13.cell? ⟨w.heap.size + 1, 1, none⟩ = some (uv (PlainTnum.right b).m) := Bb.cell 1
  have fb := Bb.frozen
  have lb := Bb.lt
  have cn0 : w13.cell? ⟨w.heap.size + 1 + 1, 0, none⟩ = some (uv n0) := Bn.cell 0
  have cn1 : w13.cell? ⟨w.heap.size + 1 + 1, 1, none⟩ = some (uv n1) := Bn.cell 1
  have fn := Bn.frozen
  have ln := Bn.lt
  have cx0 : w13.cell? ⟨gx, 0, none⟩ = some (uv (PlainTnum.right a).v) := Bx.cell 0
  have cx1 : w13.cell? ⟨gx, 1, none⟩ = some (uv (PlainTnum.right a).m) := Bx.cell 1
  have fx := Bx.frozen
  have lx := Bx.lt
  have cy0 : w13.cell? ⟨gy, 0, none⟩ = some (uv (PlainTnum.right b).v) := By.cell 0
  have cy1 : w13.cell? ⟨gy, 1, none⟩ = some (uv (PlainTnum.right b).m) := By.cell 1
  have fy := By.frozen
  have ly := By.lt
  go_wp2_with fail
  refine (hast_c _ _ (by with_reducible first | exact hp.out | exact PlainTnum.has_add hBr.out hp.out hq.out | exact PlainTnum.has_sub hp.out hq.out | exact PlainTnum.has_mul hp.out hq.out | exact PlainTnum.has_and hp.out hq.out | exact PlainTnum.has_or hp.out hq.out | exact PlainTnum.has_xor hp.out hq.out | exact PlainTnum.has_join_l hA.out hp.out | exact PlainTnum.has_join_r hBr.out hq.out) _).mono ?_
  rintro e w14 ⟨rfl, hb⟩
  clear ca0 ca1 fa la
  clear cb0 cb1 fb lb
  clear cn0 cn1 fn ln
  clear cx0 cx1 fx lx
  clear cy0 cy1 fy ly
  replace Ba := (Ba).next hb
  replace Bb := (Bb).next hb
  replace Bn := (Bn).next hb
  replace Bx := (Bx).next hb
  replace By := (By).next hb
  replace hB : Below w.heap.size w w14 := by repeat (first | exact hB | (refine Bl_set ?_ (by first | omega | (simp; omega)) _) | apply Bl_alloc | (refine Bl_trans ?_ hb))
  clear hb
  have ca0 : w14.cell? ⟨w.heap.size, 0, none⟩ = some (uv (PlainTnum.right a).v) := Ba.cell 0
  have ca1 : w14.cell? ⟨w.heap.size, 1, none⟩ = some (uv (PlainTnum.right a).m) := Ba.cell 1
  have fa := Ba.frozen
  have la := Ba.lt
  have cb0 : w14.cell? ⟨w.heap.size + 1, 0, none⟩ = some (uv (PlainTnum.right b).v) := Bb.cell 0
  have cb1 : w14.cell? ⟨w.heap.size + 1, 1, none⟩ = some (uv (PlainTnum.right b).m) := Bb.cell 1
  have fb := Bb.frozen
  have lb := Bb.lt
  have cn0 : w14.cell? ⟨w.heap.size + 1 + 1, 0, none⟩ = some (uv n0) := Bn.cell 0
  have cn1 : w14.cell? ⟨w.heap.size + 1 + 1, 1, none⟩ = some (uv n1) := Bn.cell 1
  have fn := Bn.frozen
  have ln := Bn.lt
  have cx0 : w14.cell? ⟨gx, 0, none⟩ = some (uv (PlainTnum.right a).v) := Bx.cell 0
  have cx1 : w14.cell? ⟨gx, 1, none⟩ = some (uv (PlainTnum.right a).m) := Bx.cell 1
  have fx := Bx.frozen
  have lx := Bx.lt
  have cy0 : w14.cell? ⟨gy, 0, none⟩ = some (uv (PlainTnum.right b).v) := By.cell 0
  have cy1 : w14.cell? ⟨gy, 1, none⟩ = some (uv (PlainTnum.right b).m) := By.cell 1
  have fy := By.frozen
  have ly := By.lt
  go_wp2_with fail
  refine (and_c _ _ _).mono ?_
  rintro e w15 ⟨rfl, hb⟩
  clear ca0 ca1 fa la
  clear cb0 cb1 fb lb
  clear cn0 cn1 fn ln
  clear cx0 cx1 fx lx
  clear cy0 cy1 fy ly
  replace Ba := (Ba).next hb
  replace Bb := (Bb).next hb
  replace Bn := (Bn).next hb
  replace Bx := (Bx).next hb
  replace By := (By).next hb
  replace hB : Below w.heap.size w w15 := by repeat (first | exact hB | (refine Bl_set ?_ (by first | omega | (simp; omega)) _) | apply Bl_alloc | (refine Bl_trans ?_ hb))
  clear hb
  have ca0 : w15.cell? ⟨w.heap.size, 0, none⟩ = some (uv (PlainTnum.right a).v) := Ba.cell 0
  have ca1 : w15.cell? ⟨w.heap.size, 1, none⟩ = some (uv (PlainTnum.right a).m) := Ba.cell 1
  have fa := Ba.frozen
  have la := Ba.lt
  have cb0 : w15.cell? ⟨w.heap.size + 1, 0, none⟩ = some (uv (PlainTnum.right b).v) := Bb.cell 0
  have cb1 : w15.cell? ⟨w.heap.size + 1, 1, none⟩ = some (uv (PlainTnum.right b).m) := Bb.cell 1
  have fb := Bb.frozen
  have lb := Bb.lt
  have cn0 : w15.cell? ⟨w.heap.size + 1 + 1, 0, none⟩ = some (uv n0) := Bn.cell 0
  have cn1 : w15.cell? ⟨w.heap.size + 1 + 1, 1, none⟩ = some (uv n1) := Bn.cell 1
  have fn := Bn.frozen
  have ln := Bn.lt
  have cx0 : w15.cell? ⟨gx, 0, none⟩ = some (uv (PlainTnum.right a).v) := Bx.cell 0
  have cx1 : w15.cell? ⟨gx, 1, none⟩ = some (uv (PlainTnum.right a).m) := Bx.cell 1
  have fx := Bx.frozen
  have lx := Bx.lt
  have cy0 : w15.cell? ⟨gy, 0, none⟩ = some (uv (PlainTnum.right b).v) := By.cell 0
  have cy1 : w15.cell? ⟨gy, 1, none⟩ = some (uv (PlainTnum.right b).m) := By.cell 1
  have fy := By.frozen
  have ly := By.lt
  go_wp2_with fail
  refine (hast_c _ _ (by with_reducible first | exact hp.out | exact PlainTnum.has_add hBr.out hp.out hq.out | exact PlainTnum.has_sub hp.out hq.out | exact PlainTnum.has_mul hp.out hq.out | exact PlainTnum.has_and hp.out hq.out | exact PlainTnum.has_or hp.out hq.out | exact PlainTnum.has_xor hp.out hq.out | exact PlainTnum.has_join_l hA.out hp.out | exact PlainTnum.has_join_r hBr.out hq.out) _).mono ?_
  rintro e w16 ⟨rfl, hb⟩
  clear ca0 ca1 fa la
  clear cb0 cb1 fb lb
  clear cn0 cn1 fn ln
  clear cx0 cx1 fx lx
  clear cy0 cy1 fy ly
  replace Ba := (Ba).next hb
  replace Bb := (Bb).next hb
  replace Bn := (Bn).next hb
  replace Bx := (Bx).next hb
  replace By := (By).next hb
  replace hB : Below w.heap.size w w16 := by repeat (first | exact hB | (refine Bl_set ?_ (by first | omega | (simp; omega)) _) | apply Bl_alloc | (refine Bl_trans ?_ hb))
  clear hb
  have ca0 : w16.cell? ⟨w.heap.size, 0, none⟩ = some (uv (PlainTnum.right a).v) := Ba.cell 0
  have ca1 : w16.cell? ⟨w.heap.size, 1, none⟩ = some (uv (PlainTnum.right a).m) := Ba.cell 1
  have fa := Ba.frozen
  have la := Ba.lt
  have cb0 : w16.cell? ⟨w.heap.size + 1, 0, none⟩ = some (uv (PlainTnum.right b).v) := Bb.cell 0
  have cb1 : w16.cell? ⟨w.heap.size + 1, 1, none⟩ = some (uv (PlainTnum.right b).m) := Bb.cell 1
  have fb := Bb.frozen
  have lb := Bb.lt
  have cn0 : w16.cell? ⟨w.heap.size + 1 + 1, 0, none⟩ = some (uv n0) := Bn.cell 0
  have cn1 : w16.cell? ⟨w.heap.size + 1 + 1, 1, none⟩ = some (uv n1) := Bn.cell 1
  have fn := Bn.frozen
  have ln := Bn.lt
  have cx0 : w16.cell? ⟨gx, 0, none⟩ = some (uv (PlainTnum.right a).v) := Bx.cell 0
  have cx1 : w16.cell? ⟨gx, 1, none⟩ = some (uv (PlainTnum.right a).m) := Bx.cell 1
  have fx := Bx.frozen
  have lx := Bx.lt
  have cy0 : w16.cell? ⟨gy, 0, none⟩ = some (uv (PlainTnum.right b).v) := By.cell 0
  have cy1 : w16.cell? ⟨gy, 1, none⟩ = some (uv (PlainTnum.right b).m) := By.cell 1
  have fy := By.frozen
  have ly := By.lt
  go_wp2_with fail
  refine (or_c _ _ _).mono ?_
  rintro e w17 ⟨rfl, hb⟩
  clear ca0 ca1 fa la
  clear cb0 cb1 fb lb
  clear cn0 cn1 fn ln
  clear cx0 cx1 fx lx
  clear cy0 cy1 fy ly
  replace Ba := (Ba).next hb
  replace Bb := (Bb).next hb
  replace Bn := (Bn).next hb
  replace Bx := (Bx).next hb
  replace By := (By).next hb
  replace hB : Below w.heap.size w w17 := by repeat (first | exact hB | (refine Bl_set ?_ (by first | omega | (simp; omega)) _) | apply Bl_alloc | (refine Bl_trans ?_ hb))
  clear hb
  have ca0 : w17.cell? ⟨w.heap.size, 0, none⟩ = some (uv (PlainTnum.right a).v) := Ba.cell 0
  have ca1 : w17.cell? ⟨w.heap.size, 1, none⟩ = some (uv (PlainTnum.right a).m) := Ba.cell 1
  have fa := Ba.frozen
  have la := Ba.lt
  have cb0 : w17.cell? ⟨w.heap.size + 1, 0, none⟩ = some (uv (PlainTnum.right b).v) := Bb.cell 0
  have cb1 : w17.cell? ⟨w.heap.size + 1, 1, none⟩ = some (uv (PlainTnum.right b).m) := Bb.cell 1
  have fb := Bb.frozen
  have lb := Bb.lt
  have cn0 : w17.cell? ⟨w.heap.size + 1 + 1, 0, none⟩ = some (uv n0) := Bn.cell 0
  have cn1 : w17.cell? ⟨w.heap.size + 1 + 1, 1, none⟩ = some (uv n1) := Bn.cell 1
  have fn := Bn.frozen
  have ln := Bn.lt
  have cx0 : w17.cell? ⟨gx, 0, none⟩ = some (uv (PlainTnum.right a).v) := Bx.cell 0
  have cx1 : w17.cell? ⟨gx, 1, none⟩ = some (uv (PlainTnum.right a).m) := Bx.cell 1
  have fx := Bx.frozen
  have lx := Bx.lt
  have cy0 : w17.cell? ⟨gy, 0, none⟩ = some (uv (PlainTnum.right b).v) := By.cell 0
  have cy1 : w17.cell? ⟨gy, 1, none⟩ = some (uv (PlainTnum.right b).m) := By.cell 1
  have fy := By.frozen
  have ly := By.lt
  go_wp2_with fail
  refine (hast_c _ _ (by with_reducible first | exact hp.out | exact PlainTnum.has_add hBr.out hp.out hq.out | exact PlainTnum.has_sub hp.out hq.out | exact PlainTnum.has_mul hp.out hq.out | exact PlainTnum.has_and hp.out hq.out | exact PlainTnum.has_or hp.out hq.out | exact PlainTnum.has_xor hp.out hq.out | exact PlainTnum.has_join_l hA.out hp.out | exact PlainTnum.has_join_r hBr.out hq.out) _).mono ?_
  rintro e w18 ⟨rfl, hb⟩
  clear ca0 ca1 fa la
  clear cb0 cb1 fb lb
  clear cn0 cn1 fn ln
  clear cx0 cx1 fx lx
  clear cy0 cy1 fy ly
  replace Ba := (Ba).next hb
  replace Bb := (Bb).next hb
  replace Bn := (Bn).next hb
  replace Bx := (Bx).next hb
  replace By := (By).next hb
  replace hB : Below w.heap.size w w18 := by repeat (first | exact hB | (refine Bl_set ?_ (by first | omega | (simp; omega)) _) | apply Bl_alloc | (refine Bl_trans ?_ hb))
  clear hb
  have ca0 : w18.cell? ⟨w.heap.size, 0, none⟩ = some (uv (PlainTnum.right a).v) := Ba.cell 0
  have ca1 : w18.cell? ⟨w.heap.size, 1, none⟩ = some (uv (PlainTnum.right a).m) := Ba.cell 1
  have fa := Ba.frozen
  have la := Ba.lt
  have cb0 : w18.cell? ⟨w.heap.size + 1, 0, none⟩ = some (uv (PlainTnum.right b).v) := Bb.cell 0
  have cb1 : w18.cell? ⟨w.heap.size + 1, 1, none⟩ = some (uv (PlainTnum.right b).m) := Bb.cell 1
  have fb := Bb.frozen
  have lb := Bb.lt
  have cn0 : w18.cell? ⟨w.heap.size + 1 + 1, 0, none⟩ = some (uv n0) := Bn.cell 0
  have cn1 : w18.cell? ⟨w.heap.size + 1 + 1, 1, none⟩ = some (uv n1) := Bn.cell 1
  have fn := Bn.frozen
  have ln := Bn.lt
  have cx0 : w18.cell? ⟨gx, 0, none⟩ = some (uv (PlainTnum.right a).v) := Bx.cell 0
  have cx1 : w18.cell? ⟨gx, 1, none⟩ = some (uv (PlainTnum.right a).m) := Bx.cell 1
  have fx := Bx.frozen
  have lx := Bx.lt
  have cy0 : w18.cell? ⟨gy, 0, none⟩ = some (uv (PlainTnum.right b).v) := By.cell 0
  have cy1 : w18.cell? ⟨gy, 1, none⟩ = some (uv (PlainTnum.right b).m) := By.cell 1
  have fy := By.frozen
  have ly := By.lt
  go_wp2_with fail
  refine (xor_c _ _ _).mono ?_
  rintro e w19 ⟨rfl, hb⟩
  clear ca0 ca1 fa la
  clear cb0 cb1 fb lb
  clear cn0 cn1 fn ln
  clear cx0 cx1 fx lx
  clear cy0 cy1 fy ly
  replace Ba := (Ba).next hb
  replace Bb := (Bb).next hb
  replace Bn := (Bn).next hb
  replace Bx := (Bx).next hb
  replace By := (By).next hb
  replace hB : Below w.heap.size w w19 := by repeat (first | exact hB | (refine Bl_set ?_ (by first | omega | (simp; omega)) _) | apply Bl_alloc | (refine Bl_trans ?_ hb))
  clear hb
  have ca0 : w19.cell? ⟨w.heap.size, 0, none⟩ = some (uv (PlainTnum.right a).v) := Ba.cell 0
  have ca1 : w19.cell? ⟨w.heap.size, 1, none⟩ = some (uv (PlainTnum.right a).m) := Ba.cell 1
  have fa := Ba.frozen
  have la := Ba.lt
  have cb0 : w19.cell? ⟨w.heap.size + 1, 0, none⟩ = some (uv (PlainTnum.right b).v) := Bb.cell 0
  have cb1 : w19.cell? ⟨w.heap.size + 1, 1, none⟩ = some (uv (PlainTnum.right b).m) := Bb.cell 1
  have fb := Bb.frozen
  have lb := Bb.lt
  have cn0 : w19.cell? ⟨w.heap.size + 1 + 1, 0, none⟩ = some (uv n0) := Bn.cell 0
  have cn1 : w19.cell? ⟨w.heap.size + 1 + 1, 1, none⟩ = some (uv n1) := Bn.cell 1
  have fn := Bn.frozen
  have ln := Bn.lt
  have cx0 : w19.cell? ⟨gx, 0, none⟩ = some (uv (PlainTnum.right a).v) := Bx.cell 0
  have cx1 : w19.cell? ⟨gx, 1, none⟩ = some (uv (PlainTnum.right a).m) := Bx.cell 1
  have fx := Bx.frozen
  have lx := Bx.lt
  have cy0 : w19.cell? ⟨gy, 0, none⟩ = some (uv (PlainTnum.right b).v) := By.cell 0
  have cy1 : w19.cell? ⟨gy, 1, none⟩ = some (uv (PlainTnum.right b).m) := By.cell 1
  have fy := By.frozen
  have ly := By.lt
  go_wp2_with fail
  refine (hast_c _ _ (by with_reducible first | exact hp.out | exact PlainTnum.has_add hBr.out hp.out hq.out | exact PlainTnum.has_sub hp.out hq.out | exact PlainTnum.has_mul hp.out hq.out | exact PlainTnum.has_and hp.out hq.out | exact PlainTnum.has_or hp.out hq.out | exact PlainTnum.has_xor hp.out hq.out | exact PlainTnum.has_join_l hA.out hp.out | exact PlainTnum.has_join_r hBr.out hq.out) _).mono ?_
  rintro e w20 ⟨rfl, hb⟩
  clear ca0 ca1 fa la
  clear cb0 cb1 fb lb
  clear cn0 cn1 fn ln
  clear cx0 cx1 fx lx
  clear cy0 cy1 fy ly
  replace Ba := (Ba).next hb
  replace Bb := (Bb).next hb
  replace Bn := (Bn).next hb
  replace Bx := (Bx).next hb
  replace By := (By).next hb
  replace hB : Below w.heap.size w w20 := by repeat (first | exact hB | (refine Bl_set ?_ (by first | omega | (simp; omega)) _) | apply Bl_alloc | (refine Bl_trans ?_ hb))
  clear hb
  have ca0 : w20.cell? ⟨w.heap.size, 0, none⟩ = some (uv (PlainTnum.right a).v) := Ba.cell 0
  have ca1 : w20.cell? ⟨w.heap.size, 1, none⟩ = some (uv (PlainTnum.right a).m) := Ba.cell 1
  have fa := Ba.frozen
  have la := Ba.lt
  have cb0 : w20.cell? ⟨w.heap.size + 1, 0, none⟩ = some (uv (PlainTnum.right b).v) := Bb.cell 0
  have cb1 : w20.cell? ⟨w.heap.size + 1, 1, none⟩ = some (uv (PlainTnum.right b).m) := Bb.cell 1
  have fb := Bb.frozen
  have lb := Bb.lt
  have cn0 : w20.cell? ⟨w.heap.size + 1 + 1, 0, none⟩ = some (uv n0) := Bn.cell 0
  have cn1 : w20.cell? ⟨w.heap.size + 1 + 1, 1, none⟩ = some (uv n1) := Bn.cell 1
  have fn := Bn.frozen
  have ln := Bn.lt
  have cx0 : w20.cell? ⟨gx, 0, none⟩ = some (uv (PlainTnum.right a).v) := Bx.cell 0
  have cx1 : w20.cell? ⟨gx, 1, none⟩ = some (uv (PlainTnum.right a).m) := Bx.cell 1
  have fx := Bx.frozen
  have lx := Bx.lt
  have cy0 : w20.cell? ⟨gy, 0, none⟩ = some (uv (PlainTnum.right b).v) := By.cell 0
  have cy1 : w20.cell? ⟨gy, 1, none⟩ = some (uv (PlainTnum.right b).m) := By.cell 1
  have fy := By.frozen
  have ly := By.lt
  go_wp2_with fail
  refine (join_c _ _ _).mono ?_
  rintro e w21 ⟨rfl, hb⟩
  clear ca0 ca1 fa la
  clear cb0 cb1 fb lb
  clear cn0 cn1 fn ln
  clear cx0 cx1 fx lx
  clear cy0 cy1 fy ly
  replace Ba := (Ba).next hb
  replace Bb := (Bb).next hb
  replace Bn := (Bn).next hb
  replace Bx := (Bx).next hb
  replace By := (By).next hb
  replace hB : Below w.heap.size w w21 := by repeat (first | exact hB | (refine Bl_set ?_ (by first | omega | (simp; omega)) _) | apply Bl_alloc | (refine Bl_trans ?_ hb))
  clear hb
  have ca0 : w21.cell? ⟨w.heap.size, 0, none⟩ = some (uv (PlainTnum.right a).v) := Ba.cell 0
  have ca1 : w21.cell? ⟨w.heap.size, 1, none⟩ = some (uv (PlainTnum.right a).m) := Ba.cell 1
  have fa := Ba.frozen
  have la := Ba.lt
  have cb0 : w21.cell? ⟨w.heap.size + 1, 0, none⟩ = some (uv (PlainTnum.right b).v) := Bb.cell 0
  have cb1 : w21.cell? ⟨w.heap.size + 1, 1, none⟩ = some (uv (PlainTnum.right b).m) := Bb.cell 1
  have fb := Bb.frozen
  have lb := Bb.lt
  have cn0 : w21.cell? ⟨w.heap.size + 1 + 1, 0, none⟩ = some (uv n0) := Bn.cell 0
  have cn1 : w21.cell? ⟨w.heap.size + 1 + 1, 1, none⟩ = some (uv n1) := Bn.cell 1
  have fn := Bn.frozen
  have ln := Bn.lt
  have cx0 : w21.cell? ⟨gx, 0, none⟩ = some (uv (PlainTnum.right a).v) := Bx.cell 0
  have cx1 : w21.cell? ⟨gx, 1, none⟩ = some (uv (PlainTnum.right a).m) := Bx.cell 1
  have fx := Bx.frozen
  have lx := Bx.lt
  have cy0 : w21.cell? ⟨gy, 0, none⟩ = some (uv (PlainTnum.right b).v) := By.cell 0
  have cy1 : w21.cell? ⟨gy, 1, none⟩ = some (uv (PlainTnum.right b).m) := By.cell 1
  have fy := By.frozen
  have ly := By.lt
  go_wp2_with fail
  refine (hast_c _ _ (by with_reducible first | exact hp.out | exact PlainTnum.has_add hBr.out hp.out hq.out | exact PlainTnum.has_sub hp.out hq.out | exact PlainTnum.has_mul hp.out hq.out | exact PlainTnum.has_and hp.out hq.out | exact PlainTnum.has_or hp.out hq.out | exact PlainTnum.has_xor hp.out hq.out | exact PlainTnum.has_join_l hA.out hp.out | exact PlainTnum.has_join_r hBr.out hq.out) _).mono ?_
  rintro e w22 ⟨rfl, hb⟩
  clear ca0 ca1 fa la
  clear cb0 cb1 fb lb
  clear cn0 cn1 fn ln
  clear cx0 cx1 fx lx
  clear cy0 cy1 fy ly
  replace Ba := (Ba).next hb
  replace Bb := (Bb).next hb
  replace Bn := (Bn).next hb
  replace Bx := (Bx).next hb
  replace By := (By).next hb
  replace hB : Below w.heap.size w w22 := by repeat (first | exact hB | (refine Bl_set ?_ (by first | omega | (simp; omega)) _) | apply Bl_alloc | (refine Bl_trans ?_ hb))
  clear hb
  have ca0 : w22.cell? ⟨w.heap.size, 0, none⟩ = some (uv (PlainTnum.right a).v) := Ba.cell 0
  have ca1 : w22.cell? ⟨w.heap.size, 1, none⟩ = some (uv (PlainTnum.right a).m) := Ba.cell 1
  have fa := Ba.frozen
  have la := Ba.lt
  have cb0 : w22.cell? ⟨w.heap.size + 1, 0, none⟩ = some (uv (PlainTnum.right b).v) := Bb.cell 0
  have cb1 : w22.cell? ⟨w.heap.size + 1, 1, none⟩ = some (uv (PlainTnum.right b).m) := Bb.cell 1
  have fb := Bb.frozen
  have lb := Bb.lt
  have cn0 : w22.cell? ⟨w.heap.size + 1 + 1, 0, none⟩ = some (uv n0) := Bn.cell 0
  have cn1 : w22.cell? ⟨w.heap.size + 1 + 1, 1, none⟩ = some (uv n1) := Bn.cell 1
  have fn := Bn.frozen
  have ln := Bn.lt
  have cx0 : w22.cell? ⟨gx, 0, none⟩ = some (uv (PlainTnum.right a).v) := Bx.cell 0
  have cx1 : w22.cell? ⟨gx, 1, none⟩ = some (uv (PlainTnum.right a).m) := Bx.cell 1
  have fx := Bx.frozen
  have lx := Bx.lt
  have cy0 : w22.cell? ⟨gy, 0, none⟩ = some (uv (PlainTnum.right b).v) := By.cell 0
  have cy1 : w22.cell? ⟨gy, 1, none⟩ = some (uv (PlainTnum.right b).m) := By.cell 1
  have fy := By.frozen
  have ly := By.lt
  go_wp2_with fail
  refine (join_c _ _ _).mono ?_
  rintro e w23 ⟨rfl, hb⟩
  clear ca0 ca1 fa la
  clear cb0 cb1 fb lb
  clear cn0 cn1 fn ln
  clear cx0 cx1 fx lx
  clear cy0 cy1 fy ly
  replace Ba := (Ba).next hb
  replace Bb := (Bb).next hb
  replace Bn := (Bn).next hb
  replace Bx := (Bx).next hb
  replace By := (By).next hb
  replace hB : Below w.heap.size w w23 := by repeat (first | exact hB | (refine Bl_set ?_ (by first | omega | (simp; omega)) _) | apply Bl_alloc | (refine Bl_trans ?_ hb))
  clear hb
  have ca0 : w23.cell? ⟨w.heap.size, 0, none⟩ = some (uv (PlainTnum.right a).v) := Ba.cell 0
  have ca1 : w23.cell? ⟨w.heap.size, 1, none⟩ = some (uv (PlainTnum.right a).m) := Ba.cell 1
  have fa := Ba.frozen
  have la := Ba.lt
  have cb0 : w23.cell? ⟨w.heap.size + 1, 0, none⟩ = some (uv (PlainTnum.right b).v) := Bb.cell 0
  have cb1 : w23.cell? ⟨w.heap.size + 1, 1, none⟩ = some (uv (PlainTnum.right b).m) := Bb.cell 1
  have fb := Bb.frozen
  have lb := Bb.lt
  have cn0 : w23.cell? ⟨w.heap.size + 1 + 1, 0, none⟩ = some (uv n0) := Bn.cell 0
  have cn1 : w23.cell? ⟨w.heap.size + 1 + 1, 1, none⟩ = some (uv n1) := Bn.cell 1
  have fn := Bn.frozen
  have ln := Bn.lt
  have cx0 : w23.cell? ⟨gx, 0, none⟩ = some (uv (PlainTnum.right a).v) := Bx.cell 0
  have cx1 : w23.cell? ⟨gx, 1, none⟩ = some (uv (PlainTnum.right a).m) := Bx.cell 1
  have fx := Bx.frozen
  have lx := Bx.lt
  have cy0 : w23.cell? ⟨gy, 0, none⟩ = some (uv (PlainTnum.right b).v) := By.cell 0
  have cy1 : w23.cell? ⟨gy, 1, none⟩ = some (uv (PlainTnum.right b).m) := By.cell 1
  have fy := By.frozen
  have ly := By.lt
  go_wp2_with fail
  refine (hast_c _ _ (by with_reducible first | exact hp.out | exact PlainTnum.has_add hBr.out hp.out hq.out | exact PlainTnum.has_sub hp.out hq.out | exact PlainTnum.has_mul hp.out hq.out | exact PlainTnum.has_and hp.out hq.out | exact PlainTnum.has_or hp.out hq.out | exact PlainTnum.has_xor hp.out hq.out | exact PlainTnum.has_join_l hA.out hp.out | exact PlainTnum.has_join_r hBr.out hq.out) _).mono ?_
  rintro e w24 ⟨rfl, hb⟩
  clear ca0 ca1 fa la
  clear cb0 cb1 fb lb
  clear cn0 cn1 fn ln
  clear cx0 cx1 fx lx
  clear cy0 cy1 fy ly
  replace Ba := (Ba).next hb
  replace Bb := (Bb).next hb
  replace Bn := (Bn).next hb
  replace Bx := (Bx).next hb
  replace By := (By).next hb
  replace hB : Below w.heap.size w w24 := by repeat (first | exact hB | (refine Bl_set ?_ (by first | omega | (simp; omega)) _) | apply Bl_alloc | (refine Bl_trans ?_ hb))
  clear hb
  have ca0 : w24.cell? ⟨w.heap.size, 0, none⟩ = some (uv (PlainTnum.right a).v) := Ba.cell 0
  have ca1 : w24.cell? ⟨w.heap.size, 1, none⟩ = some (uv (PlainTnum.right a).m) := Ba.cell 1
  have fa := Ba.frozen
  have la := Ba.lt
  have cb0 : w24.cell? ⟨w.heap.size + 1, 0, none⟩ = some (uv (PlainTnum.right b).v) := Bb.cell 0
  have cb1 : w24.cell? ⟨w.heap.size + 1, 1, none⟩ = some (uv (PlainTnum.right b).m) := Bb.cell 1
  have fb := Bb.frozen
  have lb := Bb.lt
  have cn0 : w24.cell? ⟨w.heap.size + 1 + 1, 0, none⟩ = some (uv n0) := Bn.cell 0
  have cn1 : w24.cell? ⟨w.heap.size + 1 + 1, 1, none⟩ = some (uv n1) := Bn.cell 1
  have fn := Bn.frozen
  have ln := Bn.lt
  have cx0 : w24.cell? ⟨gx, 0, none⟩ = some (uv (PlainTnum.right a).v) := Bx.cell 0
  have cx1 : w24.cell? ⟨gx, 1, none⟩ = some (uv (PlainTnum.right a).m) := Bx.cell 1
  have fx := Bx.frozen
  have lx := Bx.lt
  have cy0 : w24.cell? ⟨gy, 0, none⟩ = some (uv (PlainTnum.right b).v) := By.cell 0
  have cy1 : w24.cell? ⟨gy, 1, none⟩ = some (uv (PlainTnum.right b).m) := By.cell 1
  have fy := By.frozen
  have ly := By.lt
  go_wp2_with fail
  refine (const_c _ _).mono ?_
  rintro e w25 ⟨rfl, hb⟩
  clear ca0 ca1 fa la
  clear cb0 cb1 fb lb
  clear cn0 cn1 fn ln
  clear cx0 cx1 fx lx
  clear cy0 cy1 fy ly
  replace Ba := (Ba).next hb
  replace Bb := (Bb).next hb
  replace Bn := (Bn).next hb
  replace Bx := (Bx).next hb
  replace By := (By).next hb
  replace hB : Below w.heap.size w w25 := by repeat (first | exact hB | (refine Bl_set ?_ (by first | omega | (simp; omega)) _) | apply Bl_alloc | (refine Bl_trans ?_ hb))
  clear hb
  have ca0 : w25.cell? ⟨w.heap.size, 0, none⟩ = some (uv (PlainTnum.right a).v) := Ba.cell 0
  have ca1 : w25.cell? ⟨w.heap.size, 1, none⟩ = some (uv (PlainTnum.right a).m) := Ba.cell 1
  have fa := Ba.frozen
  have la := Ba.lt
  have cb0 : w25.cell? ⟨w.heap.size + 1, 0, none⟩ = some (uv (PlainTnum.right b).v) := Bb.cell 0
  have cb1 : w25.cell? ⟨w.heap.size + 1, 1, none⟩ = some (uv (PlainTnum.right b).m) := Bb.cell 1
  have fb := Bb.frozen
  have lb := Bb.lt
  have cn0 : w25.cell? ⟨w.heap.size + 1 + 1, 0, none⟩ = some (uv n0) := Bn.cell 0
  have cn1 : w25.cell? ⟨w.heap.size + 1 + 1, 1, none⟩ = some (uv n1) := Bn.cell 1
  have fn := Bn.frozen
  have ln := Bn.lt
  have cx0 : w25.cell? ⟨gx, 0, none⟩ = some (uv (PlainTnum.right a).v) := Bx.cell 0
  have cx1 : w25.cell? ⟨gx, 1, none⟩ = some (uv (PlainTnum.right a).m) := Bx.cell 1
  have fx := Bx.frozen
  have lx := Bx.lt
  have cy0 : w25.cell? ⟨gy, 0, none⟩ = some (uv (PlainTnum.right b).v) := By.cell 0
  have cy1 : w25.cell? ⟨gy, 1, none⟩ = some (uv (PlainTnum.right b).m) := By.cell 1
  have fy := By.frozen
  have ly := By.lt
  go_wp2_with fail
  refine (const_c _ _).mono ?_
  rintro e w26 ⟨rfl, hb⟩
  clear ca0 ca1 fa la
  clear cb0 cb1 fb lb
  clear cn0 cn1 fn ln
  clear cx0 cx1 fx lx
  clear cy0 cy1 fy ly
  replace Ba := (Ba).next hb
  replace Bb := (Bb).next hb
  replace Bn := (Bn).next hb
  replace Bx := (Bx).next hb
  replace By := (By).next hb
  replace hB : Below w.heap.size w w26 := by repeat (first | exact hB | (refine Bl_set ?_ (by first | omega | (simp; omega)) _) | apply Bl_alloc | (refine Bl_trans ?_ hb))
  clear hb
  have ca0 : w26.cell? ⟨w.heap.size, 0, none⟩ = some (uv (PlainTnum.right a).v) := Ba.cell 0
  have ca1 : w26.cell? ⟨w.heap.size, 1, none⟩ = some (uv (PlainTnum.right a).m) := Ba.cell 1
  have fa := Ba.frozen
  have la := Ba.lt
  have cb0 : w26.cell? ⟨w.heap.size + 1, 0, none⟩ = some (uv (PlainTnum.right b).v) := Bb.cell 0
  have cb1 : w26.cell? ⟨w.heap.size + 1, 1, none⟩ = some (uv (PlainTnum.right b).m) := Bb.cell 1
  have fb := Bb.frozen
  have lb := Bb.lt
  have cn0 : w26.cell? ⟨w.heap.size + 1 + 1, 0, none⟩ = some (uv n0) := Bn.cell 0
  have cn1 : w26.cell? ⟨w.heap.size + 1 + 1, 1, none⟩ = some (uv n1) := Bn.cell 1
  have fn := Bn.frozen
  have ln := Bn.lt
  have cx0 : w26.cell? ⟨gx, 0, none⟩ = some (uv (PlainTnum.right a).v) := Bx.cell 0
  have cx1 : w26.cell? ⟨gx, 1, none⟩ = some (uv (PlainTnum.right a).m) := Bx.cell 1
  have fx := Bx.frozen
  have lx := Bx.lt
  have cy0 : w26.cell? ⟨gy, 0, none⟩ = some (uv (PlainTnum.right b).v) := By.cell 0
  have cy1 : w26.cell? ⟨gy, 1, none⟩ = some (uv (PlainTnum.right b).m) := By.cell 1
  have fy := By.frozen
  have ly := By.lt
  go_wp2_with fail
  refine (mul_kk _ _ _).mono ?_
  rintro e w27 ⟨rfl, hb⟩
  clear ca0 ca1 fa la
  clear cb0 cb1 fb lb
  clear cn0 cn1 fn ln
  clear cx0 cx1 fx lx
  clear cy0 cy1 fy ly
  replace Ba := (Ba).next hb
  replace Bb := (Bb).next hb
  replace Bn := (Bn).next hb
  replace Bx := (Bx).next hb
  replace By := (By).next hb
  replace hB : Below w.heap.size w w27 := by repeat (first | exact hB | (refine Bl_set ?_ (by first | omega | (simp; omega)) _) | apply Bl_alloc | (refine Bl_trans ?_ hb))
  clear hb
  have ca0 : w27.cell? ⟨w.heap.size, 0, none⟩ = some (uv (PlainTnum.right a).v) := Ba.cell 0
  have ca1 : w27.cell? ⟨w.heap.size, 1, none⟩ = some (uv (PlainTnum.right a).m) := Ba.cell 1
  have fa := Ba.frozen
  have la := Ba.lt
  have cb0 : w27.cell? ⟨w.heap.size + 1, 0, none⟩ = some (uv (PlainTnum.right b).v) := Bb.cell 0
  have cb1 : w27.cell? ⟨w.heap.size + 1, 1, none⟩ = some (uv (PlainTnum.right b).m) := Bb.cell 1
  have fb := Bb.frozen
  have lb := Bb.lt
  have cn0 : w27.cell? ⟨w.heap.size + 1 + 1, 0, none⟩ = some (uv n0) := Bn.cell 0
  have cn1 : w27.cell? ⟨w.heap.size + 1 + 1, 1, none⟩ = some (uv n1) := Bn.cell 1
  have fn := Bn.frozen
  have ln := Bn.lt
  have cx0 : w27.cell? ⟨gx, 0, none⟩ = some (uv (PlainTnum.right a).v) := Bx.cell 0
  have cx1 : w27.cell? ⟨gx, 1, none⟩ = some (uv (PlainTnum.right a).m) := Bx.cell 1
  have fx := Bx.frozen
  have lx := Bx.lt
  have cy0 : w27.cell? ⟨gy, 0, none⟩ = some (uv (PlainTnum.right b).v) := By.cell 0
  have cy1 : w27.cell? ⟨gy, 1, none⟩ = some (uv (PlainTnum.right b).m) := By.cell 1
  have fy := By.frozen
  have ly := By.lt
  go_wp2_with fail
  refine (const_c _ _).mono ?_
  rintro e w28 ⟨rfl, hb⟩
  clear ca0 ca1 fa la
  clear cb0 cb1 fb lb
  clear cn0 cn1 fn ln
  clear cx0 cx1 fx lx
  clear cy0 cy1 fy ly
  replace Ba := (Ba).next hb
  replace Bb := (Bb).next hb
  replace Bn := (Bn).next hb
  replace Bx := (Bx).next hb
  replace By := (By).next hb
  replace hB : Below w.heap.size w w28 := by repeat (first | exact hB | (refine Bl_set ?_ (by first | omega | (simp; omega)) _) | apply Bl_alloc | (refine Bl_trans ?_ hb))
  clear hb
  have ca0 : w28.cell? ⟨w.heap.size, 0, none⟩ = some (uv (PlainTnum.right a).v) := Ba.cell 0
  have ca1 : w28.cell? ⟨w.heap.size, 1, none⟩ = some (uv (PlainTnum.right a).m) := Ba.cell 1
  have fa := Ba.frozen
  have la := Ba.lt
  have cb0 : w28.cell? ⟨w.heap.size + 1, 0, none⟩ = some (uv (PlainTnum.right b).v) := Bb.cell 0
  have cb1 : w28.cell? ⟨w.heap.size + 1, 1, none⟩ = some (uv (PlainTnum.right b).m) := Bb.cell 1
  have fb := Bb.frozen
  have lb := Bb.lt
  have cn0 : w28.cell? ⟨w.heap.size + 1 + 1, 0, none⟩ = some (uv n0) := Bn.cell 0
  have cn1 : w28.cell? ⟨w.heap.size + 1 + 1, 1, none⟩ = some (uv n1) := Bn.cell 1
  have fn := Bn.frozen
  have ln := Bn.lt
  have cx0 : w28.cell? ⟨gx, 0, none⟩ = some (uv (PlainTnum.right a).v) := Bx.cell 0
  have cx1 : w28.cell? ⟨gx, 1, none⟩ = some (uv (PlainTnum.right a).m) := Bx.cell 1
  have fx := Bx.frozen
  have lx := Bx.lt
  have cy0 : w28.cell? ⟨gy, 0, none⟩ = some (uv (PlainTnum.right b).v) := By.cell 0
  have cy1 : w28.cell? ⟨gy, 1, none⟩ = some (uv (PlainTnum.right b).m) := By.cell 1
  have fy := By.frozen
  have ly := By.lt
  go_wp2
  go_ret
  exact ⟨rfl, by repeat (first | exact hB | (refine Bl_set ?_ (by first | omega | (simp; omega)) _) | apply Bl_alloc)⟩
theorem walkN_TnumHas (v m v' m' : W) (x y : W) (w : World) : Calls Try.prog 9 #[.agg #[.int .u64 (T v), .int .u64 (T m)], .agg #[.int .u64 (T v'), .int .u64 (T m')], .agg #[.int .u64 (T x), .int .u64 (T y)]] w fun e w' => e = .returned (.bool true) ∧ Below w.heap.size w w' := walk_TnumHas ⟨v, m⟩ ⟨v', m'⟩ x y w
namespace tnumHas
set_option maxRecDepth 100000 in
theorem lifted (os : Os) (started : os.Started) (H : Type) (enc : TypeId × Value → H) :
    ReturnsInHanded {} Try.checked os 9 .any (Rows.tnumHasSpec.pre6 enc Try.prog Try.f9 Rows.tnumHasRow.domain false) (Rows.tnumHasSpec.post enc Try.prog Try.f9 false true false false) := by
  refine returnsInHanded_of_change (C := Try.checked) own started (by kernel_rfl) Try.func9
    (ChangeSpec.witness6 (enc := enc) (C := Try.checked) false ⟨#[], #[.agg #[.int .u64 0, .int .u64 0], .agg #[.int .u64 0, .int .u64 0], .agg #[.int .u64 0, .int .u64 0]], []⟩ 8 (by kernel_rfl) (by kernel_rfl) (by kernel_rfl) (by kernel_rfl)) ?_
  intro W base args ds gs before hval0 hW hcnd _
  have hval : ∀ (j : Nat) t v, Try.f9.params[j]? = some t → args[j]? = some v → Value.okWide Try.prog W .any base t v := hval0
  have hW' := hW
  obtain ⟨p, q, hA0, hV, rfl, hfz, hnd⟩ := hW
  have hA : DataW.TrodAll enc Try.prog W 0 (fun _ => true) true Try.f9.params.toList args.toList ds p := hA0
  rw [Try.params9] at hA hval
  obtain ⟨v0, vs0, d0, ds0, p0, q0, hargs, rfl, rfl, h0, r0⟩ := trodAll_cons hA
  obtain ⟨v1, vs1, d1, ds1, p1, q1, rfl, rfl, rfl, h1, r1⟩ := trodAll_cons r0
  obtain ⟨v2, vs2, d2, ds2, p2, q2, rfl, rfl, rfl, h2, r2⟩ := trodAll_cons r1
  obtain ⟨rfl, rfl, rfl⟩ := trodAll_nil r2
  obtain rfl : args = #[v0, v1, v2] := by cases args; simp_all
  obtain ⟨rfl, rfl⟩ := trodVars_none hV
  have lt0 : ∀ x ∈ p0, x.block < W.heap.size := by obtain ⟨m, hm⟩ := h0; exact DataW.trod_lt m _ _ _ hm
  obtain ⟨x0, y0, rfl⟩ := open_uu Try.underlying22 (by rw [Try.underlying24]) (by kernel_rfl) (by kernel_rfl) (hval 0 24 v0 rfl rfl)
  have lt1 : ∀ x ∈ p1, x.block < W.heap.size := by obtain ⟨m, hm⟩ := h1; exact DataW.trod_lt m _ _ _ hm
  obtain ⟨x1, y1, rfl⟩ := open_uu Try.underlying22 (by rw [Try.underlying24]) (by kernel_rfl) (by kernel_rfl) (hval 1 24 v1 rfl rfl)
  have lt2 : ∀ x ∈ p2, x.block < W.heap.size := by obtain ⟨m, hm⟩ := h2; exact DataW.trod_lt m _ _ _ hm
  obtain ⟨x2, y2, rfl⟩ := open_uu Try.underlying22 (by rw [Try.underlying50]) (by kernel_rfl) (by kernel_rfl) (hval 2 50 v2 rfl rfl)
  refine (walkN_TnumHas x0 y0 x1 y1 x2 y2 W).mono fun e W' ⟨he, bel⟩ => ?_
  subst he
  exact ⟨_, rfl, _, _, _, [], _, [], hW', trodAll_mk1 (shut_bool Try.underlying4 _), (trodAll_cons_mk (Below.trod laidOut (by kernel_rfl) (of_decide_eq_true (by kernel_rfl)) h0 bel lt0) (trodAll_cons_mk (Below.trod laidOut (by kernel_rfl) (of_decide_eq_true (by kernel_rfl)) h1 bel lt1) (trodAll_cons_mk (Below.trod laidOut (by kernel_rfl) (of_decide_eq_true (by kernel_rfl)) h2 bel lt2) trodAll_mk0))), rfl, bel.frame _, fun h => by cases h⟩
theorem over : Rows.tnumHasRow.holds Try.pinned (OpenSpec.ofChange Rows.tnumHasSpec) :=
  OpenClaim.holds_of_wide 9 Try.f9 rfl rfl rfl rfl rfl rfl rfl ⟨rfl, rfl, rfl, rfl, rfl⟩ rfl rfl rfl rfl rfl (by kernel_rfl) Try.func9 (by kernel_rfl)
    (of_decide_eq_true (by kernel_rfl)) (by unfold Func.isWrapper; first | (rw [if_pos (by decide +kernel)]; kernel_rfl) | (rw [if_neg (by decide +kernel)]; exact ⟨rfl, rfl⟩))
    (fun os started H enc _ => lifted os started H enc)
/-- The given statement. -/
theorem proved : Rows.TnumHasSaid := over
#print axioms proved
end tnumHas
end Go.Proofs.Ytmghpoagpiljhaa
