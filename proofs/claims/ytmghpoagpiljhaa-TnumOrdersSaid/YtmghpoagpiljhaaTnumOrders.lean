/- TnumOrders: for all pairs of nums and every number of bits the law returns true, and its arguments read as before. No condition. -/
import Derived.Test.YtmghpoagpiljhaaOpen
import Derived.Test.YtmghpoagpiljhaaLaw13
namespace Go.Proofs.Ytmghpoagpiljhaa
open Go.ChangeShapes Go.WideShapes Go.ChangeAt Go.RowKit
open PlainTnum (N)
set_option linter.unusedVariables false
set_option maxRecDepth 100000 in
set_option maxHeartbeats 3200000 in
theorem walk_TnumOrders (a b : N) (more : W) (w : World) : Calls Try.prog 6 #[nv a, nv b, uv more] w fun e w' => e = .returned (.bool true) ∧ Below w.heap.size w w' := by
  have qadd : PlainTnum.add (PlainTnum.right b) (PlainTnum.right a) = PlainTnum.add (PlainTnum.right a) (PlainTnum.right b) := PlainTnum.add_comm' _ _
  have qand : PlainTnum.and (PlainTnum.right b) (PlainTnum.right a) = PlainTnum.and (PlainTnum.right a) (PlainTnum.right b) := PlainTnum.and_comm' _ _
  have qor : PlainTnum.or (PlainTnum.right b) (PlainTnum.right a) = PlainTnum.or (PlainTnum.right a) (PlainTnum.right b) := PlainTnum.or_comm' _ _
  have qxor : PlainTnum.xor (PlainTnum.right b) (PlainTnum.right a) = PlainTnum.xor (PlainTnum.right a) (PlainTnum.right b) := PlainTnum.xor_comm' _ _
  have qjoin : PlainTnum.join (PlainTnum.right b) (PlainTnum.right a) = PlainTnum.join (PlainTnum.right a) (PlainTnum.right b) := PlainTnum.join_comm'
  have hA := Lib.hid (PlainTnum.R_right a)
  have hBr := Lib.hid (PlainTnum.R_right b)
  have hW := Lib.hid (PlainTnum.within_wide (PlainTnum.right a) more (PlainTnum.R_right a))
  go_enter Try.func6, Try.ntmps6
  go_wp2_with fail
  obtain ⟨ga, hga⟩ : ∃ g, g = w.heap.size := ⟨_, rfl⟩
  obtain ⟨gb, hgb⟩ : ∃ g, g = w.heap.size + 1 := ⟨_, rfl⟩
  have Ba : Blk ((w.alloc (.cells #[uv a.v, uv a.m] 24)).alloc (.cells #[uv b.v, uv b.m] 24)) (w.heap.size) 24 #[uv a.v, uv a.m] := ((Blk.new w 24 #[uv a.v, uv a.m])).alloc _
  have Bb : Blk ((w.alloc (.cells #[uv a.v, uv a.m] 24)).alloc (.cells #[uv b.v, uv b.m] 24)) (w.heap.size + 1) 24 #[uv b.v, uv b.m] := (by simpa using Blk.new (w.alloc (.cells #[uv a.v, uv a.m] 24)) 24 #[uv b.v, uv b.m] : Blk _ (w.heap.size + 1) 24 #[uv b.v, uv b.m])
  have hB : Below w.heap.size w ((w.alloc (.cells #[uv a.v, uv a.m] 24)).alloc (.cells #[uv b.v, uv b.m] 24)) := (Bl_alloc (Bl_alloc (Bl_refl w) _) _)
  clear hga
  clear ga
  clear hgb
  clear gb
  generalize ((w.alloc (.cells #[uv a.v, uv a.m] 24)).alloc (.cells #[uv b.v, uv b.m] 24)) = w1 at *
  have ca0 : w1.cell? ⟨w.heap.size, 0, none⟩ = some (uv a.v) := Ba.cell 0
  have ca1 : w1.cell? ⟨w.heap.size, 1, none⟩ = some (uv a.m) := Ba.cell 1
  have fa := Ba.frozen
  have la := Ba.lt
  have cb0 : w1.cell? ⟨w.heap.size + 1, 0, none⟩ = some (uv b.v) := Bb.cell 0
  have cb1 : w1.cell? ⟨w.heap.size + 1, 1, none⟩ = some (uv b.m) := Bb.cell 1
  have fb := Bb.frozen
  have lb := Bb.lt
  go_wp2_with fail
  replace ca0 : ∀ g : Later w1, g.w.cell? ⟨w.heap.size, 0, none⟩ = some (uv a.v) := fun g => g.cell (Ba.cell 0)
  replace ca1 : ∀ g : Later w1, g.w.cell? ⟨w.heap.size, 1, none⟩ = some (uv a.m) := fun g => g.cell (Ba.cell 1)
  replace cb0 : ∀ g : Later w1, g.w.cell? ⟨w.heap.size + 1, 0, none⟩ = some (uv b.v) := fun g => g.cell (Bb.cell 0)
  replace cb1 : ∀ g : Later w1, g.w.cell? ⟨w.heap.size + 1, 1, none⟩ = some (uv b.m) := fun g => g.cell (Bb.cell 1)
  refine wp_region_mix 4 (fun _ => #[]) (by kernel_rfl) (by kernel_rfl) (no_alloc (by kernel_rfl)) ?_
  simp only [List.take_succ_cons, List.take_zero, List.drop_succ_cons, List.drop_zero]
  repeat (refine wpMix_step (fun K hK => ?_); go_simp; first | (refine hK _ ?_; clear hK K) | (apply Exists.intro; refine ⟨fun g => ?_, hK _ ?_⟩; (go_at_call 13; exact rightl_c _ _); clear hK K))
  refine wpMix_nil ?_
  intro G w2 hgr hblk hdist
  have hb : Below w1.heap.size w1 w2 := hgr
  replace Ba := Ba.next hb
  replace Bb := Bb.next hb
  clear ca0 ca1 fa la
  clear cb0 cb1 fb lb
  replace hB : Below w.heap.size w w2 := Bl_trans hB hb
  simp only [putAll, isAlloc]
  clear hb hgr hblk hdist
  have ca0 : w2.cell? ⟨w.heap.size, 0, none⟩ = some (uv a.v) := Ba.cell 0
  have ca1 : w2.cell? ⟨w.heap.size, 1, none⟩ = some (uv a.m) := Ba.cell 1
  have fa := Ba.frozen
  have la := Ba.lt
  have cb0 : w2.cell? ⟨w.heap.size + 1, 0, none⟩ = some (uv b.v) := Bb.cell 0
  have cb1 : w2.cell? ⟨w.heap.size + 1, 1, none⟩ = some (uv b.m) := Bb.cell 1
  have fb := Bb.frozen
  have lb := Bb.lt
  go_wp2_with fail
  clear ca0 ca1 fa la
  clear cb0 cb1 fb lb
  replace Ba : Blk ((w2.setCell ⟨w.heap.size, 0, none⟩ (uv (PlainTnum.right a).v)).setCell ⟨w.heap.size, 1, none⟩ (uv (PlainTnum.right a).m)) (w.heap.size) 24 #[uv (PlainTnum.right a).v, uv (PlainTnum.right a).m] := ((Ba.set_ 0 _).set_ 1 _)
  replace Bb : Blk ((w2.setCell ⟨w.heap.size, 0, none⟩ (uv (PlainTnum.right a).v)).setCell ⟨w.heap.size, 1, none⟩ (uv (PlainTnum.right a).m)) (w.heap.size + 1) 24 #[uv b.v, uv b.m] := ((Bb.far (by first | (simp; done) | (simp; omega) | (simp [*]; done) | (simp only [ne_eq]; constructor <;> omega)) _).far (by first | (simp; done) | (simp; omega) | (simp [*]; done) | (simp only [ne_eq]; constructor <;> omega)) _)
  replace hB : Below w.heap.size w ((w2.setCell ⟨w.heap.size, 0, none⟩ (uv (PlainTnum.right a).v)).setCell ⟨w.heap.size, 1, none⟩ (uv (PlainTnum.right a).m)) := (Bl_set (Bl_set hB (by first | omega | (simp; done) | (simp; omega)) _) (by first | omega | (simp; done) | (simp; omega)) _)
  replace Ba : Blk ((((w2.setCell ⟨w.heap.size, 0, none⟩ (uv (PlainTnum.right a).v)).setCell ⟨w.heap.size, 1, none⟩ (uv (PlainTnum.right a).m)).setCell ⟨w.heap.size + 1, 0, none⟩ (uv (PlainTnum.right b).v)).setCell ⟨w.heap.size + 1, 1, none⟩ (uv (PlainTnum.right b).m)) (w.heap.size) 24 #[uv (PlainTnum.right a).v, uv (PlainTnum.right a).m] := ((Ba.far (by first | (simp; done) | (simp; omega) | (simp [*]; done) | (simp only [ne_eq]; constructor <;> omega)) _).far (by first | (simp; done) | (simp; omega) | (simp [*]; done) | (simp only [ne_eq]; constructor <;> omega)) _)
  replace Bb : Blk ((((w2.setCell ⟨w.heap.size, 0, none⟩ (uv (PlainTnum.right a).v)).setCell ⟨w.heap.size, 1, none⟩ (uv (PlainTnum.right a).m)).setCell ⟨w.heap.size + 1, 0, none⟩ (uv (PlainTnum.right b).v)).setCell ⟨w.heap.size + 1, 1, none⟩ (uv (PlainTnum.right b).m)) (w.heap.size + 1) 24 #[uv (PlainTnum.right b).v, uv (PlainTnum.right b).m] := ((Bb.set_ 0 _).set_ 1 _)
  replace hB : Below w.heap.size w ((((w2.setCell ⟨w.heap.size, 0, none⟩ (uv (PlainTnum.right a).v)).setCell ⟨w.heap.size, 1, none⟩ (uv (PlainTnum.right a).m)).setCell ⟨w.heap.size + 1, 0, none⟩ (uv (PlainTnum.right b).v)).setCell ⟨w.heap.size + 1, 1, none⟩ (uv (PlainTnum.right b).m)) := (Bl_set (Bl_set hB (by first | omega | (simp; done) | (simp; omega)) _) (by first | omega | (simp; done) | (simp; omega)) _)
  generalize ((((w2.setCell ⟨w.heap.size, 0, none⟩ (uv (PlainTnum.right a).v)).setCell ⟨w.heap.size, 1, none⟩ (uv (PlainTnum.right a).m)).setCell ⟨w.heap.size + 1, 0, none⟩ (uv (PlainTnum.right b).v)).setCell ⟨w.heap.size + 1, 1, none⟩ (uv (PlainTnum.right b).m)) = w3 at *
  have ca0 : w3.cell? ⟨w.heap.size, 0, none⟩ = some (uv (PlainTnum.right a).v) := Ba.cell 0
  have ca1 : w3.cell? ⟨w.heap.size, 1, none⟩ = some (uv (PlainTnum.right a).m) := Ba.cell 1
  have fa := Ba.frozen
  have la := Ba.lt
  have cb0 : w3.cell? ⟨w.heap.size + 1, 0, none⟩ = some (uv (PlainTnum.right b).v) := Bb.cell 0
  have cb1 : w3.cell? ⟨w.heap.size + 1, 1, none⟩ = some (uv (PlainTnum.right b).m) := Bb.cell 1
  have fb := Bb.frozen
  have lb := Bb.lt
  go_wp2_with fail
  replace ca0 : ∀ g : Later w3, g.w.cell? ⟨w.heap.size, 0, none⟩ = some (uv (PlainTnum.right a).v) := fun g => g.cell (Ba.cell 0)
  replace ca1 : ∀ g : Later w3, g.w.cell? ⟨w.heap.size, 1, none⟩ = some (uv (PlainTnum.right a).m) := fun g => g.cell (Ba.cell 1)
  replace cb0 : ∀ g : Later w3, g.w.cell? ⟨w.heap.size + 1, 0, none⟩ = some (uv (PlainTnum.right b).v) := fun g => g.cell (Bb.cell 0)
  replace cb1 : ∀ g : Later w3, g.w.cell? ⟨w.heap.size + 1, 1, none⟩ = some (uv (PlainTnum.right b).m) := fun g => g.cell (Bb.cell 1)
  refine wp_region_mix 6 (fun _ => #[.int .u64 0, .int .u64 0]) (by kernel_rfl) (by kernel_rfl) (fun o t ho ht => by
    simp at ho
    rcases ho with rfl | rfl | rfl | rfl | rfl | rfl <;> first | (cases ht; done) | (obtain rfl := Option.some.inj ht; exact fun ρ w => new_num ht ρ w)) ?_
  simp only [List.take_succ_cons, List.take_zero, List.drop_succ_cons, List.drop_zero]
  repeat (refine wpMix_step (fun K hK => ?_); go_simp; first | (refine hK _ ?_; clear hK K) | (apply Exists.intro; refine ⟨fun g => ?_, hK _ ?_⟩; (go_at_call 14; exact to_c _ _); clear hK K))
  refine wpMix_nil ?_
  intro G w4 hgr hblk hdist
  have hb : Below w3.heap.size w3 w4 := hgr
  replace Ba := Ba.next hb
  replace Bb := Bb.next hb
  obtain ⟨Bx, hlx⟩ := hblk 4 _ rfl
  obtain ⟨By, hly⟩ := hblk 5 _ rfl
  have hdxy := hdist 4 5 _ _ rfl rfl (by decide)
  have hgx : w.heap.size ≤ G 4 := Nat.le_trans hB.size hlx
  have hnax : w.heap.size ≠ G 4 := Nat.ne_of_lt (Nat.lt_of_lt_of_le la hlx)
  have hnbx : w.heap.size + 1 ≠ G 4 := Nat.ne_of_lt (Nat.lt_of_lt_of_le lb hlx)
  clear hlx
  have hgy : w.heap.size ≤ G 5 := Nat.le_trans hB.size hly
  have hnay : w.heap.size ≠ G 5 := Nat.ne_of_lt (Nat.lt_of_lt_of_le la hly)
  have hnby : w.heap.size + 1 ≠ G 5 := Nat.ne_of_lt (Nat.lt_of_lt_of_le lb hly)
  clear hly
  clear ca0 ca1 fa la
  clear cb0 cb1 fb lb
  replace hB : Below w.heap.size w w4 := Bl_trans hB hb
  simp only [putAll, isAlloc, Act.put]
  generalize G 4 = gx at *
  generalize G 5 = gy at *
  clear hb hgr hblk hdist
  have ca0 : w4.cell? ⟨w.heap.size, 0, none⟩ = some (uv (PlainTnum.right a).v) := Ba.cell 0
  have ca1 : w4.cell? ⟨w.heap.size, 1, none⟩ = some (uv (PlainTnum.right a).m) := Ba.cell 1
  have fa := Ba.frozen
  have la := Ba.lt
  have cb0 : w4.cell? ⟨w.heap.size + 1, 0, none⟩ = some (uv (PlainTnum.right b).v) := Bb.cell 0
  have cb1 : w4.cell? ⟨w.heap.size + 1, 1, none⟩ = some (uv (PlainTnum.right b).m) := Bb.cell 1
  have fb := Bb.frozen
  have lb := Bb.lt
  have cx0 : w4.cell? ⟨gx, 0, none⟩ = some (.int .u64 0) := Bx.cell 0
  have cx1 : w4.cell? ⟨gx, 1, none⟩ = some (.int .u64 0) := Bx.cell 1
  have fx := Bx.frozen
  have lx := Bx.lt
  have cy0 : w4.cell? ⟨gy, 0, none⟩ = some (.int .u64 0) := By.cell 0
  have cy1 : w4.cell? ⟨gy, 1, none⟩ = some (.int .u64 0) := By.cell 1
  have fy := By.frozen
  have ly := By.lt
  go_wp2_with fail
  clear ca0 ca1 fa la
  clear cb0 cb1 fb lb
  clear cx0 cx1 fx lx
  clear cy0 cy1 fy ly
  replace Ba : Blk ((w4.setCell ⟨gx, 0, none⟩ (uv (PlainTnum.right a).v)).setCell ⟨gx, 1, none⟩ (uv (PlainTnum.right a).m)) (w.heap.size) 24 #[uv (PlainTnum.right a).v, uv (PlainTnum.right a).m] := ((Ba.far (by first | (simp; done) | (simp; omega) | (simp [*]; done) | (simp only [ne_eq]; constructor <;> omega)) _).far (by first | (simp; done) | (simp; omega) | (simp [*]; done) | (simp only [ne_eq]; constructor <;> omega)) _)
  replace Bb : Blk ((w4.setCell ⟨gx, 0, none⟩ (uv (PlainTnum.right a).v)).setCell ⟨gx, 1, none⟩ (uv (PlainTnum.right a).m)) (w.heap.size + 1) 24 #[uv (PlainTnum.right b).v, uv (PlainTnum.right b).m] := ((Bb.far (by first | (simp; done) | (simp; omega) | (simp [*]; done) | (simp only [ne_eq]; constructor <;> omega)) _).far (by first | (simp; done) | (simp; omega) | (simp [*]; done) | (simp only [ne_eq]; constructor <;> omega)) _)
  replace Bx : Blk ((w4.setCell ⟨gx, 0, none⟩ (uv (PlainTnum.right a).v)).setCell ⟨gx, 1, none⟩ (uv (PlainTnum.right a).m)) (gx) 27 #[uv (PlainTnum.right a).v, uv (PlainTnum.right a).m] := ((Bx.set_ 0 _).set_ 1 _)
  replace By : Blk ((w4.setCell ⟨gx, 0, none⟩ (uv (PlainTnum.right a).v)).setCell ⟨gx, 1, none⟩ (uv (PlainTnum.right a).m)) (gy) 27 #[.int .u64 0, .int .u64 0] := ((By.far (by first | (simp; done) | (simp; omega) | (simp [*]; done) | (simp only [ne_eq]; constructor <;> omega)) _).far (by first | (simp; done) | (simp; omega) | (simp [*]; done) | (simp only [ne_eq]; constructor <;> omega)) _)
  replace hB : Below w.heap.size w ((w4.setCell ⟨gx, 0, none⟩ (uv (PlainTnum.right a).v)).setCell ⟨gx, 1, none⟩ (uv (PlainTnum.right a).m)) := (Bl_set (Bl_set hB (by first | omega | (simp; done) | (simp; omega)) _) (by first | omega | (simp; done) | (simp; omega)) _)
  replace Ba : Blk ((((w4.setCell ⟨gx, 0, none⟩ (uv (PlainTnum.right a).v)).setCell ⟨gx, 1, none⟩ (uv (PlainTnum.right a).m)).setCell ⟨gy, 0, none⟩ (uv (PlainTnum.right b).v)).setCell ⟨gy, 1, none⟩ (uv (PlainTnum.right b).m)) (w.heap.size) 24 #[uv (PlainTnum.right a).v, uv (PlainTnum.right a).m] := ((Ba.far (by first | (simp; done) | (simp; omega) | (simp [*]; done) | (simp only [ne_eq]; constructor <;> omega)) _).far (by first | (simp; done) | (simp; omega) | (simp [*]; done) | (simp only [ne_eq]; constructor <;> omega)) _)
  replace Bb : Blk ((((w4.setCell ⟨gx, 0, none⟩ (uv (PlainTnum.right a).v)).setCell ⟨gx, 1, none⟩ (uv (PlainTnum.right a).m)).setCell ⟨gy, 0, none⟩ (uv (PlainTnum.right b).v)).setCell ⟨gy, 1, none⟩ (uv (PlainTnum.right b).m)) (w.heap.size + 1) 24 #[uv (PlainTnum.right b).v, uv (PlainTnum.right b).m] := ((Bb.far (by first | (simp; done) | (simp; omega) | (simp [*]; done) | (simp only [ne_eq]; constructor <;> omega)) _).far (by first | (simp; done) | (simp; omega) | (simp [*]; done) | (simp only [ne_eq]; constructor <;> omega)) _)
  replace Bx : Blk ((((w4.setCell ⟨gx, 0, none⟩ (uv (PlainTnum.right a).v)).setCell ⟨gx, 1, none⟩ (uv (PlainTnum.right a).m)).setCell ⟨gy, 0, none⟩ (uv (PlainTnum.right b).v)).setCell ⟨gy, 1, none⟩ (uv (PlainTnum.right b).m)) (gx) 27 #[uv (PlainTnum.right a).v, uv (PlainTnum.right a).m] := ((Bx.far (by first | (simp; done) | (simp; omega) | (simp [*]; done) | (simp only [ne_eq]; constructor <;> omega)) _).far (by first | (simp; done) | (simp; omega) | (simp [*]; done) | (simp only [ne_eq]; constructor <;> omega)) _)
  replace By : Blk ((((w4.setCell ⟨gx, 0, none⟩ (uv (PlainTnum.right a).v)).setCell ⟨gx, 1, none⟩ (uv (PlainTnum.right a).m)).setCell ⟨gy, 0, none⟩ (uv (PlainTnum.right b).v)).setCell ⟨gy, 1, none⟩ (uv (PlainTnum.right b).m)) (gy) 27 #[uv (PlainTnum.right b).v, uv (PlainTnum.right b).m] := ((By.set_ 0 _).set_ 1 _)
  replace hB : Below w.heap.size w ((((w4.setCell ⟨gx, 0, none⟩ (uv (PlainTnum.right a).v)).setCell ⟨gx, 1, none⟩ (uv (PlainTnum.right a).m)).setCell ⟨gy, 0, none⟩ (uv (PlainTnum.right b).v)).setCell ⟨gy, 1, none⟩ (uv (PlainTnum.right b).m)) := (Bl_set (Bl_set hB (by first | omega | (simp; done) | (simp; omega)) _) (by first | omega | (simp; done) | (simp; omega)) _)
  generalize ((((w4.setCell ⟨gx, 0, none⟩ (uv (PlainTnum.right a).v)).setCell ⟨gx, 1, none⟩ (uv (PlainTnum.right a).m)).setCell ⟨gy, 0, none⟩ (uv (PlainTnum.right b).v)).setCell ⟨gy, 1, none⟩ (uv (PlainTnum.right b).m)) = w5 at *
  have ca0 : w5.cell? ⟨w.heap.size, 0, none⟩ = some (uv (PlainTnum.right a).v) := Ba.cell 0
  have ca1 : w5.cell? ⟨w.heap.size, 1, none⟩ = some (uv (PlainTnum.right a).m) := Ba.cell 1
  have fa := Ba.frozen
  have la := Ba.lt
  have cb0 : w5.cell? ⟨w.heap.size + 1, 0, none⟩ = some (uv (PlainTnum.right b).v) := Bb.cell 0
  have cb1 : w5.cell? ⟨w.heap.size + 1, 1, none⟩ = some (uv (PlainTnum.right b).m) := Bb.cell 1
  have fb := Bb.frozen
  have lb := Bb.lt
  have cx0 : w5.cell? ⟨gx, 0, none⟩ = some (uv (PlainTnum.right a).v) := Bx.cell 0
  have cx1 : w5.cell? ⟨gx, 1, none⟩ = some (uv (PlainTnum.right a).m) := Bx.cell 1
  have fx := Bx.frozen
  have lx := Bx.lt
  have cy0 : w5.cell? ⟨gy, 0, none⟩ = some (uv (PlainTnum.right b).v) := By.cell 0
  have cy1 : w5.cell? ⟨gy, 1, none⟩ = some (uv (PlainTnum.right b).m) := By.cell 1
  have fy := By.frozen
  have ly := By.lt
  refine (rightl_c ⟨(PlainTnum.right a).v, (PlainTnum.right a).m ||| more⟩ _).mono ?_
  rintro e w6 ⟨rfl, hb⟩
  clear ca0 ca1 fa la
  clear cb0 cb1 fb lb
  clear cx0 cx1 fx lx
  clear cy0 cy1 fy ly
  replace Ba := (Ba).next hb
  replace Bb := (Bb).next hb
  replace Bx := (Bx).next hb
  replace By := (By).next hb
  replace hB : Below w.heap.size w w6 := by repeat (first | exact hB | (refine Bl_set ?_ (by first | omega | (simp; omega)) _) | apply Bl_alloc | (refine Bl_trans ?_ hb))
  clear hb
  have ca0 : w6.cell? ⟨w.heap.size, 0, none⟩ = some (uv (PlainTnum.right a).v) := Ba.cell 0
  have ca1 : w6.cell? ⟨w.heap.size, 1, none⟩ = some (uv (PlainTnum.right a).m) := Ba.cell 1
  have fa := Ba.frozen
  have la := Ba.lt
  have cb0 : w6.cell? ⟨w.heap.size + 1, 0, none⟩ = some (uv (PlainTnum.right b).v) := Bb.cell 0
  have cb1 : w6.cell? ⟨w.heap.size + 1, 1, none⟩ = some (uv (PlainTnum.right b).m) := Bb.cell 1
  have fb := Bb.frozen
  have lb := Bb.lt
  have cx0 : w6.cell? ⟨gx, 0, none⟩ = some (uv (PlainTnum.right a).v) := Bx.cell 0
  have cx1 : w6.cell? ⟨gx, 1, none⟩ = some (uv (PlainTnum.right a).m) := Bx.cell 1
  have fx := Bx.frozen
  have lx := Bx.lt
  have cy0 : w6.cell? ⟨gy, 0, none⟩ = some (uv (PlainTnum.right b).v) := By.cell 0
  have cy1 : w6.cell? ⟨gy, 1, none⟩ = some (uv (PlainTnum.right b).m) := By.cell 1
  have fy := By.frozen
  have ly := By.lt
  go_wp2_with fail
  refine (to_c _ _).mono ?_
  rintro e w7 ⟨rfl, hb⟩
  clear ca0 ca1 fa la
  clear cb0 cb1 fb lb
  clear cx0 cx1 fx lx
  clear cy0 cy1 fy ly
  replace Ba := (Ba).next hb
  replace Bb := (Bb).next hb
  replace Bx := (Bx).next hb
  replace By := (By).next hb
  replace hB : Below w.heap.size w w7 := by repeat (first | exact hB | (refine Bl_set ?_ (by first | omega | (simp; omega)) _) | apply Bl_alloc | (refine Bl_trans ?_ hb))
  clear hb
  have ca0 : w7.cell? ⟨w.heap.size, 0, none⟩ = some (uv (PlainTnum.right a).v) := Ba.cell 0
  have ca1 : w7.cell? ⟨w.heap.size, 1, none⟩ = some (uv (PlainTnum.right a).m) := Ba.cell 1
  have fa := Ba.frozen
  have la := Ba.lt
  have cb0 : w7.cell? ⟨w.heap.size + 1, 0, none⟩ = some (uv (PlainTnum.right b).v) := Bb.cell 0
  have cb1 : w7.cell? ⟨w.heap.size + 1, 1, none⟩ = some (uv (PlainTnum.right b).m) := Bb.cell 1
  have fb := Bb.frozen
  have lb := Bb.lt
  have cx0 : w7.cell? ⟨gx, 0, none⟩ = some (uv (PlainTnum.right a).v) := Bx.cell 0
  have cx1 : w7.cell? ⟨gx, 1, none⟩ = some (uv (PlainTnum.right a).m) := Bx.cell 1
  have fx := Bx.frozen
  have lx := Bx.lt
  have cy0 : w7.cell? ⟨gy, 0, none⟩ = some (uv (PlainTnum.right b).v) := By.cell 0
  have cy1 : w7.cell? ⟨gy, 1, none⟩ = some (uv (PlainTnum.right b).m) := By.cell 1
  have fy := By.frozen
  have ly := By.lt
  go_wp2_with fail
  clear ca0 ca1 fa la
  clear cb0 cb1 fb lb
  clear cx0 cx1 fx lx
  clear cy0 cy1 fy ly
  have Bz := Blk.new w7 27 #[uv (PlainTnum.right ⟨(PlainTnum.right a).v, (PlainTnum.right a).m ||| more⟩).v, uv (PlainTnum.right ⟨(PlainTnum.right a).v, (PlainTnum.right a).m ||| more⟩).m]
  have hgz := hB.size
  have hnaz := Nat.ne_of_lt Ba.lt
  have hnbz := Nat.ne_of_lt Bb.lt
  have hnxz := Nat.ne_of_lt Bx.lt
  have hnyz := Nat.ne_of_lt By.lt
  replace Ba : Blk (w7.alloc (.cells #[uv (PlainTnum.right ⟨(PlainTnum.right a).v, (PlainTnum.right a).m ||| more⟩).v, uv (PlainTnum.right ⟨(PlainTnum.right a).v, (PlainTnum.right a).m ||| more⟩).m] 27)) (w.heap.size) 24 #[uv (PlainTnum.right a).v, uv (PlainTnum.right a).m] := Ba.alloc _
  replace Bb : Blk (w7.alloc (.cells #[uv (PlainTnum.right ⟨(PlainTnum.right a).v, (PlainTnum.right a).m ||| more⟩).v, uv (PlainTnum.right ⟨(PlainTnum.right a).v, (PlainTnum.right a).m ||| more⟩).m] 27)) (w.heap.size + 1) 24 #[uv (PlainTnum.right b).v, uv (PlainTnum.right b).m] := Bb.alloc _
  replace Bx : Blk (w7.alloc (.cells #[uv (PlainTnum.right ⟨(PlainTnum.right a).v, (PlainTnum.right a).m ||| more⟩).v, uv (PlainTnum.right ⟨(PlainTnum.right a).v, (PlainTnum.right a).m ||| more⟩).m] 27)) (gx) 27 #[uv (PlainTnum.right a).v, uv (PlainTnum.right a).m] := Bx.alloc _
  replace By : Blk (w7.alloc (.cells #[uv (PlainTnum.right ⟨(PlainTnum.right a).v, (PlainTnum.right a).m ||| more⟩).v, uv (PlainTnum.right ⟨(PlainTnum.right a).v, (PlainTnum.right a).m ||| more⟩).m] 27)) (gy) 27 #[uv (PlainTnum.right b).v, uv (PlainTnum.right b).m] := By.alloc _
  replace hB : Below w.heap.size w (w7.alloc (.cells #[uv (PlainTnum.right ⟨(PlainTnum.right a).v, (PlainTnum.right a).m ||| more⟩).v, uv (PlainTnum.right ⟨(PlainTnum.right a).v, (PlainTnum.right a).m ||| more⟩).m] 27)) := Bl_alloc hB _
  generalize (w7.alloc (.cells #[uv (PlainTnum.right ⟨(PlainTnum.right a).v, (PlainTnum.right a).m ||| more⟩).v, uv (PlainTnum.right ⟨(PlainTnum.right a).v, (PlainTnum.right a).m ||| more⟩).m] 27)) = w8 at *
  generalize w7.heap.size = gz at *
  have ca0 : w8.cell? ⟨w.heap.size, 0, none⟩ = some (uv (PlainTnum.right a).v) := Ba.cell 0
  have ca1 : w8.cell? ⟨w.heap.size, 1, none⟩ = some (uv (PlainTnum.right a).m) := Ba.cell 1
  have fa := Ba.frozen
  have la := Ba.lt
  have cb0 : w8.cell? ⟨w.heap.size + 1, 0, none⟩ = some (uv (PlainTnum.right b).v) := Bb.cell 0
  have cb1 : w8.cell? ⟨w.heap.size + 1, 1, none⟩ = some (uv (PlainTnum.right b).m) := Bb.cell 1
  have fb := Bb.frozen
  have lb := Bb.lt
  have cx0 : w8.cell? ⟨gx, 0, none⟩ = some (uv (PlainTnum.right a).v) := Bx.cell 0
  have cx1 : w8.cell? ⟨gx, 1, none⟩ = some (uv (PlainTnum.right a).m) := Bx.cell 1
  have fx := Bx.frozen
  have lx := Bx.lt
  have cy0 : w8.cell? ⟨gy, 0, none⟩ = some (uv (PlainTnum.right b).v) := By.cell 0
  have cy1 : w8.cell? ⟨gy, 1, none⟩ = some (uv (PlainTnum.right b).m) := By.cell 1
  have fy := By.frozen
  have ly := By.lt
  have cz0 : w8.cell? ⟨gz, 0, none⟩ = some (uv (PlainTnum.right ⟨(PlainTnum.right a).v, (PlainTnum.right a).m ||| more⟩).v) := Bz.cell 0
  have cz1 : w8.cell? ⟨gz, 1, none⟩ = some (uv (PlainTnum.right ⟨(PlainTnum.right a).v, (PlainTnum.right a).m ||| more⟩).m) := Bz.cell 1
  have fz := Bz.frozen
  have lz := Bz.lt
  go_wp2_with fail
  replace ca0 : ∀ g : Later w8, g.w.cell? ⟨w.heap.size, 0, none⟩ = some (uv (PlainTnum.right a).v) := fun g => g.cell (Ba.cell 0)
  replace ca1 : ∀ g : Later w8, g.w.cell? ⟨w.heap.size, 1, none⟩ = some (uv (PlainTnum.right a).m) := fun g => g.cell (Ba.cell 1)
  replace cb0 : ∀ g : Later w8, g.w.cell? ⟨w.heap.size + 1, 0, none⟩ = some (uv (PlainTnum.right b).v) := fun g => g.cell (Bb.cell 0)
  replace cb1 : ∀ g : Later w8, g.w.cell? ⟨w.heap.size + 1, 1, none⟩ = some (uv (PlainTnum.right b).m) := fun g => g.cell (Bb.cell 1)
  replace cx0 : ∀ g : Later w8, g.w.cell? ⟨gx, 0, none⟩ = some (uv (PlainTnum.right a).v) := fun g => g.cell (Bx.cell 0)
  replace cx1 : ∀ g : Later w8, g.w.cell? ⟨gx, 1, none⟩ = some (uv (PlainTnum.right a).m) := fun g => g.cell (Bx.cell 1)
  replace cy0 : ∀ g : Later w8, g.w.cell? ⟨gy, 0, none⟩ = some (uv (PlainTnum.right b).v) := fun g => g.cell (By.cell 0)
  replace cy1 : ∀ g : Later w8, g.w.cell? ⟨gy, 1, none⟩ = some (uv (PlainTnum.right b).m) := fun g => g.cell (By.cell 1)
  replace cz0 : ∀ g : Later w8, g.w.cell? ⟨gz, 0, none⟩ = some (uv (PlainTnum.right ⟨(PlainTnum.right a).v, (PlainTnum.right a).m ||| more⟩).v) := fun g => g.cell (Bz.cell 0)
  replace cz1 : ∀ g : Later w8, g.w.cell? ⟨gz, 1, none⟩ = some (uv (PlainTnum.right ⟨(PlainTnum.right a).v, (PlainTnum.right a).m ||| more⟩).m) := fun g => g.cell (Bz.cell 1)
  try simp only [List.append_eq, List.cons_append, List.nil_append]
  refine wp_region_mix 79 (fun _ => #[]) (by kernel_rfl) (by kernel_rfl) (no_alloc (by kernel_rfl)) ?_
  simp only [List.take_succ_cons, List.take_zero, List.drop_succ_cons, List.drop_zero]
  repeat (refine wpMix_step (fun K hK => ?_); go_simp; first | (refine hK _ ?_; clear hK K) | (apply Exists.intro; refine ⟨fun g => ?_, hK _ ?_⟩; (go_at_call 15; exact knows_c _); clear hK K) | (apply Exists.intro; refine ⟨fun g => ?_, hK _ ?_⟩; (go_at_call 25; exact within_true _ _ (by with_reducible first | exact hW.out | exact PlainTnum.within_add hA.out hBr.out hW.out (PlainTnum.within_refl hBr.out) | exact PlainTnum.within_sub hA.out hBr.out hW.out (PlainTnum.within_refl hBr.out) | exact PlainTnum.within_and hA.out hBr.out hW.out (PlainTnum.within_refl hBr.out)) _); clear hK K) | (apply Exists.intro; refine ⟨fun g => ?_, hK _ ?_⟩; (go_at_call 38; exact sub_c _ _ _); clear hK K) | (apply Exists.intro; refine ⟨fun g => ?_, hK _ ?_⟩; (go_at_call 34; exact add_c _ _ _); clear hK K) | (apply Exists.intro; refine ⟨fun g => ?_, hK _ ?_⟩; (go_at_call 35; exact and_c _ _ _); clear hK K) | (apply Exists.intro; refine ⟨fun g => ?_, hK _ ?_⟩; (go_at_call 36; exact or_c _ _ _); clear hK K) | (apply Exists.intro; refine ⟨fun g => ?_, hK _ ?_⟩; (go_at_call 37; exact xor_c _ _ _); clear hK K) | (apply Exists.intro; refine ⟨fun g => ?_, hK _ ?_⟩; (go_at_call 22; exact join_c _ _ _); clear hK K))
  refine wpMix_nil ?_
  intro G w9 hgr hblk hdist
  have hb : Below w8.heap.size w8 w9 := hgr
  replace Ba := Ba.next hb
  replace Bb := Bb.next hb
  replace Bx := Bx.next hb
  replace By := By.next hb
  replace Bz := Bz.next hb
  clear ca0 ca1 fa la
  clear cb0 cb1 fb lb
  clear cx0 cx1 fx lx
  clear cy0 cy1 fy ly
  clear cz0 cz1 fz lz
  replace hB : Below w.heap.size w w9 := Bl_trans hB hb
  simp only [putAll, isAlloc]
  clear hb hgr hblk hdist
  have ca0 : w9.cell? ⟨w.heap.size, 0, none⟩ = some (uv (PlainTnum.right a).v) := Ba.cell 0
  have ca1 : w9.cell? ⟨w.heap.size, 1, none⟩ = some (uv (PlainTnum.right a).m) := Ba.cell 1
  have fa := Ba.frozen
  have la := Ba.lt
  have cb0 : w9.cell? ⟨w.heap.size + 1, 0, none⟩ = some (uv (PlainTnum.right b).v) := Bb.cell 0
  have cb1 : w9.cell? ⟨w.heap.size + 1, 1, none⟩ = some (uv (PlainTnum.right b).m) := Bb.cell 1
  have fb := Bb.frozen
  have lb := Bb.lt
  have cx0 : w9.cell? ⟨gx, 0, none⟩ = some (uv (PlainTnum.right a).v) := Bx.cell 0
  have cx1 : w9.cell? ⟨gx, 1, none⟩ = some (uv (PlainTnum.right a).m) := Bx.cell 1
  have fx := Bx.frozen
  have lx := Bx.lt
  have cy0 : w9.cell? ⟨gy, 0, none⟩ = some (uv (PlainTnum.right b).v) := By.cell 0
  have cy1 : w9.cell? ⟨gy, 1, none⟩ = some (uv (PlainTnum.right b).m) := By.cell 1
  have fy := By.frozen
  have ly := By.lt
  have cz0 : w9.cell? ⟨gz, 0, none⟩ = some (uv (PlainTnum.right ⟨(PlainTnum.right a).v, (PlainTnum.right a).m ||| more⟩).v) := Bz.cell 0
  have cz1 : w9.cell? ⟨gz, 1, none⟩ = some (uv (PlainTnum.right ⟨(PlainTnum.right a).v, (PlainTnum.right a).m ||| more⟩).m) := Bz.cell 1
  have fz := Bz.frozen
  have lz := Bz.lt
  go_wp2
  go_ret
  exact ⟨rfl, by repeat (first | exact hB | (refine Bl_set ?_ (by first | omega | (simp; omega)) _) | apply Bl_alloc)⟩
theorem walkN_TnumOrders (v m v' m' : W) (x : W) (w : World) : Calls Try.prog 6 #[.agg #[.int .u64 (T v), .int .u64 (T m)], .agg #[.int .u64 (T v'), .int .u64 (T m')], .int .u64 (T x)] w fun e w' => e = .returned (.bool true) ∧ Below w.heap.size w w' := walk_TnumOrders ⟨v, m⟩ ⟨v', m'⟩ x w
namespace tnumOrders
set_option maxRecDepth 100000 in
theorem lifted (os : Os) (started : os.Started) (H : Type) (enc : TypeId × Value → H) :
    ReturnsInHanded {} Try.checked os 6 .any (Rows.tnumOrdersSpec.pre6 enc Try.prog Try.f6 Rows.tnumOrdersRow.domain false) (Rows.tnumOrdersSpec.post enc Try.prog Try.f6 false true false false) := by
  refine returnsInHanded_of_change (C := Try.checked) own started (by kernel_rfl) Try.func6
    (ChangeSpec.witness6 (enc := enc) (C := Try.checked) false ⟨#[], #[.agg #[.int .u64 0, .int .u64 0], .agg #[.int .u64 0, .int .u64 0], .int .u64 0], []⟩ 8 (by kernel_rfl) (by kernel_rfl) (by kernel_rfl) (by kernel_rfl)) ?_
  intro W base args ds gs before hval0 hW hcnd _
  have hval : ∀ (j : Nat) t v, Try.f6.params[j]? = some t → args[j]? = some v → Value.okWide Try.prog W .any base t v := hval0
  have hW' := hW
  obtain ⟨p, q, hA0, hV, rfl, hfz, hnd⟩ := hW
  have hA : DataW.TrodAll enc Try.prog W 0 (fun _ => true) true Try.f6.params.toList args.toList ds p := hA0
  rw [Try.params6] at hA hval
  obtain ⟨v0, vs0, d0, ds0, p0, q0, hargs, rfl, rfl, h0, r0⟩ := trodAll_cons hA
  obtain ⟨v1, vs1, d1, ds1, p1, q1, rfl, rfl, rfl, h1, r1⟩ := trodAll_cons r0
  obtain ⟨v2, vs2, d2, ds2, p2, q2, rfl, rfl, rfl, h2, r2⟩ := trodAll_cons r1
  obtain ⟨rfl, rfl, rfl⟩ := trodAll_nil r2
  obtain rfl : args = #[v0, v1, v2] := by cases args; simp_all
  obtain ⟨rfl, rfl⟩ := trodVars_none hV
  have lt0 : ∀ x ∈ p0, x.block < W.heap.size := by obtain ⟨m, hm⟩ := h0; exact DataW.trod_lt m _ _ _ hm
  obtain ⟨x0, y0, rfl⟩ := open_uu Try.underlying22 (by rw [Try.underlying24]) (by kernel_rfl) (by kernel_rfl) (hval 0 24 v0 rfl rfl)
  have lt1 : ∀ x ∈ p1, x.block < W.heap.size := by obtain ⟨m, hm⟩ := h1; exact DataW.trod_lt m _ _ _ hm
  obtain ⟨x1, y1, rfl⟩ := open_uu Try.underlying22 (by rw [Try.underlying24]) (by kernel_rfl) (by kernel_rfl) (hval 1 24 v1 rfl rfl)
  have lt2 : ∀ x ∈ p2, x.block < W.heap.size := by obtain ⟨m, hm⟩ := h2; exact DataW.trod_lt m _ _ _ hm
  obtain ⟨x2, rfl⟩ := open_u64 Try.underlying22 (hval 2 22 v2 rfl rfl)
  refine (walkN_TnumOrders x0 y0 x1 y1 x2 W).mono fun e W' ⟨he, bel⟩ => ?_
  subst he
  exact ⟨_, rfl, _, _, _, [], _, [], hW', trodAll_mk1 (shut_bool Try.underlying4 _), (trodAll_cons_mk (Below.trod laidOut (by kernel_rfl) (of_decide_eq_true (by kernel_rfl)) h0 bel lt0) (trodAll_cons_mk (Below.trod laidOut (by kernel_rfl) (of_decide_eq_true (by kernel_rfl)) h1 bel lt1) (trodAll_cons_mk (Below.trod laidOut (by kernel_rfl) (of_decide_eq_true (by kernel_rfl)) h2 bel lt2) trodAll_mk0))), rfl, bel.frame _, fun h => by cases h⟩
theorem over : Rows.tnumOrdersRow.holds Try.pinned (OpenSpec.ofChange Rows.tnumOrdersSpec) :=
  OpenClaim.holds_of_wide 6 Try.f6 rfl rfl rfl rfl rfl rfl rfl ⟨rfl, rfl, rfl, rfl, rfl⟩ rfl rfl rfl rfl rfl (by kernel_rfl) Try.func6 (by kernel_rfl)
    (of_decide_eq_true (by kernel_rfl)) (by unfold Func.isWrapper; first | (rw [if_pos (by decide +kernel)]; kernel_rfl) | (rw [if_neg (by decide +kernel)]; exact ⟨rfl, rfl⟩))
    (fun os started H enc _ => lifted os started H enc)
/-- The given statement. -/
theorem proved : Rows.TnumOrdersSaid := over
#print axioms proved
end tnumOrders
end Go.Proofs.Ytmghpoagpiljhaa
