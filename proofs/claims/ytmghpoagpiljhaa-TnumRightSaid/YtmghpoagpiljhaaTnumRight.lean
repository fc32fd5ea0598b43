/- TnumRight: for all pairs of nums, right or not, and every shift, the law returns true, and its arguments read as before. No condition. -/
import Derived.Test.YtmghpoagpiljhaaOpen
import Derived.Test.YtmghpoagpiljhaaLaw13
namespace Go.Proofs.Ytmghpoagpiljhaa
open Go.ChangeShapes Go.WideShapes Go.ChangeAt Go.RowKit
open PlainTnum (N)
set_option linter.unusedVariables false
set_option maxRecDepth 100000 in
set_option maxHeartbeats 3200000 in
theorem walk_TnumRight (a b : N) (k : Int) (w : World) : Calls Try.prog 10 #[nv a, nv b, .int .i64 k] w fun e w' => e = .returned (.bool true) ∧ Below w.heap.size w w' := by
  go_enter Try.func10, Try.ntmps10
  go_wp2_with fail
  obtain ⟨ga, hga⟩ : ∃ g, g = w.heap.size := ⟨_, rfl⟩
  obtain ⟨gb, hgb⟩ : ∃ g, g = w.heap.size + 1 := ⟨_, rfl⟩
  have Ba : Blk ((w.alloc (.cells #[uv a.v, uv a.m] 24)).alloc (.cells #[uv b.v, uv b.m] 24)) (w.heap.size) 24 #[uv a.v, uv a.m] := ((Blk.new w 24 #[uv a.v, uv a.m])).alloc _
  have Bb : Blk ((w.alloc (.cells #[uv a.v, uv a.m] 24)).alloc (.cells #[uv b.v, uv b.m] 24)) (w.heap.size + 1) 24 #[uv b.v, uv b.m] := (by simpa using Blk.new (w.alloc (.cells #[uv a.v, uv a.m] 24)) 24 #[uv b.v, uv b.m] : Blk _ (w.heap.size + 1) 24 #[uv b.v, uv b.m])
  have hB : Below w.heap.size w ((w.alloc (.cells #[uv a.v, uv a.m] 24)).alloc (.cells #[uv b.v, uv b.m] 24)) := (Bl_alloc (Bl_alloc (Bl_refl w) _) _)
  clear hga
  clear ga
  clear hgb
  clear gb
  generalize ((w.alloc (.cells #[uv a.v, uv a.m] 24)).alloc (.cells #[uv b.v, uv b.m] 24)) = w1 at *
  have ca0 : w1.cell? ⟨w.heap.size, 0, none⟩ = some (uv a.v) := Ba.cell 0
  have ca1 : w1.cell? ⟨w.heap.size, 1, none⟩ = some (uv a.m) := Ba.cell 1
  have fa := Ba.frozen
  have la := Ba.lt
  have cb0 : w1.cell? ⟨w.heap.size + 1, 0, none⟩ = some (uv b.v) := Bb.cell 0
  have cb1 : w1.cell? ⟨w.heap.size + 1, 1, none⟩ = some (uv b.m) := Bb.cell 1
  have fb := Bb.frozen
  have lb := Bb.lt
  go_wp2_with fail
  replace ca0 : ∀ g : Later w1, g.w.cell? ⟨w.heap.size, 0, none⟩ = some (uv a.v) := fun g => g.cell (Ba.cell 0)
  replace ca1 : ∀ g : Later w1, g.w.cell? ⟨w.heap.size, 1, none⟩ = some (uv a.m) := fun g => g.cell (Ba.cell 1)
  replace cb0 : ∀ g : Later w1, g.w.cell? ⟨w.heap.size + 1, 0, none⟩ = some (uv b.v) := fun g => g.cell (Bb.cell 0)
  replace cb1 : ∀ g : Later w1, g.w.cell? ⟨w.heap.size + 1, 1, none⟩ = some (uv b.m) := fun g => g.cell (Bb.cell 1)
  refine wp_region_mix 6 (fun _ => #[.int .u64 0, .int .u64 0]) (by kernel_rfl) (by kernel_rfl) (fun o t ho ht => by
    simp at ho
    rcases ho with rfl | rfl | rfl | rfl | rfl | rfl <;> first | (cases ht; done) | (obtain rfl := Option.some.inj ht; exact fun ρ w => new_num ht ρ w)) ?_
  simp only [List.take_succ_cons, List.take_zero, List.drop_succ_cons, List.drop_zero]
  repeat (refine wpMix_step (fun K hK => ?_); go_simp; first | (refine hK _ ?_; clear hK K) | (refine ⟨_, fun g => to_c _ _, hK _ ?_⟩; clear hK K))
  refine wpMix_nil ?_
  intro G w2 hgr hblk hdist
  have hb : Below w1.heap.size w1 w2 := hgr
  replace Ba := Ba.next hb
  replace Bb := Bb.next hb
  obtain ⟨Bx, hlx⟩ := hblk 4 _ rfl
  obtain ⟨By, hly⟩ := hblk 5 _ rfl
  have hdxy := hdist 4 5 _ _ rfl rfl (by decide)
  have hgx : w.heap.size ≤ G 4 := Nat.le_trans hB.size hlx
  have hnax : w.heap.size ≠ G 4 := Nat.ne_of_lt (Nat.lt_of_lt_of_le la hlx)
  have hnbx : w.heap.size + 1 ≠ G 4 := Nat.ne_of_lt (Nat.lt_of_lt_of_le lb hlx)
  clear hlx
  have hgy : w.heap.size ≤ G 5 := Nat.le_trans hB.size hly
  have hnay : w.heap.size ≠ G 5 := Nat.ne_of_lt (Nat.lt_of_lt_of_le la hly)
  have hnby : w.heap.size + 1 ≠ G 5 := Nat.ne_of_lt (Nat.lt_of_lt_of_le lb hly)
  clear hly
  clear ca0 ca1 fa la
  clear cb0 cb1 fb lb
  replace hB : Below w.heap.size w w2 := Bl_trans hB hb
  simp only [putAll, isAlloc, Act.put]
  generalize G 4 = gx at *
  generalize G 5 = gy at *
  clear hb hgr hblk hdist
  have ca0 : w2.cell? ⟨w.heap.size, 0, none⟩ = some (uv a.v) := Ba.cell 0
  have ca1 : w2.cell? ⟨w.heap.size, 1, none⟩ = some (uv a.m) := Ba.cell 1
  have fa := Ba.frozen
  have la := Ba.lt
  have cb0 : w2.cell? ⟨w.heap.size + 1, 0, none⟩ = some (uv b.v) := Bb.cell 0
  have cb1 : w2.cell? ⟨w.heap.size + 1, 1, none⟩ = some (uv b.m) := Bb.cell 1
  have fb := Bb.frozen
  have lb := Bb.lt
  have cx0 : w2.cell? ⟨gx, 0, none⟩ = some (.int .u64 0) := Bx.cell 0
  have cx1 : w2.cell? ⟨gx, 1, none⟩ = some (.int .u64 0) := Bx.cell 1
  have fx := Bx.frozen
  have lx := Bx.lt
  have cy0 : w2.cell? ⟨gy, 0, none⟩ = some (.int .u64 0) := By.cell 0
  have cy1 : w2.cell? ⟨gy, 1, none⟩ = some (.int .u64 0) := By.cell 1
  have fy := By.frozen
  have ly := By.lt
  go_wp2_with fail
  refine (add_c _ _ _).mono ?_
  rintro e w3 ⟨rfl, hb⟩
  clear ca0 ca1 fa la
  clear cb0 cb1 fb lb
  clear cx0 cx1 fx lx
  clear cy0 cy1 fy ly
  replace Ba := (((Ba).far2 (by first | (simp; done) | (simp; omega) | (simp [*]; done) | (simp only [ne_eq]; constructor <;> omega)) _ _).far2 (by first | (simp; done) | (simp; omega) | (simp [*]; done) | (simp only [ne_eq]; constructor <;> omega)) _ _).next hb
  replace Bb := (((Bb).far2 (by first | (simp; done) | (simp; omega) | (simp [*]; done) | (simp only [ne_eq]; constructor <;> omega)) _ _).far2 (by first | (simp; done) | (simp; omega) | (simp [*]; done) | (simp only [ne_eq]; constructor <;> omega)) _ _).next hb
  replace Bx := (((Bx).set2 _ _).far2 (by first | (simp; done) | (simp; omega) | (simp [*]; done) | (simp only [ne_eq]; constructor <;> omega)) _ _).next hb
  replace By := (((By).far2 (by first | (simp; done) | (simp; omega) | (simp [*]; done) | (simp only [ne_eq]; constructor <;> omega)) _ _).set2 _ _).next hb
  replace hB : Below w.heap.size w w3 := by repeat (first | exact hB | (refine Bl_set ?_ (by first | omega | (simp; omega)) _) | apply Bl_alloc | (refine Bl_trans ?_ hb))
  clear hb
  have ca0 : w3.cell? ⟨w.heap.size, 0, none⟩ = some (uv a.v) := Ba.cell 0
  have ca1 : w3.cell? ⟨w.heap.size, 1, none⟩ = some (uv a.m) := Ba.cell 1
  have fa := Ba.frozen
  have la := Ba.lt
  have cb0 : w3.cell? ⟨w.heap.size + 1, 0, none⟩ = some (uv b.v) := Bb.cell 0
  have cb1 : w3.cell? ⟨w.heap.size + 1, 1, none⟩ = some (uv b.m) := Bb.cell 1
  have fb := Bb.frozen
  have lb := Bb.lt
  have cx0 : w3.cell? ⟨gx, 0, none⟩ = some (uv a.v) := Bx.cell 0
  have cx1 : w3.cell? ⟨gx, 1, none⟩ = some (uv a.m) := Bx.cell 1
  have fx := Bx.frozen
  have lx := Bx.lt
  have cy0 : w3.cell? ⟨gy, 0, none⟩ = some (uv b.v) := By.cell 0
  have cy1 : w3.cell? ⟨gy, 1, none⟩ = some (uv b.m) := By.cell 1
  have fy := By.frozen
  have ly := By.lt
  go_wp2_with fail
  refine (sub_c _ _ _).mono ?_
  rintro e w4 ⟨rfl, hb⟩
  clear ca0 ca1 fa la
  clear cb0 cb1 fb lb
  clear cx0 cx1 fx lx
  clear cy0 cy1 fy ly
  replace Ba := (Ba).next hb
  replace Bb := (Bb).next hb
  replace Bx := (Bx).next hb
  replace By := (By).next hb
  replace hB : Below w.heap.size w w4 := by repeat (first | exact hB | (refine Bl_set ?_ (by first | omega | (simp; omega)) _) | apply Bl_alloc | (refine Bl_trans ?_ hb))
  clear hb
  have ca0 : w4.cell? ⟨w.heap.size, 0, none⟩ = some (uv a.v) := Ba.cell 0
  have ca1 : w4.cell? ⟨w.heap.size, 1, none⟩ = some (uv a.m) := Ba.cell 1
  have fa := Ba.frozen
  have la := Ba.lt
  have cb0 : w4.cell? ⟨w.heap.size + 1, 0, none⟩ = some (uv b.v) := Bb.cell 0
  have cb1 : w4.cell? ⟨w.heap.size + 1, 1, none⟩ = some (uv b.m) := Bb.cell 1
  have fb := Bb.frozen
  have lb := Bb.lt
  have cx0 : w4.cell? ⟨gx, 0, none⟩ = some (uv a.v) := Bx.cell 0
  have cx1 : w4.cell? ⟨gx, 1, none⟩ = some (uv a.m) := Bx.cell 1
  have fx := Bx.frozen
  have lx := Bx.lt
  have cy0 : w4.cell? ⟨gy, 0, none⟩ = some (uv b.v) := By.cell 0
  have cy1 : w4.cell? ⟨gy, 1, none⟩ = some (uv b.m) := By.cell 1
  have fy := By.frozen
  have ly := By.lt
  go_wp2_with fail
  refine (mul_c _ _ _).mono ?_
  rintro e w5 ⟨rfl, hb⟩
  clear ca0 ca1 fa la
  clear cb0 cb1 fb lb
  clear cx0 cx1 fx lx
  clear cy0 cy1 fy ly
  replace Ba := (Ba).next hb
  replace Bb := (Bb).next hb
  replace Bx := (Bx).next hb
  replace By := (By).next hb
  replace hB : Below w.heap.size w w5 := by repeat (first | exact hB | (refine Bl_set ?_ (by first | omega | (simp; omega)) _) | apply Bl_alloc | (refine Bl_trans ?_ hb))
  clear hb
  have ca0 : w5.cell? ⟨w.heap.size, 0, none⟩ = some (uv a.v) := Ba.cell 0
  have ca1 : w5.cell? ⟨w.heap.size, 1, none⟩ = some (uv a.m) := Ba.cell 1
  have fa := Ba.frozen
  have la := Ba.lt
  have cb0 : w5.cell? ⟨w.heap.size + 1, 0, none⟩ = some (uv b.v) := Bb.cell 0
  have cb1 : w5.cell? ⟨w.heap.size + 1, 1, none⟩ = some (uv b.m) := Bb.cell 1
  have fb := Bb.frozen
  have lb := Bb.lt
  have cx0 : w5.cell? ⟨gx, 0, none⟩ = some (uv a.v) := Bx.cell 0
  have cx1 : w5.cell? ⟨gx, 1, none⟩ = some (uv a.m) := Bx.cell 1
  have fx := Bx.frozen
  have lx := Bx.lt
  have cy0 : w5.cell? ⟨gy, 0, none⟩ = some (uv b.v) := By.cell 0
  have cy1 : w5.cell? ⟨gy, 1, none⟩ = some (uv b.m) := By.cell 1
  have fy := By.frozen
  have ly := By.lt
  go_wp2_with fail
  refine (join_c _ _ _).mono ?_
  rintro e w6 ⟨rfl, hb⟩
  clear ca0 ca1 fa la
  clear cb0 cb1 fb lb
  clear cx0 cx1 fx lx
  clear cy0 cy1 fy ly
  replace Ba := (Ba).next hb
  replace Bb := (Bb).next hb
  replace Bx := (Bx).next hb
  replace By := (By).next hb
  replace hB : Below w.heap.size w w6 := by repeat (first | exact hB | (refine Bl_set ?_ (by first | omega | (simp; omega)) _) | apply Bl_alloc | (refine Bl_trans ?_ hb))
  clear hb
  have ca0 : w6.cell? ⟨w.heap.size, 0, none⟩ = some (uv a.v) := Ba.cell 0
  have ca1 : w6.cell? ⟨w.heap.size, 1, none⟩ = some (uv a.m) := Ba.cell 1
  have fa := Ba.frozen
  have la := Ba.lt
  have cb0 : w6.cell? ⟨w.heap.size + 1, 0, none⟩ = some (uv b.v) := Bb.cell 0
  have cb1 : w6.cell? ⟨w.heap.size + 1, 1, none⟩ = some (uv b.m) := Bb.cell 1
  have fb := Bb.frozen
  have lb := Bb.lt
  have cx0 : w6.cell? ⟨gx, 0, none⟩ = some (uv a.v) := Bx.cell 0
  have cx1 : w6.cell? ⟨gx, 1, none⟩ = some (uv a.m) := Bx.cell 1
  have fx := Bx.frozen
  have lx := Bx.lt
  have cy0 : w6.cell? ⟨gy, 0, none⟩ = some (uv b.v) := By.cell 0
  have cy1 : w6.cell? ⟨gy, 1, none⟩ = some (uv b.m) := By.cell 1
  have fy := By.frozen
  have ly := By.lt
  go_wp2_with fail
  refine (meet_c _ _ _).mono ?_
  rintro e w7 ⟨rfl, hb⟩
  clear ca0 ca1 fa la
  clear cb0 cb1 fb lb
  clear cx0 cx1 fx lx
  clear cy0 cy1 fy ly
  replace Ba := (Ba).next hb
  replace Bb := (Bb).next hb
  replace Bx := (Bx).next hb
  replace By := (By).next hb
  replace hB : Below w.heap.size w w7 := by repeat (first | exact hB | (refine Bl_set ?_ (by first | omega | (simp; omega)) _) | apply Bl_alloc | (refine Bl_trans ?_ hb))
  clear hb
  have ca0 : w7.cell? ⟨w.heap.size, 0, none⟩ = some (uv a.v) := Ba.cell 0
  have ca1 : w7.cell? ⟨w.heap.size, 1, none⟩ = some (uv a.m) := Ba.cell 1
  have fa := Ba.frozen
  have la := Ba.lt
  have cb0 : w7.cell? ⟨w.heap.size + 1, 0, none⟩ = some (uv b.v) := Bb.cell 0
  have cb1 : w7.cell? ⟨w.heap.size + 1, 1, none⟩ = some (uv b.m) := Bb.cell 1
  have fb := Bb.frozen
  have lb := Bb.lt
  have cx0 : w7.cell? ⟨gx, 0, none⟩ = some (uv a.v) := Bx.cell 0
  have cx1 : w7.cell? ⟨gx, 1, none⟩ = some (uv a.m) := Bx.cell 1
  have fx := Bx.frozen
  have lx := Bx.lt
  have cy0 : w7.cell? ⟨gy, 0, none⟩ = some (uv b.v) := By.cell 0
  have cy1 : w7.cell? ⟨gy, 1, none⟩ = some (uv b.m) := By.cell 1
  have fy := By.frozen
  have ly := By.lt
  go_wp2_with fail
  refine (left_c _ _ _).mono ?_
  rintro e w8 ⟨rfl, hb⟩
  clear ca0 ca1 fa la
  clear cb0 cb1 fb lb
  clear cx0 cx1 fx lx
  clear cy0 cy1 fy ly
  replace Ba := (Ba).next hb
  replace Bb := (Bb).next hb
  replace Bx := (Bx).next hb
  replace By := (By).next hb
  replace hB : Below w.heap.size w w8 := by repeat (first | exact hB | (refine Bl_set ?_ (by first | omega | (simp; omega)) _) | apply Bl_alloc | (refine Bl_trans ?_ hb))
  clear hb
  have ca0 : w8.cell? ⟨w.heap.size, 0, none⟩ = some (uv a.v) := Ba.cell 0
  have ca1 : w8.cell? ⟨w.heap.size, 1, none⟩ = some (uv a.m) := Ba.cell 1
  have fa := Ba.frozen
  have la := Ba.lt
  have cb0 : w8.cell? ⟨w.heap.size + 1, 0, none⟩ = some (uv b.v) := Bb.cell 0
  have cb1 : w8.cell? ⟨w.heap.size + 1, 1, none⟩ = some (uv b.m) := Bb.cell 1
  have fb := Bb.frozen
  have lb := Bb.lt
  have cx0 : w8.cell? ⟨gx, 0, none⟩ = some (uv a.v) := Bx.cell 0
  have cx1 : w8.cell? ⟨gx, 1, none⟩ = some (uv a.m) := Bx.cell 1
  have fx := Bx.frozen
  have lx := Bx.lt
  have cy0 : w8.cell? ⟨gy, 0, none⟩ = some (uv b.v) := By.cell 0
  have cy1 : w8.cell? ⟨gy, 1, none⟩ = some (uv b.m) := By.cell 1
  have fy := By.frozen
  have ly := By.lt
  go_wp2_with fail
  refine (down_c _ _ _).mono ?_
  rintro e w9 ⟨rfl, hb⟩
  clear ca0 ca1 fa la
  clear cb0 cb1 fb lb
  clear cx0 cx1 fx lx
  clear cy0 cy1 fy ly
  replace Ba := (Ba).next hb
  replace Bb := (Bb).next hb
  replace Bx := (Bx).next hb
  replace By := (By).next hb
  replace hB : Below w.heap.size w w9 := by repeat (first | exact hB | (refine Bl_set ?_ (by first | omega | (simp; omega)) _) | apply Bl_alloc | (refine Bl_trans ?_ hb))
  clear hb
  have ca0 : w9.cell? ⟨w.heap.size, 0, none⟩ = some (uv a.v) := Ba.cell 0
  have ca1 : w9.cell? ⟨w.heap.size, 1, none⟩ = some (uv a.m) := Ba.cell 1
  have fa := Ba.frozen
  have la := Ba.lt
  have cb0 : w9.cell? ⟨w.heap.size + 1, 0, none⟩ = some (uv b.v) := Bb.cell 0
  have cb1 : w9.cell? ⟨w.heap.size + 1, 1, none⟩ = some (uv b.m) := Bb.cell 1
  have fb := Bb.frozen
  have lb := Bb.lt
  have cx0 : w9.cell? ⟨gx, 0, none⟩ = some (uv a.v) := Bx.cell 0
  have cx1 : w9.cell? ⟨gx, 1, none⟩ = some (uv a.m) := Bx.cell 1
  have fx := Bx.frozen
  have lx := Bx.lt
  have cy0 : w9.cell? ⟨gy, 0, none⟩ = some (uv b.v) := By.cell 0
  have cy1 : w9.cell? ⟨gy, 1, none⟩ = some (uv b.m) := By.cell 1
  have fy := By.frozen
  have ly := By.lt
  go_wp2_with fail
  refine (low_c _ _ _).mono ?_
  rintro e w10 ⟨rfl, hb⟩
  clear ca0 ca1 fa la
  clear cb0 cb1 fb lb
  clear cx0 cx1 fx lx
  clear cy0 cy1 fy ly
  replace Ba := (Ba).next hb
  replace Bb := (Bb).next hb
  replace Bx := (Bx).next hb
  replace By := (By).next hb
  replace hB : Below w.heap.size w w10 := by repeat (first | exact hB | (refine Bl_set ?_ (by first | omega | (simp; omega)) _) | apply Bl_alloc | (refine Bl_trans ?_ hb))
  clear hb
  have ca0 : w10.cell? ⟨w.heap.size, 0, none⟩ = some (uv a.v) := Ba.cell 0
  have ca1 : w10.cell? ⟨w.heap.size, 1, none⟩ = some (uv a.m) := Ba.cell 1
  have fa := Ba.frozen
  have la := Ba.lt
  have cb0 : w10.cell? ⟨w.heap.size + 1, 0, none⟩ = some (uv b.v) := Bb.cell 0
  have cb1 : w10.cell? ⟨w.heap.size + 1, 1, none⟩ = some (uv b.m) := Bb.cell 1
  have fb := Bb.frozen
  have lb := Bb.lt
  have cx0 : w10.cell? ⟨gx, 0, none⟩ = some (uv a.v) := Bx.cell 0
  have cx1 : w10.cell? ⟨gx, 1, none⟩ = some (uv a.m) := Bx.cell 1
  have fx := Bx.frozen
  have lx := Bx.lt
  have cy0 : w10.cell? ⟨gy, 0, none⟩ = some (uv b.v) := By.cell 0
  have cy1 : w10.cell? ⟨gy, 1, none⟩ = some (uv b.m) := By.cell 1
  have fy := By.frozen
  have ly := By.lt
  go_wp2_with fail
  replace ca0 : ∀ g : Later w10, g.w.cell? ⟨w.heap.size, 0, none⟩ = some (uv a.v) := fun g => g.cell (Ba.cell 0)
  replace ca1 : ∀ g : Later w10, g.w.cell? ⟨w.heap.size, 1, none⟩ = some (uv a.m) := fun g => g.cell (Ba.cell 1)
  replace cb0 : ∀ g : Later w10, g.w.cell? ⟨w.heap.size + 1, 0, none⟩ = some (uv b.v) := fun g => g.cell (Bb.cell 0)
  replace cb1 : ∀ g : Later w10, g.w.cell? ⟨w.heap.size + 1, 1, none⟩ = some (uv b.m) := fun g => g.cell (Bb.cell 1)
  replace cx0 : ∀ g : Later w10, g.w.cell? ⟨gx, 0, none⟩ = some (uv a.v) := fun g => g.cell (Bx.cell 0)
  replace cx1 : ∀ g : Later w10, g.w.cell? ⟨gx, 1, none⟩ = some (uv a.m) := fun g => g.cell (Bx.cell 1)
  replace cy0 : ∀ g : Later w10, g.w.cell? ⟨gy, 0, none⟩ = some (uv b.v) := fun g => g.cell (By.cell 0)
  replace cy1 : ∀ g : Later w10, g.w.cell? ⟨gy, 1, none⟩ = some (uv b.m) := fun g => g.cell (By.cell 1)
  refine wp_region_mix 9 (fun _ => #[]) (by kernel_rfl) (by kernel_rfl) (fun o t ho ht => by
    simp at ho
    rcases ho with rfl | rfl | rfl | rfl | rfl | rfl | rfl | rfl | rfl <;> cases ht) ?_
  simp only [List.take_succ_cons, List.take_zero, List.drop_succ_cons, List.drop_zero]
  repeat (refine wpMix_step (fun K hK => ?_); go_simp; first | (refine hK _ ?_; clear hK K) | (refine ⟨_, fun g => knows_c _, hK _ ?_⟩; clear hK K) | (refine ⟨_, fun g => right_c _ _, hK _ ?_⟩; clear hK K) | (refine ⟨_, fun g => rright_c _ _, hK _ ?_⟩; clear hK K))
  refine wpMix_nil ?_
  intro G w11 hgr hblk hdist
  have hb : Below w10.heap.size w10 w11 := hgr
  replace Ba := Ba.next hb
  replace Bb := Bb.next hb
  replace Bx := Bx.next hb
  replace By := By.next hb
  clear ca0 ca1 fa la
  clear cb0 cb1 fb lb
  clear cx0 cx1 fx lx
  clear cy0 cy1 fy ly
  replace hB : Below w.heap.size w w11 := Bl_trans hB hb
  simp only [putAll, isAlloc]
  clear hb hgr hblk hdist
  have ca0 : w11.cell? ⟨w.heap.size, 0, none⟩ = some (uv a.v) := Ba.cell 0
  have ca1 : w11.cell? ⟨w.heap.size, 1, none⟩ = some (uv a.m) := Ba.cell 1
  have fa := Ba.frozen
  have la := Ba.lt
  have cb0 : w11.cell? ⟨w.heap.size + 1, 0, none⟩ = some (uv b.v) := Bb.cell 0
  have cb1 : w11.cell? ⟨w.heap.size + 1, 1, none⟩ = some (uv b.m) := Bb.cell 1
  have fb := Bb.frozen
  have lb := Bb.lt
  have cx0 : w11.cell? ⟨gx, 0, none⟩ = some (uv a.v) := Bx.cell 0
  have cx1 : w11.cell? ⟨gx, 1, none⟩ = some (uv a.m) := Bx.cell 1
  have fx := Bx.frozen
  have lx := Bx.lt
  have cy0 : w11.cell? ⟨gy, 0, none⟩ = some (uv b.v) := By.cell 0
  have cy1 : w11.cell? ⟨gy, 1, none⟩ = some (uv b.m) := By.cell 1
  have fy := By.frozen
  have ly := By.lt
  go_wp2
  go_ret
  exact ⟨rfl, by repeat (first | exact hB | (refine Bl_set ?_ (by first | omega | (simp; omega)) _) | apply Bl_alloc)⟩
theorem walkN_TnumRight (v m v' m' : W) (k : Int) (lo : -9223372036854775808 ≤ k) (hi : k ≤ 9223372036854775807) (w : World) : Calls Try.prog 10 #[.agg #[.int .u64 (T v), .int .u64 (T m)], .agg #[.int .u64 (T v'), .int .u64 (T m')], .int .i64 k] w fun e w' => e = .returned (.bool true) ∧ Below w.heap.size w w' := walk_TnumRight ⟨v, m⟩ ⟨v', m'⟩ k w
namespace tnumRight
set_option maxRecDepth 100000 in
theorem lifted (os : Os) (started : os.Started) (H : Type) (enc : TypeId × Value → H) :
    ReturnsInHanded {} Try.checked os 10 .any (Rows.tnumRightSpec.pre6 enc Try.prog Try.f10 Rows.tnumRightRow.domain false) (Rows.tnumRightSpec.post enc Try.prog Try.f10 false true false false) := by
  refine returnsInHanded_of_change (C := Try.checked) own started (by kernel_rfl) Try.func10
    (ChangeSpec.witness6 (enc := enc) (C := Try.checked) false ⟨#[], #[.agg #[.int .u64 0, .int .u64 0], .agg #[.int .u64 0, .int .u64 0], .int .i64 0], []⟩ 8 (by kernel_rfl) (by kernel_rfl) (by kernel_rfl) (by kernel_rfl)) ?_
  intro W base args ds gs before hval0 hW hcnd _
  have hval : ∀ (j : Nat) t v, Try.f10.params[j]? = some t → args[j]? = some v → Value.okWide Try.prog W .any base t v := hval0
  have hW' := hW
  obtain ⟨p, q, hA0, hV, rfl, hfz, hnd⟩ := hW
  have hA : DataW.TrodAll enc Try.prog W 0 (fun _ => true) true Try.f10.params.toList args.toList ds p := hA0
  rw [Try.params10] at hA hval
  obtain ⟨v0, vs0, d0, ds0, p0, q0, hargs, rfl, rfl, h0, r0⟩ := trodAll_cons hA
  obtain ⟨v1, vs1, d1, ds1, p1, q1, rfl, rfl, rfl, h1, r1⟩ := trodAll_cons r0
  obtain ⟨v2, vs2, d2, ds2, p2, q2, rfl, rfl, rfl, h2, r2⟩ := trodAll_cons r1
  obtain ⟨rfl, rfl, rfl⟩ := trodAll_nil r2
  obtain rfl : args = #[v0, v1, v2] := by cases args; simp_all
  obtain ⟨rfl, rfl⟩ := trodVars_none hV
  have lt0 : ∀ x ∈ p0, x.block < W.heap.size := by obtain ⟨m, hm⟩ := h0; exact DataW.trod_lt m _ _ _ hm
  obtain ⟨x0, y0, rfl⟩ := open_uu Try.underlying22 (by rw [Try.underlying24]) (by kernel_rfl) (by kernel_rfl) (hval 0 24 v0 rfl rfl)
  have lt1 : ∀ x ∈ p1, x.block < W.heap.size := by obtain ⟨m, hm⟩ := h1; exact DataW.trod_lt m _ _ _ hm
  obtain ⟨x1, y1, rfl⟩ := open_uu Try.underlying22 (by rw [Try.underlying24]) (by kernel_rfl) (by kernel_rfl) (hval 1 24 v1 rfl rfl)
  have lt2 : ∀ x ∈ p2, x.block < W.heap.size := by obtain ⟨m, hm⟩ := h2; exact DataW.trod_lt m _ _ _ hm
  obtain ⟨x2, rfl, lo2, hi2⟩ := open_i64 Try.underlying3 (hval 2 3 v2 rfl rfl)
  refine (walkN_TnumRight x0 y0 x1 y1 x2 lo2 hi2 W).mono fun e W' ⟨he, bel⟩ => ?_
  subst he
  exact ⟨_, rfl, _, _, _, [], _, [], hW', trodAll_mk1 (shut_bool Try.underlying4 _), (trodAll_cons_mk (Below.trod laidOut (by kernel_rfl) (of_decide_eq_true (by kernel_rfl)) h0 bel lt0) (trodAll_cons_mk (Below.trod laidOut (by kernel_rfl) (of_decide_eq_true (by kernel_rfl)) h1 bel lt1) (trodAll_cons_mk (Below.trod laidOut (by kernel_rfl) (of_decide_eq_true (by kernel_rfl)) h2 bel lt2) trodAll_mk0))), rfl, bel.frame _, fun h => by cases h⟩
theorem over : Rows.tnumRightRow.holds Try.pinned (OpenSpec.ofChange Rows.tnumRightSpec) :=
  OpenClaim.holds_of_wide 10 Try.f10 rfl rfl rfl rfl rfl rfl rfl ⟨rfl, rfl, rfl, rfl, rfl⟩ rfl rfl rfl rfl rfl (by kernel_rfl) Try.func10 (by kernel_rfl)
    (of_decide_eq_true (by kernel_rfl)) (by unfold Func.isWrapper; first | (rw [if_pos (by decide +kernel)]; kernel_rfl) | (rw [if_neg (by decide +kernel)]; exact ⟨rfl, rfl⟩))
    (fun os started H enc _ => lifted os started H enc)
/-- The given statement. -/
theorem proved : Rows.TnumRightSaid := over
#print axioms proved
end tnumRight
end Go.Proofs.Ytmghpoagpiljhaa
