/- TnumSums: for every two nums that are right the law returns true, and its arguments read as before. No condition. -/
import Derived.Test.YtmghpoagpiljhaaOpen
import Derived.Test.YtmghpoagpiljhaaSum13b
import Derived.Test.YtmghpoagpiljhaaEach13
import Derived.Test.YtmghpoagpiljhaaMixL
set_option linter.unusedSimpArgs false
namespace Go.Proofs.Ytmghpoagpiljhaa
open Go.ChangeShapes Go.WideShapes Go.ChangeAt Go.RowKit
open PlainTnum (N)
set_option linter.unusedVariables false
set_option maxRecDepth 100000 in
set_option maxHeartbeats 3200000 in
theorem walk_TnumSums (a b A B M Q0 Q1 Q2 Q3 Q4 : N) (k_a : ∀ w : World, Calls Try.prog 13 #[nv a] w fun e w' => e = .returned (nv A) ∧ Below w.heap.size w w') (k_b : ∀ w : World, Calls Try.prog 13 #[nv b] w fun e w' => e = .returned (nv B) ∧ Below w.heap.size w w') (k_add : ∀ w : World, Calls Try.prog 34 #[nv A, nv B] w fun e w' => e = .returned (nv Q0) ∧ Below w.heap.size w w') (r_add : ∀ w : World, Calls Try.prog 39 #[nv A, nv B, .bool false] w fun e w' => e = .returned (nv Q0) ∧ Below w.heap.size w w') (k_sub : ∀ w : World, Calls Try.prog 38 #[nv A, nv B] w fun e w' => e = .returned (nv Q1) ∧ Below w.heap.size w w') (r_sub : ∀ w : World, Calls Try.prog 39 #[nv A, nv B, .bool true] w fun e w' => e = .returned (nv Q1) ∧ Below w.heap.size w w') (k_and : ∀ w : World, Calls Try.prog 35 #[nv A, nv B] w fun e w' => e = .returned (nv Q2) ∧ Below w.heap.size w w') (r_and : ∀ w : World, Calls Try.prog 40 #[nv A, nv B, .int .i64 0] w fun e w' => e = .returned (nv Q2) ∧ Below w.heap.size w w') (k_or : ∀ w : World, Calls Try.prog 36 #[nv A, nv B] w fun e w' => e = .returned (nv Q3) ∧ Below w.heap.size w w') (r_or : ∀ w : World, Calls Try.prog 40 #[nv A, nv B, .int .i64 1] w fun e w' => e = .returned (nv Q3) ∧ Below w.heap.size w w') (k_xor : ∀ w : World, Calls Try.prog 37 #[nv A, nv B] w fun e w' => e = .returned (nv Q4) ∧ Below w.heap.size w w') (r_xor : ∀ w : World, Calls Try.prog 40 #[nv A, nv B, .int .i64 2] w fun e w' => e = .returned (nv Q4) ∧ Below w.heap.size w w') (k_m : ∀ w : World, Calls Try.prog 30 #[nv A, nv B] w fun e w' => e = .returned (nv M) ∧ Below w.heap.size w w') (k_r : ∀ w : World, Calls Try.prog 33 #[nv M] w fun e w' => e = .returned (.bool true) ∧ Below w.heap.size w w') (w : World) : Calls Try.prog 8 #[nv a, nv b] w fun e w' => e = .returned (.bool true) ∧ Below w.heap.size w w' := by
  go_enter Try.func8, Try.ntmps8
  go_wp2_with fail
  obtain ⟨ga, hga⟩ : ∃ g, g = w.heap.size := ⟨_, rfl⟩
  obtain ⟨gb, hgb⟩ : ∃ g, g = w.heap.size + 1 := ⟨_, rfl⟩
  have Ba : Blk ((w.alloc (.cells #[uv a.v, uv a.m] 24)).alloc (.cells #[uv b.v, uv b.m] 24)) (w.heap.size) 24 #[uv a.v, uv a.m] := ((Blk.new w 24 #[uv a.v, uv a.m])).alloc _
  have Bb : Blk ((w.alloc (.cells #[uv a.v, uv a.m] 24)).alloc (.cells #[uv b.v, uv b.m] 24)) (w.heap.size + 1) 24 #[uv b.v, uv b.m] := (by simpa using Blk.new (w.alloc (.cells #[uv a.v, uv a.m] 24)) 24 #[uv b.v, uv b.m] : Blk _ (w.heap.size + 1) 24 #[uv b.v, uv b.m])
  have hB : Below w.heap.size w ((w.alloc (.cells #[uv a.v, uv a.m] 24)).alloc (.cells #[uv b.v, uv b.m] 24)) := (Bl_alloc (Bl_alloc (Bl_refl w) _) _)
  clear hga
  clear ga
  clear hgb
  clear gb
  generalize ((w.alloc (.cells #[uv a.v, uv a.m] 24)).alloc (.cells #[uv b.v, uv b.m] 24)) = w1 at *
  obtain ⟨ca0, ca1⟩ := cells2 Ba
  have fa := Ba.frozen; have la := Ba.lt
  obtain ⟨cb0, cb1⟩ := cells2 Bb
  have fb := Bb.frozen; have lb := Bb.lt
  go_wp2_with fail
  clear ca0 ca1; obtain ⟨ca0, ca1⟩ := lcells2 Ba
  clear cb0 cb1; obtain ⟨cb0, cb1⟩ := lcells2 Bb
  refine wp_region_mix 4 (fun _ => #[]) (by kernel_rfl) (by kernel_rfl) (no_alloc (by kernel_rfl)) ?_
  simp only [List.take_succ_cons, List.take_zero, List.drop_succ_cons, List.drop_zero]
  repeat ((with_reducible refine wpMix_step (fun K hK => ?_)); go_simp; first | ((with_reducible refine hK _ ?_); clear hK K) | (rw [if_neg (by decide)]; (with_reducible refine hK _ ?_); clear hK K) | (apply Exists.intro; refine ⟨fun g => ?_, hK _ ?_⟩; ((with_reducible refine Calls.mono (k_a g.w) ?_); exact fun _ _ h => h); clear hK K) | (apply Exists.intro; refine ⟨fun g => ?_, hK _ ?_⟩; ((with_reducible refine Calls.mono (k_b g.w) ?_); exact fun _ _ h => h); clear hK K))
  refine wpMix_nil ?_
  intro G w2 hgr hblk hdist
  have hb : Below w1.heap.size w1 w2 := hgr
  replace Ba := Ba.next hb
  replace Bb := Bb.next hb
  clear ca0 ca1 fa la
  clear cb0 cb1 fb lb
  replace hB : Below w.heap.size w w2 := Bl_trans hB hb
  simp only [putAll, isAlloc]
  clear hb hgr hblk hdist
  obtain ⟨ca0, ca1⟩ := cells2 Ba
  have fa := Ba.frozen; have la := Ba.lt
  obtain ⟨cb0, cb1⟩ := cells2 Bb
  have fb := Bb.frozen; have lb := Bb.lt
  go_upto_region 2 with fail
  clear ca0 ca1 fa la
  clear cb0 cb1 fb lb
  replace Ba : Blk ((w2.setCell ⟨w.heap.size, 0, none⟩ (uv A.v)).setCell ⟨w.heap.size, 1, none⟩ (uv A.m)) (w.heap.size) 24 #[uv A.v, uv A.m] := ((Ba.set_ 0 _).set_ 1 _)
  replace Bb : Blk ((w2.setCell ⟨w.heap.size, 0, none⟩ (uv A.v)).setCell ⟨w.heap.size, 1, none⟩ (uv A.m)) (w.heap.size + 1) 24 #[uv b.v, uv b.m] := ((Bb.far (by first | (simp; done) | (simp; omega) | (simp [*]; done) | (simp only [ne_eq]; constructor <;> omega)) _).far (by first | (simp; done) | (simp; omega) | (simp [*]; done) | (simp only [ne_eq]; constructor <;> omega)) _)
  replace hB : Below w.heap.size w ((w2.setCell ⟨w.heap.size, 0, none⟩ (uv A.v)).setCell ⟨w.heap.size, 1, none⟩ (uv A.m)) := (Bl_set (Bl_set hB (by first | omega | (simp; done) | (simp; omega)) _) (by first | omega | (simp; done) | (simp; omega)) _)
  replace Ba : Blk ((((w2.setCell ⟨w.heap.size, 0, none⟩ (uv A.v)).setCell ⟨w.heap.size, 1, none⟩ (uv A.m)).setCell ⟨w.heap.size + 1, 0, none⟩ (uv B.v)).setCell ⟨w.heap.size + 1, 1, none⟩ (uv B.m)) (w.heap.size) 24 #[uv A.v, uv A.m] := ((Ba.far (by first | (simp; done) | (simp; omega) | (simp [*]; done) | (simp only [ne_eq]; constructor <;> omega)) _).far (by first | (simp; done) | (simp; omega) | (simp [*]; done) | (simp only [ne_eq]; constructor <;> omega)) _)
  replace Bb : Blk ((((w2.setCell ⟨w.heap.size, 0, none⟩ (uv A.v)).setCell ⟨w.heap.size, 1, none⟩ (uv A.m)).setCell ⟨w.heap.size + 1, 0, none⟩ (uv B.v)).setCell ⟨w.heap.size + 1, 1, none⟩ (uv B.m)) (w.heap.size + 1) 24 #[uv B.v, uv B.m] := ((Bb.set_ 0 _).set_ 1 _)
  replace hB : Below w.heap.size w ((((w2.setCell ⟨w.heap.size, 0, none⟩ (uv A.v)).setCell ⟨w.heap.size, 1, none⟩ (uv A.m)).setCell ⟨w.heap.size + 1, 0, none⟩ (uv B.v)).setCell ⟨w.heap.size + 1, 1, none⟩ (uv B.m)) := (Bl_set (Bl_set hB (by first | omega | (simp; done) | (simp; omega)) _) (by first | omega | (simp; done) | (simp; omega)) _)
  generalize ((((w2.setCell ⟨w.heap.size, 0, none⟩ (uv A.v)).setCell ⟨w.heap.size, 1, none⟩ (uv A.m)).setCell ⟨w.heap.size + 1, 0, none⟩ (uv B.v)).setCell ⟨w.heap.size + 1, 1, none⟩ (uv B.m)) = w3 at *
  obtain ⟨ca0, ca1⟩ := cells2 Ba
  have fa := Ba.frozen; have la := Ba.lt
  obtain ⟨cb0, cb1⟩ := cells2 Bb
  have fb := Bb.frozen; have lb := Bb.lt
  go_wp2_with fail
  clear ca0 ca1; obtain ⟨ca0, ca1⟩ := lcells2 Ba
  clear cb0 cb1; obtain ⟨cb0, cb1⟩ := lcells2 Bb
  refine wp_region_mix 6 (fun _ => #[.int .u64 0, .int .u64 0]) (by kernel_rfl) (by kernel_rfl) (fun o t ho ht => by
    simp at ho
    rcases ho with rfl | rfl | rfl | rfl | rfl | rfl <;> first | (cases ht; done) | (obtain rfl := Option.some.inj ht; exact fun ρ w => new_num ht ρ w)) ?_
  simp only [List.take_succ_cons, List.take_zero, List.drop_succ_cons, List.drop_zero]
  repeat ((with_reducible refine wpMix_step (fun K hK => ?_)); go_simp; first | ((with_reducible refine hK _ ?_); clear hK K) | (rw [if_neg (by decide)]; (with_reducible refine hK _ ?_); clear hK K) | (apply Exists.intro; refine ⟨fun g => ?_, hK _ ?_⟩; ((with_reducible refine Calls.mono (to_c A g.w) ?_); exact fun _ _ h => h); clear hK K) | (apply Exists.intro; refine ⟨fun g => ?_, hK _ ?_⟩; ((with_reducible refine Calls.mono (to_c B g.w) ?_); exact fun _ _ h => h); clear hK K))
  refine wpMix_nil ?_
  intro G w4 hgr hblk hdist
  have hb : Below w3.heap.size w3 w4 := hgr
  replace Ba := Ba.next hb
  replace Bb := Bb.next hb
  obtain ⟨Bx, hlx⟩ := hblk 4 _ rfl
  obtain ⟨By, hly⟩ := hblk 5 _ rfl
  have hdxy := hdist 4 5 _ _ rfl rfl (by decide)
  have hgx : w.heap.size ≤ G 4 := Nat.le_trans hB.size hlx
  have hnax : w.heap.size ≠ G 4 := Nat.ne_of_lt (Nat.lt_of_lt_of_le la hlx)
  have hnbx : w.heap.size + 1 ≠ G 4 := Nat.ne_of_lt (Nat.lt_of_lt_of_le lb hlx)
  clear hlx
  have hgy : w.heap.size ≤ G 5 := Nat.le_trans hB.size hly
  have hnay : w.heap.size ≠ G 5 := Nat.ne_of_lt (Nat.lt_of_lt_of_le la hly)
  have hnby : w.heap.size + 1 ≠ G 5 := Nat.ne_of_lt (Nat.lt_of_lt_of_le lb hly)
  clear hly
  clear ca0 ca1 fa la
  clear cb0 cb1 fb lb
  replace hB : Below w.heap.size w w4 := Bl_trans hB hb
  simp only [putAll, isAlloc, Act.put]
  generalize G 4 = gx at *
  generalize G 5 = gy at *
  clear hb hgr hblk hdist
  obtain ⟨ca0, ca1⟩ := cells2 Ba
  have fa := Ba.frozen; have la := Ba.lt
  obtain ⟨cb0, cb1⟩ := cells2 Bb
  have fb := Bb.frozen; have lb := Bb.lt
  obtain ⟨cx0, cx1⟩ := cells2 Bx
  have fx := Bx.frozen; have lx := Bx.lt
  obtain ⟨cy0, cy1⟩ := cells2 By
  have fy := By.frozen; have ly := By.lt
  go_upto_region 3 with fail
  clear ca0 ca1 fa la
  clear cb0 cb1 fb lb
  clear cx0 cx1 fx lx
  clear cy0 cy1 fy ly
  replace Ba : Blk ((w4.setCell ⟨gx, 0, none⟩ (uv A.v)).setCell ⟨gx, 1, none⟩ (uv A.m)) (w.heap.size) 24 #[uv A.v, uv A.m] := ((Ba.far (by first | (simp; done) | (simp; omega) | (simp [*]; done) | (simp only [ne_eq]; constructor <;> omega)) _).far (by first | (simp; done) | (simp; omega) | (simp [*]; done) | (simp only [ne_eq]; constructor <;> omega)) _)
  replace Bb : Blk ((w4.setCell ⟨gx, 0, none⟩ (uv A.v)).setCell ⟨gx, 1, none⟩ (uv A.m)) (w.heap.size + 1) 24 #[uv B.v, uv B.m] := ((Bb.far (by first | (simp; done) | (simp; omega) | (simp [*]; done) | (simp only [ne_eq]; constructor <;> omega)) _).far (by first | (simp; done) | (simp; omega) | (simp [*]; done) | (simp only [ne_eq]; constructor <;> omega)) _)
  replace Bx : Blk ((w4.setCell ⟨gx, 0, none⟩ (uv A.v)).setCell ⟨gx, 1, none⟩ (uv A.m)) (gx) 27 #[uv A.v, uv A.m] := ((Bx.set_ 0 _).set_ 1 _)
  replace By : Blk ((w4.setCell ⟨gx, 0, none⟩ (uv A.v)).setCell ⟨gx, 1, none⟩ (uv A.m)) (gy) 27 #[.int .u64 0, .int .u64 0] := ((By.far (by first | (simp; done) | (simp; omega) | (simp [*]; done) | (simp only [ne_eq]; constructor <;> omega)) _).far (by first | (simp; done) | (simp; omega) | (simp [*]; done) | (simp only [ne_eq]; constructor <;> omega)) _)
  replace hB : Below w.heap.size w ((w4.setCell ⟨gx, 0, none⟩ (uv A.v)).setCell ⟨gx, 1, none⟩ (uv A.m)) := (Bl_set (Bl_set hB (by first | omega | (simp; done) | (simp; omega)) _) (by first | omega | (simp; done) | (simp; omega)) _)
  replace Ba : Blk ((((w4.setCell ⟨gx, 0, none⟩ (uv A.v)).setCell ⟨gx, 1, none⟩ (uv A.m)).setCell ⟨gy, 0, none⟩ (uv B.v)).setCell ⟨gy, 1, none⟩ (uv B.m)) (w.heap.size) 24 #[uv A.v, uv A.m] := ((Ba.far (by first | (simp; done) | (simp; omega) | (simp [*]; done) | (simp only [ne_eq]; constructor <;> omega)) _).far (by first | (simp; done) | (simp; omega) | (simp [*]; done) | (simp only [ne_eq]; constructor <;> omega)) _)
  replace Bb : Blk ((((w4.setCell ⟨gx, 0, none⟩ (uv A.v)).setCell ⟨gx, 1, none⟩ (uv A.m)).setCell ⟨gy, 0, none⟩ (uv B.v)).setCell ⟨gy, 1, none⟩ (uv B.m)) (w.heap.size + 1) 24 #[uv B.v, uv B.m] := ((Bb.far (by first | (simp; done) | (simp; omega) | (simp [*]; done) | (simp only [ne_eq]; constructor <;> omega)) _).far (by first | (simp; done) | (simp; omega) | (simp [*]; done) | (simp only [ne_eq]; constructor <;> omega)) _)
  replace Bx : Blk ((((w4.setCell ⟨gx, 0, none⟩ (uv A.v)).setCell ⟨gx, 1, none⟩ (uv A.m)).setCell ⟨gy, 0, none⟩ (uv B.v)).setCell ⟨gy, 1, none⟩ (uv B.m)) (gx) 27 #[uv A.v, uv A.m] := ((Bx.far (by first | (simp; done) | (simp; omega) | (simp [*]; done) | (simp only [ne_eq]; constructor <;> omega)) _).far (by first | (simp; done) | (simp; omega) | (simp [*]; done) | (simp only [ne_eq]; constructor <;> omega)) _)
  replace By : Blk ((((w4.setCell ⟨gx, 0, none⟩ (uv A.v)).setCell ⟨gx, 1, none⟩ (uv A.m)).setCell ⟨gy, 0, none⟩ (uv B.v)).setCell ⟨gy, 1, none⟩ (uv B.m)) (gy) 27 #[uv B.v, uv B.m] := ((By.set_ 0 _).set_ 1 _)
  replace hB : Below w.heap.size w ((((w4.setCell ⟨gx, 0, none⟩ (uv A.v)).setCell ⟨gx, 1, none⟩ (uv A.m)).setCell ⟨gy, 0, none⟩ (uv B.v)).setCell ⟨gy, 1, none⟩ (uv B.m)) := (Bl_set (Bl_set hB (by first | omega | (simp; done) | (simp; omega)) _) (by first | omega | (simp; done) | (simp; omega)) _)
  generalize ((((w4.setCell ⟨gx, 0, none⟩ (uv A.v)).setCell ⟨gx, 1, none⟩ (uv A.m)).setCell ⟨gy, 0, none⟩ (uv B.v)).setCell ⟨gy, 1, none⟩ (uv B.m)) = w5 at *
  obtain ⟨ca0, ca1⟩ := cells2 Ba
  have fa := Ba.frozen; have la := Ba.lt
  obtain ⟨cb0, cb1⟩ := cells2 Bb
  have fb := Bb.frozen; have lb := Bb.lt
  obtain ⟨cx0, cx1⟩ := cells2 Bx
  have fx := Bx.frozen; have lx := Bx.lt
  obtain ⟨cy0, cy1⟩ := cells2 By
  have fy := By.frozen; have ly := By.lt
  go_wp2_with fail
  clear ca0 ca1; obtain ⟨ca0, ca1⟩ := lcells2 Ba
  clear cb0 cb1; obtain ⟨cb0, cb1⟩ := lcells2 Bb
  clear cx0 cx1; obtain ⟨cx0, cx1⟩ := lcells2 Bx
  clear cy0 cy1; obtain ⟨cy0, cy1⟩ := lcells2 By
  refine wp_region_mix 58 (fun _ => #[]) (by kernel_rfl) (by kernel_rfl) (no_alloc (by kernel_rfl)) ?_
  simp only [List.take_succ_cons, List.take_zero, List.drop_succ_cons, List.drop_zero]
  repeat ((with_reducible refine wpMix_step (fun K hK => ?_)); go_simp; first | ((with_reducible refine hK _ ?_); clear hK K) | (rw [if_neg (by decide)]; (with_reducible refine hK _ ?_); clear hK K) | (apply Exists.intro; refine ⟨fun g => ?_, hK _ ?_⟩; ((with_reducible refine Calls.mono (knows_c g.w) ?_); exact fun _ _ h => h); clear hK K) | (apply Exists.intro; refine ⟨fun g => ?_, hK _ ?_⟩; ((with_reducible refine Calls.mono (k_add g.w) ?_); exact fun _ _ h => h); clear hK K) | (apply Exists.intro; refine ⟨fun g => ?_, hK _ ?_⟩; ((with_reducible refine Calls.mono (r_add g.w) ?_); exact fun _ _ h => h); clear hK K) | (apply Exists.intro; refine ⟨fun g => ?_, hK _ ?_⟩; ((with_reducible refine Calls.mono (k_sub g.w) ?_); exact fun _ _ h => h); clear hK K) | (apply Exists.intro; refine ⟨fun g => ?_, hK _ ?_⟩; ((with_reducible refine Calls.mono (r_sub g.w) ?_); exact fun _ _ h => h); clear hK K) | (apply Exists.intro; refine ⟨fun g => ?_, hK _ ?_⟩; ((with_reducible refine Calls.mono (k_and g.w) ?_); exact fun _ _ h => h); clear hK K) | (apply Exists.intro; refine ⟨fun g => ?_, hK _ ?_⟩; ((with_reducible refine Calls.mono (r_and g.w) ?_); exact fun _ _ h => h); clear hK K) | (apply Exists.intro; refine ⟨fun g => ?_, hK _ ?_⟩; ((with_reducible refine Calls.mono (k_or g.w) ?_); exact fun _ _ h => h); clear hK K) | (apply Exists.intro; refine ⟨fun g => ?_, hK _ ?_⟩; ((with_reducible refine Calls.mono (r_or g.w) ?_); exact fun _ _ h => h); clear hK K) | (apply Exists.intro; refine ⟨fun g => ?_, hK _ ?_⟩; ((with_reducible refine Calls.mono (k_xor g.w) ?_); exact fun _ _ h => h); clear hK K) | (apply Exists.intro; refine ⟨fun g => ?_, hK _ ?_⟩; ((with_reducible refine Calls.mono (r_xor g.w) ?_); exact fun _ _ h => h); clear hK K) | (apply Exists.intro; refine ⟨fun g => ?_, hK _ ?_⟩; ((with_reducible refine Calls.mono (from_c Q0 g.w) ?_); exact fun _ _ h => h); clear hK K) | (apply Exists.intro; refine ⟨fun g => ?_, hK _ ?_⟩; ((with_reducible refine Calls.mono (from_c Q1 g.w) ?_); exact fun _ _ h => h); clear hK K) | (apply Exists.intro; refine ⟨fun g => ?_, hK _ ?_⟩; ((with_reducible refine Calls.mono (from_c Q2 g.w) ?_); exact fun _ _ h => h); clear hK K) | (apply Exists.intro; refine ⟨fun g => ?_, hK _ ?_⟩; ((with_reducible refine Calls.mono (from_c Q3 g.w) ?_); exact fun _ _ h => h); clear hK K) | (apply Exists.intro; refine ⟨fun g => ?_, hK _ ?_⟩; ((with_reducible refine Calls.mono (from_c Q4 g.w) ?_); exact fun _ _ h => h); clear hK K) | (apply Exists.intro; refine ⟨fun g => ?_, hK _ ?_⟩; ((with_reducible refine Calls.mono (k_m g.w) ?_); exact fun _ _ h => h); clear hK K) | (apply Exists.intro; refine ⟨fun g => ?_, hK _ ?_⟩; ((with_reducible refine Calls.mono (k_r g.w) ?_); exact fun _ _ h => h); clear hK K))
  refine wpMix_nil ?_
  intro G w6 hgr hblk hdist
  have hb : Below w5.heap.size w5 w6 := hgr
  replace Ba := Ba.next hb
  replace Bb := Bb.next hb
  replace Bx := Bx.next hb
  replace By := By.next hb
  clear ca0 ca1 fa la
  clear cb0 cb1 fb lb
  clear cx0 cx1 fx lx
  clear cy0 cy1 fy ly
  replace hB : Below w.heap.size w w6 := Bl_trans hB hb
  simp only [putAll, isAlloc]
  clear hb hgr hblk hdist
  obtain ⟨ca0, ca1⟩ := cells2 Ba
  have fa := Ba.frozen; have la := Ba.lt
  obtain ⟨cb0, cb1⟩ := cells2 Bb
  have fb := Bb.frozen; have lb := Bb.lt
  obtain ⟨cx0, cx1⟩ := cells2 Bx
  have fx := Bx.frozen; have lx := Bx.lt
  obtain ⟨cy0, cy1⟩ := cells2 By
  have fy := By.frozen; have ly := By.lt
  go_wp2
  go_ret
  exact ⟨rfl, by repeat (first | exact hB | (refine Bl_set ?_ (by first | omega | (simp; omega)) _) | apply Bl_alloc)⟩
theorem walkN_TnumSums (v m v' m' : W) (w : World) : Calls Try.prog 8 #[.agg #[.int .u64 (T v), .int .u64 (T m)], .agg #[.int .u64 (T v'), .int .u64 (T m')]] w fun e w' => e = .returned (.bool true) ∧ Below w.heap.size w w' := by
  have k_a := rightl_c ⟨v, m⟩; have k_b := rightl_c ⟨v', m'⟩
  have hA := PlainTnum.R_right ⟨v, m⟩; have hB := PlainTnum.R_right ⟨v', m'⟩
  generalize PlainTnum.right ⟨v, m⟩ = A at k_a hA; generalize PlainTnum.right ⟨v', m'⟩ = B at k_b hB
  have k_r := rightt_c _ (PlainTnum.R_mul A B)
  have k_add := add_c A B
  have r_add : ∀ w : World, Calls Try.prog 39 #[nv A, nv B, .bool false] w fun e w' => e = .returned (nv (PlainTnum.add A B)) ∧ Below w.heap.size w w' := fun w => by rw [PlainTnum.add_eq hA hB]; exact rsum_false A B w
  have k_sub := sub_c A B
  have r_sub : ∀ w : World, Calls Try.prog 39 #[nv A, nv B, .bool true] w fun e w' => e = .returned (nv (PlainTnum.sub A B)) ∧ Below w.heap.size w w' := fun w => by rw [PlainTnum.sub_eq hA hB]; exact rsum_true A B w
  have k_and := and_c A B
  have r_and : ∀ w : World, Calls Try.prog 40 #[nv A, nv B, .int .i64 0] w fun e w' => e = .returned (nv (PlainTnum.and A B)) ∧ Below w.heap.size w w' := fun w => by rw [PlainTnum.and_eq hA hB]; exact reach_0 A B w
  have k_or := or_c A B
  have r_or : ∀ w : World, Calls Try.prog 40 #[nv A, nv B, .int .i64 1] w fun e w' => e = .returned (nv (PlainTnum.or A B)) ∧ Below w.heap.size w w' := fun w => by rw [PlainTnum.or_eq hA hB]; exact reach_1 A B w
  have k_xor := xor_c A B
  have r_xor : ∀ w : World, Calls Try.prog 40 #[nv A, nv B, .int .i64 2] w fun e w' => e = .returned (nv (PlainTnum.xor A B)) ∧ Below w.heap.size w w' := fun w => by rw [PlainTnum.xor_eq hA hB]; exact reach_2 A B w
  exact walk_TnumSums ⟨v, m⟩ ⟨v', m'⟩ A B _ _ _ _ _ _ k_a k_b k_add r_add k_sub r_sub k_and r_and k_or r_or k_xor r_xor (mul_c A B) k_r w
namespace tnumSums
set_option maxRecDepth 100000 in
theorem lifted (os : Os) (started : os.Started) (H : Type) (enc : TypeId × Value → H) :
    ReturnsInHanded {} Try.checked os 8 .any (Rows.tnumSumsSpec.pre6 enc Try.prog Try.f8 Rows.tnumSumsRow.domain false) (Rows.tnumSumsSpec.post enc Try.prog Try.f8 false true false false) := by
  refine returnsInHanded_of_change (C := Try.checked) own started (by kernel_rfl) Try.func8
    (ChangeSpec.witness6 (enc := enc) (C := Try.checked) false ⟨#[], #[.agg #[.int .u64 0, .int .u64 0], .agg #[.int .u64 0, .int .u64 0]], []⟩ 8 (by kernel_rfl) (by kernel_rfl) (by kernel_rfl) (by kernel_rfl)) ?_
  intro W base args ds gs before hval0 hW hcnd _
  have hval : ∀ (j : Nat) t v, Try.f8.params[j]? = some t → args[j]? = some v → Value.okWide Try.prog W .any base t v := hval0
  have hW' := hW
  obtain ⟨p, q, hA0, hV, rfl, hfz, hnd⟩ := hW
  have hA : DataW.TrodAll enc Try.prog W 0 (fun _ => true) true Try.f8.params.toList args.toList ds p := hA0
  rw [Try.params8] at hA hval
  obtain ⟨v0, vs0, d0, ds0, p0, q0, hargs, rfl, rfl, h0, r0⟩ := trodAll_cons hA
  obtain ⟨v1, vs1, d1, ds1, p1, q1, rfl, rfl, rfl, h1, r1⟩ := trodAll_cons r0
  obtain ⟨rfl, rfl, rfl⟩ := trodAll_nil r1
  obtain rfl : args = #[v0, v1] := by cases args; simp_all
  obtain ⟨rfl, rfl⟩ := trodVars_none hV
  have lt0 : ∀ x ∈ p0, x.block < W.heap.size := by obtain ⟨m, hm⟩ := h0; exact DataW.trod_lt m _ _ _ hm
  obtain ⟨x0, y0, rfl⟩ := open_uu Try.underlying22 (by rw [Try.underlying24]) (by kernel_rfl) (by kernel_rfl) (hval 0 24 v0 rfl rfl)
  have lt1 : ∀ x ∈ p1, x.block < W.heap.size := by obtain ⟨m, hm⟩ := h1; exact DataW.trod_lt m _ _ _ hm
  obtain ⟨x1, y1, rfl⟩ := open_uu Try.underlying22 (by rw [Try.underlying24]) (by kernel_rfl) (by kernel_rfl) (hval 1 24 v1 rfl rfl)
  refine (walkN_TnumSums x0 y0 x1 y1 W).mono fun e W' ⟨he, bel⟩ => ?_
  subst he
  exact ⟨_, rfl, _, _, _, [], _, [], hW', trodAll_mk1 (shut_bool Try.underlying4 _), (trodAll_cons_mk (Below.trod laidOut (by kernel_rfl) (of_decide_eq_true (by kernel_rfl)) h0 bel lt0) (trodAll_cons_mk (Below.trod laidOut (by kernel_rfl) (of_decide_eq_true (by kernel_rfl)) h1 bel lt1) trodAll_mk0)), rfl, bel.frame _, fun h => by cases h⟩
theorem over : Rows.tnumSumsRow.holds Try.pinned (OpenSpec.ofChange Rows.tnumSumsSpec) :=
  OpenClaim.holds_of_wide 8 Try.f8 rfl rfl rfl rfl rfl rfl rfl ⟨rfl, rfl, rfl, rfl, rfl⟩ rfl rfl rfl rfl rfl (by kernel_rfl) Try.func8 (by kernel_rfl)
    (of_decide_eq_true (by kernel_rfl)) (by unfold Func.isWrapper; first | (rw [if_pos (by decide +kernel)]; kernel_rfl) | (rw [if_neg (by decide +kernel)]; exact ⟨rfl, rfl⟩))
    (fun os started H enc _ => lifted os started H enc)
/-- The given statement. -/
theorem proved : Rows.TnumSumsSaid := over
#print axioms proved
end tnumSums
end Go.Proofs.Ytmghpoagpiljhaa
