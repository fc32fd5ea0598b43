/- TnumMeets: for every two nums and every number the law returns true, and its arguments read as before. No condition. -/
import Derived.Test.YtmghpoagpiljhaaOpen
import Derived.Test.YtmghpoagpiljhaaMeet13
import Derived.Test.YtmghpoagpiljhaaMixL
set_option linter.unusedSimpArgs false
namespace Go.Proofs.Ytmghpoagpiljhaa
open Go.ChangeShapes Go.WideShapes Go.ChangeAt Go.RowKit
open PlainTnum (N)
set_option linter.unusedVariables false
set_option maxRecDepth 100000 in
set_option maxHeartbeats 3200000 in
theorem meets_no (a b : N) (x : W) (A B J M : N) (H : Bool) (k_a : ∀ w : World, Calls Try.prog 13 #[nv a] w fun e w' => e = .returned (nv A) ∧ Below w.heap.size w w')  (k_b : ∀ w : World, Calls Try.prog 13 #[nv b] w fun e w' => e = .returned (nv B) ∧ Below w.heap.size w w')  (k_J : ∀ w : World, Calls Try.prog 22 #[nv A, nv B] w fun e w' => e = .returned (nv J) ∧ Below w.heap.size w w')  (k_rJ : ∀ w : World, Calls Try.prog 26 #[nv A, nv B] w fun e w' => e = .returned (nv J) ∧ Below w.heap.size w w')  (k_M : ∀ w : World, Calls Try.prog 23 #[nv A, nv B] w fun e w' => e = .returned (.tuple #[nv M, .bool false]) ∧ Below w.heap.size w w')  (k_rM : ∀ w : World, Calls Try.prog 24 #[nv A, nv B] w fun e w' => e = .returned (.tuple #[nv M, .bool false]) ∧ Below w.heap.size w w')  (k_W : ∀ w : World, Calls Try.prog 25 #[nv A, nv B] w fun e w' => e = .returned (.bool false) ∧ Below w.heap.size w w')  (k_H : ∀ w : World, Calls Try.prog 27 #[nv A, uv x] w fun e w' => e = .returned (.bool H) ∧ Below w.heap.size w w')  (k_rH : ∀ w : World, Calls Try.prog 28 #[nv A, uv x] w fun e w' => e = .returned (.bool H) ∧ Below w.heap.size w w')  (k_1 : ∀ w : World, Calls Try.prog 25 #[nv A, nv J] w fun e w' => e = .returned (.bool true) ∧ Below w.heap.size w w')  (k_2 : ∀ w : World, Calls Try.prog 25 #[nv B, nv J] w fun e w' => e = .returned (.bool true) ∧ Below w.heap.size w w')  (k_3 : ∀ w : World, Calls Try.prog 25 #[nv A, nv PlainTnum.any] w fun e w' => e = .returned (.bool true) ∧ Below w.heap.size w w') (w : World) : Calls Try.prog 4 #[nv a, nv b, uv x] w fun e w' => e = .returned (.bool true) ∧ Below w.heap.size w w' := by
  go_enter Try.func4, Try.ntmps4
  go_wp2_with fail
  obtain ⟨ga, hga⟩ : ∃ g, g = w.heap.size := ⟨_, rfl⟩
  obtain ⟨gb, hgb⟩ : ∃ g, g = w.heap.size + 1 := ⟨_, rfl⟩
  have Ba : Blk ((w.alloc (.cells #[uv a.v, uv a.m] 24)).alloc (.cells #[uv b.v, uv b.m] 24)) (w.heap.size) 24 #[uv a.v, uv a.m] := ((Blk.new w 24 #[uv a.v, uv a.m])).alloc _
  have Bb : Blk ((w.alloc (.cells #[uv a.v, uv a.m] 24)).alloc (.cells #[uv b.v, uv b.m] 24)) (w.heap.size + 1) 24 #[uv b.v, uv b.m] := (by simpa using Blk.new (w.alloc (.cells #[uv a.v, uv a.m] 24)) 24 #[uv b.v, uv b.m] : Blk _ (w.heap.size + 1) 24 #[uv b.v, uv b.m])
  have hB : Below w.heap.size w ((w.alloc (.cells #[uv a.v, uv a.m] 24)).alloc (.cells #[uv b.v, uv b.m] 24)) := (Bl_alloc (Bl_alloc (Bl_refl w) _) _)
  clear hga
  clear ga
  clear hgb
  clear gb
  generalize ((w.alloc (.cells #[uv a.v, uv a.m] 24)).alloc (.cells #[uv b.v, uv b.m] 24)) = w1 at *
  obtain ⟨ca0, ca1⟩ := cells2 Ba
  have fa := Ba.frozen; have la := Ba.lt
  obtain ⟨cb0, cb1⟩ := cells2 Bb
  have fb := Bb.frozen; have lb := Bb.lt
  go_wp2_with fail
  clear ca0 ca1; obtain ⟨ca0, ca1⟩ := lcells2 Ba
  clear cb0 cb1; obtain ⟨cb0, cb1⟩ := lcells2 Bb
  refine wp_region_mix 4 (fun _ => #[]) (by kernel_rfl) (by kernel_rfl) (no_alloc (by kernel_rfl)) ?_
  simp only [List.take_succ_cons, List.take_zero, List.drop_succ_cons, List.drop_zero]
  repeat ((with_reducible refine wpMix_step (fun K hK => ?_)); go_simp; first | ((with_reducible refine hK _ ?_); clear hK K) | (rw [if_neg (by decide)]; (with_reducible refine hK _ ?_); clear hK K) | (apply Exists.intro; refine ⟨fun g => ?_, hK _ ?_⟩; ((with_reducible refine Calls.mono (k_a g.w) ?_); exact fun _ _ h => h); clear hK K) | (apply Exists.intro; refine ⟨fun g => ?_, hK _ ?_⟩; ((with_reducible refine Calls.mono (k_b g.w) ?_); exact fun _ _ h => h); clear hK K))
  refine wpMix_nil ?_
  intro G w2 hgr hblk hdist
  have hb : Below w1.heap.size w1 w2 := hgr
  replace Ba := Ba.next hb
  replace Bb := Bb.next hb
  clear ca0 ca1 fa la
  clear cb0 cb1 fb lb
  replace hB : Below w.heap.size w w2 := Bl_trans hB hb
  simp only [putAll, isAlloc]
  clear hb hgr hblk hdist
  obtain ⟨ca0, ca1⟩ := cells2 Ba
  have fa := Ba.frozen; have la := Ba.lt
  obtain ⟨cb0, cb1⟩ := cells2 Bb
  have fb := Bb.frozen; have lb := Bb.lt
  go_upto_region 2 with fail
  clear ca0 ca1 fa la
  clear cb0 cb1 fb lb
  replace Ba : Blk ((w2.setCell ⟨w.heap.size, 0, none⟩ (uv A.v)).setCell ⟨w.heap.size, 1, none⟩ (uv A.m)) (w.heap.size) 24 #[uv A.v, uv A.m] := ((Ba.set_ 0 _).set_ 1 _)
  replace Bb : Blk ((w2.setCell ⟨w.heap.size, 0, none⟩ (uv A.v)).setCell ⟨w.heap.size, 1, none⟩ (uv A.m)) (w.heap.size + 1) 24 #[uv b.v, uv b.m] := ((Bb.far (by first | (simp; done) | (simp; omega) | (simp [*]; done) | (simp only [ne_eq]; constructor <;> omega)) _).far (by first | (simp; done) | (simp; omega) | (simp [*]; done) | (simp only [ne_eq]; constructor <;> omega)) _)
  replace hB : Below w.heap.size w ((w2.setCell ⟨w.heap.size, 0, none⟩ (uv A.v)).setCell ⟨w.heap.size, 1, none⟩ (uv A.m)) := (Bl_set (Bl_set hB (by first | omega | (simp; done) | (simp; omega)) _) (by first | omega | (simp; done) | (simp; omega)) _)
  replace Ba : Blk ((((w2.setCell ⟨w.heap.size, 0, none⟩ (uv A.v)).setCell ⟨w.heap.size, 1, none⟩ (uv A.m)).setCell ⟨w.heap.size + 1, 0, none⟩ (uv B.v)).setCell ⟨w.heap.size + 1, 1, none⟩ (uv B.m)) (w.heap.size) 24 #[uv A.v, uv A.m] := ((Ba.far (by first | (simp; done) | (simp; omega) | (simp [*]; done) | (simp only [ne_eq]; constructor <;> omega)) _).far (by first | (simp; done) | (simp; omega) | (simp [*]; done) | (simp only [ne_eq]; constructor <;> omega)) _)
  replace Bb : Blk ((((w2.setCell ⟨w.heap.size, 0, none⟩ (uv A.v)).setCell ⟨w.heap.size, 1, none⟩ (uv A.m)).setCell ⟨w.heap.size + 1, 0, none⟩ (uv B.v)).setCell ⟨w.heap.size + 1, 1, none⟩ (uv B.m)) (w.heap.size + 1) 24 #[uv B.v, uv B.m] := ((Bb.set_ 0 _).set_ 1 _)
  replace hB : Below w.heap.size w ((((w2.setCell ⟨w.heap.size, 0, none⟩ (uv A.v)).setCell ⟨w.heap.size, 1, none⟩ (uv A.m)).setCell ⟨w.heap.size + 1, 0, none⟩ (uv B.v)).setCell ⟨w.heap.size + 1, 1, none⟩ (uv B.m)) := (Bl_set (Bl_set hB (by first | omega | (simp; done) | (simp; omega)) _) (by first | omega | (simp; done) | (simp; omega)) _)
  generalize ((((w2.setCell ⟨w.heap.size, 0, none⟩ (uv A.v)).setCell ⟨w.heap.size, 1, none⟩ (uv A.m)).setCell ⟨w.heap.size + 1, 0, none⟩ (uv B.v)).setCell ⟨w.heap.size + 1, 1, none⟩ (uv B.m)) = w3 at *
  obtain ⟨ca0, ca1⟩ := cells2 Ba
  have fa := Ba.frozen; have la := Ba.lt
  obtain ⟨cb0, cb1⟩ := cells2 Bb
  have fb := Bb.frozen; have lb := Bb.lt
  go_wp2_with fail
  clear ca0 ca1; obtain ⟨ca0, ca1⟩ := lcells2 Ba
  clear cb0 cb1; obtain ⟨cb0, cb1⟩ := lcells2 Bb
  refine wp_region_mix 6 (fun _ => #[.int .u64 0, .int .u64 0]) (by kernel_rfl) (by kernel_rfl) (fun o t ho ht => by
    simp at ho
    rcases ho with rfl | rfl | rfl | rfl | rfl | rfl <;> first | (cases ht; done) | (obtain rfl := Option.some.inj ht; exact fun ρ w => new_num ht ρ w)) ?_
  simp only [List.take_succ_cons, List.take_zero, List.drop_succ_cons, List.drop_zero]
  repeat ((with_reducible refine wpMix_step (fun K hK => ?_)); go_simp; first | ((with_reducible refine hK _ ?_); clear hK K) | (rw [if_neg (by decide)]; (with_reducible refine hK _ ?_); clear hK K) | (apply Exists.intro; refine ⟨fun g => ?_, hK _ ?_⟩; ((with_reducible refine Calls.mono (to_c A g.w) ?_); exact fun _ _ h => h); clear hK K) | (apply Exists.intro; refine ⟨fun g => ?_, hK _ ?_⟩; ((with_reducible refine Calls.mono (to_c B g.w) ?_); exact fun _ _ h => h); clear hK K) | (apply Exists.intro; refine ⟨fun g => ?_, hK _ ?_⟩; ((with_reducible refine Calls.mono (k_J g.w) ?_); exact fun _ _ h => h); clear hK K))
  refine wpMix_nil ?_
  intro G w4 hgr hblk hdist
  have hb : Below w3.heap.size w3 w4 := hgr
  replace Ba := Ba.next hb
  replace Bb := Bb.next hb
  obtain ⟨Bj, hlj⟩ := hblk 5 _ rfl
  have hgj : w.heap.size ≤ G 5 := Nat.le_trans hB.size hlj
  have hnaj : w.heap.size ≠ G 5 := Nat.ne_of_lt (Nat.lt_of_lt_of_le la hlj)
  have hnbj : w.heap.size + 1 ≠ G 5 := Nat.ne_of_lt (Nat.lt_of_lt_of_le lb hlj)
  clear hlj
  clear ca0 ca1 fa la
  clear cb0 cb1 fb lb
  replace hB : Below w.heap.size w w4 := Bl_trans hB hb
  simp only [putAll, isAlloc, Act.put]
  generalize G 5 = gj at *
  clear hb hgr hblk hdist
  obtain ⟨ca0, ca1⟩ := cells2 Ba
  have fa := Ba.frozen; have la := Ba.lt
  obtain ⟨cb0, cb1⟩ := cells2 Bb
  have fb := Bb.frozen; have lb := Bb.lt
  obtain ⟨cj0, cj1⟩ := cells2 Bj
  have fj := Bj.frozen; have lj := Bj.lt
  go_upto_region 3 with fail
  clear ca0 ca1 fa la
  clear cb0 cb1 fb lb
  clear cj0 cj1 fj lj
  replace Ba : Blk ((w4.setCell ⟨gj, 0, none⟩ (uv J.v)).setCell ⟨gj, 1, none⟩ (uv J.m)) (w.heap.size) 24 #[uv A.v, uv A.m] := ((Ba.far (by first | (simp; done) | (simp; omega) | (simp [*]; done) | (simp only [ne_eq]; constructor <;> omega)) _).far (by first | (simp; done) | (simp; omega) | (simp [*]; done) | (simp only [ne_eq]; constructor <;> omega)) _)
  replace Bb : Blk ((w4.setCell ⟨gj, 0, none⟩ (uv J.v)).setCell ⟨gj, 1, none⟩ (uv J.m)) (w.heap.size + 1) 24 #[uv B.v, uv B.m] := ((Bb.far (by first | (simp; done) | (simp; omega) | (simp [*]; done) | (simp only [ne_eq]; constructor <;> omega)) _).far (by first | (simp; done) | (simp; omega) | (simp [*]; done) | (simp only [ne_eq]; constructor <;> omega)) _)
  replace Bj : Blk ((w4.setCell ⟨gj, 0, none⟩ (uv J.v)).setCell ⟨gj, 1, none⟩ (uv J.m)) (gj) 27 #[uv J.v, uv J.m] := ((Bj.set_ 0 _).set_ 1 _)
  replace hB : Below w.heap.size w ((w4.setCell ⟨gj, 0, none⟩ (uv J.v)).setCell ⟨gj, 1, none⟩ (uv J.m)) := (Bl_set (Bl_set hB (by first | omega | (simp; done) | (simp; omega)) _) (by first | omega | (simp; done) | (simp; omega)) _)
  generalize ((w4.setCell ⟨gj, 0, none⟩ (uv J.v)).setCell ⟨gj, 1, none⟩ (uv J.m)) = w5 at *
  obtain ⟨ca0, ca1⟩ := cells2 Ba
  have fa := Ba.frozen; have la := Ba.lt
  obtain ⟨cb0, cb1⟩ := cells2 Bb
  have fb := Bb.frozen; have lb := Bb.lt
  obtain ⟨cj0, cj1⟩ := cells2 Bj
  have fj := Bj.frozen; have lj := Bj.lt
  go_wp2_with fail
  clear ca0 ca1; obtain ⟨ca0, ca1⟩ := lcells2 Ba
  clear cb0 cb1; obtain ⟨cb0, cb1⟩ := lcells2 Bb
  clear cj0 cj1; obtain ⟨cj0, cj1⟩ := lcells2 Bj
  refine wp_region_mixL 9 (fun k => k == 7) (fun _ => #[.int .u64 0, .int .u64 0]) (by kernel_rfl) (by kernel_rfl) (fun d _ _ _ _ h => by cases d <;> exact h) (fun o t ho ht => by
    simp at ho
    rcases ho with rfl | rfl | rfl | rfl | rfl | rfl | rfl | rfl | rfl <;> first | (cases ht; done) | (obtain rfl := Option.some.inj ht; exact fun ρ w => new_num ht ρ w)) ?_
  simp only [List.take_succ_cons, List.take_zero, List.drop_succ_cons, List.drop_zero]
  repeat ((with_reducible refine wpMixL_step (fun K hK => ?_)); go_simp; first | ((with_reducible refine hK _ ?_); clear hK K) | (rw [if_neg (by decide)]; (with_reducible refine hK _ ?_); clear hK K) | (apply Exists.intro; refine ⟨fun g => ?_, hK _ ?_⟩; ((with_reducible refine Calls.mono (to_c A g.w) ?_); exact fun _ _ h => h); clear hK K) | (apply Exists.intro; refine ⟨fun g => ?_, hK _ ?_⟩; ((with_reducible refine Calls.mono (to_c B g.w) ?_); exact fun _ _ h => h); clear hK K) | (apply Exists.intro; refine ⟨fun g => ?_, hK _ ?_⟩; ((with_reducible refine Calls.mono (k_M g.w) ?_); exact fun _ _ h => h); clear hK K))
  refine wpMixL_nil ?_
  intro G w6 hgr hblk hdist
  have hb : Below w5.heap.size w5 w6 := hgr
  replace Ba := Ba.next hb
  replace Bb := Bb.next hb
  replace Bj := Bj.next hb
  obtain ⟨Bm, hlm⟩ := hblk 8 _ rfl
  have hgm : w.heap.size ≤ G 8 := Nat.le_trans hB.size hlm
  have hnam : w.heap.size ≠ G 8 := Nat.ne_of_lt (Nat.lt_of_lt_of_le la hlm)
  have hnbm : w.heap.size + 1 ≠ G 8 := Nat.ne_of_lt (Nat.lt_of_lt_of_le lb hlm)
  have hnjm : gj ≠ G 8 := Nat.ne_of_lt (Nat.lt_of_lt_of_le lj hlm)
  clear hlm
  clear ca0 ca1 fa la
  clear cb0 cb1 fb lb
  clear cj0 cj1 fj lj
  replace hB : Below w.heap.size w w6 := Bl_trans hB hb
  simp only [putAll, isAlloc, Act.put]
  generalize G 8 = gm at *
  clear hb hgr hblk hdist
  obtain ⟨ca0, ca1⟩ := cells2 Ba
  have fa := Ba.frozen; have la := Ba.lt
  obtain ⟨cb0, cb1⟩ := cells2 Bb
  have fb := Bb.frozen; have lb := Bb.lt
  obtain ⟨cj0, cj1⟩ := cells2 Bj
  have fj := Bj.frozen; have lj := Bj.lt
  obtain ⟨cm0, cm1⟩ := cells2 Bm
  have fm := Bm.frozen; have lm := Bm.lt
  go_upto_region 4 with fail
  clear ca0 ca1 fa la
  clear cb0 cb1 fb lb
  clear cj0 cj1 fj lj
  clear cm0 cm1 fm lm
  replace Ba : Blk ((w6.setCell ⟨gm, 0, none⟩ (uv M.v)).setCell ⟨gm, 1, none⟩ (uv M.m)) (w.heap.size) 24 #[uv A.v, uv A.m] := ((Ba.far (by first | (simp; done) | (simp; omega) | (simp [*]; done) | (simp only [ne_eq]; constructor <;> omega)) _).far (by first | (simp; done) | (simp; omega) | (simp [*]; done) | (simp only [ne_eq]; constructor <;> omega)) _)
  replace Bb : Blk ((w6.setCell ⟨gm, 0, none⟩ (uv M.v)).setCell ⟨gm, 1, none⟩ (uv M.m)) (w.heap.size + 1) 24 #[uv B.v, uv B.m] := ((Bb.far (by first | (simp; done) | (simp; omega) | (simp [*]; done) | (simp only [ne_eq]; constructor <;> omega)) _).far (by first | (simp; done) | (simp; omega) | (simp [*]; done) | (simp only [ne_eq]; constructor <;> omega)) _)
  replace Bj : Blk ((w6.setCell ⟨gm, 0, none⟩ (uv M.v)).setCell ⟨gm, 1, none⟩ (uv M.m)) (gj) 27 #[uv J.v, uv J.m] := ((Bj.far (by first | (simp; done) | (simp; omega) | (simp [*]; done) | (simp only [ne_eq]; constructor <;> omega)) _).far (by first | (simp; done) | (simp; omega) | (simp [*]; done) | (simp only [ne_eq]; constructor <;> omega)) _)
  replace Bm : Blk ((w6.setCell ⟨gm, 0, none⟩ (uv M.v)).setCell ⟨gm, 1, none⟩ (uv M.m)) (gm) 27 #[uv M.v, uv M.m] := ((Bm.set_ 0 _).set_ 1 _)
  replace hB : Below w.heap.size w ((w6.setCell ⟨gm, 0, none⟩ (uv M.v)).setCell ⟨gm, 1, none⟩ (uv M.m)) := (Bl_set (Bl_set hB (by first | omega | (simp; done) | (simp; omega)) _) (by first | omega | (simp; done) | (simp; omega)) _)
  generalize ((w6.setCell ⟨gm, 0, none⟩ (uv M.v)).setCell ⟨gm, 1, none⟩ (uv M.m)) = w7 at *
  obtain ⟨ca0, ca1⟩ := cells2 Ba
  have fa := Ba.frozen; have la := Ba.lt
  obtain ⟨cb0, cb1⟩ := cells2 Bb
  have fb := Bb.frozen; have lb := Bb.lt
  obtain ⟨cj0, cj1⟩ := cells2 Bj
  have fj := Bj.frozen; have lj := Bj.lt
  obtain ⟨cm0, cm1⟩ := cells2 Bm
  have fm := Bm.frozen; have lm := Bm.lt
  go_wp2_with fail
  refine (k_rM _).mono ?_
  rintro e w8 ⟨rfl, hb⟩
  clear ca0 ca1 fa la
  clear cb0 cb1 fb lb
  clear cj0 cj1 fj lj
  clear cm0 cm1 fm lm
  replace Ba := (Ba).next hb
  replace Bb := (Bb).next hb
  replace Bj := (Bj).next hb
  replace Bm := (Bm).next hb
  replace hB : Below w.heap.size w w8 := by repeat (first | exact hB | (refine Bl_set ?_ (by first | omega | (simp; omega)) _) | apply Bl_alloc | (refine Bl_trans ?_ hb))
  clear hb
  obtain ⟨ca0, ca1⟩ := cells2 Ba
  have fa := Ba.frozen; have la := Ba.lt
  obtain ⟨cb0, cb1⟩ := cells2 Bb
  have fb := Bb.frozen; have lb := Bb.lt
  obtain ⟨cj0, cj1⟩ := cells2 Bj
  have fj := Bj.frozen; have lj := Bj.lt
  obtain ⟨cm0, cm1⟩ := cells2 Bm
  have fm := Bm.frozen; have lm := Bm.lt
  go_upto_region 5 with fail
  clear ca0 ca1 fa la
  clear cb0 cb1 fb lb
  clear cj0 cj1 fj lj
  clear cm0 cm1 fm lm
  have Bz := Blk.new w8 24 #[uv M.v, uv M.m]
  have hgz := hB.size
  have hnaz := Nat.ne_of_lt Ba.lt; have hltaz := Ba.lt
  have hnbz := Nat.ne_of_lt Bb.lt; have hltbz := Bb.lt
  have hnjz := Nat.ne_of_lt Bj.lt; have hltjz := Bj.lt
  have hnmz := Nat.ne_of_lt Bm.lt; have hltmz := Bm.lt
  replace Ba : Blk (w8.alloc (.cells #[uv M.v, uv M.m] 24)) (w.heap.size) 24 #[uv A.v, uv A.m] := Ba.alloc _
  replace Bb : Blk (w8.alloc (.cells #[uv M.v, uv M.m] 24)) (w.heap.size + 1) 24 #[uv B.v, uv B.m] := Bb.alloc _
  replace Bj : Blk (w8.alloc (.cells #[uv M.v, uv M.m] 24)) (gj) 27 #[uv J.v, uv J.m] := Bj.alloc _
  replace Bm : Blk (w8.alloc (.cells #[uv M.v, uv M.m] 24)) (gm) 27 #[uv M.v, uv M.m] := Bm.alloc _
  replace hB : Below w.heap.size w (w8.alloc (.cells #[uv M.v, uv M.m] 24)) := Bl_alloc hB _
  generalize (w8.alloc (.cells #[uv M.v, uv M.m] 24)) = w9 at *
  generalize w8.heap.size = gz at *
  obtain ⟨ca0, ca1⟩ := cells2 Ba
  have fa := Ba.frozen; have la := Ba.lt
  obtain ⟨cb0, cb1⟩ := cells2 Bb
  have fb := Bb.frozen; have lb := Bb.lt
  obtain ⟨cj0, cj1⟩ := cells2 Bj
  have fj := Bj.frozen; have lj := Bj.lt
  obtain ⟨cm0, cm1⟩ := cells2 Bm
  have fm := Bm.frozen; have lm := Bm.lt
  obtain ⟨cz0, cz1⟩ := cells2 Bz
  have fz := Bz.frozen; have lz := Bz.lt
  go_wp2_with fail
  clear ca0 ca1; obtain ⟨ca0, ca1⟩ := lcells2 Ba
  clear cb0 cb1; obtain ⟨cb0, cb1⟩ := lcells2 Bb
  clear cj0 cj1; obtain ⟨cj0, cj1⟩ := lcells2 Bj
  clear cm0 cm1; obtain ⟨cm0, cm1⟩ := lcells2 Bm
  clear cz0 cz1; obtain ⟨cz0, cz1⟩ := lcells2 Bz
  refine wp_region_mix 5 (fun _ => #[]) (by kernel_rfl) (by kernel_rfl) (no_alloc (by kernel_rfl)) ?_
  simp only [List.take_succ_cons, List.take_zero, List.drop_succ_cons, List.drop_zero]
  repeat ((with_reducible refine wpMix_step (fun K hK => ?_)); go_simp; first | ((with_reducible refine hK _ ?_); clear hK K) | (rw [if_neg (by decide)]; (with_reducible refine hK _ ?_); clear hK K) | (apply Exists.intro; refine ⟨fun g => ?_, hK _ ?_⟩; ((with_reducible refine Calls.mono (to_c A g.w) ?_); exact fun _ _ h => h); clear hK K) | (apply Exists.intro; refine ⟨fun g => ?_, hK _ ?_⟩; ((with_reducible refine Calls.mono (to_c B g.w) ?_); exact fun _ _ h => h); clear hK K) | (apply Exists.intro; refine ⟨fun g => ?_, hK _ ?_⟩; ((with_reducible refine Calls.mono (k_W g.w) ?_); exact fun _ _ h => h); clear hK K))
  refine wpMix_nil ?_
  intro G w10 hgr hblk hdist
  have hb : Below w9.heap.size w9 w10 := hgr
  replace Ba := Ba.next hb
  replace Bb := Bb.next hb
  replace Bj := Bj.next hb
  replace Bm := Bm.next hb
  replace Bz := Bz.next hb
  clear ca0 ca1 fa la
  clear cb0 cb1 fb lb
  clear cj0 cj1 fj lj
  clear cm0 cm1 fm lm
  clear cz0 cz1 fz lz
  replace hB : Below w.heap.size w w10 := Bl_trans hB hb
  simp only [putAll, isAlloc]
  clear hb hgr hblk hdist
  obtain ⟨ca0, ca1⟩ := cells2 Ba
  have fa := Ba.frozen; have la := Ba.lt
  obtain ⟨cb0, cb1⟩ := cells2 Bb
  have fb := Bb.frozen; have lb := Bb.lt
  obtain ⟨cj0, cj1⟩ := cells2 Bj
  have fj := Bj.frozen; have lj := Bj.lt
  obtain ⟨cm0, cm1⟩ := cells2 Bm
  have fm := Bm.frozen; have lm := Bm.lt
  obtain ⟨cz0, cz1⟩ := cells2 Bz
  have fz := Bz.frozen; have lz := Bz.lt
  go_wp2_with fail
  clear ca0 ca1; obtain ⟨ca0, ca1⟩ := lcells2 Ba
  clear cb0 cb1; obtain ⟨cb0, cb1⟩ := lcells2 Bb
  clear cj0 cj1; obtain ⟨cj0, cj1⟩ := lcells2 Bj
  clear cm0 cm1; obtain ⟨cm0, cm1⟩ := lcells2 Bm
  clear cz0 cz1; obtain ⟨cz0, cz1⟩ := lcells2 Bz
  try simp only [List.append_eq, List.cons_append, List.nil_append]
  refine wp_region_mix 74 (fun _ => #[]) (by kernel_rfl) (by kernel_rfl) (no_alloc (by kernel_rfl)) ?_
  simp only [List.take_succ_cons, List.take_zero, List.drop_succ_cons, List.drop_zero]
  repeat ((with_reducible refine wpMix_step (fun K hK => ?_)); go_simp; first | ((with_reducible refine hK _ ?_); clear hK K) | (rw [if_neg (by decide)]; (with_reducible refine hK _ ?_); clear hK K) | (apply Exists.intro; refine ⟨fun g => ?_, hK _ ?_⟩; ((with_reducible refine Calls.mono (knows_c g.w) ?_); exact fun _ _ h => h); clear hK K) | (apply Exists.intro; refine ⟨fun g => ?_, hK _ ?_⟩; ((with_reducible refine Calls.mono (to_c A g.w) ?_); exact fun _ _ h => h); clear hK K) | (apply Exists.intro; refine ⟨fun g => ?_, hK _ ?_⟩; ((with_reducible refine Calls.mono (to_c B g.w) ?_); exact fun _ _ h => h); clear hK K) | (apply Exists.intro; refine ⟨fun g => ?_, hK _ ?_⟩; ((with_reducible refine Calls.mono (k_W g.w) ?_); exact fun _ _ h => h); clear hK K) | (apply Exists.intro; refine ⟨fun g => ?_, hK _ ?_⟩; ((with_reducible refine Calls.mono (from_c J g.w) ?_); exact fun _ _ h => h); clear hK K) | (apply Exists.intro; refine ⟨fun g => ?_, hK _ ?_⟩; ((with_reducible refine Calls.mono (k_rJ g.w) ?_); exact fun _ _ h => h); clear hK K) | (apply Exists.intro; refine ⟨fun g => ?_, hK _ ?_⟩; ((with_reducible refine Calls.mono (from_c M g.w) ?_); exact fun _ _ h => h); clear hK K) | (apply Exists.intro; refine ⟨fun g => ?_, hK _ ?_⟩; ((with_reducible refine Calls.mono (k_H g.w) ?_); exact fun _ _ h => h); clear hK K) | (apply Exists.intro; refine ⟨fun g => ?_, hK _ ?_⟩; ((with_reducible refine Calls.mono (k_rH g.w) ?_); exact fun _ _ h => h); clear hK K) | (apply Exists.intro; refine ⟨fun g => ?_, hK _ ?_⟩; ((with_reducible refine Calls.mono (k_1 g.w) ?_); exact fun _ _ h => h); clear hK K) | (apply Exists.intro; refine ⟨fun g => ?_, hK _ ?_⟩; ((with_reducible refine Calls.mono (k_2 g.w) ?_); exact fun _ _ h => h); clear hK K) | (apply Exists.intro; refine ⟨fun g => ?_, hK _ ?_⟩; ((with_reducible refine Calls.mono (any_c g.w) ?_); exact fun _ _ h => h); clear hK K) | (apply Exists.intro; refine ⟨fun g => ?_, hK _ ?_⟩; ((with_reducible refine Calls.mono (k_3 g.w) ?_); exact fun _ _ h => h); clear hK K))
  refine wpMix_nil ?_
  intro G w11 hgr hblk hdist
  have hb : Below w10.heap.size w10 w11 := hgr
  replace Ba := Ba.next hb
  replace Bb := Bb.next hb
  replace Bj := Bj.next hb
  replace Bm := Bm.next hb
  replace Bz := Bz.next hb
  clear ca0 ca1 fa la
  clear cb0 cb1 fb lb
  clear cj0 cj1 fj lj
  clear cm0 cm1 fm lm
  clear cz0 cz1 fz lz
  replace hB : Below w.heap.size w w11 := Bl_trans hB hb
  simp only [putAll, isAlloc]
  clear hb hgr hblk hdist
  obtain ⟨ca0, ca1⟩ := cells2 Ba
  have fa := Ba.frozen; have la := Ba.lt
  obtain ⟨cb0, cb1⟩ := cells2 Bb
  have fb := Bb.frozen; have lb := Bb.lt
  obtain ⟨cj0, cj1⟩ := cells2 Bj
  have fj := Bj.frozen; have lj := Bj.lt
  obtain ⟨cm0, cm1⟩ := cells2 Bm
  have fm := Bm.frozen; have lm := Bm.lt
  obtain ⟨cz0, cz1⟩ := cells2 Bz
  have fz := Bz.frozen; have lz := Bz.lt
  go_wp2
  go_ret
  exact ⟨rfl, by repeat (first | exact hB | (refine Bl_set ?_ (by first | omega | (simp; omega)) _) | apply Bl_alloc)⟩
set_option maxRecDepth 100000 in
set_option maxHeartbeats 3200000 in
theorem meets_else (a b : N) (x : W) (A B J M : N) (H : Bool) (k_a : ∀ w : World, Calls Try.prog 13 #[nv a] w fun e w' => e = .returned (nv A) ∧ Below w.heap.size w w')  (k_b : ∀ w : World, Calls Try.prog 13 #[nv b] w fun e w' => e = .returned (nv B) ∧ Below w.heap.size w w')  (k_J : ∀ w : World, Calls Try.prog 22 #[nv A, nv B] w fun e w' => e = .returned (nv J) ∧ Below w.heap.size w w')  (k_rJ : ∀ w : World, Calls Try.prog 26 #[nv A, nv B] w fun e w' => e = .returned (nv J) ∧ Below w.heap.size w w')  (k_M : ∀ w : World, Calls Try.prog 23 #[nv A, nv B] w fun e w' => e = .returned (.tuple #[nv M, .bool true]) ∧ Below w.heap.size w w')  (k_rM : ∀ w : World, Calls Try.prog 24 #[nv A, nv B] w fun e w' => e = .returned (.tuple #[nv M, .bool true]) ∧ Below w.heap.size w w')  (k_W : ∀ w : World, Calls Try.prog 25 #[nv A, nv B] w fun e w' => e = .returned (.bool false) ∧ Below w.heap.size w w')  (k_H : ∀ w : World, Calls Try.prog 27 #[nv A, uv x] w fun e w' => e = .returned (.bool H) ∧ Below w.heap.size w w')  (k_rH : ∀ w : World, Calls Try.prog 28 #[nv A, uv x] w fun e w' => e = .returned (.bool H) ∧ Below w.heap.size w w')  (k_1 : ∀ w : World, Calls Try.prog 25 #[nv A, nv J] w fun e w' => e = .returned (.bool true) ∧ Below w.heap.size w w')  (k_2 : ∀ w : World, Calls Try.prog 25 #[nv B, nv J] w fun e w' => e = .returned (.bool true) ∧ Below w.heap.size w w')  (k_3 : ∀ w : World, Calls Try.prog 25 #[nv A, nv PlainTnum.any] w fun e w' => e = .returned (.bool true) ∧ Below w.heap.size w w')  (k_4 : ∀ w : World, Calls Try.prog 25 #[nv M, nv A] w fun e w' => e = .returned (.bool true) ∧ Below w.heap.size w w')  (k_5 : ∀ w : World, Calls Try.prog 25 #[nv M, nv B] w fun e w' => e = .returned (.bool true) ∧ Below w.heap.size w w')  (hne : ∀ x y : Result Next, (if T M.v = T A.v then if T M.m = T A.m then x else y else y) = y) (w : World) : Calls Try.prog 4 #[nv a, nv b, uv x] w fun e w' => e = .returned (.bool true) ∧ Below w.heap.size w w' := by
  go_enter Try.func4, Try.ntmps4
  go_wp2_with fail
  obtain ⟨ga, hga⟩ : ∃ g, g = w.heap.size := ⟨_, rfl⟩
  obtain ⟨gb, hgb⟩ : ∃ g, g = w.heap.size + 1 := ⟨_, rfl⟩
  have Ba : Blk ((w.alloc (.cells #[uv a.v, uv a.m] 24)).alloc (.cells #[uv b.v, uv b.m] 24)) (w.heap.size) 24 #[uv a.v, uv a.m] := ((Blk.new w 24 #[uv a.v, uv a.m])).alloc _
  have Bb : Blk ((w.alloc (.cells #[uv a.v, uv a.m] 24)).alloc (.cells #[uv b.v, uv b.m] 24)) (w.heap.size + 1) 24 #[uv b.v, uv b.m] := (by simpa using Blk.new (w.alloc (.cells #[uv a.v, uv a.m] 24)) 24 #[uv b.v, uv b.m] : Blk _ (w.heap.size + 1) 24 #[uv b.v, uv b.m])
  have hB : Below w.heap.size w ((w.alloc (.cells #[uv a.v, uv a.m] 24)).alloc (.cells #[uv b.v, uv b.m] 24)) := (Bl_alloc (Bl_alloc (Bl_refl w) _) _)
  clear hga
  clear ga
  clear hgb
  clear gb
  generalize ((w.alloc (.cells #[uv a.v, uv a.m] 24)).alloc (.cells #[uv b.v, uv b.m] 24)) = w1 at *
  obtain ⟨ca0, ca1⟩ := cells2 Ba
  have fa := Ba.frozen; have la := Ba.lt
  obtain ⟨cb0, cb1⟩ := cells2 Bb
  have fb := Bb.frozen; have lb := Bb.lt
  go_wp2_with fail
  clear ca0 ca1; obtain ⟨ca0, ca1⟩ := lcells2 Ba
  clear cb0 cb1; obtain ⟨cb0, cb1⟩ := lcells2 Bb
  refine wp_region_mix 4 (fun _ => #[]) (by kernel_rfl) (by kernel_rfl) (no_alloc (by kernel_rfl)) ?_
  simp only [List.take_succ_cons, List.take_zero, List.drop_succ_cons, List.drop_zero]
  repeat ((with_reducible refine wpMix_step (fun K hK => ?_)); go_simp; first | ((with_reducible refine hK _ ?_); clear hK K) | (rw [if_neg (by decide)]; (with_reducible refine hK _ ?_); clear hK K) | (apply Exists.intro; refine ⟨fun g => ?_, hK _ ?_⟩; ((with_reducible refine Calls.mono (k_a g.w) ?_); exact fun _ _ h => h); clear hK K) | (apply Exists.intro; refine ⟨fun g => ?_, hK _ ?_⟩; ((with_reducible refine Calls.mono (k_b g.w) ?_); exact fun _ _ h => h); clear hK K))
  refine wpMix_nil ?_
  intro G w2 hgr hblk hdist
  have hb : Below w1.heap.size w1 w2 := hgr
  replace Ba := Ba.next hb
  replace Bb := Bb.next hb
  clear ca0 ca1 fa la
  clear cb0 cb1 fb lb
  replace hB : Below w.heap.size w w2 := Bl_trans hB hb
  simp only [putAll, isAlloc]
  clear hb hgr hblk hdist
  obtain ⟨ca0, ca1⟩ := cells2 Ba
  have fa := Ba.frozen; have la := Ba.lt
  obtain ⟨cb0, cb1⟩ := cells2 Bb
  have fb := Bb.frozen; have lb := Bb.lt
  go_upto_region 2 with fail
  clear ca0 ca1 fa la
  clear cb0 cb1 fb lb
  replace Ba : Blk ((w2.setCell ⟨w.heap.size, 0, none⟩ (uv A.v)).setCell ⟨w.heap.size, 1, none⟩ (uv A.m)) (w.heap.size) 24 #[uv A.v, uv A.m] := ((Ba.set_ 0 _).set_ 1 _)
  replace Bb : Blk ((w2.setCell ⟨w.heap.size, 0, none⟩ (uv A.v)).setCell ⟨w.heap.size, 1, none⟩ (uv A.m)) (w.heap.size + 1) 24 #[uv b.v, uv b.m] := ((Bb.far (by first | (simp; done) | (simp; omega) | (simp [*]; done) | (simp only [ne_eq]; constructor <;> omega)) _).far (by first | (simp; done) | (simp; omega) | (simp [*]; done) | (simp only [ne_eq]; constructor <;> omega)) _)
  replace hB : Below w.heap.size w ((w2.setCell ⟨w.heap.size, 0, none⟩ (uv A.v)).setCell ⟨w.heap.size, 1, none⟩ (uv A.m)) := (Bl_set (Bl_set hB (by first | omega | (simp; done) | (simp; omega)) _) (by first | omega | (simp; done) | (simp; omega)) _)
  replace Ba : Blk ((((w2.setCell ⟨w.heap.size, 0, none⟩ (uv A.v)).setCell ⟨w.heap.size, 1, none⟩ (uv A.m)).setCell ⟨w.heap.size + 1, 0, none⟩ (uv B.v)).setCell ⟨w.heap.size + 1, 1, none⟩ (uv B.m)) (w.heap.size) 24 #[uv A.v, uv A.m] := ((Ba.far (by first | (simp; done) | (simp; omega) | (simp [*]; done) | (simp only [ne_eq]; constructor <;> omega)) _).far (by first | (simp; done) | (simp; omega) | (simp [*]; done) | (simp only [ne_eq]; constructor <;> omega)) _)
  replace Bb : Blk ((((w2.setCell ⟨w.heap.size, 0, none⟩ (uv A.v)).setCell ⟨w.heap.size, 1, none⟩ (uv A.m)).setCell ⟨w.heap.size + 1, 0, none⟩ (uv B.v)).setCell ⟨w.heap.size + 1, 1, none⟩ (uv B.m)) (w.heap.size + 1) 24 #[uv B.v, uv B.m] := ((Bb.set_ 0 _).set_ 1 _)
  replace hB : Below w.heap.size w ((((w2.setCell ⟨w.heap.size, 0, none⟩ (uv A.v)).setCell ⟨w.heap.size, 1, none⟩ (uv A.m)).setCell ⟨w.heap.size + 1, 0, none⟩ (uv B.v)).setCell ⟨w.heap.size + 1, 1, none⟩ (uv B.m)) := (Bl_set (Bl_set hB (by first | omega | (simp; done) | (simp; omega)) _) (by first | omega | (simp; done) | (simp; omega)) _)
  generalize ((((w2.setCell ⟨w.heap.size, 0, none⟩ (uv A.v)).setCell ⟨w.heap.size, 1, none⟩ (uv A.m)).setCell ⟨w.heap.size + 1, 0, none⟩ (uv B.v)).setCell ⟨w.heap.size + 1, 1, none⟩ (uv B.m)) = w3 at *
  obtain ⟨ca0, ca1⟩ := cells2 Ba
  have fa := Ba.frozen; have la := Ba.lt
  obtain ⟨cb0, cb1⟩ := cells2 Bb
  have fb := Bb.frozen; have lb := Bb.lt
  go_wp2_with fail
  clear ca0 ca1; obtain ⟨ca0, ca1⟩ := lcells2 Ba
  clear cb0 cb1; obtain ⟨cb0, cb1⟩ := lcells2 Bb
  refine wp_region_mix 6 (fun _ => #[.int .u64 0, .int .u64 0]) (by kernel_rfl) (by kernel_rfl) (fun o t ho ht => by
    simp at ho
    rcases ho with rfl | rfl | rfl | rfl | rfl | rfl <;> first | (cases ht; done) | (obtain rfl := Option.some.inj ht; exact fun ρ w => new_num ht ρ w)) ?_
  simp only [List.take_succ_cons, List.take_zero, List.drop_succ_cons, List.drop_zero]
  repeat ((with_reducible refine wpMix_step (fun K hK => ?_)); go_simp; first | ((with_reducible refine hK _ ?_); clear hK K) | (rw [if_neg (by decide)]; (with_reducible refine hK _ ?_); clear hK K) | (apply Exists.intro; refine ⟨fun g => ?_, hK _ ?_⟩; ((with_reducible refine Calls.mono (to_c A g.w) ?_); exact fun _ _ h => h); clear hK K) | (apply Exists.intro; refine ⟨fun g => ?_, hK _ ?_⟩; ((with_reducible refine Calls.mono (to_c B g.w) ?_); exact fun _ _ h => h); clear hK K) | (apply Exists.intro; refine ⟨fun g => ?_, hK _ ?_⟩; ((with_reducible refine Calls.mono (k_J g.w) ?_); exact fun _ _ h => h); clear hK K))
  refine wpMix_nil ?_
  intro G w4 hgr hblk hdist
  have hb : Below w3.heap.size w3 w4 := hgr
  replace Ba := Ba.next hb
  replace Bb := Bb.next hb
  obtain ⟨Bj, hlj⟩ := hblk 5 _ rfl
  have hgj : w.heap.size ≤ G 5 := Nat.le_trans hB.size hlj
  have hnaj : w.heap.size ≠ G 5 := Nat.ne_of_lt (Nat.lt_of_lt_of_le la hlj)
  have hnbj : w.heap.size + 1 ≠ G 5 := Nat.ne_of_lt (Nat.lt_of_lt_of_le lb hlj)
  clear hlj
  clear ca0 ca1 fa la
  clear cb0 cb1 fb lb
  replace hB : Below w.heap.size w w4 := Bl_trans hB hb
  simp only [putAll, isAlloc, Act.put]
  generalize G 5 = gj at *
  clear hb hgr hblk hdist
  obtain ⟨ca0, ca1⟩ := cells2 Ba
  have fa := Ba.frozen; have la := Ba.lt
  obtain ⟨cb0, cb1⟩ := cells2 Bb
  have fb := Bb.frozen; have lb := Bb.lt
  obtain ⟨cj0, cj1⟩ := cells2 Bj
  have fj := Bj.frozen; have lj := Bj.lt
  go_upto_region 3 with fail
  clear ca0 ca1 fa la
  clear cb0 cb1 fb lb
  clear cj0 cj1 fj lj
  replace Ba : Blk ((w4.setCell ⟨gj, 0, none⟩ (uv J.v)).setCell ⟨gj, 1, none⟩ (uv J.m)) (w.heap.size) 24 #[uv A.v, uv A.m] := ((Ba.far (by first | (simp; done) | (simp; omega) | (simp [*]; done) | (simp only [ne_eq]; constructor <;> omega)) _).far (by first | (simp; done) | (simp; omega) | (simp [*]; done) | (simp only [ne_eq]; constructor <;> omega)) _)
  replace Bb : Blk ((w4.setCell ⟨gj, 0, none⟩ (uv J.v)).setCell ⟨gj, 1, none⟩ (uv J.m)) (w.heap.size + 1) 24 #[uv B.v, uv B.m] := ((Bb.far (by first | (simp; done) | (simp; omega) | (simp [*]; done) | (simp only [ne_eq]; constructor <;> omega)) _).far (by first | (simp; done) | (simp; omega) | (simp [*]; done) | (simp only [ne_eq]; constructor <;> omega)) _)
  replace Bj : Blk ((w4.setCell ⟨gj, 0, none⟩ (uv J.v)).setCell ⟨gj, 1, none⟩ (uv J.m)) (gj) 27 #[uv J.v, uv J.m] := ((Bj.set_ 0 _).set_ 1 _)
  replace hB : Below w.heap.size w ((w4.setCell ⟨gj, 0, none⟩ (uv J.v)).setCell ⟨gj, 1, none⟩ (uv J.m)) := (Bl_set (Bl_set hB (by first | omega | (simp; done) | (simp; omega)) _) (by first | omega | (simp; done) | (simp; omega)) _)
  generalize ((w4.setCell ⟨gj, 0, none⟩ (uv J.v)).setCell ⟨gj, 1, none⟩ (uv J.m)) = w5 at *
  obtain ⟨ca0, ca1⟩ := cells2 Ba
  have fa := Ba.frozen; have la := Ba.lt
  obtain ⟨cb0, cb1⟩ := cells2 Bb
  have fb := Bb.frozen; have lb := Bb.lt
  obtain ⟨cj0, cj1⟩ := cells2 Bj
  have fj := Bj.frozen; have lj := Bj.lt
  go_wp2_with fail
  clear ca0 ca1; obtain ⟨ca0, ca1⟩ := lcells2 Ba
  clear cb0 cb1; obtain ⟨cb0, cb1⟩ := lcells2 Bb
  clear cj0 cj1; obtain ⟨cj0, cj1⟩ := lcells2 Bj
  refine wp_region_mixL 9 (fun k => k == 7) (fun _ => #[.int .u64 0, .int .u64 0]) (by kernel_rfl) (by kernel_rfl) (fun d _ _ _ _ h => by cases d <;> exact h) (fun o t ho ht => by
    simp at ho
    rcases ho with rfl | rfl | rfl | rfl | rfl | rfl | rfl | rfl | rfl <;> first | (cases ht; done) | (obtain rfl := Option.some.inj ht; exact fun ρ w => new_num ht ρ w)) ?_
  simp only [List.take_succ_cons, List.take_zero, List.drop_succ_cons, List.drop_zero]
  repeat ((with_reducible refine wpMixL_step (fun K hK => ?_)); go_simp; first | ((with_reducible refine hK _ ?_); clear hK K) | (rw [if_neg (by decide)]; (with_reducible refine hK _ ?_); clear hK K) | (apply Exists.intro; refine ⟨fun g => ?_, hK _ ?_⟩; ((with_reducible refine Calls.mono (to_c A g.w) ?_); exact fun _ _ h => h); clear hK K) | (apply Exists.intro; refine ⟨fun g => ?_, hK _ ?_⟩; ((with_reducible refine Calls.mono (to_c B g.w) ?_); exact fun _ _ h => h); clear hK K) | (apply Exists.intro; refine ⟨fun g => ?_, hK _ ?_⟩; ((with_reducible refine Calls.mono (k_M g.w) ?_); exact fun _ _ h => h); clear hK K))
  refine wpMixL_nil ?_
  intro G w6 hgr hblk hdist
  have hb : Below w5.heap.size w5 w6 := hgr
  replace Ba := Ba.next hb
  replace Bb := Bb.next hb
  replace Bj := Bj.next hb
  obtain ⟨Bm, hlm⟩ := hblk 8 _ rfl
  have hgm : w.heap.size ≤ G 8 := Nat.le_trans hB.size hlm
  have hnam : w.heap.size ≠ G 8 := Nat.ne_of_lt (Nat.lt_of_lt_of_le la hlm)
  have hnbm : w.heap.size + 1 ≠ G 8 := Nat.ne_of_lt (Nat.lt_of_lt_of_le lb hlm)
  have hnjm : gj ≠ G 8 := Nat.ne_of_lt (Nat.lt_of_lt_of_le lj hlm)
  clear hlm
  clear ca0 ca1 fa la
  clear cb0 cb1 fb lb
  clear cj0 cj1 fj lj
  replace hB : Below w.heap.size w w6 := Bl_trans hB hb
  simp only [putAll, isAlloc, Act.put]
  generalize G 8 = gm at *
  clear hb hgr hblk hdist
  obtain ⟨ca0, ca1⟩ := cells2 Ba
  have fa := Ba.frozen; have la := Ba.lt
  obtain ⟨cb0, cb1⟩ := cells2 Bb
  have fb := Bb.frozen; have lb := Bb.lt
  obtain ⟨cj0, cj1⟩ := cells2 Bj
  have fj := Bj.frozen; have lj := Bj.lt
  obtain ⟨cm0, cm1⟩ := cells2 Bm
  have fm := Bm.frozen; have lm := Bm.lt
  go_upto_region 4 with fail
  clear ca0 ca1 fa la
  clear cb0 cb1 fb lb
  clear cj0 cj1 fj lj
  clear cm0 cm1 fm lm
  replace Ba : Blk ((w6.setCell ⟨gm, 0, none⟩ (uv M.v)).setCell ⟨gm, 1, none⟩ (uv M.m)) (w.heap.size) 24 #[uv A.v, uv A.m] := ((Ba.far (by first | (simp; done) | (simp; omega) | (simp [*]; done) | (simp only [ne_eq]; constructor <;> omega)) _).far (by first | (simp; done) | (simp; omega) | (simp [*]; done) | (simp only [ne_eq]; constructor <;> omega)) _)
  replace Bb : Blk ((w6.setCell ⟨gm, 0, none⟩ (uv M.v)).setCell ⟨gm, 1, none⟩ (uv M.m)) (w.heap.size + 1) 24 #[uv B.v, uv B.m] := ((Bb.far (by first | (simp; done) | (simp; omega) | (simp [*]; done) | (simp only [ne_eq]; constructor <;> omega)) _).far (by first | (simp; done) | (simp; omega) | (simp [*]; done) | (simp only [ne_eq]; constructor <;> omega)) _)
  replace Bj : Blk ((w6.setCell ⟨gm, 0, none⟩ (uv M.v)).setCell ⟨gm, 1, none⟩ (uv M.m)) (gj) 27 #[uv J.v, uv J.m] := ((Bj.far (by first | (simp; done) | (simp; omega) | (simp [*]; done) | (simp only [ne_eq]; constructor <;> omega)) _).far (by first | (simp; done) | (simp; omega) | (simp [*]; done) | (simp only [ne_eq]; constructor <;> omega)) _)
  replace Bm : Blk ((w6.setCell ⟨gm, 0, none⟩ (uv M.v)).setCell ⟨gm, 1, none⟩ (uv M.m)) (gm) 27 #[uv M.v, uv M.m] := ((Bm.set_ 0 _).set_ 1 _)
  replace hB : Below w.heap.size w ((w6.setCell ⟨gm, 0, none⟩ (uv M.v)).setCell ⟨gm, 1, none⟩ (uv M.m)) := (Bl_set (Bl_set hB (by first | omega | (simp; done) | (simp; omega)) _) (by first | omega | (simp; done) | (simp; omega)) _)
  generalize ((w6.setCell ⟨gm, 0, none⟩ (uv M.v)).setCell ⟨gm, 1, none⟩ (uv M.m)) = w7 at *
  obtain ⟨ca0, ca1⟩ := cells2 Ba
  have fa := Ba.frozen; have la := Ba.lt
  obtain ⟨cb0, cb1⟩ := cells2 Bb
  have fb := Bb.frozen; have lb := Bb.lt
  obtain ⟨cj0, cj1⟩ := cells2 Bj
  have fj := Bj.frozen; have lj := Bj.lt
  obtain ⟨cm0, cm1⟩ := cells2 Bm
  have fm := Bm.frozen; have lm := Bm.lt
  go_wp2_with fail
  refine (k_rM _).mono ?_
  rintro e w8 ⟨rfl, hb⟩
  clear ca0 ca1 fa la
  clear cb0 cb1 fb lb
  clear cj0 cj1 fj lj
  clear cm0 cm1 fm lm
  replace Ba := (Ba).next hb
  replace Bb := (Bb).next hb
  replace Bj := (Bj).next hb
  replace Bm := (Bm).next hb
  replace hB : Below w.heap.size w w8 := by repeat (first | exact hB | (refine Bl_set ?_ (by first | omega | (simp; omega)) _) | apply Bl_alloc | (refine Bl_trans ?_ hb))
  clear hb
  obtain ⟨ca0, ca1⟩ := cells2 Ba
  have fa := Ba.frozen; have la := Ba.lt
  obtain ⟨cb0, cb1⟩ := cells2 Bb
  have fb := Bb.frozen; have lb := Bb.lt
  obtain ⟨cj0, cj1⟩ := cells2 Bj
  have fj := Bj.frozen; have lj := Bj.lt
  obtain ⟨cm0, cm1⟩ := cells2 Bm
  have fm := Bm.frozen; have lm := Bm.lt
  go_upto_region 5 with fail
  clear ca0 ca1 fa la
  clear cb0 cb1 fb lb
  clear cj0 cj1 fj lj
  clear cm0 cm1 fm lm
  have Bz := Blk.new w8 24 #[uv M.v, uv M.m]
  have hgz := hB.size
  have hnaz := Nat.ne_of_lt Ba.lt; have hltaz := Ba.lt
  have hnbz := Nat.ne_of_lt Bb.lt; have hltbz := Bb.lt
  have hnjz := Nat.ne_of_lt Bj.lt; have hltjz := Bj.lt
  have hnmz := Nat.ne_of_lt Bm.lt; have hltmz := Bm.lt
  replace Ba : Blk (w8.alloc (.cells #[uv M.v, uv M.m] 24)) (w.heap.size) 24 #[uv A.v, uv A.m] := Ba.alloc _
  replace Bb : Blk (w8.alloc (.cells #[uv M.v, uv M.m] 24)) (w.heap.size + 1) 24 #[uv B.v, uv B.m] := Bb.alloc _
  replace Bj : Blk (w8.alloc (.cells #[uv M.v, uv M.m] 24)) (gj) 27 #[uv J.v, uv J.m] := Bj.alloc _
  replace Bm : Blk (w8.alloc (.cells #[uv M.v, uv M.m] 24)) (gm) 27 #[uv M.v, uv M.m] := Bm.alloc _
  replace hB : Below w.heap.size w (w8.alloc (.cells #[uv M.v, uv M.m] 24)) := Bl_alloc hB _
  generalize (w8.alloc (.cells #[uv M.v, uv M.m] 24)) = w9 at *
  generalize w8.heap.size = gz at *
  obtain ⟨ca0, ca1⟩ := cells2 Ba
  have fa := Ba.frozen; have la := Ba.lt
  obtain ⟨cb0, cb1⟩ := cells2 Bb
  have fb := Bb.frozen; have lb := Bb.lt
  obtain ⟨cj0, cj1⟩ := cells2 Bj
  have fj := Bj.frozen; have lj := Bj.lt
  obtain ⟨cm0, cm1⟩ := cells2 Bm
  have fm := Bm.frozen; have lm := Bm.lt
  obtain ⟨cz0, cz1⟩ := cells2 Bz
  have fz := Bz.frozen; have lz := Bz.lt
  go_wp2_with fail
  clear ca0 ca1; obtain ⟨ca0, ca1⟩ := lcells2 Ba
  clear cb0 cb1; obtain ⟨cb0, cb1⟩ := lcells2 Bb
  clear cj0 cj1; obtain ⟨cj0, cj1⟩ := lcells2 Bj
  clear cm0 cm1; obtain ⟨cm0, cm1⟩ := lcells2 Bm
  clear cz0 cz1; obtain ⟨cz0, cz1⟩ := lcells2 Bz
  refine wp_region_mix 5 (fun _ => #[]) (by kernel_rfl) (by kernel_rfl) (no_alloc (by kernel_rfl)) ?_
  simp only [List.take_succ_cons, List.take_zero, List.drop_succ_cons, List.drop_zero]
  repeat ((with_reducible refine wpMix_step (fun K hK => ?_)); go_simp; first | ((with_reducible refine hK _ ?_); clear hK K) | (rw [if_neg (by decide)]; (with_reducible refine hK _ ?_); clear hK K) | (apply Exists.intro; refine ⟨fun g => ?_, hK _ ?_⟩; ((with_reducible refine Calls.mono (to_c A g.w) ?_); exact fun _ _ h => h); clear hK K) | (apply Exists.intro; refine ⟨fun g => ?_, hK _ ?_⟩; ((with_reducible refine Calls.mono (to_c B g.w) ?_); exact fun _ _ h => h); clear hK K) | (apply Exists.intro; refine ⟨fun g => ?_, hK _ ?_⟩; ((with_reducible refine Calls.mono (k_W g.w) ?_); exact fun _ _ h => h); clear hK K))
  refine wpMix_nil ?_
  intro G w10 hgr hblk hdist
  have hb : Below w9.heap.size w9 w10 := hgr
  replace Ba := Ba.next hb
  replace Bb := Bb.next hb
  replace Bj := Bj.next hb
  replace Bm := Bm.next hb
  replace Bz := Bz.next hb
  clear ca0 ca1 fa la
  clear cb0 cb1 fb lb
  clear cj0 cj1 fj lj
  clear cm0 cm1 fm lm
  clear cz0 cz1 fz lz
  replace hB : Below w.heap.size w w10 := Bl_trans hB hb
  simp only [putAll, isAlloc]
  clear hb hgr hblk hdist
  obtain ⟨ca0, ca1⟩ := cells2 Ba
  have fa := Ba.frozen; have la := Ba.lt
  obtain ⟨cb0, cb1⟩ := cells2 Bb
  have fb := Bb.frozen; have lb := Bb.lt
  obtain ⟨cj0, cj1⟩ := cells2 Bj
  have fj := Bj.frozen; have lj := Bj.lt
  obtain ⟨cm0, cm1⟩ := cells2 Bm
  have fm := Bm.frozen; have lm := Bm.lt
  obtain ⟨cz0, cz1⟩ := cells2 Bz
  have fz := Bz.frozen; have lz := Bz.lt
  go_wp2_with fail
  clear ca0 ca1; obtain ⟨ca0, ca1⟩ := lcells2 Ba
  clear cb0 cb1; obtain ⟨cb0, cb1⟩ := lcells2 Bb
  clear cj0 cj1; obtain ⟨cj0, cj1⟩ := lcells2 Bj
  clear cm0 cm1; obtain ⟨cm0, cm1⟩ := lcells2 Bm
  clear cz0 cz1; obtain ⟨cz0, cz1⟩ := lcells2 Bz
  try simp only [List.append_eq, List.cons_append, List.nil_append]
  refine wp_region_mix 74 (fun _ => #[]) (by kernel_rfl) (by kernel_rfl) (no_alloc (by kernel_rfl)) ?_
  simp only [List.take_succ_cons, List.take_zero, List.drop_succ_cons, List.drop_zero]
  repeat ((with_reducible refine wpMix_step (fun K hK => ?_)); go_simp; first | ((with_reducible refine hK _ ?_); clear hK K) | (rw [if_neg (by decide)]; (with_reducible refine hK _ ?_); clear hK K) | (apply Exists.intro; refine ⟨fun g => ?_, hK _ ?_⟩; ((with_reducible refine Calls.mono (knows_c g.w) ?_); exact fun _ _ h => h); clear hK K) | (apply Exists.intro; refine ⟨fun g => ?_, hK _ ?_⟩; ((with_reducible refine Calls.mono (to_c A g.w) ?_); exact fun _ _ h => h); clear hK K) | (apply Exists.intro; refine ⟨fun g => ?_, hK _ ?_⟩; ((with_reducible refine Calls.mono (to_c B g.w) ?_); exact fun _ _ h => h); clear hK K) | (apply Exists.intro; refine ⟨fun g => ?_, hK _ ?_⟩; ((with_reducible refine Calls.mono (k_W g.w) ?_); exact fun _ _ h => h); clear hK K) | (apply Exists.intro; refine ⟨fun g => ?_, hK _ ?_⟩; ((with_reducible refine Calls.mono (from_c J g.w) ?_); exact fun _ _ h => h); clear hK K) | (apply Exists.intro; refine ⟨fun g => ?_, hK _ ?_⟩; ((with_reducible refine Calls.mono (k_rJ g.w) ?_); exact fun _ _ h => h); clear hK K) | (apply Exists.intro; refine ⟨fun g => ?_, hK _ ?_⟩; ((with_reducible refine Calls.mono (from_c M g.w) ?_); exact fun _ _ h => h); clear hK K) | (apply Exists.intro; refine ⟨fun g => ?_, hK _ ?_⟩; ((with_reducible refine Calls.mono (k_H g.w) ?_); exact fun _ _ h => h); clear hK K) | (apply Exists.intro; refine ⟨fun g => ?_, hK _ ?_⟩; ((with_reducible refine Calls.mono (k_rH g.w) ?_); exact fun _ _ h => h); clear hK K) | (apply Exists.intro; refine ⟨fun g => ?_, hK _ ?_⟩; ((with_reducible refine Calls.mono (k_1 g.w) ?_); exact fun _ _ h => h); clear hK K) | (apply Exists.intro; refine ⟨fun g => ?_, hK _ ?_⟩; ((with_reducible refine Calls.mono (k_2 g.w) ?_); exact fun _ _ h => h); clear hK K) | (apply Exists.intro; refine ⟨fun g => ?_, hK _ ?_⟩; ((with_reducible refine Calls.mono (any_c g.w) ?_); exact fun _ _ h => h); clear hK K) | (apply Exists.intro; refine ⟨fun g => ?_, hK _ ?_⟩; ((with_reducible refine Calls.mono (k_3 g.w) ?_); exact fun _ _ h => h); clear hK K) | (apply Exists.intro; refine ⟨fun g => ?_, hK _ ?_⟩; ((with_reducible refine Calls.mono (k_4 g.w) ?_); exact fun _ _ h => h); clear hK K) | (apply Exists.intro; refine ⟨fun g => ?_, hK _ ?_⟩; ((with_reducible refine Calls.mono (k_5 g.w) ?_); exact fun _ _ h => h); clear hK K))
  refine wpMix_nil ?_
  intro G w11 hgr hblk hdist
  have hb : Below w10.heap.size w10 w11 := hgr
  replace Ba := Ba.next hb
  replace Bb := Bb.next hb
  replace Bj := Bj.next hb
  replace Bm := Bm.next hb
  replace Bz := Bz.next hb
  clear ca0 ca1 fa la
  clear cb0 cb1 fb lb
  clear cj0 cj1 fj lj
  clear cm0 cm1 fm lm
  clear cz0 cz1 fz lz
  replace hB : Below w.heap.size w w11 := Bl_trans hB hb
  simp only [putAll, isAlloc]
  clear hb hgr hblk hdist
  obtain ⟨ca0, ca1⟩ := cells2 Ba
  have fa := Ba.frozen; have la := Ba.lt
  obtain ⟨cb0, cb1⟩ := cells2 Bb
  have fb := Bb.frozen; have lb := Bb.lt
  obtain ⟨cj0, cj1⟩ := cells2 Bj
  have fj := Bj.frozen; have lj := Bj.lt
  obtain ⟨cm0, cm1⟩ := cells2 Bm
  have fm := Bm.frozen; have lm := Bm.lt
  obtain ⟨cz0, cz1⟩ := cells2 Bz
  have fz := Bz.frozen; have lz := Bz.lt
  go_wp2
  go_ret
  exact ⟨rfl, by repeat (first | exact hB | (refine Bl_set ?_ (by first | omega | (simp; omega)) _) | apply Bl_alloc)⟩
set_option maxRecDepth 100000 in
set_option maxHeartbeats 3200000 in
theorem meets_same (a b : N) (x : W) (A B J : N) (H : Bool) (k_a : ∀ w : World, Calls Try.prog 13 #[nv a] w fun e w' => e = .returned (nv A) ∧ Below w.heap.size w w')  (k_b : ∀ w : World, Calls Try.prog 13 #[nv b] w fun e w' => e = .returned (nv B) ∧ Below w.heap.size w w')  (k_J : ∀ w : World, Calls Try.prog 22 #[nv A, nv B] w fun e w' => e = .returned (nv J) ∧ Below w.heap.size w w')  (k_rJ : ∀ w : World, Calls Try.prog 26 #[nv A, nv B] w fun e w' => e = .returned (nv J) ∧ Below w.heap.size w w')  (k_M : ∀ w : World, Calls Try.prog 23 #[nv A, nv B] w fun e w' => e = .returned (.tuple #[nv A, .bool true]) ∧ Below w.heap.size w w')  (k_rM : ∀ w : World, Calls Try.prog 24 #[nv A, nv B] w fun e w' => e = .returned (.tuple #[nv A, .bool true]) ∧ Below w.heap.size w w')  (k_W : ∀ w : World, Calls Try.prog 25 #[nv A, nv B] w fun e w' => e = .returned (.bool true) ∧ Below w.heap.size w w')  (k_H : ∀ w : World, Calls Try.prog 27 #[nv A, uv x] w fun e w' => e = .returned (.bool H) ∧ Below w.heap.size w w')  (k_rH : ∀ w : World, Calls Try.prog 28 #[nv A, uv x] w fun e w' => e = .returned (.bool H) ∧ Below w.heap.size w w')  (k_1 : ∀ w : World, Calls Try.prog 25 #[nv A, nv J] w fun e w' => e = .returned (.bool true) ∧ Below w.heap.size w w')  (k_2 : ∀ w : World, Calls Try.prog 25 #[nv B, nv J] w fun e w' => e = .returned (.bool true) ∧ Below w.heap.size w w')  (k_3 : ∀ w : World, Calls Try.prog 25 #[nv A, nv PlainTnum.any] w fun e w' => e = .returned (.bool true) ∧ Below w.heap.size w w')  (k_4 : ∀ w : World, Calls Try.prog 25 #[nv A, nv A] w fun e w' => e = .returned (.bool true) ∧ Below w.heap.size w w')  (k_5 : ∀ w : World, Calls Try.prog 25 #[nv A, nv B] w fun e w' => e = .returned (.bool true) ∧ Below w.heap.size w w') (w : World) : Calls Try.prog 4 #[nv a, nv b, uv x] w fun e w' => e = .returned (.bool true) ∧ Below w.heap.size w w' := by
  go_enter Try.func4, Try.ntmps4
  go_wp2_with fail
  obtain ⟨ga, hga⟩ : ∃ g, g = w.heap.size := ⟨_, rfl⟩
  obtain ⟨gb, hgb⟩ : ∃ g, g = w.heap.size + 1 := ⟨_, rfl⟩
  have Ba : Blk ((w.alloc (.cells #[uv a.v, uv a.m] 24)).alloc (.cells #[uv b.v, uv b.m] 24)) (w.heap.size) 24 #[uv a.v, uv a.m] := ((Blk.new w 24 #[uv a.v, uv a.m])).alloc _
  have Bb : Blk ((w.alloc (.cells #[uv a.v, uv a.m] 24)).alloc (.cells #[uv b.v, uv b.m] 24)) (w.heap.size + 1) 24 #[uv b.v, uv b.m] := (by simpa using Blk.new (w.alloc (.cells #[uv a.v, uv a.m] 24)) 24 #[uv b.v, uv b.m] : Blk _ (w.heap.size + 1) 24 #[uv b.v, uv b.m])
  have hB : Below w.heap.size w ((w.alloc (.cells #[uv a.v, uv a.m] 24)).alloc (.cells #[uv b.v, uv b.m] 24)) := (Bl_alloc (Bl_alloc (Bl_refl w) _) _)
  clear hga
  clear ga
  clear hgb
  clear gb
  generalize ((w.alloc (.cells #[uv a.v, uv a.m] 24)).alloc (.cells #[uv b.v, uv b.m] 24)) = w1 at *
  obtain ⟨ca0, ca1⟩ := cells2 Ba
  have fa := Ba.frozen; have la := Ba.lt
  obtain ⟨cb0, cb1⟩ := cells2 Bb
  have fb := Bb.frozen; have lb := Bb.lt
  go_wp2_with fail
  clear ca0 ca1; obtain ⟨ca0, ca1⟩ := lcells2 Ba
  clear cb0 cb1; obtain ⟨cb0, cb1⟩ := lcells2 Bb
  refine wp_region_mix 4 (fun _ => #[]) (by kernel_rfl) (by kernel_rfl) (no_alloc (by kernel_rfl)) ?_
  simp only [List.take_succ_cons, List.take_zero, List.drop_succ_cons, List.drop_zero]
  repeat ((with_reducible refine wpMix_step (fun K hK => ?_)); go_simp; first | ((with_reducible refine hK _ ?_); clear hK K) | (rw [if_neg (by decide)]; (with_reducible refine hK _ ?_); clear hK K) | (apply Exists.intro; refine ⟨fun g => ?_, hK _ ?_⟩; ((with_reducible refine Calls.mono (k_a g.w) ?_); exact fun _ _ h => h); clear hK K) | (apply Exists.intro; refine ⟨fun g => ?_, hK _ ?_⟩; ((with_reducible refine Calls.mono (k_b g.w) ?_); exact fun _ _ h => h); clear hK K))
  refine wpMix_nil ?_
  intro G w2 hgr hblk hdist
  have hb : Below w1.heap.size w1 w2 := hgr
  replace Ba := Ba.next hb
  replace Bb := Bb.next hb
  clear ca0 ca1 fa la
  clear cb0 cb1 fb lb
  replace hB : Below w.heap.size w w2 := Bl_trans hB hb
  simp only [putAll, isAlloc]
  clear hb hgr hblk hdist
  obtain ⟨ca0, ca1⟩ := cells2 Ba
  have fa := Ba.frozen; have la := Ba.lt
  obtain ⟨cb0, cb1⟩ := cells2 Bb
  have fb := Bb.frozen; have lb := Bb.lt
  go_upto_region 2 with fail
  clear ca0 ca1 fa la
  clear cb0 cb1 fb lb
  replace Ba : Blk ((w2.setCell ⟨w.heap.size, 0, none⟩ (uv A.v)).setCell ⟨w.heap.size, 1, none⟩ (uv A.m)) (w.heap.size) 24 #[uv A.v, uv A.m] := ((Ba.set_ 0 _).set_ 1 _)
  replace Bb : Blk ((w2.setCell ⟨w.heap.size, 0, none⟩ (uv A.v)).setCell ⟨w.heap.size, 1, none⟩ (uv A.m)) (w.heap.size + 1) 24 #[uv b.v, uv b.m] := ((Bb.far (by first | (simp; done) | (simp; omega) | (simp [*]; done) | (simp only [ne_eq]; constructor <;> omega)) _).far (by first | (simp; done) | (simp; omega) | (simp [*]; done) | (simp only [ne_eq]; constructor <;> omega)) _)
  replace hB : Below w.heap.size w ((w2.setCell ⟨w.heap.size, 0, none⟩ (uv A.v)).setCell ⟨w.heap.size, 1, none⟩ (uv A.m)) := (Bl_set (Bl_set hB (by first | omega | (simp; done) | (simp; omega)) _) (by first | omega | (simp; done) | (simp; omega)) _)
  replace Ba : Blk ((((w2.setCell ⟨w.heap.size, 0, none⟩ (uv A.v)).setCell ⟨w.heap.size, 1, none⟩ (uv A.m)).setCell ⟨w.heap.size + 1, 0, none⟩ (uv B.v)).setCell ⟨w.heap.size + 1, 1, none⟩ (uv B.m)) (w.heap.size) 24 #[uv A.v, uv A.m] := ((Ba.far (by first | (simp; done) | (simp; omega) | (simp [*]; done) | (simp only [ne_eq]; constructor <;> omega)) _).far (by first | (simp; done) | (simp; omega) | (simp [*]; done) | (simp only [ne_eq]; constructor <;> omega)) _)
  replace Bb : Blk ((((w2.setCell ⟨w.heap.size, 0, none⟩ (uv A.v)).setCell ⟨w.heap.size, 1, none⟩ (uv A.m)).setCell ⟨w.heap.size + 1, 0, none⟩ (uv B.v)).setCell ⟨w.heap.size + 1, 1, none⟩ (uv B.m)) (w.heap.size + 1) 24 #[uv B.v, uv B.m] := ((Bb.set_ 0 _).set_ 1 _)
  replace hB : Below w.heap.size w ((((w2.setCell ⟨w.heap.size, 0, none⟩ (uv A.v)).setCell ⟨w.heap.size, 1, none⟩ (uv A.m)).setCell ⟨w.heap.size + 1, 0, none⟩ (uv B.v)).setCell ⟨w.heap.size + 1, 1, none⟩ (uv B.m)) := (Bl_set (Bl_set hB (by first | omega | (simp; done) | (simp; omega)) _) (by first | omega | (simp; done) | (simp; omega)) _)
  generalize ((((w2.setCell ⟨w.heap.size, 0, none⟩ (uv A.v)).setCell ⟨w.heap.size, 1, none⟩ (uv A.m)).setCell ⟨w.heap.size + 1, 0, none⟩ (uv B.v)).setCell ⟨w.heap.size + 1, 1, none⟩ (uv B.m)) = w3 at *
  obtain ⟨ca0, ca1⟩ := cells2 Ba
  have fa := Ba.frozen; have la := Ba.lt
  obtain ⟨cb0, cb1⟩ := cells2 Bb
  have fb := Bb.frozen; have lb := Bb.lt
  go_wp2_with fail
  clear ca0 ca1; obtain ⟨ca0, ca1⟩ := lcells2 Ba
  clear cb0 cb1; obtain ⟨cb0, cb1⟩ := lcells2 Bb
  refine wp_region_mix 6 (fun _ => #[.int .u64 0, .int .u64 0]) (by kernel_rfl) (by kernel_rfl) (fun o t ho ht => by
    simp at ho
    rcases ho with rfl | rfl | rfl | rfl | rfl | rfl <;> first | (cases ht; done) | (obtain rfl := Option.some.inj ht; exact fun ρ w => new_num ht ρ w)) ?_
  simp only [List.take_succ_cons, List.take_zero, List.drop_succ_cons, List.drop_zero]
  repeat ((with_reducible refine wpMix_step (fun K hK => ?_)); go_simp; first | ((with_reducible refine hK _ ?_); clear hK K) | (rw [if_neg (by decide)]; (with_reducible refine hK _ ?_); clear hK K) | (apply Exists.intro; refine ⟨fun g => ?_, hK _ ?_⟩; ((with_reducible refine Calls.mono (to_c A g.w) ?_); exact fun _ _ h => h); clear hK K) | (apply Exists.intro; refine ⟨fun g => ?_, hK _ ?_⟩; ((with_reducible refine Calls.mono (to_c B g.w) ?_); exact fun _ _ h => h); clear hK K) | (apply Exists.intro; refine ⟨fun g => ?_, hK _ ?_⟩; ((with_reducible refine Calls.mono (k_J g.w) ?_); exact fun _ _ h => h); clear hK K))
  refine wpMix_nil ?_
  intro G w4 hgr hblk hdist
  have hb : Below w3.heap.size w3 w4 := hgr
  replace Ba := Ba.next hb
  replace Bb := Bb.next hb
  obtain ⟨Bj, hlj⟩ := hblk 5 _ rfl
  have hgj : w.heap.size ≤ G 5 := Nat.le_trans hB.size hlj
  have hnaj : w.heap.size ≠ G 5 := Nat.ne_of_lt (Nat.lt_of_lt_of_le la hlj)
  have hnbj : w.heap.size + 1 ≠ G 5 := Nat.ne_of_lt (Nat.lt_of_lt_of_le lb hlj)
  clear hlj
  clear ca0 ca1 fa la
  clear cb0 cb1 fb lb
  replace hB : Below w.heap.size w w4 := Bl_trans hB hb
  simp only [putAll, isAlloc, Act.put]
  generalize G 5 = gj at *
  clear hb hgr hblk hdist
  obtain ⟨ca0, ca1⟩ := cells2 Ba
  have fa := Ba.frozen; have la := Ba.lt
  obtain ⟨cb0, cb1⟩ := cells2 Bb
  have fb := Bb.frozen; have lb := Bb.lt
  obtain ⟨cj0, cj1⟩ := cells2 Bj
  have fj := Bj.frozen; have lj := Bj.lt
  go_upto_region 3 with fail
  clear ca0 ca1 fa la
  clear cb0 cb1 fb lb
  clear cj0 cj1 fj lj
  replace Ba : Blk ((w4.setCell ⟨gj, 0, none⟩ (uv J.v)).setCell ⟨gj, 1, none⟩ (uv J.m)) (w.heap.size) 24 #[uv A.v, uv A.m] := ((Ba.far (by first | (simp; done) | (simp; omega) | (simp [*]; done) | (simp only [ne_eq]; constructor <;> omega)) _).far (by first | (simp; done) | (simp; omega) | (simp [*]; done) | (simp only [ne_eq]; constructor <;> omega)) _)
  replace Bb : Blk ((w4.setCell ⟨gj, 0, none⟩ (uv J.v)).setCell ⟨gj, 1, none⟩ (uv J.m)) (w.heap.size + 1) 24 #[uv B.v, uv B.m] := ((Bb.far (by first | (simp; done) | (simp; omega) | (simp [*]; done) | (simp only [ne_eq]; constructor <;> omega)) _).far (by first | (simp; done) | (simp; omega) | (simp [*]; done) | (simp only [ne_eq]; constructor <;> omega)) _)
  replace Bj : Blk ((w4.setCell ⟨gj, 0, none⟩ (uv J.v)).setCell ⟨gj, 1, none⟩ (uv J.m)) (gj) 27 #[uv J.v, uv J.m] := ((Bj.set_ 0 _).set_ 1 _)
  replace hB : Below w.heap.size w ((w4.setCell ⟨gj, 0, none⟩ (uv J.v)).setCell ⟨gj, 1, none⟩ (uv J.m)) := (Bl_set (Bl_set hB (by first | omega | (simp; done) | (simp; omega)) _) (by first | omega | (simp; done) | (simp; omega)) _)
  generalize ((w4.setCell ⟨gj, 0, none⟩ (uv J.v)).setCell ⟨gj, 1, none⟩ (uv J.m)) = w5 at *
  obtain ⟨ca0, ca1⟩ := cells2 Ba
  have fa := Ba.frozen; have la := Ba.lt
  obtain ⟨cb0, cb1⟩ := cells2 Bb
  have fb := Bb.frozen; have lb := Bb.lt
  obtain ⟨cj0, cj1⟩ := cells2 Bj
  have fj := Bj.frozen; have lj := Bj.lt
  go_wp2_with fail
  clear ca0 ca1; obtain ⟨ca0, ca1⟩ := lcells2 Ba
  clear cb0 cb1; obtain ⟨cb0, cb1⟩ := lcells2 Bb
  clear cj0 cj1; obtain ⟨cj0, cj1⟩ := lcells2 Bj
  refine wp_region_mixL 9 (fun k => k == 7) (fun _ => #[.int .u64 0, .int .u64 0]) (by kernel_rfl) (by kernel_rfl) (fun d _ _ _ _ h => by cases d <;> exact h) (fun o t ho ht => by
    simp at ho
    rcases ho with rfl | rfl | rfl | rfl | rfl | rfl | rfl | rfl | rfl <;> first | (cases ht; done) | (obtain rfl := Option.some.inj ht; exact fun ρ w => new_num ht ρ w)) ?_
  simp only [List.take_succ_cons, List.take_zero, List.drop_succ_cons, List.drop_zero]
  repeat ((with_reducible refine wpMixL_step (fun K hK => ?_)); go_simp; first | ((with_reducible refine hK _ ?_); clear hK K) | (rw [if_neg (by decide)]; (with_reducible refine hK _ ?_); clear hK K) | (apply Exists.intro; refine ⟨fun g => ?_, hK _ ?_⟩; ((with_reducible refine Calls.mono (to_c A g.w) ?_); exact fun _ _ h => h); clear hK K) | (apply Exists.intro; refine ⟨fun g => ?_, hK _ ?_⟩; ((with_reducible refine Calls.mono (to_c B g.w) ?_); exact fun _ _ h => h); clear hK K) | (apply Exists.intro; refine ⟨fun g => ?_, hK _ ?_⟩; ((with_reducible refine Calls.mono (k_M g.w) ?_); exact fun _ _ h => h); clear hK K))
  refine wpMixL_nil ?_
  intro G w6 hgr hblk hdist
  have hb : Below w5.heap.size w5 w6 := hgr
  replace Ba := Ba.next hb
  replace Bb := Bb.next hb
  replace Bj := Bj.next hb
  obtain ⟨Bm, hlm⟩ := hblk 8 _ rfl
  have hgm : w.heap.size ≤ G 8 := Nat.le_trans hB.size hlm
  have hnam : w.heap.size ≠ G 8 := Nat.ne_of_lt (Nat.lt_of_lt_of_le la hlm)
  have hnbm : w.heap.size + 1 ≠ G 8 := Nat.ne_of_lt (Nat.lt_of_lt_of_le lb hlm)
  have hnjm : gj ≠ G 8 := Nat.ne_of_lt (Nat.lt_of_lt_of_le lj hlm)
  clear hlm
  clear ca0 ca1 fa la
  clear cb0 cb1 fb lb
  clear cj0 cj1 fj lj
  replace hB : Below w.heap.size w w6 := Bl_trans hB hb
  simp only [putAll, isAlloc, Act.put]
  generalize G 8 = gm at *
  clear hb hgr hblk hdist
  obtain ⟨ca0, ca1⟩ := cells2 Ba
  have fa := Ba.frozen; have la := Ba.lt
  obtain ⟨cb0, cb1⟩ := cells2 Bb
  have fb := Bb.frozen; have lb := Bb.lt
  obtain ⟨cj0, cj1⟩ := cells2 Bj
  have fj := Bj.frozen; have lj := Bj.lt
  obtain ⟨cm0, cm1⟩ := cells2 Bm
  have fm := Bm.frozen; have lm := Bm.lt
  go_upto_region 4 with fail
  clear ca0 ca1 fa la
  clear cb0 cb1 fb lb
  clear cj0 cj1 fj lj
  clear cm0 cm1 fm lm
  replace Ba : Blk ((w6.setCell ⟨gm, 0, none⟩ (uv A.v)).setCell ⟨gm, 1, none⟩ (uv A.m)) (w.heap.size) 24 #[uv A.v, uv A.m] := ((Ba.far (by first | (simp; done) | (simp; omega) | (simp [*]; done) | (simp only [ne_eq]; constructor <;> omega)) _).far (by first | (simp; done) | (simp; omega) | (simp [*]; done) | (simp only [ne_eq]; constructor <;> omega)) _)
  replace Bb : Blk ((w6.setCell ⟨gm, 0, none⟩ (uv A.v)).setCell ⟨gm, 1, none⟩ (uv A.m)) (w.heap.size + 1) 24 #[uv B.v, uv B.m] := ((Bb.far (by first | (simp; done) | (simp; omega) | (simp [*]; done) | (simp only [ne_eq]; constructor <;> omega)) _).far (by first | (simp; done) | (simp; omega) | (simp [*]; done) | (simp only [ne_eq]; constructor <;> omega)) _)
  replace Bj : Blk ((w6.setCell ⟨gm, 0, none⟩ (uv A.v)).setCell ⟨gm, 1, none⟩ (uv A.m)) (gj) 27 #[uv J.v, uv J.m] := ((Bj.far (by first | (simp; done) | (simp; omega) | (simp [*]; done) | (simp only [ne_eq]; constructor <;> omega)) _).far (by first | (simp; done) | (simp; omega) | (simp [*]; done) | (simp only [ne_eq]; constructor <;> omega)) _)
  replace Bm : Blk ((w6.setCell ⟨gm, 0, none⟩ (uv A.v)).setCell ⟨gm, 1, none⟩ (uv A.m)) (gm) 27 #[uv A.v, uv A.m] := ((Bm.set_ 0 _).set_ 1 _)
  replace hB : Below w.heap.size w ((w6.setCell ⟨gm, 0, none⟩ (uv A.v)).setCell ⟨gm, 1, none⟩ (uv A.m)) := (Bl_set (Bl_set hB (by first | omega | (simp; done) | (simp; omega)) _) (by first | omega | (simp; done) | (simp; omega)) _)
  generalize ((w6.setCell ⟨gm, 0, none⟩ (uv A.v)).setCell ⟨gm, 1, none⟩ (uv A.m)) = w7 at *
  obtain ⟨ca0, ca1⟩ := cells2 Ba
  have fa := Ba.frozen; have la := Ba.lt
  obtain ⟨cb0, cb1⟩ := cells2 Bb
  have fb := Bb.frozen; have lb := Bb.lt
  obtain ⟨cj0, cj1⟩ := cells2 Bj
  have fj := Bj.frozen; have lj := Bj.lt
  obtain ⟨cm0, cm1⟩ := cells2 Bm
  have fm := Bm.frozen; have lm := Bm.lt
  go_wp2_with fail
  refine (k_rM _).mono ?_
  rintro e w8 ⟨rfl, hb⟩
  clear ca0 ca1 fa la
  clear cb0 cb1 fb lb
  clear cj0 cj1 fj lj
  clear cm0 cm1 fm lm
  replace Ba := (Ba).next hb
  replace Bb := (Bb).next hb
  replace Bj := (Bj).next hb
  replace Bm := (Bm).next hb
  replace hB : Below w.heap.size w w8 := by repeat (first | exact hB | (refine Bl_set ?_ (by first | omega | (simp; omega)) _) | apply Bl_alloc | (refine Bl_trans ?_ hb))
  clear hb
  obtain ⟨ca0, ca1⟩ := cells2 Ba
  have fa := Ba.frozen; have la := Ba.lt
  obtain ⟨cb0, cb1⟩ := cells2 Bb
  have fb := Bb.frozen; have lb := Bb.lt
  obtain ⟨cj0, cj1⟩ := cells2 Bj
  have fj := Bj.frozen; have lj := Bj.lt
  obtain ⟨cm0, cm1⟩ := cells2 Bm
  have fm := Bm.frozen; have lm := Bm.lt
  go_upto_region 5 with fail
  clear ca0 ca1 fa la
  clear cb0 cb1 fb lb
  clear cj0 cj1 fj lj
  clear cm0 cm1 fm lm
  have Bz := Blk.new w8 24 #[uv A.v, uv A.m]
  have hgz := hB.size
  have hnaz := Nat.ne_of_lt Ba.lt; have hltaz := Ba.lt
  have hnbz := Nat.ne_of_lt Bb.lt; have hltbz := Bb.lt
  have hnjz := Nat.ne_of_lt Bj.lt; have hltjz := Bj.lt
  have hnmz := Nat.ne_of_lt Bm.lt; have hltmz := Bm.lt
  replace Ba : Blk (w8.alloc (.cells #[uv A.v, uv A.m] 24)) (w.heap.size) 24 #[uv A.v, uv A.m] := Ba.alloc _
  replace Bb : Blk (w8.alloc (.cells #[uv A.v, uv A.m] 24)) (w.heap.size + 1) 24 #[uv B.v, uv B.m] := Bb.alloc _
  replace Bj : Blk (w8.alloc (.cells #[uv A.v, uv A.m] 24)) (gj) 27 #[uv J.v, uv J.m] := Bj.alloc _
  replace Bm : Blk (w8.alloc (.cells #[uv A.v, uv A.m] 24)) (gm) 27 #[uv A.v, uv A.m] := Bm.alloc _
  replace hB : Below w.heap.size w (w8.alloc (.cells #[uv A.v, uv A.m] 24)) := Bl_alloc hB _
  generalize (w8.alloc (.cells #[uv A.v, uv A.m] 24)) = w9 at *
  generalize w8.heap.size = gz at *
  obtain ⟨ca0, ca1⟩ := cells2 Ba
  have fa := Ba.frozen; have la := Ba.lt
  obtain ⟨cb0, cb1⟩ := cells2 Bb
  have fb := Bb.frozen; have lb := Bb.lt
  obtain ⟨cj0, cj1⟩ := cells2 Bj
  have fj := Bj.frozen; have lj := Bj.lt
  obtain ⟨cm0, cm1⟩ := cells2 Bm
  have fm := Bm.frozen; have lm := Bm.lt
  obtain ⟨cz0, cz1⟩ := cells2 Bz
  have fz := Bz.frozen; have lz := Bz.lt
  go_wp2_with fail
  clear ca0 ca1; obtain ⟨ca0, ca1⟩ := lcells2 Ba
  clear cb0 cb1; obtain ⟨cb0, cb1⟩ := lcells2 Bb
  clear cj0 cj1; obtain ⟨cj0, cj1⟩ := lcells2 Bj
  clear cm0 cm1; obtain ⟨cm0, cm1⟩ := lcells2 Bm
  clear cz0 cz1; obtain ⟨cz0, cz1⟩ := lcells2 Bz
  refine wp_region_mix 5 (fun _ => #[]) (by kernel_rfl) (by kernel_rfl) (no_alloc (by kernel_rfl)) ?_
  simp only [List.take_succ_cons, List.take_zero, List.drop_succ_cons, List.drop_zero]
  repeat ((with_reducible refine wpMix_step (fun K hK => ?_)); go_simp; first | ((with_reducible refine hK _ ?_); clear hK K) | (rw [if_neg (by decide)]; (with_reducible refine hK _ ?_); clear hK K) | (apply Exists.intro; refine ⟨fun g => ?_, hK _ ?_⟩; ((with_reducible refine Calls.mono (to_c A g.w) ?_); exact fun _ _ h => h); clear hK K) | (apply Exists.intro; refine ⟨fun g => ?_, hK _ ?_⟩; ((with_reducible refine Calls.mono (to_c B g.w) ?_); exact fun _ _ h => h); clear hK K) | (apply Exists.intro; refine ⟨fun g => ?_, hK _ ?_⟩; ((with_reducible refine Calls.mono (k_W g.w) ?_); exact fun _ _ h => h); clear hK K))
  refine wpMix_nil ?_
  intro G w10 hgr hblk hdist
  have hb : Below w9.heap.size w9 w10 := hgr
  replace Ba := Ba.next hb
  replace Bb := Bb.next hb
  replace Bj := Bj.next hb
  replace Bm := Bm.next hb
  replace Bz := Bz.next hb
  clear ca0 ca1 fa la
  clear cb0 cb1 fb lb
  clear cj0 cj1 fj lj
  clear cm0 cm1 fm lm
  clear cz0 cz1 fz lz
  replace hB : Below w.heap.size w w10 := Bl_trans hB hb
  simp only [putAll, isAlloc]
  clear hb hgr hblk hdist
  obtain ⟨ca0, ca1⟩ := cells2 Ba
  have fa := Ba.frozen; have la := Ba.lt
  obtain ⟨cb0, cb1⟩ := cells2 Bb
  have fb := Bb.frozen; have lb := Bb.lt
  obtain ⟨cj0, cj1⟩ := cells2 Bj
  have fj := Bj.frozen; have lj := Bj.lt
  obtain ⟨cm0, cm1⟩ := cells2 Bm
  have fm := Bm.frozen; have lm := Bm.lt
  obtain ⟨cz0, cz1⟩ := cells2 Bz
  have fz := Bz.frozen; have lz := Bz.lt
  go_wp2_with fail
  clear ca0 ca1; obtain ⟨ca0, ca1⟩ := lcells2 Ba
  clear cb0 cb1; obtain ⟨cb0, cb1⟩ := lcells2 Bb
  clear cj0 cj1; obtain ⟨cj0, cj1⟩ := lcells2 Bj
  clear cm0 cm1; obtain ⟨cm0, cm1⟩ := lcells2 Bm
  clear cz0 cz1; obtain ⟨cz0, cz1⟩ := lcells2 Bz
  try simp only [List.append_eq, List.cons_append, List.nil_append]
  refine wp_region_mix 74 (fun _ => #[]) (by kernel_rfl) (by kernel_rfl) (no_alloc (by kernel_rfl)) ?_
  simp only [List.take_succ_cons, List.take_zero, List.drop_succ_cons, List.drop_zero]
  repeat ((with_reducible refine wpMix_step (fun K hK => ?_)); go_simp; first | ((with_reducible refine hK _ ?_); clear hK K) | (rw [if_neg (by decide)]; (with_reducible refine hK _ ?_); clear hK K) | (apply Exists.intro; refine ⟨fun g => ?_, hK _ ?_⟩; ((with_reducible refine Calls.mono (knows_c g.w) ?_); exact fun _ _ h => h); clear hK K) | (apply Exists.intro; refine ⟨fun g => ?_, hK _ ?_⟩; ((with_reducible refine Calls.mono (to_c A g.w) ?_); exact fun _ _ h => h); clear hK K) | (apply Exists.intro; refine ⟨fun g => ?_, hK _ ?_⟩; ((with_reducible refine Calls.mono (to_c B g.w) ?_); exact fun _ _ h => h); clear hK K) | (apply Exists.intro; refine ⟨fun g => ?_, hK _ ?_⟩; ((with_reducible refine Calls.mono (k_W g.w) ?_); exact fun _ _ h => h); clear hK K) | (apply Exists.intro; refine ⟨fun g => ?_, hK _ ?_⟩; ((with_reducible refine Calls.mono (from_c J g.w) ?_); exact fun _ _ h => h); clear hK K) | (apply Exists.intro; refine ⟨fun g => ?_, hK _ ?_⟩; ((with_reducible refine Calls.mono (k_rJ g.w) ?_); exact fun _ _ h => h); clear hK K) | (apply Exists.intro; refine ⟨fun g => ?_, hK _ ?_⟩; ((with_reducible refine Calls.mono (from_c A g.w) ?_); exact fun _ _ h => h); clear hK K) | (apply Exists.intro; refine ⟨fun g => ?_, hK _ ?_⟩; ((with_reducible refine Calls.mono (k_H g.w) ?_); exact fun _ _ h => h); clear hK K) | (apply Exists.intro; refine ⟨fun g => ?_, hK _ ?_⟩; ((with_reducible refine Calls.mono (k_rH g.w) ?_); exact fun _ _ h => h); clear hK K) | (apply Exists.intro; refine ⟨fun g => ?_, hK _ ?_⟩; ((with_reducible refine Calls.mono (k_1 g.w) ?_); exact fun _ _ h => h); clear hK K) | (apply Exists.intro; refine ⟨fun g => ?_, hK _ ?_⟩; ((with_reducible refine Calls.mono (k_2 g.w) ?_); exact fun _ _ h => h); clear hK K) | (apply Exists.intro; refine ⟨fun g => ?_, hK _ ?_⟩; ((with_reducible refine Calls.mono (any_c g.w) ?_); exact fun _ _ h => h); clear hK K) | (apply Exists.intro; refine ⟨fun g => ?_, hK _ ?_⟩; ((with_reducible refine Calls.mono (k_3 g.w) ?_); exact fun _ _ h => h); clear hK K) | (apply Exists.intro; refine ⟨fun g => ?_, hK _ ?_⟩; ((with_reducible refine Calls.mono (k_4 g.w) ?_); exact fun _ _ h => h); clear hK K) | (apply Exists.intro; refine ⟨fun g => ?_, hK _ ?_⟩; ((with_reducible refine Calls.mono (k_5 g.w) ?_); exact fun _ _ h => h); clear hK K))
  refine wpMix_nil ?_
  intro G w11 hgr hblk hdist
  have hb : Below w10.heap.size w10 w11 := hgr
  replace Ba := Ba.next hb
  replace Bb := Bb.next hb
  replace Bj := Bj.next hb
  replace Bm := Bm.next hb
  replace Bz := Bz.next hb
  clear ca0 ca1 fa la
  clear cb0 cb1 fb lb
  clear cj0 cj1 fj lj
  clear cm0 cm1 fm lm
  clear cz0 cz1 fz lz
  replace hB : Below w.heap.size w w11 := Bl_trans hB hb
  simp only [putAll, isAlloc]
  clear hb hgr hblk hdist
  obtain ⟨ca0, ca1⟩ := cells2 Ba
  have fa := Ba.frozen; have la := Ba.lt
  obtain ⟨cb0, cb1⟩ := cells2 Bb
  have fb := Bb.frozen; have lb := Bb.lt
  obtain ⟨cj0, cj1⟩ := cells2 Bj
  have fj := Bj.frozen; have lj := Bj.lt
  obtain ⟨cm0, cm1⟩ := cells2 Bm
  have fm := Bm.frozen; have lm := Bm.lt
  obtain ⟨cz0, cz1⟩ := cells2 Bz
  have fz := Bz.frozen; have lz := Bz.lt
  go_wp2
  go_ret
  exact ⟨rfl, by repeat (first | exact hB | (refine Bl_set ?_ (by first | omega | (simp; omega)) _) | apply Bl_alloc)⟩
theorem nv_ne {M A : N} (h : ¬ M = A) (x y : Result Next) : (if T M.v = T A.v then if T M.m = T A.m then x else y else y) = y := by
  split
  · rename_i e0
    split
    · rename_i e1
      exact absurd (PlainTnum.N.ext' (T_inj e0) (T_inj e1)) h
    · rfl
  · rfl
theorem walkN_TnumMeets (v m v' m' : W) (x : W) (w : World) : Calls Try.prog 4 #[.agg #[.int .u64 (T v), .int .u64 (T m)], .agg #[.int .u64 (T v'), .int .u64 (T m')], .int .u64 (T x)] w fun e w' => e = .returned (.bool true) ∧ Below w.heap.size w w' := by
  have k_a := rightl_c ⟨v, m⟩; have k_b := rightl_c ⟨v', m'⟩
  have hA := PlainTnum.R_right ⟨v, m⟩; have hB := PlainTnum.R_right ⟨v', m'⟩
  generalize PlainTnum.right ⟨v, m⟩ = A at k_a hA; generalize PlainTnum.right ⟨v', m'⟩ = B at k_b hB
  have k_J := join_c A B
  have k_rJ := rjoin_c A B
  rw [← PlainTnum.join_eq hA hB] at k_rJ
  have k_M := meet_c A B
  have k_rM := rmeet_c A B hA hB
  have k_W := within_c A B
  have hw := PlainTnum.within_meet hA hB
  have k_H := has_c A x
  have k_rH := rhas_c A x
  have k_1 := within_true A (PlainTnum.join A B) (PlainTnum.within_join_l hA); have k_2 := within_true B (PlainTnum.join A B) (PlainTnum.within_join_r hB)
  have k_3 := within_true A PlainTnum.any PlainTnum.within_any
  have hm : ∀ M, PlainTnum.meet A B = (M, true) → PlainTnum.within M A = true ∧ PlainTnum.within M B = true := fun M h => PlainTnum.meet_within hA hB h
  generalize PlainTnum.join A B = J at k_J k_rJ k_1 k_2
  generalize PlainTnum.has A x = H at k_H k_rH
  generalize PlainTnum.meet A B = Q at k_M k_rM hw hm
  obtain ⟨M, ok⟩ := Q
  cases ok
  · have e : PlainTnum.within A B = false := by cases q : PlainTnum.within A B; rfl; exact absurd (hw.1 q).1 (by simp)
    rw [e] at k_W
    exact meets_no ⟨v, m⟩ ⟨v', m'⟩ x A B J M H k_a k_b k_J k_rJ k_M k_rM k_W k_H k_rH k_1 k_2 k_3 w
  · have h4 := hm M rfl
    have k_4 := within_true M A h4.1; have k_5 := within_true M B h4.2
    by_cases hMA : M = A
    · subst hMA
      have e : PlainTnum.within M B = true := hw.2 ⟨rfl, rfl⟩
      rw [e] at k_W
      exact meets_same ⟨v, m⟩ ⟨v', m'⟩ x M B J H k_a k_b k_J k_rJ k_M k_rM k_W k_H k_rH k_1 k_2 k_3 k_4 k_5 w
    · have e : PlainTnum.within A B = false := by cases q : PlainTnum.within A B; rfl; exact absurd (hw.1 q).2 hMA
      rw [e] at k_W
      exact meets_else ⟨v, m⟩ ⟨v', m'⟩ x A B J M H k_a k_b k_J k_rJ k_M k_rM k_W k_H k_rH k_1 k_2 k_3 k_4 k_5 (nv_ne hMA) w
namespace tnumMeets
set_option maxRecDepth 100000 in
theorem lifted (os : Os) (started : os.Started) (H : Type) (enc : TypeId × Value → H) :
    ReturnsInHanded {} Try.checked os 4 .any (Rows.tnumMeetsSpec.pre6 enc Try.prog Try.f4 Rows.tnumMeetsRow.domain false) (Rows.tnumMeetsSpec.post enc Try.prog Try.f4 false true false false) := by
  refine returnsInHanded_of_change (C := Try.checked) own started (by kernel_rfl) Try.func4
    (ChangeSpec.witness6 (enc := enc) (C := Try.checked) false ⟨#[], #[.agg #[.int .u64 0, .int .u64 0], .agg #[.int .u64 0, .int .u64 0], .int .u64 0], []⟩ 8 (by kernel_rfl) (by kernel_rfl) (by kernel_rfl) (by kernel_rfl)) ?_
  intro W base args ds gs before hval0 hW hcnd _
  have hval : ∀ (j : Nat) t v, Try.f4.params[j]? = some t → args[j]? = some v → Value.okWide Try.prog W .any base t v := hval0
  have hW' := hW
  obtain ⟨p, q, hA0, hV, rfl, hfz, hnd⟩ := hW
  have hA : DataW.TrodAll enc Try.prog W 0 (fun _ => true) true Try.f4.params.toList args.toList ds p := hA0
  rw [Try.params4] at hA hval
  obtain ⟨v0, vs0, d0, ds0, p0, q0, hargs, rfl, rfl, h0, r0⟩ := trodAll_cons hA
  obtain ⟨v1, vs1, d1, ds1, p1, q1, rfl, rfl, rfl, h1, r1⟩ := trodAll_cons r0
  obtain ⟨v2, vs2, d2, ds2, p2, q2, rfl, rfl, rfl, h2, r2⟩ := trodAll_cons r1
  obtain ⟨rfl, rfl, rfl⟩ := trodAll_nil r2
  obtain rfl : args = #[v0, v1, v2] := by cases args; simp_all
  obtain ⟨rfl, rfl⟩ := trodVars_none hV
  have lt0 : ∀ x ∈ p0, x.block < W.heap.size := by obtain ⟨m, hm⟩ := h0; exact DataW.trod_lt m _ _ _ hm
  obtain ⟨x0, y0, rfl⟩ := open_uu Try.underlying22 (by rw [Try.underlying24]) (by kernel_rfl) (by kernel_rfl) (hval 0 24 v0 rfl rfl)
  have lt1 : ∀ x ∈ p1, x.block < W.heap.size := by obtain ⟨m, hm⟩ := h1; exact DataW.trod_lt m _ _ _ hm
  obtain ⟨x1, y1, rfl⟩ := open_uu Try.underlying22 (by rw [Try.underlying24]) (by kernel_rfl) (by kernel_rfl) (hval 1 24 v1 rfl rfl)
  have lt2 : ∀ x ∈ p2, x.block < W.heap.size := by obtain ⟨m, hm⟩ := h2; exact DataW.trod_lt m _ _ _ hm
  obtain ⟨x2, rfl⟩ := open_u64 Try.underlying22 (hval 2 22 v2 rfl rfl)
  refine (walkN_TnumMeets x0 y0 x1 y1 x2 W).mono fun e W' ⟨he, bel⟩ => ?_
  subst he
  exact ⟨_, rfl, _, _, _, [], _, [], hW', trodAll_mk1 (shut_bool Try.underlying4 _), (trodAll_cons_mk (Below.trod laidOut (by kernel_rfl) (of_decide_eq_true (by kernel_rfl)) h0 bel lt0) (trodAll_cons_mk (Below.trod laidOut (by kernel_rfl) (of_decide_eq_true (by kernel_rfl)) h1 bel lt1) (trodAll_cons_mk (Below.trod laidOut (by kernel_rfl) (of_decide_eq_true (by kernel_rfl)) h2 bel lt2) trodAll_mk0))), rfl, bel.frame _, fun h => by cases h⟩
theorem over : Rows.tnumMeetsRow.holds Try.pinned (OpenSpec.ofChange Rows.tnumMeetsSpec) :=
  OpenClaim.holds_of_wide 4 Try.f4 rfl rfl rfl rfl rfl rfl rfl ⟨rfl, rfl, rfl, rfl, rfl⟩ rfl rfl rfl rfl rfl (by kernel_rfl) Try.func4 (by kernel_rfl)
    (of_decide_eq_true (by kernel_rfl)) (by unfold Func.isWrapper; first | (rw [if_pos (by decide +kernel)]; kernel_rfl) | (rw [if_neg (by decide +kernel)]; exact ⟨rfl, rfl⟩))
    (fun os started H enc _ => lifted os started H enc)
/-- The given statement. -/
theorem proved : Rows.TnumMeetsSaid := over
#print axioms proved
end tnumMeets
end Go.Proofs.Ytmghpoagpiljhaa
