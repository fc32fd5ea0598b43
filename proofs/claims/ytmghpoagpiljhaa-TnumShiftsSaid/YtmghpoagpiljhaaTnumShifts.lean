/- TnumShifts: for every num, every shift and every number of bytes the law returns true, and its arguments read as before. No condition. -/
import Derived.Test.YtmghpoagpiljhaaOpen
import Derived.Test.YtmghpoagpiljhaaShift13
set_option linter.unusedSimpArgs false
namespace Go.Proofs.Ytmghpoagpiljhaa
open Go.ChangeShapes Go.WideShapes Go.ChangeAt Go.RowKit
open PlainTnum (N)
set_option linter.unusedVariables false
set_option maxRecDepth 100000 in
set_option maxHeartbeats 3200000 in
theorem walk_TnumShifts_1 (a : N) (by_ : Int)  (w : World) : Calls Try.prog 3 #[nv a, .int .i64 by_, .int .i64 1] w fun e w' => e = .returned (.bool true) ∧ Below w.heap.size w w' := by
  obtain ⟨n, hn, hby⟩ := by_is by_
  have ht : 8 ≤ 64 := by omega
  have hl : PlainTnum.lowN 1 = 8 := by decide
  have hR := PlainTnum.R_right a
  obtain ⟨A, e_A⟩ : ∃ z' : N, z' = PlainTnum.right a := ⟨_, rfl⟩
  have k_A : ∀ w : World, Calls Try.prog 13 #[nv a] w fun e w' => e = .returned (nv A) ∧ Below w.heap.size w w' := fun w => by rw [e_A]; exact rightl_c a w
  rw [← e_A] at hR; clear e_A
  have w64n : IntKind.i64.wrap ((n : Int) + 64) = (n : Int) + 64 := IntWalk.i64_in _ (by omega)
  have k_L := leftn_c A n hn; have k_D := downn_c A n hn; have k_W := low_c A 1
  have k_L2 := left_c A ((n : Int) + 64); rw [show byN ((n : Int) + 64) = n by unfold byN; omega] at k_L2
  have k_sL := shift_c A n hn true; have k_sD := shift_c A n hn false; have k_sW : ∀ w : World, Calls Try.prog 21 #[nv A, .int .i64 8] w fun e w' => e = .returned (nv (PlainTnum.low A 1)) ∧ Below w.heap.size w w' := fun w => by have h := rlow_c A 8 ht w; rw [show PlainTnum.build (PlainTnum.bitsOf A) 8 = PlainTnum.low A 1 by rw [PlainTnum.low_eq hR, hl]] at h; exact h
  rw [← PlainTnum.left_eq hR n hn] at k_sL; rw [← PlainTnum.down_eq hR n hn] at k_sD
  generalize PlainTnum.left A n = X1 at *; generalize PlainTnum.down A n = X2 at *; generalize PlainTnum.low A 1 = X3 at *
  clear hl hR
  go_enter Try.func3, Try.ntmps3
  go_wp2_with fail
  obtain ⟨ga, hga⟩ : ∃ g, g = w.heap.size := ⟨_, rfl⟩
  have Ba : Blk (w.alloc (.cells #[uv a.v, uv a.m] 24)) (w.heap.size) 24 #[uv a.v, uv a.m] := (Blk.new w 24 #[uv a.v, uv a.m])
  have hB : Below w.heap.size w (w.alloc (.cells #[uv a.v, uv a.m] 24)) := (Bl_alloc (Bl_refl w) _)
  clear hga
  clear ga
  generalize (w.alloc (.cells #[uv a.v, uv a.m] 24)) = w1 at *
  obtain ⟨ca0, ca1⟩ := cells2 Ba
  have fa := Ba.frozen; have la := Ba.lt
  go_wp2_with fail
  refine (k_A _).mono ?_
  rintro e w2 ⟨rfl, hb⟩
  clear ca0 ca1 fa la
  replace Ba := (Ba).next hb
  replace hB : Below w.heap.size w w2 := by repeat (first | exact hB | (refine Bl_set ?_ (by first | omega | (simp; omega)) _) | apply Bl_alloc | (refine Bl_trans ?_ hb))
  clear hb
  obtain ⟨ca0, ca1⟩ := cells2 Ba
  have fa := Ba.frozen; have la := Ba.lt
  go_upto_region 2 with fail
  clear ca0 ca1 fa la
  replace Ba : Blk ((w2.setCell ⟨w.heap.size, 0, none⟩ (uv A.v)).setCell ⟨w.heap.size, 1, none⟩ (uv A.m)) (w.heap.size) 24 #[uv A.v, uv A.m] := ((Ba.set_ 0 _).set_ 1 _)
  replace hB : Below w.heap.size w ((w2.setCell ⟨w.heap.size, 0, none⟩ (uv A.v)).setCell ⟨w.heap.size, 1, none⟩ (uv A.m)) := (Bl_set (Bl_set hB (by first | omega | (simp; done) | (simp; omega)) _) (by first | omega | (simp; done) | (simp; omega)) _)
  generalize ((w2.setCell ⟨w.heap.size, 0, none⟩ (uv A.v)).setCell ⟨w.heap.size, 1, none⟩ (uv A.m)) = w3 at *
  obtain ⟨ca0, ca1⟩ := cells2 Ba
  have fa := Ba.frozen; have la := Ba.lt
  go_wp2_with fail
  refine (to_c A _).mono ?_
  rintro e w4 ⟨rfl, hb⟩
  clear ca0 ca1 fa la
  replace Ba := (Ba).next hb
  replace hB : Below w.heap.size w w4 := by repeat (first | exact hB | (refine Bl_set ?_ (by first | omega | (simp; omega)) _) | apply Bl_alloc | (refine Bl_trans ?_ hb))
  clear hb
  obtain ⟨ca0, ca1⟩ := cells2 Ba
  have fa := Ba.frozen; have la := Ba.lt
  go_upto_region 7 with fail
  clear ca0 ca1 fa la
  have Bx := Blk.new w4 27 #[uv A.v, uv A.m]
  have hgx := hB.size
  have hnax := Nat.ne_of_lt Ba.lt; have hltax := Ba.lt
  replace Ba : Blk (w4.alloc (.cells #[uv A.v, uv A.m] 27)) (w.heap.size) 24 #[uv A.v, uv A.m] := Ba.alloc _
  replace hB : Below w.heap.size w (w4.alloc (.cells #[uv A.v, uv A.m] 27)) := Bl_alloc hB _
  generalize (w4.alloc (.cells #[uv A.v, uv A.m] 27)) = w5 at *
  generalize w4.heap.size = gx at *
  obtain ⟨ca0, ca1⟩ := cells2 Ba
  have fa := Ba.frozen; have la := Ba.lt
  obtain ⟨cx0, cx1⟩ := cells2 Bx
  have fx := Bx.frozen; have lx := Bx.lt
  go_wp2_with fail
  clear ca0 ca1; obtain ⟨ca0, ca1⟩ := lcells2 Ba
  clear cx0 cx1; obtain ⟨cx0, cx1⟩ := lcells2 Bx
  refine wp_region_mix 41 (fun _ => #[]) (by kernel_rfl) (by kernel_rfl) (no_alloc (by kernel_rfl)) ?_
  simp only [List.take_succ_cons, List.take_zero, List.drop_succ_cons, List.drop_zero]
  repeat (refine wpMix_step (fun K hK => ?_); go_simp; first | (refine hK _ ?_; clear hK K) | (apply Exists.intro; refine ⟨fun g => ?_, hK _ ?_⟩; ((with_reducible refine Calls.mono (knows_c g.w) ?_); exact fun _ _ h => h); clear hK K) | (apply Exists.intro; refine ⟨fun g => ?_, hK _ ?_⟩; ((with_reducible refine Calls.mono (k_L g.w) ?_); exact fun _ _ h => h); clear hK K) | (apply Exists.intro; refine ⟨fun g => ?_, hK _ ?_⟩; ((with_reducible refine Calls.mono (k_D g.w) ?_); exact fun _ _ h => h); clear hK K) | (apply Exists.intro; refine ⟨fun g => ?_, hK _ ?_⟩; ((with_reducible refine Calls.mono (k_W g.w) ?_); exact fun _ _ h => h); clear hK K) | (apply Exists.intro; refine ⟨fun g => ?_, hK _ ?_⟩; ((with_reducible refine Calls.mono (k_L2 g.w) ?_); exact fun _ _ h => h); clear hK K) | (apply Exists.intro; refine ⟨fun g => ?_, hK _ ?_⟩; ((with_reducible refine Calls.mono (k_sL g.w) ?_); exact fun _ _ h => h); clear hK K) | (apply Exists.intro; refine ⟨fun g => ?_, hK _ ?_⟩; ((with_reducible refine Calls.mono (k_sD g.w) ?_); exact fun _ _ h => h); clear hK K) | (apply Exists.intro; refine ⟨fun g => ?_, hK _ ?_⟩; ((with_reducible refine Calls.mono (k_sW g.w) ?_); exact fun _ _ h => h); clear hK K) | (apply Exists.intro; refine ⟨fun g => ?_, hK _ ?_⟩; ((with_reducible refine Calls.mono (from_c X1 g.w) ?_); exact fun _ _ h => h); clear hK K) | (apply Exists.intro; refine ⟨fun g => ?_, hK _ ?_⟩; ((with_reducible refine Calls.mono (from_c X2 g.w) ?_); exact fun _ _ h => h); clear hK K) | (apply Exists.intro; refine ⟨fun g => ?_, hK _ ?_⟩; ((with_reducible refine Calls.mono (from_c X3 g.w) ?_); exact fun _ _ h => h); clear hK K))
  refine wpMix_nil ?_
  intro G w6 hgr hblk hdist
  have hb : Below w5.heap.size w5 w6 := hgr
  replace Ba := Ba.next hb
  replace Bx := Bx.next hb
  clear ca0 ca1 fa la
  clear cx0 cx1 fx lx
  replace hB : Below w.heap.size w w6 := Bl_trans hB hb
  simp only [putAll, isAlloc]
  clear hb hgr hblk hdist
  obtain ⟨ca0, ca1⟩ := cells2 Ba
  have fa := Ba.frozen; have la := Ba.lt
  obtain ⟨cx0, cx1⟩ := cells2 Bx
  have fx := Bx.frozen; have lx := Bx.lt
  go_wp2
  go_ret
  exact ⟨rfl, by repeat (first | exact hB | (refine Bl_set ?_ (by first | omega | (simp; omega)) _) | apply Bl_alloc)⟩
set_option maxRecDepth 100000 in
set_option maxHeartbeats 3200000 in
theorem walk_TnumShifts_2 (a : N) (by_ : Int)  (w : World) : Calls Try.prog 3 #[nv a, .int .i64 by_, .int .i64 2] w fun e w' => e = .returned (.bool true) ∧ Below w.heap.size w w' := by
  obtain ⟨n, hn, hby⟩ := by_is by_
  have ht : 16 ≤ 64 := by omega
  have hl : PlainTnum.lowN 2 = 16 := by decide
  have hR := PlainTnum.R_right a
  obtain ⟨A, e_A⟩ : ∃ z' : N, z' = PlainTnum.right a := ⟨_, rfl⟩
  have k_A : ∀ w : World, Calls Try.prog 13 #[nv a] w fun e w' => e = .returned (nv A) ∧ Below w.heap.size w w' := fun w => by rw [e_A]; exact rightl_c a w
  rw [← e_A] at hR; clear e_A
  have w64n : IntKind.i64.wrap ((n : Int) + 64) = (n : Int) + 64 := IntWalk.i64_in _ (by omega)
  have k_L := leftn_c A n hn; have k_D := downn_c A n hn; have k_W := low_c A 2
  have k_L2 := left_c A ((n : Int) + 64); rw [show byN ((n : Int) + 64) = n by unfold byN; omega] at k_L2
  have k_sL := shift_c A n hn true; have k_sD := shift_c A n hn false; have k_sW : ∀ w : World, Calls Try.prog 21 #[nv A, .int .i64 16] w fun e w' => e = .returned (nv (PlainTnum.low A 2)) ∧ Below w.heap.size w w' := fun w => by have h := rlow_c A 16 ht w; rw [show PlainTnum.build (PlainTnum.bitsOf A) 16 = PlainTnum.low A 2 by rw [PlainTnum.low_eq hR, hl]] at h; exact h
  rw [← PlainTnum.left_eq hR n hn] at k_sL; rw [← PlainTnum.down_eq hR n hn] at k_sD
  generalize PlainTnum.left A n = X1 at *; generalize PlainTnum.down A n = X2 at *; generalize PlainTnum.low A 2 = X3 at *
  clear hl hR
  go_enter Try.func3, Try.ntmps3
  go_wp2_with fail
  obtain ⟨ga, hga⟩ : ∃ g, g = w.heap.size := ⟨_, rfl⟩
  have Ba : Blk (w.alloc (.cells #[uv a.v, uv a.m] 24)) (w.heap.size) 24 #[uv a.v, uv a.m] := (Blk.new w 24 #[uv a.v, uv a.m])
  have hB : Below w.heap.size w (w.alloc (.cells #[uv a.v, uv a.m] 24)) := (Bl_alloc (Bl_refl w) _)
  clear hga
  clear ga
  generalize (w.alloc (.cells #[uv a.v, uv a.m] 24)) = w1 at *
  obtain ⟨ca0, ca1⟩ := cells2 Ba
  have fa := Ba.frozen; have la := Ba.lt
  go_wp2_with fail
  refine (k_A _).mono ?_
  rintro e w2 ⟨rfl, hb⟩
  clear ca0 ca1 fa la
  replace Ba := (Ba).next hb
  replace hB : Below w.heap.size w w2 := by repeat (first | exact hB | (refine Bl_set ?_ (by first | omega | (simp; omega)) _) | apply Bl_alloc | (refine Bl_trans ?_ hb))
  clear hb
  obtain ⟨ca0, ca1⟩ := cells2 Ba
  have fa := Ba.frozen; have la := Ba.lt
  go_upto_region 2 with fail
  clear ca0 ca1 fa la
  replace Ba : Blk ((w2.setCell ⟨w.heap.size, 0, none⟩ (uv A.v)).setCell ⟨w.heap.size, 1, none⟩ (uv A.m)) (w.heap.size) 24 #[uv A.v, uv A.m] := ((Ba.set_ 0 _).set_ 1 _)
  replace hB : Below w.heap.size w ((w2.setCell ⟨w.heap.size, 0, none⟩ (uv A.v)).setCell ⟨w.heap.size, 1, none⟩ (uv A.m)) := (Bl_set (Bl_set hB (by first | omega | (simp; done) | (simp; omega)) _) (by first | omega | (simp; done) | (simp; omega)) _)
  generalize ((w2.setCell ⟨w.heap.size, 0, none⟩ (uv A.v)).setCell ⟨w.heap.size, 1, none⟩ (uv A.m)) = w3 at *
  obtain ⟨ca0, ca1⟩ := cells2 Ba
  have fa := Ba.frozen; have la := Ba.lt
  go_wp2_with fail
  refine (to_c A _).mono ?_
  rintro e w4 ⟨rfl, hb⟩
  clear ca0 ca1 fa la
  replace Ba := (Ba).next hb
  replace hB : Below w.heap.size w w4 := by repeat (first | exact hB | (refine Bl_set ?_ (by first | omega | (simp; omega)) _) | apply Bl_alloc | (refine Bl_trans ?_ hb))
  clear hb
  obtain ⟨ca0, ca1⟩ := cells2 Ba
  have fa := Ba.frozen; have la := Ba.lt
  go_upto_region 7 with fail
  clear ca0 ca1 fa la
  have Bx := Blk.new w4 27 #[uv A.v, uv A.m]
  have hgx := hB.size
  have hnax := Nat.ne_of_lt Ba.lt; have hltax := Ba.lt
  replace Ba : Blk (w4.alloc (.cells #[uv A.v, uv A.m] 27)) (w.heap.size) 24 #[uv A.v, uv A.m] := Ba.alloc _
  replace hB : Below w.heap.size w (w4.alloc (.cells #[uv A.v, uv A.m] 27)) := Bl_alloc hB _
  generalize (w4.alloc (.cells #[uv A.v, uv A.m] 27)) = w5 at *
  generalize w4.heap.size = gx at *
  obtain ⟨ca0, ca1⟩ := cells2 Ba
  have fa := Ba.frozen; have la := Ba.lt
  obtain ⟨cx0, cx1⟩ := cells2 Bx
  have fx := Bx.frozen; have lx := Bx.lt
  go_wp2_with fail
  clear ca0 ca1; obtain ⟨ca0, ca1⟩ := lcells2 Ba
  clear cx0 cx1; obtain ⟨cx0, cx1⟩ := lcells2 Bx
  refine wp_region_mix 41 (fun _ => #[]) (by kernel_rfl) (by kernel_rfl) (no_alloc (by kernel_rfl)) ?_
  simp only [List.take_succ_cons, List.take_zero, List.drop_succ_cons, List.drop_zero]
  repeat (refine wpMix_step (fun K hK => ?_); go_simp; first | (refine hK _ ?_; clear hK K) | (apply Exists.intro; refine ⟨fun g => ?_, hK _ ?_⟩; ((with_reducible refine Calls.mono (knows_c g.w) ?_); exact fun _ _ h => h); clear hK K) | (apply Exists.intro; refine ⟨fun g => ?_, hK _ ?_⟩; ((with_reducible refine Calls.mono (k_L g.w) ?_); exact fun _ _ h => h); clear hK K) | (apply Exists.intro; refine ⟨fun g => ?_, hK _ ?_⟩; ((with_reducible refine Calls.mono (k_D g.w) ?_); exact fun _ _ h => h); clear hK K) | (apply Exists.intro; refine ⟨fun g => ?_, hK _ ?_⟩; ((with_reducible refine Calls.mono (k_W g.w) ?_); exact fun _ _ h => h); clear hK K) | (apply Exists.intro; refine ⟨fun g => ?_, hK _ ?_⟩; ((with_reducible refine Calls.mono (k_L2 g.w) ?_); exact fun _ _ h => h); clear hK K) | (apply Exists.intro; refine ⟨fun g => ?_, hK _ ?_⟩; ((with_reducible refine Calls.mono (k_sL g.w) ?_); exact fun _ _ h => h); clear hK K) | (apply Exists.intro; refine ⟨fun g => ?_, hK _ ?_⟩; ((with_reducible refine Calls.mono (k_sD g.w) ?_); exact fun _ _ h => h); clear hK K) | (apply Exists.intro; refine ⟨fun g => ?_, hK _ ?_⟩; ((with_reducible refine Calls.mono (k_sW g.w) ?_); exact fun _ _ h => h); clear hK K) | (apply Exists.intro; refine ⟨fun g => ?_, hK _ ?_⟩; ((with_reducible refine Calls.mono (from_c X1 g.w) ?_); exact fun _ _ h => h); clear hK K) | (apply Exists.intro; refine ⟨fun g => ?_, hK _ ?_⟩; ((with_reducible refine Calls.mono (from_c X2 g.w) ?_); exact fun _ _ h => h); clear hK K) | (apply Exists.intro; refine ⟨fun g => ?_, hK _ ?_⟩; ((with_reducible refine Calls.mono (from_c X3 g.w) ?_); exact fun _ _ h => h); clear hK K))
  refine wpMix_nil ?_
  intro G w6 hgr hblk hdist
  have hb : Below w5.heap.size w5 w6 := hgr
  replace Ba := Ba.next hb
  replace Bx := Bx.next hb
  clear ca0 ca1 fa la
  clear cx0 cx1 fx lx
  replace hB : Below w.heap.size w w6 := Bl_trans hB hb
  simp only [putAll, isAlloc]
  clear hb hgr hblk hdist
  obtain ⟨ca0, ca1⟩ := cells2 Ba
  have fa := Ba.frozen; have la := Ba.lt
  obtain ⟨cx0, cx1⟩ := cells2 Bx
  have fx := Bx.frozen; have lx := Bx.lt
  go_wp2
  go_ret
  exact ⟨rfl, by repeat (first | exact hB | (refine Bl_set ?_ (by first | omega | (simp; omega)) _) | apply Bl_alloc)⟩
set_option maxRecDepth 100000 in
set_option maxHeartbeats 3200000 in
theorem walk_TnumShifts_4 (a : N) (by_ : Int)  (w : World) : Calls Try.prog 3 #[nv a, .int .i64 by_, .int .i64 4] w fun e w' => e = .returned (.bool true) ∧ Below w.heap.size w w' := by
  obtain ⟨n, hn, hby⟩ := by_is by_
  have ht : 32 ≤ 64 := by omega
  have hl : PlainTnum.lowN 4 = 32 := by decide
  have hR := PlainTnum.R_right a
  obtain ⟨A, e_A⟩ : ∃ z' : N, z' = PlainTnum.right a := ⟨_, rfl⟩
  have k_A : ∀ w : World, Calls Try.prog 13 #[nv a] w fun e w' => e = .returned (nv A) ∧ Below w.heap.size w w' := fun w => by rw [e_A]; exact rightl_c a w
  rw [← e_A] at hR; clear e_A
  have w64n : IntKind.i64.wrap ((n : Int) + 64) = (n : Int) + 64 := IntWalk.i64_in _ (by omega)
  have k_L := leftn_c A n hn; have k_D := downn_c A n hn; have k_W := low_c A 4
  have k_L2 := left_c A ((n : Int) + 64); rw [show byN ((n : Int) + 64) = n by unfold byN; omega] at k_L2
  have k_sL := shift_c A n hn true; have k_sD := shift_c A n hn false; have k_sW : ∀ w : World, Calls Try.prog 21 #[nv A, .int .i64 32] w fun e w' => e = .returned (nv (PlainTnum.low A 4)) ∧ Below w.heap.size w w' := fun w => by have h := rlow_c A 32 ht w; rw [show PlainTnum.build (PlainTnum.bitsOf A) 32 = PlainTnum.low A 4 by rw [PlainTnum.low_eq hR, hl]] at h; exact h
  rw [← PlainTnum.left_eq hR n hn] at k_sL; rw [← PlainTnum.down_eq hR n hn] at k_sD
  generalize PlainTnum.left A n = X1 at *; generalize PlainTnum.down A n = X2 at *; generalize PlainTnum.low A 4 = X3 at *
  clear hl hR
  go_enter Try.func3, Try.ntmps3
  go_wp2_with fail
  obtain ⟨ga, hga⟩ : ∃ g, g = w.heap.size := ⟨_, rfl⟩
  have Ba : Blk (w.alloc (.cells #[uv a.v, uv a.m] 24)) (w.heap.size) 24 #[uv a.v, uv a.m] := (Blk.new w 24 #[uv a.v, uv a.m])
  have hB : Below w.heap.size w (w.alloc (.cells #[uv a.v, uv a.m] 24)) := (Bl_alloc (Bl_refl w) _)
  clear hga
  clear ga
  generalize (w.alloc (.cells #[uv a.v, uv a.m] 24)) = w1 at *
  obtain ⟨ca0, ca1⟩ := cells2 Ba
  have fa := Ba.frozen; have la := Ba.lt
  go_wp2_with fail
  refine (k_A _).mono ?_
  rintro e w2 ⟨rfl, hb⟩
  clear ca0 ca1 fa la
  replace Ba := (Ba).next hb
  replace hB : Below w.heap.size w w2 := by repeat (first | exact hB | (refine Bl_set ?_ (by first | omega | (simp; omega)) _) | apply Bl_alloc | (refine Bl_trans ?_ hb))
  clear hb
  obtain ⟨ca0, ca1⟩ := cells2 Ba
  have fa := Ba.frozen; have la := Ba.lt
  go_upto_region 2 with fail
  clear ca0 ca1 fa la
  replace Ba : Blk ((w2.setCell ⟨w.heap.size, 0, none⟩ (uv A.v)).setCell ⟨w.heap.size, 1, none⟩ (uv A.m)) (w.heap.size) 24 #[uv A.v, uv A.m] := ((Ba.set_ 0 _).set_ 1 _)
  replace hB : Below w.heap.size w ((w2.setCell ⟨w.heap.size, 0, none⟩ (uv A.v)).setCell ⟨w.heap.size, 1, none⟩ (uv A.m)) := (Bl_set (Bl_set hB (by first | omega | (simp; done) | (simp; omega)) _) (by first | omega | (simp; done) | (simp; omega)) _)
  generalize ((w2.setCell ⟨w.heap.size, 0, none⟩ (uv A.v)).setCell ⟨w.heap.size, 1, none⟩ (uv A.m)) = w3 at *
  obtain ⟨ca0, ca1⟩ := cells2 Ba
  have fa := Ba.frozen; have la := Ba.lt
  go_wp2_with fail
  refine (to_c A _).mono ?_
  rintro e w4 ⟨rfl, hb⟩
  clear ca0 ca1 fa la
  replace Ba := (Ba).next hb
  replace hB : Below w.heap.size w w4 := by repeat (first | exact hB | (refine Bl_set ?_ (by first | omega | (simp; omega)) _) | apply Bl_alloc | (refine Bl_trans ?_ hb))
  clear hb
  obtain ⟨ca0, ca1⟩ := cells2 Ba
  have fa := Ba.frozen; have la := Ba.lt
  go_upto_region 7 with fail
  clear ca0 ca1 fa la
  have Bx := Blk.new w4 27 #[uv A.v, uv A.m]
  have hgx := hB.size
  have hnax := Nat.ne_of_lt Ba.lt; have hltax := Ba.lt
  replace Ba : Blk (w4.alloc (.cells #[uv A.v, uv A.m] 27)) (w.heap.size) 24 #[uv A.v, uv A.m] := Ba.alloc _
  replace hB : Below w.heap.size w (w4.alloc (.cells #[uv A.v, uv A.m] 27)) := Bl_alloc hB _
  generalize (w4.alloc (.cells #[uv A.v, uv A.m] 27)) = w5 at *
  generalize w4.heap.size = gx at *
  obtain ⟨ca0, ca1⟩ := cells2 Ba
  have fa := Ba.frozen; have la := Ba.lt
  obtain ⟨cx0, cx1⟩ := cells2 Bx
  have fx := Bx.frozen; have lx := Bx.lt
  go_wp2_with fail
  clear ca0 ca1; obtain ⟨ca0, ca1⟩ := lcells2 Ba
  clear cx0 cx1; obtain ⟨cx0, cx1⟩ := lcells2 Bx
  refine wp_region_mix 41 (fun _ => #[]) (by kernel_rfl) (by kernel_rfl) (no_alloc (by kernel_rfl)) ?_
  simp only [List.take_succ_cons, List.take_zero, List.drop_succ_cons, List.drop_zero]
  repeat (refine wpMix_step (fun K hK => ?_); go_simp; first | (refine hK _ ?_; clear hK K) | (apply Exists.intro; refine ⟨fun g => ?_, hK _ ?_⟩; ((with_reducible refine Calls.mono (knows_c g.w) ?_); exact fun _ _ h => h); clear hK K) | (apply Exists.intro; refine ⟨fun g => ?_, hK _ ?_⟩; ((with_reducible refine Calls.mono (k_L g.w) ?_); exact fun _ _ h => h); clear hK K) | (apply Exists.intro; refine ⟨fun g => ?_, hK _ ?_⟩; ((with_reducible refine Calls.mono (k_D g.w) ?_); exact fun _ _ h => h); clear hK K) | (apply Exists.intro; refine ⟨fun g => ?_, hK _ ?_⟩; ((with_reducible refine Calls.mono (k_W g.w) ?_); exact fun _ _ h => h); clear hK K) | (apply Exists.intro; refine ⟨fun g => ?_, hK _ ?_⟩; ((with_reducible refine Calls.mono (k_L2 g.w) ?_); exact fun _ _ h => h); clear hK K) | (apply Exists.intro; refine ⟨fun g => ?_, hK _ ?_⟩; ((with_reducible refine Calls.mono (k_sL g.w) ?_); exact fun _ _ h => h); clear hK K) | (apply Exists.intro; refine ⟨fun g => ?_, hK _ ?_⟩; ((with_reducible refine Calls.mono (k_sD g.w) ?_); exact fun _ _ h => h); clear hK K) | (apply Exists.intro; refine ⟨fun g => ?_, hK _ ?_⟩; ((with_reducible refine Calls.mono (k_sW g.w) ?_); exact fun _ _ h => h); clear hK K) | (apply Exists.intro; refine ⟨fun g => ?_, hK _ ?_⟩; ((with_reducible refine Calls.mono (from_c X1 g.w) ?_); exact fun _ _ h => h); clear hK K) | (apply Exists.intro; refine ⟨fun g => ?_, hK _ ?_⟩; ((with_reducible refine Calls.mono (from_c X2 g.w) ?_); exact fun _ _ h => h); clear hK K) | (apply Exists.intro; refine ⟨fun g => ?_, hK _ ?_⟩; ((with_reducible refine Calls.mono (from_c X3 g.w) ?_); exact fun _ _ h => h); clear hK K))
  refine wpMix_nil ?_
  intro G w6 hgr hblk hdist
  have hb : Below w5.heap.size w5 w6 := hgr
  replace Ba := Ba.next hb
  replace Bx := Bx.next hb
  clear ca0 ca1 fa la
  clear cx0 cx1 fx lx
  replace hB : Below w.heap.size w w6 := Bl_trans hB hb
  simp only [putAll, isAlloc]
  clear hb hgr hblk hdist
  obtain ⟨ca0, ca1⟩ := cells2 Ba
  have fa := Ba.frozen; have la := Ba.lt
  obtain ⟨cx0, cx1⟩ := cells2 Bx
  have fx := Bx.frozen; have lx := Bx.lt
  go_wp2
  go_ret
  exact ⟨rfl, by repeat (first | exact hB | (refine Bl_set ?_ (by first | omega | (simp; omega)) _) | apply Bl_alloc)⟩
set_option maxRecDepth 100000 in
set_option maxHeartbeats 3200000 in
theorem walk_TnumShifts_o (a : N) (by_ bytes : Int) (h1 : (bytes == 1) = false) (h2 : (bytes == 2) = false) (h4 : (bytes == 4) = false) (w : World) : Calls Try.prog 3 #[nv a, .int .i64 by_, .int .i64 bytes] w fun e w' => e = .returned (.bool true) ∧ Below w.heap.size w w' := by
  obtain ⟨n, hn, hby⟩ := by_is by_
  have ht : 64 ≤ 64 := by omega
  have hl : PlainTnum.lowN bytes = 64 := by unfold PlainTnum.lowN; simp_all
  have hR := PlainTnum.R_right a
  obtain ⟨A, e_A⟩ : ∃ z' : N, z' = PlainTnum.right a := ⟨_, rfl⟩
  have k_A : ∀ w : World, Calls Try.prog 13 #[nv a] w fun e w' => e = .returned (nv A) ∧ Below w.heap.size w w' := fun w => by rw [e_A]; exact rightl_c a w
  rw [← e_A] at hR; clear e_A
  have w64n : IntKind.i64.wrap ((n : Int) + 64) = (n : Int) + 64 := IntWalk.i64_in _ (by omega)
  have k_L := leftn_c A n hn; have k_D := downn_c A n hn; have k_W := low_c A bytes
  have k_L2 := left_c A ((n : Int) + 64); rw [show byN ((n : Int) + 64) = n by unfold byN; omega] at k_L2
  have k_sL := shift_c A n hn true; have k_sD := shift_c A n hn false; have k_sW : ∀ w : World, Calls Try.prog 21 #[nv A, .int .i64 64] w fun e w' => e = .returned (nv (PlainTnum.low A bytes)) ∧ Below w.heap.size w w' := fun w => by have h := rlow_c A 64 ht w; rw [show PlainTnum.build (PlainTnum.bitsOf A) 64 = PlainTnum.low A bytes by rw [PlainTnum.low_eq hR, hl]] at h; exact h
  rw [← PlainTnum.left_eq hR n hn] at k_sL; rw [← PlainTnum.down_eq hR n hn] at k_sD
  generalize PlainTnum.left A n = X1 at *; generalize PlainTnum.down A n = X2 at *; generalize PlainTnum.low A bytes = X3 at *
  clear hl hR
  go_enter Try.func3, Try.ntmps3
  go_wp2_with fail
  obtain ⟨ga, hga⟩ : ∃ g, g = w.heap.size := ⟨_, rfl⟩
  have Ba : Blk (w.alloc (.cells #[uv a.v, uv a.m] 24)) (w.heap.size) 24 #[uv a.v, uv a.m] := (Blk.new w 24 #[uv a.v, uv a.m])
  have hB : Below w.heap.size w (w.alloc (.cells #[uv a.v, uv a.m] 24)) := (Bl_alloc (Bl_refl w) _)
  clear hga
  clear ga
  generalize (w.alloc (.cells #[uv a.v, uv a.m] 24)) = w1 at *
  obtain ⟨ca0, ca1⟩ := cells2 Ba
  have fa := Ba.frozen; have la := Ba.lt
  go_wp2_with fail
  refine (k_A _).mono ?_
  rintro e w2 ⟨rfl, hb⟩
  clear ca0 ca1 fa la
  replace Ba := (Ba).next hb
  replace hB : Below w.heap.size w w2 := by repeat (first | exact hB | (refine Bl_set ?_ (by first | omega | (simp; omega)) _) | apply Bl_alloc | (refine Bl_trans ?_ hb))
  clear hb
  obtain ⟨ca0, ca1⟩ := cells2 Ba
  have fa := Ba.frozen; have la := Ba.lt
  go_upto_region 2 with fail
  clear ca0 ca1 fa la
  replace Ba : Blk ((w2.setCell ⟨w.heap.size, 0, none⟩ (uv A.v)).setCell ⟨w.heap.size, 1, none⟩ (uv A.m)) (w.heap.size) 24 #[uv A.v, uv A.m] := ((Ba.set_ 0 _).set_ 1 _)
  replace hB : Below w.heap.size w ((w2.setCell ⟨w.heap.size, 0, none⟩ (uv A.v)).setCell ⟨w.heap.size, 1, none⟩ (uv A.m)) := (Bl_set (Bl_set hB (by first | omega | (simp; done) | (simp; omega)) _) (by first | omega | (simp; done) | (simp; omega)) _)
  generalize ((w2.setCell ⟨w.heap.size, 0, none⟩ (uv A.v)).setCell ⟨w.heap.size, 1, none⟩ (uv A.m)) = w3 at *
  obtain ⟨ca0, ca1⟩ := cells2 Ba
  have fa := Ba.frozen; have la := Ba.lt
  go_wp2_with fail
  refine (to_c A _).mono ?_
  rintro e w4 ⟨rfl, hb⟩
  clear ca0 ca1 fa la
  replace Ba := (Ba).next hb
  replace hB : Below w.heap.size w w4 := by repeat (first | exact hB | (refine Bl_set ?_ (by first | omega | (simp; omega)) _) | apply Bl_alloc | (refine Bl_trans ?_ hb))
  clear hb
  obtain ⟨ca0, ca1⟩ := cells2 Ba
  have fa := Ba.frozen; have la := Ba.lt
  go_upto_region 7 with fail
  clear ca0 ca1 fa la
  have Bx := Blk.new w4 27 #[uv A.v, uv A.m]
  have hgx := hB.size
  have hnax := Nat.ne_of_lt Ba.lt; have hltax := Ba.lt
  replace Ba : Blk (w4.alloc (.cells #[uv A.v, uv A.m] 27)) (w.heap.size) 24 #[uv A.v, uv A.m] := Ba.alloc _
  replace hB : Below w.heap.size w (w4.alloc (.cells #[uv A.v, uv A.m] 27)) := Bl_alloc hB _
  generalize (w4.alloc (.cells #[uv A.v, uv A.m] 27)) = w5 at *
  generalize w4.heap.size = gx at *
  obtain ⟨ca0, ca1⟩ := cells2 Ba
  have fa := Ba.frozen; have la := Ba.lt
  obtain ⟨cx0, cx1⟩ := cells2 Bx
  have fx := Bx.frozen; have lx := Bx.lt
  go_wp2_with fail
  clear ca0 ca1; obtain ⟨ca0, ca1⟩ := lcells2 Ba
  clear cx0 cx1; obtain ⟨cx0, cx1⟩ := lcells2 Bx
  refine wp_region_mix 41 (fun _ => #[]) (by kernel_rfl) (by kernel_rfl) (no_alloc (by kernel_rfl)) ?_
  simp only [List.take_succ_cons, List.take_zero, List.drop_succ_cons, List.drop_zero]
  repeat (refine wpMix_step (fun K hK => ?_); go_simp; first | (refine hK _ ?_; clear hK K) | (apply Exists.intro; refine ⟨fun g => ?_, hK _ ?_⟩; ((with_reducible refine Calls.mono (knows_c g.w) ?_); exact fun _ _ h => h); clear hK K) | (apply Exists.intro; refine ⟨fun g => ?_, hK _ ?_⟩; ((with_reducible refine Calls.mono (k_L g.w) ?_); exact fun _ _ h => h); clear hK K) | (apply Exists.intro; refine ⟨fun g => ?_, hK _ ?_⟩; ((with_reducible refine Calls.mono (k_D g.w) ?_); exact fun _ _ h => h); clear hK K) | (apply Exists.intro; refine ⟨fun g => ?_, hK _ ?_⟩; ((with_reducible refine Calls.mono (k_W g.w) ?_); exact fun _ _ h => h); clear hK K) | (apply Exists.intro; refine ⟨fun g => ?_, hK _ ?_⟩; ((with_reducible refine Calls.mono (k_L2 g.w) ?_); exact fun _ _ h => h); clear hK K) | (apply Exists.intro; refine ⟨fun g => ?_, hK _ ?_⟩; ((with_reducible refine Calls.mono (k_sL g.w) ?_); exact fun _ _ h => h); clear hK K) | (apply Exists.intro; refine ⟨fun g => ?_, hK _ ?_⟩; ((with_reducible refine Calls.mono (k_sD g.w) ?_); exact fun _ _ h => h); clear hK K) | (apply Exists.intro; refine ⟨fun g => ?_, hK _ ?_⟩; ((with_reducible refine Calls.mono (k_sW g.w) ?_); exact fun _ _ h => h); clear hK K) | (apply Exists.intro; refine ⟨fun g => ?_, hK _ ?_⟩; ((with_reducible refine Calls.mono (from_c X1 g.w) ?_); exact fun _ _ h => h); clear hK K) | (apply Exists.intro; refine ⟨fun g => ?_, hK _ ?_⟩; ((with_reducible refine Calls.mono (from_c X2 g.w) ?_); exact fun _ _ h => h); clear hK K) | (apply Exists.intro; refine ⟨fun g => ?_, hK _ ?_⟩; ((with_reducible refine Calls.mono (from_c X3 g.w) ?_); exact fun _ _ h => h); clear hK K))
  refine wpMix_nil ?_
  intro G w6 hgr hblk hdist
  have hb : Below w5.heap.size w5 w6 := hgr
  replace Ba := Ba.next hb
  replace Bx := Bx.next hb
  clear ca0 ca1 fa la
  clear cx0 cx1 fx lx
  replace hB : Below w.heap.size w w6 := Bl_trans hB hb
  simp only [putAll, isAlloc]
  clear hb hgr hblk hdist
  obtain ⟨ca0, ca1⟩ := cells2 Ba
  have fa := Ba.frozen; have la := Ba.lt
  obtain ⟨cx0, cx1⟩ := cells2 Bx
  have fx := Bx.frozen; have lx := Bx.lt
  go_wp2
  go_ret
  exact ⟨rfl, by repeat (first | exact hB | (refine Bl_set ?_ (by first | omega | (simp; omega)) _) | apply Bl_alloc)⟩
theorem walkN_TnumShifts (v m : W) (by_ : Int) (lo : -9223372036854775808 ≤ by_) (hi : by_ ≤ 9223372036854775807) (bytes : Int) (lo2 : -9223372036854775808 ≤ bytes) (hi2 : bytes ≤ 9223372036854775807) (w : World) : Calls Try.prog 3 #[.agg #[.int .u64 (T v), .int .u64 (T m)], .int .i64 by_, .int .i64 bytes] w fun e w' => e = .returned (.bool true) ∧ Below w.heap.size w w' := by
  by_cases h1 : bytes = 1
  · subst h1; exact walk_TnumShifts_1 ⟨v, m⟩ by_ w
  by_cases h2 : bytes = 2
  · subst h2; exact walk_TnumShifts_2 ⟨v, m⟩ by_ w
  by_cases h4 : bytes = 4
  · subst h4; exact walk_TnumShifts_4 ⟨v, m⟩ by_ w
  exact walk_TnumShifts_o ⟨v, m⟩ by_ bytes (by simpa using h1) (by simpa using h2) (by simpa using h4) w
namespace tnumShifts
set_option maxRecDepth 100000 in
theorem lifted (os : Os) (started : os.Started) (H : Type) (enc : TypeId × Value → H) :
    ReturnsInHanded {} Try.checked os 3 .any (Rows.tnumShiftsSpec.pre6 enc Try.prog Try.f3 Rows.tnumShiftsRow.domain false) (Rows.tnumShiftsSpec.post enc Try.prog Try.f3 false true false false) := by
  refine returnsInHanded_of_change (C := Try.checked) own started (by kernel_rfl) Try.func3
    (ChangeSpec.witness6 (enc := enc) (C := Try.checked) false ⟨#[], #[.agg #[.int .u64 0, .int .u64 0], .int .i64 0, .int .i64 0], []⟩ 8 (by kernel_rfl) (by kernel_rfl) (by kernel_rfl) (by kernel_rfl)) ?_
  intro W base args ds gs before hval0 hW hcnd _
  have hval : ∀ (j : Nat) t v, Try.f3.params[j]? = some t → args[j]? = some v → Value.okWide Try.prog W .any base t v := hval0
  have hW' := hW
  obtain ⟨p, q, hA0, hV, rfl, hfz, hnd⟩ := hW
  have hA : DataW.TrodAll enc Try.prog W 0 (fun _ => true) true Try.f3.params.toList args.toList ds p := hA0
  rw [Try.params3] at hA hval
  obtain ⟨v0, vs0, d0, ds0, p0, q0, hargs, rfl, rfl, h0, r0⟩ := trodAll_cons hA
  obtain ⟨v1, vs1, d1, ds1, p1, q1, rfl, rfl, rfl, h1, r1⟩ := trodAll_cons r0
  obtain ⟨v2, vs2, d2, ds2, p2, q2, rfl, rfl, rfl, h2, r2⟩ := trodAll_cons r1
  obtain ⟨rfl, rfl, rfl⟩ := trodAll_nil r2
  obtain rfl : args = #[v0, v1, v2] := by cases args; simp_all
  obtain ⟨rfl, rfl⟩ := trodVars_none hV
  have lt0 : ∀ x ∈ p0, x.block < W.heap.size := by obtain ⟨m, hm⟩ := h0; exact DataW.trod_lt m _ _ _ hm
  obtain ⟨x0, y0, rfl⟩ := open_uu Try.underlying22 (by rw [Try.underlying24]) (by kernel_rfl) (by kernel_rfl) (hval 0 24 v0 rfl rfl)
  have lt1 : ∀ x ∈ p1, x.block < W.heap.size := by obtain ⟨m, hm⟩ := h1; exact DataW.trod_lt m _ _ _ hm
  obtain ⟨x1, rfl, lo1, hi1⟩ := open_i64 Try.underlying3 (hval 1 3 v1 rfl rfl)
  have lt2 : ∀ x ∈ p2, x.block < W.heap.size := by obtain ⟨m, hm⟩ := h2; exact DataW.trod_lt m _ _ _ hm
  obtain ⟨x2, rfl, lo2, hi2⟩ := open_i64 Try.underlying3 (hval 2 3 v2 rfl rfl)
  refine (walkN_TnumShifts x0 y0 x1 lo1 hi1 x2 lo2 hi2 W).mono fun e W' ⟨he, bel⟩ => ?_
  subst he
  exact ⟨_, rfl, _, _, _, [], _, [], hW', trodAll_mk1 (shut_bool Try.underlying4 _), (trodAll_cons_mk (Below.trod laidOut (by kernel_rfl) (of_decide_eq_true (by kernel_rfl)) h0 bel lt0) (trodAll_cons_mk (Below.trod laidOut (by kernel_rfl) (of_decide_eq_true (by kernel_rfl)) h1 bel lt1) (trodAll_cons_mk (Below.trod laidOut (by kernel_rfl) (of_decide_eq_true (by kernel_rfl)) h2 bel lt2) trodAll_mk0))), rfl, bel.frame _, fun h => by cases h⟩
theorem over : Rows.tnumShiftsRow.holds Try.pinned (OpenSpec.ofChange Rows.tnumShiftsSpec) :=
  OpenClaim.holds_of_wide 3 Try.f3 rfl rfl rfl rfl rfl rfl rfl ⟨rfl, rfl, rfl, rfl, rfl⟩ rfl rfl rfl rfl rfl (by kernel_rfl) Try.func3 (by kernel_rfl)
    (of_decide_eq_true (by kernel_rfl)) (by unfold Func.isWrapper; first | (rw [if_pos (by decide +kernel)]; kernel_rfl) | (rw [if_neg (by decide +kernel)]; exact ⟨rfl, rfl⟩))
    (fun os started H enc _ => lifted os started H enc)
/-- The given statement. -/
theorem proved : Rows.TnumShiftsSaid := over
#print axioms proved
end tnumShifts
end Go.Proofs.Ytmghpoagpiljhaa
