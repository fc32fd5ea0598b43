/- The walks of package branch, fifth part: alone, where. -/
import Derived.Test.YtmghpoagpiljhabBr4
set_option linter.unusedSimpArgs false
namespace Go.Proofs.Ytmghpoagpiljhab
open Go.RowKit
open PlainTnum (N)
open PlainScalar (Rng)
theorem rv_ne {a X : Rng} (h : ¬ a = X) (x y : Result Next) : (if T a.b.v = T X.b.v then if T a.b.m = T X.b.m then if T a.lo = T X.lo then if T a.hi = T X.hi then if S a.sl = S X.sl then if S a.sh = S X.sh then x else y else y else y else y else y else y) = y := by
  split
  · rename_i e0
    split
    · rename_i e1
      split
      · rename_i e2
        split
        · rename_i e3
          split
          · rename_i e4
            split
            · rename_i e5
              have hb : a.b = X.b := by
                have h0 := T_inj e0; have h1 := T_inj e1
                cases hA : a.b; cases hX : X.b; rw [hA, hX] at h0 h1; simp at h0 h1; rw [h0, h1]
              exact absurd (PlainScalar.Rng.ext' hb (T_inj e2) (T_inj e3) (S_inj e4) (S_inj e5)) h
            · rfl
          · rfl
        · rfl
      · rfl
    · rfl
  · rfl
set_option maxRecDepth 100000 in
set_option maxHeartbeats 3200000 in
theorem aloneP_c (a b : Rng) (w : World) : Calls Try.prog 72 #[pv2 a b] w fun e w' => e = .returned (.tuple #[uv a.lo, uv b.lo, .bool (PlainBranch.aloneP (a, b))]) ∧ Below w.heap.size w w' := by
  have hs : PlainBranch.aloneP (a, b) = ((a == PlainScalar.const a.lo) && (b == PlainScalar.const b.lo)) := rfl
  obtain ⟨X, e_X⟩ : ∃ z' : Rng, z' = PlainScalar.const a.lo := ⟨_, rfl⟩
  have k_X : ∀ w : World, Calls Try.prog 34 #[uv a.lo] w fun e w' => e = .returned (rv X) ∧ Below w.heap.size w w' := fun w => by rw [e_X]; exact sconst_c a.lo w
  obtain ⟨Y, e_Y⟩ : ∃ z' : Rng, z' = PlainScalar.const b.lo := ⟨_, rfl⟩
  have k_Y : ∀ w : World, Calls Try.prog 34 #[uv b.lo] w fun e w' => e = .returned (rv Y) ∧ Below w.heap.size w w' := fun w => by rw [e_Y]; exact sconst_c b.lo w
  rw [← e_X, ← e_Y] at hs
  clear e_X e_Y
  by_cases h1 : a = X
  · rw [← h1] at k_X hs
    clear h1
    by_cases h2 : b = Y
    · rw [← h2] at k_Y hs
      clear h2
      simp at hs
      go_enter Try.func72, Try.ntmps72
      go_wp2_with fail
      obtain ⟨gp, hgp⟩ : ∃ g, g = w.heap.size := ⟨_, rfl⟩
      have Bp : Blk (w.alloc (.cells #[uv a.b.v, uv a.b.m, uv a.lo, uv a.hi, sv a.sl, sv a.sh, uv b.b.v, uv b.b.m, uv b.lo, uv b.hi, sv b.sl, sv b.sh] 118)) (w.heap.size) 118 #[uv a.b.v, uv a.b.m, uv a.lo, uv a.hi, sv a.sl, sv a.sh, uv b.b.v, uv b.b.m, uv b.lo, uv b.hi, sv b.sl, sv b.sh] := (Blk.new w 118 #[uv a.b.v, uv a.b.m, uv a.lo, uv a.hi, sv a.sl, sv a.sh, uv b.b.v, uv b.b.m, uv b.lo, uv b.hi, sv b.sl, sv b.sh])
      have hB : Below w.heap.size w (w.alloc (.cells #[uv a.b.v, uv a.b.m, uv a.lo, uv a.hi, sv a.sl, sv a.sh, uv b.b.v, uv b.b.m, uv b.lo, uv b.hi, sv b.sl, sv b.sh] 118)) := (Bl_alloc (Bl_refl w) _)
      clear hgp
      clear gp
      generalize (w.alloc (.cells #[uv a.b.v, uv a.b.m, uv a.lo, uv a.hi, sv a.sl, sv a.sh, uv b.b.v, uv b.b.m, uv b.lo, uv b.hi, sv b.sl, sv b.sh] 118)) = w1 at *
      obtain ⟨cp0, cp1, cp2, cp3, cp4, cp5, cp6, cp7, cp8, cp9, cp10, cp11⟩ := cells12 Bp
      have fp := Bp.frozen; have lp := Bp.lt
      go_wp2_with fail
      clear cp0 cp1 cp2 cp3 cp4 cp5 cp6 cp7 cp8 cp9 cp10 cp11; obtain ⟨cp0, cp1, cp2, cp3, cp4, cp5, cp6, cp7, cp8, cp9, cp10, cp11⟩ := lcells12 Bp
      refine wp_region_mix 8 (fun _ => #[]) (by kernel_rfl) (by kernel_rfl) (no_alloc (by kernel_rfl)) ?_
      simp only [List.take_succ_cons, List.take_zero, List.drop_succ_cons, List.drop_zero]
      repeat (refine wpMix_step (fun K hK => ?_); go_simp; first | (refine hK _ ?_; clear hK K))
      refine wpMix_nil ?_
      intro G w2 hgr hblk hdist
      have hb : Below w1.heap.size w1 w2 := hgr
      replace Bp := Bp.next hb
      clear cp0 cp1 cp2 cp3 cp4 cp5 cp6 cp7 cp8 cp9 cp10 cp11 fp lp
      replace hB : Below w.heap.size w w2 := Bl_trans hB hb
      simp only [putAll, isAlloc]
      clear hb hgr hblk hdist
      obtain ⟨cp0, cp1, cp2, cp3, cp4, cp5, cp6, cp7, cp8, cp9, cp10, cp11⟩ := cells12 Bp
      have fp := Bp.frozen; have lp := Bp.lt
      go_wp2_with fail
      clear cp0 cp1 cp2 cp3 cp4 cp5 cp6 cp7 cp8 cp9 cp10 cp11; obtain ⟨cp0, cp1, cp2, cp3, cp4, cp5, cp6, cp7, cp8, cp9, cp10, cp11⟩ := lcells12 Bp
      refine wp_region_mix 17 (fun _ => #[]) (by kernel_rfl) (by kernel_rfl) (no_alloc (by kernel_rfl)) ?_
      simp only [List.take_succ_cons, List.take_zero, List.drop_succ_cons, List.drop_zero]
      repeat (refine wpMix_step (fun K hK => ?_); go_simp; first | (refine hK _ ?_; clear hK K) | (apply Exists.intro; refine ⟨fun g => ?_, hK _ ?_⟩; ((with_reducible refine Calls.mono (k_X g.w) ?_); exact fun _ _ h => h); clear hK K) | (apply Exists.intro; refine ⟨fun g => ?_, hK _ ?_⟩; ((with_reducible refine Calls.mono (k_Y g.w) ?_); exact fun _ _ h => h); clear hK K))
      refine wpMix_nil ?_
      intro G w3 hgr hblk hdist
      have hb : Below w2.heap.size w2 w3 := hgr
      replace Bp := Bp.next hb
      clear cp0 cp1 cp2 cp3 cp4 cp5 cp6 cp7 cp8 cp9 cp10 cp11 fp lp
      replace hB : Below w.heap.size w w3 := Bl_trans hB hb
      simp only [putAll, isAlloc]
      clear hb hgr hblk hdist
      obtain ⟨cp0, cp1, cp2, cp3, cp4, cp5, cp6, cp7, cp8, cp9, cp10, cp11⟩ := cells12 Bp
      have fp := Bp.frozen; have lp := Bp.lt
      go_wp2
      exact bodyPost_ret (v := .tuple #[uv a.lo, uv b.lo, .bool (PlainBranch.aloneP (a, b))]) (by simp [results, Try.results72, go_sem, hs]) rfl ⟨rfl, by repeat (first | (with_reducible exact hB) | with_reducible apply Bl_alloc)⟩
    · have hne := rv_ne h2
      have hb0 : (b == Y) = false := by simpa using h2
      clear h2
      simp only [hb0, Bool.and_false] at hs
      go_enter Try.func72, Try.ntmps72
      go_wp2_with fail
      obtain ⟨gp, hgp⟩ : ∃ g, g = w.heap.size := ⟨_, rfl⟩
      have Bp : Blk (w.alloc (.cells #[uv a.b.v, uv a.b.m, uv a.lo, uv a.hi, sv a.sl, sv a.sh, uv b.b.v, uv b.b.m, uv b.lo, uv b.hi, sv b.sl, sv b.sh] 118)) (w.heap.size) 118 #[uv a.b.v, uv a.b.m, uv a.lo, uv a.hi, sv a.sl, sv a.sh, uv b.b.v, uv b.b.m, uv b.lo, uv b.hi, sv b.sl, sv b.sh] := (Blk.new w 118 #[uv a.b.v, uv a.b.m, uv a.lo, uv a.hi, sv a.sl, sv a.sh, uv b.b.v, uv b.b.m, uv b.lo, uv b.hi, sv b.sl, sv b.sh])
      have hB : Below w.heap.size w (w.alloc (.cells #[uv a.b.v, uv a.b.m, uv a.lo, uv a.hi, sv a.sl, sv a.sh, uv b.b.v, uv b.b.m, uv b.lo, uv b.hi, sv b.sl, sv b.sh] 118)) := (Bl_alloc (Bl_refl w) _)
      clear hgp
      clear gp
      generalize (w.alloc (.cells #[uv a.b.v, uv a.b.m, uv a.lo, uv a.hi, sv a.sl, sv a.sh, uv b.b.v, uv b.b.m, uv b.lo, uv b.hi, sv b.sl, sv b.sh] 118)) = w1 at *
      obtain ⟨cp0, cp1, cp2, cp3, cp4, cp5, cp6, cp7, cp8, cp9, cp10, cp11⟩ := cells12 Bp
      have fp := Bp.frozen; have lp := Bp.lt
      go_wp2_with fail
      clear cp0 cp1 cp2 cp3 cp4 cp5 cp6 cp7 cp8 cp9 cp10 cp11; obtain ⟨cp0, cp1, cp2, cp3, cp4, cp5, cp6, cp7, cp8, cp9, cp10, cp11⟩ := lcells12 Bp
      refine wp_region_mix 8 (fun _ => #[]) (by kernel_rfl) (by kernel_rfl) (no_alloc (by kernel_rfl)) ?_
      simp only [List.take_succ_cons, List.take_zero, List.drop_succ_cons, List.drop_zero]
      repeat (refine wpMix_step (fun K hK => ?_); go_simp; first | (refine hK _ ?_; clear hK K))
      refine wpMix_nil ?_
      intro G w2 hgr hblk hdist
      have hb : Below w1.heap.size w1 w2 := hgr
      replace Bp := Bp.next hb
      clear cp0 cp1 cp2 cp3 cp4 cp5 cp6 cp7 cp8 cp9 cp10 cp11 fp lp
      replace hB : Below w.heap.size w w2 := Bl_trans hB hb
      simp only [putAll, isAlloc]
      clear hb hgr hblk hdist
      obtain ⟨cp0, cp1, cp2, cp3, cp4, cp5, cp6, cp7, cp8, cp9, cp10, cp11⟩ := cells12 Bp
      have fp := Bp.frozen; have lp := Bp.lt
      go_wp2_with fail
      clear cp0 cp1 cp2 cp3 cp4 cp5 cp6 cp7 cp8 cp9 cp10 cp11; obtain ⟨cp0, cp1, cp2, cp3, cp4, cp5, cp6, cp7, cp8, cp9, cp10, cp11⟩ := lcells12 Bp
      refine wp_region_mix 17 (fun _ => #[]) (by kernel_rfl) (by kernel_rfl) (no_alloc (by kernel_rfl)) ?_
      simp only [List.take_succ_cons, List.take_zero, List.drop_succ_cons, List.drop_zero]
      repeat (refine wpMix_step (fun K hK => ?_); go_simp; first | (refine hK _ ?_; clear hK K) | (apply Exists.intro; refine ⟨fun g => ?_, hK _ ?_⟩; ((with_reducible refine Calls.mono (k_X g.w) ?_); exact fun _ _ h => h); clear hK K) | (apply Exists.intro; refine ⟨fun g => ?_, hK _ ?_⟩; ((with_reducible refine Calls.mono (k_Y g.w) ?_); exact fun _ _ h => h); clear hK K))
      refine wpMix_nil ?_
      intro G w3 hgr hblk hdist
      have hb : Below w2.heap.size w2 w3 := hgr
      replace Bp := Bp.next hb
      clear cp0 cp1 cp2 cp3 cp4 cp5 cp6 cp7 cp8 cp9 cp10 cp11 fp lp
      replace hB : Below w.heap.size w w3 := Bl_trans hB hb
      simp only [putAll, isAlloc]
      clear hb hgr hblk hdist
      obtain ⟨cp0, cp1, cp2, cp3, cp4, cp5, cp6, cp7, cp8, cp9, cp10, cp11⟩ := cells12 Bp
      have fp := Bp.frozen; have lp := Bp.lt
      go_wp2
      exact bodyPost_ret (v := .tuple #[uv a.lo, uv b.lo, .bool (PlainBranch.aloneP (a, b))]) (by simp [results, Try.results72, go_sem, hs]) rfl ⟨rfl, by repeat (first | (with_reducible exact hB) | with_reducible apply Bl_alloc)⟩
  · have hne := rv_ne h1
    have ha0 : (a == X) = false := by simpa using h1
    clear h1
    simp only [ha0, Bool.false_and] at hs
    go_enter Try.func72, Try.ntmps72
    go_wp2_with fail
    obtain ⟨gp, hgp⟩ : ∃ g, g = w.heap.size := ⟨_, rfl⟩
    have Bp : Blk (w.alloc (.cells #[uv a.b.v, uv a.b.m, uv a.lo, uv a.hi, sv a.sl, sv a.sh, uv b.b.v, uv b.b.m, uv b.lo, uv b.hi, sv b.sl, sv b.sh] 118)) (w.heap.size) 118 #[uv a.b.v, uv a.b.m, uv a.lo, uv a.hi, sv a.sl, sv a.sh, uv b.b.v, uv b.b.m, uv b.lo, uv b.hi, sv b.sl, sv b.sh] := (Blk.new w 118 #[uv a.b.v, uv a.b.m, uv a.lo, uv a.hi, sv a.sl, sv a.sh, uv b.b.v, uv b.b.m, uv b.lo, uv b.hi, sv b.sl, sv b.sh])
    have hB : Below w.heap.size w (w.alloc (.cells #[uv a.b.v, uv a.b.m, uv a.lo, uv a.hi, sv a.sl, sv a.sh, uv b.b.v, uv b.b.m, uv b.lo, uv b.hi, sv b.sl, sv b.sh] 118)) := (Bl_alloc (Bl_refl w) _)
    clear hgp
    clear gp
    generalize (w.alloc (.cells #[uv a.b.v, uv a.b.m, uv a.lo, uv a.hi, sv a.sl, sv a.sh, uv b.b.v, uv b.b.m, uv b.lo, uv b.hi, sv b.sl, sv b.sh] 118)) = w1 at *
    obtain ⟨cp0, cp1, cp2, cp3, cp4, cp5, cp6, cp7, cp8, cp9, cp10, cp11⟩ := cells12 Bp
    have fp := Bp.frozen; have lp := Bp.lt
    go_wp2_with fail
    clear cp0 cp1 cp2 cp3 cp4 cp5 cp6 cp7 cp8 cp9 cp10 cp11; obtain ⟨cp0, cp1, cp2, cp3, cp4, cp5, cp6, cp7, cp8, cp9, cp10, cp11⟩ := lcells12 Bp
    refine wp_region_mix 8 (fun _ => #[]) (by kernel_rfl) (by kernel_rfl) (no_alloc (by kernel_rfl)) ?_
    simp only [List.take_succ_cons, List.take_zero, List.drop_succ_cons, List.drop_zero]
    repeat (refine wpMix_step (fun K hK => ?_); go_simp; first | (refine hK _ ?_; clear hK K))
    refine wpMix_nil ?_
    intro G w2 hgr hblk hdist
    have hb : Below w1.heap.size w1 w2 := hgr
    replace Bp := Bp.next hb
    clear cp0 cp1 cp2 cp3 cp4 cp5 cp6 cp7 cp8 cp9 cp10 cp11 fp lp
    replace hB : Below w.heap.size w w2 := Bl_trans hB hb
    simp only [putAll, isAlloc]
    clear hb hgr hblk hdist
    obtain ⟨cp0, cp1, cp2, cp3, cp4, cp5, cp6, cp7, cp8, cp9, cp10, cp11⟩ := cells12 Bp
    have fp := Bp.frozen; have lp := Bp.lt
    go_wp2_with fail
    clear cp0 cp1 cp2 cp3 cp4 cp5 cp6 cp7 cp8 cp9 cp10 cp11; obtain ⟨cp0, cp1, cp2, cp3, cp4, cp5, cp6, cp7, cp8, cp9, cp10, cp11⟩ := lcells12 Bp
    refine wp_region_mix 17 (fun _ => #[]) (by kernel_rfl) (by kernel_rfl) (no_alloc (by kernel_rfl)) ?_
    simp only [List.take_succ_cons, List.take_zero, List.drop_succ_cons, List.drop_zero]
    repeat (refine wpMix_step (fun K hK => ?_); go_simp; first | (refine hK _ ?_; clear hK K) | (apply Exists.intro; refine ⟨fun g => ?_, hK _ ?_⟩; ((with_reducible refine Calls.mono (k_X g.w) ?_); exact fun _ _ h => h); clear hK K) | (apply Exists.intro; refine ⟨fun g => ?_, hK _ ?_⟩; ((with_reducible refine Calls.mono (k_Y g.w) ?_); exact fun _ _ h => h); clear hK K))
    refine wpMix_nil ?_
    intro G w3 hgr hblk hdist
    have hb : Below w2.heap.size w2 w3 := hgr
    replace Bp := Bp.next hb
    clear cp0 cp1 cp2 cp3 cp4 cp5 cp6 cp7 cp8 cp9 cp10 cp11 fp lp
    replace hB : Below w.heap.size w w3 := Bl_trans hB hb
    simp only [putAll, isAlloc]
    clear hb hgr hblk hdist
    obtain ⟨cp0, cp1, cp2, cp3, cp4, cp5, cp6, cp7, cp8, cp9, cp10, cp11⟩ := cells12 Bp
    have fp := Bp.frozen; have lp := Bp.lt
    go_wp2
    exact bodyPost_ret (v := .tuple #[uv a.lo, uv b.lo, .bool (PlainBranch.aloneP (a, b))]) (by simp [results, Try.results72, go_sem, hs]) rfl ⟨rfl, by repeat (first | (with_reducible exact hB) | with_reducible apply Bl_alloc)⟩
set_option maxRecDepth 100000 in
set_option maxHeartbeats 3200000 in
theorem whe_1 (a b : Rng) (w : World) : Calls Try.prog 76 #[.int .i64 1, pv2 a b] w fun e w' => e = .returned (tv (PlainBranch.whereF 1 (a, b))) ∧ Below w.heap.size w w' := by
  obtain ⟨R, e_R⟩ : ∃ z' : PlainBranch.Pair × Bool, z' = PlainBranch.same (a, b) := ⟨_, rfl⟩
  have k_R : ∀ w : World, Calls Try.prog 79 #[pv2 a b] w fun e w' => e = .returned (tv R) ∧ Below w.heap.size w w' := fun w => by rw [e_R]; exact same_c a b w
  have hs : PlainBranch.whereF 1 (a, b) = R := by rw [e_R]; unfold PlainBranch.whereF; simp
  clear e_R
  go_enter Try.func76, Try.ntmps76
  go_wp2_with fail
  obtain ⟨gp, hgp⟩ : ∃ g, g = w.heap.size := ⟨_, rfl⟩
  obtain ⟨gr, hgr⟩ : ∃ g, g = w.heap.size + 1 := ⟨_, rfl⟩
  have Bp : Blk ((w.alloc (.cells #[uv a.b.v, uv a.b.m, uv a.lo, uv a.hi, sv a.sl, sv a.sh, uv b.b.v, uv b.b.m, uv b.lo, uv b.hi, sv b.sl, sv b.sh] 118)).alloc (.cells #[.int .u64 0, .int .u64 0, .int .u64 0, .int .u64 0, .int .i64 0, .int .i64 0, .int .u64 0, .int .u64 0, .int .u64 0, .int .u64 0, .int .i64 0, .int .i64 0] 118)) (w.heap.size) 118 #[uv a.b.v, uv a.b.m, uv a.lo, uv a.hi, sv a.sl, sv a.sh, uv b.b.v, uv b.b.m, uv b.lo, uv b.hi, sv b.sl, sv b.sh] := ((Blk.new w 118 #[uv a.b.v, uv a.b.m, uv a.lo, uv a.hi, sv a.sl, sv a.sh, uv b.b.v, uv b.b.m, uv b.lo, uv b.hi, sv b.sl, sv b.sh])).alloc _
  have Br : Blk ((w.alloc (.cells #[uv a.b.v, uv a.b.m, uv a.lo, uv a.hi, sv a.sl, sv a.sh, uv b.b.v, uv b.b.m, uv b.lo, uv b.hi, sv b.sl, sv b.sh] 118)).alloc (.cells #[.int .u64 0, .int .u64 0, .int .u64 0, .int .u64 0, .int .i64 0, .int .i64 0, .int .u64 0, .int .u64 0, .int .u64 0, .int .u64 0, .int .i64 0, .int .i64 0] 118)) (w.heap.size + 1) 118 #[.int .u64 0, .int .u64 0, .int .u64 0, .int .u64 0, .int .i64 0, .int .i64 0, .int .u64 0, .int .u64 0, .int .u64 0, .int .u64 0, .int .i64 0, .int .i64 0] := (by simpa using Blk.new (w.alloc (.cells #[uv a.b.v, uv a.b.m, uv a.lo, uv a.hi, sv a.sl, sv a.sh, uv b.b.v, uv b.b.m, uv b.lo, uv b.hi, sv b.sl, sv b.sh] 118)) 118 #[.int .u64 0, .int .u64 0, .int .u64 0, .int .u64 0, .int .i64 0, .int .i64 0, .int .u64 0, .int .u64 0, .int .u64 0, .int .u64 0, .int .i64 0, .int .i64 0] : Blk _ (w.heap.size + 1) 118 #[.int .u64 0, .int .u64 0, .int .u64 0, .int .u64 0, .int .i64 0, .int .i64 0, .int .u64 0, .int .u64 0, .int .u64 0, .int .u64 0, .int .i64 0, .int .i64 0])
  have hB : Below w.heap.size w ((w.alloc (.cells #[uv a.b.v, uv a.b.m, uv a.lo, uv a.hi, sv a.sl, sv a.sh, uv b.b.v, uv b.b.m, uv b.lo, uv b.hi, sv b.sl, sv b.sh] 118)).alloc (.cells #[.int .u64 0, .int .u64 0, .int .u64 0, .int .u64 0, .int .i64 0, .int .i64 0, .int .u64 0, .int .u64 0, .int .u64 0, .int .u64 0, .int .i64 0, .int .i64 0] 118)) := (Bl_alloc (Bl_alloc (Bl_refl w) _) _)
  clear hgp
  clear gp
  clear hgr
  clear gr
  generalize ((w.alloc (.cells #[uv a.b.v, uv a.b.m, uv a.lo, uv a.hi, sv a.sl, sv a.sh, uv b.b.v, uv b.b.m, uv b.lo, uv b.hi, sv b.sl, sv b.sh] 118)).alloc (.cells #[.int .u64 0, .int .u64 0, .int .u64 0, .int .u64 0, .int .i64 0, .int .i64 0, .int .u64 0, .int .u64 0, .int .u64 0, .int .u64 0, .int .i64 0, .int .i64 0] 118)) = w1 at *
  obtain ⟨cp0, cp1, cp2, cp3, cp4, cp5, cp6, cp7, cp8, cp9, cp10, cp11⟩ := cells12 Bp
  have fp := Bp.frozen; have lp := Bp.lt
  obtain ⟨cr0, cr1, cr2, cr3, cr4, cr5, cr6, cr7, cr8, cr9, cr10, cr11⟩ := cells12 Br
  have fr := Br.frozen; have lr := Br.lt
  go_wp2_with fail
  refine (k_R _).mono ?_
  rintro e w2 ⟨rfl, hb⟩
  clear cp0 cp1 cp2 cp3 cp4 cp5 cp6 cp7 cp8 cp9 cp10 cp11 fp lp
  clear cr0 cr1 cr2 cr3 cr4 cr5 cr6 cr7 cr8 cr9 cr10 cr11 fr lr
  replace Bp := (Bp).next hb
  replace Br := (Br).next hb
  replace hB : Below w.heap.size w w2 := by repeat (first | exact hB | (refine Bl_set ?_ (by first | omega | (simp; omega)) _) | apply Bl_alloc | (refine Bl_trans ?_ hb))
  clear hb
  obtain ⟨cp0, cp1, cp2, cp3, cp4, cp5, cp6, cp7, cp8, cp9, cp10, cp11⟩ := cells12 Bp
  have fp := Bp.frozen; have lp := Bp.lt
  obtain ⟨cr0, cr1, cr2, cr3, cr4, cr5, cr6, cr7, cr8, cr9, cr10, cr11⟩ := cells12 Br
  have fr := Br.frozen; have lr := Br.lt
  go_wp2
  exact bodyPost_ret (v := tv R) (by simp [results, Try.results76, go_sem, cr0, cr1, cr2, cr3, cr4, cr5, cr6, cr7, cr8, cr9, cr10, cr11, lr]) rfl ⟨by rw [hs]; first | done | rfl, by repeat (first | (with_reducible exact hB) | (with_reducible refine Bl_set ?_ (by first | omega | (simp; done) | (simp; omega)) _) | with_reducible apply Bl_alloc)⟩
set_option maxRecDepth 100000 in
set_option maxHeartbeats 3200000 in
theorem whe_5 (a b : Rng) (w : World) : Calls Try.prog 76 #[.int .i64 5, pv2 a b] w fun e w' => e = .returned (tv (PlainBranch.whereF 5 (a, b))) ∧ Below w.heap.size w w' := by
  obtain ⟨R, e_R⟩ : ∃ z' : PlainBranch.Pair × Bool, z' = PlainBranch.other (a, b) := ⟨_, rfl⟩
  have k_R : ∀ w : World, Calls Try.prog 80 #[pv2 a b] w fun e w' => e = .returned (tv R) ∧ Below w.heap.size w w' := fun w => by rw [e_R]; exact other_c a b w
  have hs : PlainBranch.whereF 5 (a, b) = R := by rw [e_R]; unfold PlainBranch.whereF; simp
  clear e_R
  go_enter Try.func76, Try.ntmps76
  go_wp2_with fail
  obtain ⟨gp, hgp⟩ : ∃ g, g = w.heap.size := ⟨_, rfl⟩
  obtain ⟨gr, hgr⟩ : ∃ g, g = w.heap.size + 1 := ⟨_, rfl⟩
  have Bp : Blk ((w.alloc (.cells #[uv a.b.v, uv a.b.m, uv a.lo, uv a.hi, sv a.sl, sv a.sh, uv b.b.v, uv b.b.m, uv b.lo, uv b.hi, sv b.sl, sv b.sh] 118)).alloc (.cells #[.int .u64 0, .int .u64 0, .int .u64 0, .int .u64 0, .int .i64 0, .int .i64 0, .int .u64 0, .int .u64 0, .int .u64 0, .int .u64 0, .int .i64 0, .int .i64 0] 118)) (w.heap.size) 118 #[uv a.b.v, uv a.b.m, uv a.lo, uv a.hi, sv a.sl, sv a.sh, uv b.b.v, uv b.b.m, uv b.lo, uv b.hi, sv b.sl, sv b.sh] := ((Blk.new w 118 #[uv a.b.v, uv a.b.m, uv a.lo, uv a.hi, sv a.sl, sv a.sh, uv b.b.v, uv b.b.m, uv b.lo, uv b.hi, sv b.sl, sv b.sh])).alloc _
  have Br : Blk ((w.alloc (.cells #[uv a.b.v, uv a.b.m, uv a.lo, uv a.hi, sv a.sl, sv a.sh, uv b.b.v, uv b.b.m, uv b.lo, uv b.hi, sv b.sl, sv b.sh] 118)).alloc (.cells #[.int .u64 0, .int .u64 0, .int .u64 0, .int .u64 0, .int .i64 0, .int .i64 0, .int .u64 0, .int .u64 0, .int .u64 0, .int .u64 0, .int .i64 0, .int .i64 0] 118)) (w.heap.size + 1) 118 #[.int .u64 0, .int .u64 0, .int .u64 0, .int .u64 0, .int .i64 0, .int .i64 0, .int .u64 0, .int .u64 0, .int .u64 0, .int .u64 0, .int .i64 0, .int .i64 0] := (by simpa using Blk.new (w.alloc (.cells #[uv a.b.v, uv a.b.m, uv a.lo, uv a.hi, sv a.sl, sv a.sh, uv b.b.v, uv b.b.m, uv b.lo, uv b.hi, sv b.sl, sv b.sh] 118)) 118 #[.int .u64 0, .int .u64 0, .int .u64 0, .int .u64 0, .int .i64 0, .int .i64 0, .int .u64 0, .int .u64 0, .int .u64 0, .int .u64 0, .int .i64 0, .int .i64 0] : Blk _ (w.heap.size + 1) 118 #[.int .u64 0, .int .u64 0, .int .u64 0, .int .u64 0, .int .i64 0, .int .i64 0, .int .u64 0, .int .u64 0, .int .u64 0, .int .u64 0, .int .i64 0, .int .i64 0])
  have hB : Below w.heap.size w ((w.alloc (.cells #[uv a.b.v, uv a.b.m, uv a.lo, uv a.hi, sv a.sl, sv a.sh, uv b.b.v, uv b.b.m, uv b.lo, uv b.hi, sv b.sl, sv b.sh] 118)).alloc (.cells #[.int .u64 0, .int .u64 0, .int .u64 0, .int .u64 0, .int .i64 0, .int .i64 0, .int .u64 0, .int .u64 0, .int .u64 0, .int .u64 0, .int .i64 0, .int .i64 0] 118)) := (Bl_alloc (Bl_alloc (Bl_refl w) _) _)
  clear hgp
  clear gp
  clear hgr
  clear gr
  generalize ((w.alloc (.cells #[uv a.b.v, uv a.b.m, uv a.lo, uv a.hi, sv a.sl, sv a.sh, uv b.b.v, uv b.b.m, uv b.lo, uv b.hi, sv b.sl, sv b.sh] 118)).alloc (.cells #[.int .u64 0, .int .u64 0, .int .u64 0, .int .u64 0, .int .i64 0, .int .i64 0, .int .u64 0, .int .u64 0, .int .u64 0, .int .u64 0, .int .i64 0, .int .i64 0] 118)) = w1 at *
  obtain ⟨cp0, cp1, cp2, cp3, cp4, cp5, cp6, cp7, cp8, cp9, cp10, cp11⟩ := cells12 Bp
  have fp := Bp.frozen; have lp := Bp.lt
  obtain ⟨cr0, cr1, cr2, cr3, cr4, cr5, cr6, cr7, cr8, cr9, cr10, cr11⟩ := cells12 Br
  have fr := Br.frozen; have lr := Br.lt
  go_wp2_with fail
  refine (k_R _).mono ?_
  rintro e w2 ⟨rfl, hb⟩
  clear cp0 cp1 cp2 cp3 cp4 cp5 cp6 cp7 cp8 cp9 cp10 cp11 fp lp
  clear cr0 cr1 cr2 cr3 cr4 cr5 cr6 cr7 cr8 cr9 cr10 cr11 fr lr
  replace Bp := (Bp).next hb
  replace Br := (Br).next hb
  replace hB : Below w.heap.size w w2 := by repeat (first | exact hB | (refine Bl_set ?_ (by first | omega | (simp; omega)) _) | apply Bl_alloc | (refine Bl_trans ?_ hb))
  clear hb
  obtain ⟨cp0, cp1, cp2, cp3, cp4, cp5, cp6, cp7, cp8, cp9, cp10, cp11⟩ := cells12 Bp
  have fp := Bp.frozen; have lp := Bp.lt
  obtain ⟨cr0, cr1, cr2, cr3, cr4, cr5, cr6, cr7, cr8, cr9, cr10, cr11⟩ := cells12 Br
  have fr := Br.frozen; have lr := Br.lt
  go_wp2
  exact bodyPost_ret (v := tv R) (by simp [results, Try.results76, go_sem, cr0, cr1, cr2, cr3, cr4, cr5, cr6, cr7, cr8, cr9, cr10, cr11, lr]) rfl ⟨by rw [hs]; first | done | rfl, by repeat (first | (with_reducible exact hB) | (with_reducible refine Bl_set ?_ (by first | omega | (simp; done) | (simp; omega)) _) | with_reducible apply Bl_alloc)⟩
set_option maxRecDepth 100000 in
set_option maxHeartbeats 3200000 in
theorem whe_2 (a b : Rng) (w : World) : Calls Try.prog 76 #[.int .i64 2, pv2 a b] w fun e w' => e = .returned (tv (PlainBranch.whereF 2 (a, b))) ∧ Below w.heap.size w w' := by
  obtain ⟨R, e_R⟩ : ∃ z' : PlainBranch.Pair × Bool, z' = PlainBranch.greater (a, b) true := ⟨_, rfl⟩
  have k_R : ∀ w : World, Calls Try.prog 81 #[pv2 a b, .bool true] w fun e w' => e = .returned (tv R) ∧ Below w.heap.size w w' := fun w => by rw [e_R]; exact greater_c a b true w
  have hs : PlainBranch.whereF 2 (a, b) = R := by rw [e_R]; unfold PlainBranch.whereF; simp
  clear e_R
  go_enter Try.func76, Try.ntmps76
  go_wp2_with fail
  obtain ⟨gp, hgp⟩ : ∃ g, g = w.heap.size := ⟨_, rfl⟩
  obtain ⟨gr, hgr⟩ : ∃ g, g = w.heap.size + 1 := ⟨_, rfl⟩
  have Bp : Blk ((w.alloc (.cells #[uv a.b.v, uv a.b.m, uv a.lo, uv a.hi, sv a.sl, sv a.sh, uv b.b.v, uv b.b.m, uv b.lo, uv b.hi, sv b.sl, sv b.sh] 118)).alloc (.cells #[.int .u64 0, .int .u64 0, .int .u64 0, .int .u64 0, .int .i64 0, .int .i64 0, .int .u64 0, .int .u64 0, .int .u64 0, .int .u64 0, .int .i64 0, .int .i64 0] 118)) (w.heap.size) 118 #[uv a.b.v, uv a.b.m, uv a.lo, uv a.hi, sv a.sl, sv a.sh, uv b.b.v, uv b.b.m, uv b.lo, uv b.hi, sv b.sl, sv b.sh] := ((Blk.new w 118 #[uv a.b.v, uv a.b.m, uv a.lo, uv a.hi, sv a.sl, sv a.sh, uv b.b.v, uv b.b.m, uv b.lo, uv b.hi, sv b.sl, sv b.sh])).alloc _
  have Br : Blk ((w.alloc (.cells #[uv a.b.v, uv a.b.m, uv a.lo, uv a.hi, sv a.sl, sv a.sh, uv b.b.v, uv b.b.m, uv b.lo, uv b.hi, sv b.sl, sv b.sh] 118)).alloc (.cells #[.int .u64 0, .int .u64 0, .int .u64 0, .int .u64 0, .int .i64 0, .int .i64 0, .int .u64 0, .int .u64 0, .int .u64 0, .int .u64 0, .int .i64 0, .int .i64 0] 118)) (w.heap.size + 1) 118 #[.int .u64 0, .int .u64 0, .int .u64 0, .int .u64 0, .int .i64 0, .int .i64 0, .int .u64 0, .int .u64 0, .int .u64 0, .int .u64 0, .int .i64 0, .int .i64 0] := (by simpa using Blk.new (w.alloc (.cells #[uv a.b.v, uv a.b.m, uv a.lo, uv a.hi, sv a.sl, sv a.sh, uv b.b.v, uv b.b.m, uv b.lo, uv b.hi, sv b.sl, sv b.sh] 118)) 118 #[.int .u64 0, .int .u64 0, .int .u64 0, .int .u64 0, .int .i64 0, .int .i64 0, .int .u64 0, .int .u64 0, .int .u64 0, .int .u64 0, .int .i64 0, .int .i64 0] : Blk _ (w.heap.size + 1) 118 #[.int .u64 0, .int .u64 0, .int .u64 0, .int .u64 0, .int .i64 0, .int .i64 0, .int .u64 0, .int .u64 0, .int .u64 0, .int .u64 0, .int .i64 0, .int .i64 0])
  have hB : Below w.heap.size w ((w.alloc (.cells #[uv a.b.v, uv a.b.m, uv a.lo, uv a.hi, sv a.sl, sv a.sh, uv b.b.v, uv b.b.m, uv b.lo, uv b.hi, sv b.sl, sv b.sh] 118)).alloc (.cells #[.int .u64 0, .int .u64 0, .int .u64 0, .int .u64 0, .int .i64 0, .int .i64 0, .int .u64 0, .int .u64 0, .int .u64 0, .int .u64 0, .int .i64 0, .int .i64 0] 118)) := (Bl_alloc (Bl_alloc (Bl_refl w) _) _)
  clear hgp
  clear gp
  clear hgr
  clear gr
  generalize ((w.alloc (.cells #[uv a.b.v, uv a.b.m, uv a.lo, uv a.hi, sv a.sl, sv a.sh, uv b.b.v, uv b.b.m, uv b.lo, uv b.hi, sv b.sl, sv b.sh] 118)).alloc (.cells #[.int .u64 0, .int .u64 0, .int .u64 0, .int .u64 0, .int .i64 0, .int .i64 0, .int .u64 0, .int .u64 0, .int .u64 0, .int .u64 0, .int .i64 0, .int .i64 0] 118)) = w1 at *
  obtain ⟨cp0, cp1, cp2, cp3, cp4, cp5, cp6, cp7, cp8, cp9, cp10, cp11⟩ := cells12 Bp
  have fp := Bp.frozen; have lp := Bp.lt
  obtain ⟨cr0, cr1, cr2, cr3, cr4, cr5, cr6, cr7, cr8, cr9, cr10, cr11⟩ := cells12 Br
  have fr := Br.frozen; have lr := Br.lt
  go_wp2_with fail
  refine (k_R _).mono ?_
  rintro e w2 ⟨rfl, hb⟩
  clear cp0 cp1 cp2 cp3 cp4 cp5 cp6 cp7 cp8 cp9 cp10 cp11 fp lp
  clear cr0 cr1 cr2 cr3 cr4 cr5 cr6 cr7 cr8 cr9 cr10 cr11 fr lr
  replace Bp := (Bp).next hb
  replace Br := (Br).next hb
  replace hB : Below w.heap.size w w2 := by repeat (first | exact hB | (refine Bl_set ?_ (by first | omega | (simp; omega)) _) | apply Bl_alloc | (refine Bl_trans ?_ hb))
  clear hb
  obtain ⟨cp0, cp1, cp2, cp3, cp4, cp5, cp6, cp7, cp8, cp9, cp10, cp11⟩ := cells12 Bp
  have fp := Bp.frozen; have lp := Bp.lt
  obtain ⟨cr0, cr1, cr2, cr3, cr4, cr5, cr6, cr7, cr8, cr9, cr10, cr11⟩ := cells12 Br
  have fr := Br.frozen; have lr := Br.lt
  go_wp2
  exact bodyPost_ret (v := tv R) (by simp [results, Try.results76, go_sem, cr0, cr1, cr2, cr3, cr4, cr5, cr6, cr7, cr8, cr9, cr10, cr11, lr]) rfl ⟨by rw [hs]; first | done | rfl, by repeat (first | (with_reducible exact hB) | (with_reducible refine Bl_set ?_ (by first | omega | (simp; done) | (simp; omega)) _) | with_reducible apply Bl_alloc)⟩
set_option maxRecDepth 100000 in
set_option maxHeartbeats 3200000 in
theorem whe_3 (a b : Rng) (w : World) : Calls Try.prog 76 #[.int .i64 3, pv2 a b] w fun e w' => e = .returned (tv (PlainBranch.whereF 3 (a, b))) ∧ Below w.heap.size w w' := by
  obtain ⟨R, e_R⟩ : ∃ z' : PlainBranch.Pair × Bool, z' = PlainBranch.greater (a, b) false := ⟨_, rfl⟩
  have k_R : ∀ w : World, Calls Try.prog 81 #[pv2 a b, .bool false] w fun e w' => e = .returned (tv R) ∧ Below w.heap.size w w' := fun w => by rw [e_R]; exact greater_c a b false w
  have hs : PlainBranch.whereF 3 (a, b) = R := by rw [e_R]; unfold PlainBranch.whereF; simp
  clear e_R
  go_enter Try.func76, Try.ntmps76
  go_wp2_with fail
  obtain ⟨gp, hgp⟩ : ∃ g, g = w.heap.size := ⟨_, rfl⟩
  obtain ⟨gr, hgr⟩ : ∃ g, g = w.heap.size + 1 := ⟨_, rfl⟩
  have Bp : Blk ((w.alloc (.cells #[uv a.b.v, uv a.b.m, uv a.lo, uv a.hi, sv a.sl, sv a.sh, uv b.b.v, uv b.b.m, uv b.lo, uv b.hi, sv b.sl, sv b.sh] 118)).alloc (.cells #[.int .u64 0, .int .u64 0, .int .u64 0, .int .u64 0, .int .i64 0, .int .i64 0, .int .u64 0, .int .u64 0, .int .u64 0, .int .u64 0, .int .i64 0, .int .i64 0] 118)) (w.heap.size) 118 #[uv a.b.v, uv a.b.m, uv a.lo, uv a.hi, sv a.sl, sv a.sh, uv b.b.v, uv b.b.m, uv b.lo, uv b.hi, sv b.sl, sv b.sh] := ((Blk.new w 118 #[uv a.b.v, uv a.b.m, uv a.lo, uv a.hi, sv a.sl, sv a.sh, uv b.b.v, uv b.b.m, uv b.lo, uv b.hi, sv b.sl, sv b.sh])).alloc _
  have Br : Blk ((w.alloc (.cells #[uv a.b.v, uv a.b.m, uv a.lo, uv a.hi, sv a.sl, sv a.sh, uv b.b.v, uv b.b.m, uv b.lo, uv b.hi, sv b.sl, sv b.sh] 118)).alloc (.cells #[.int .u64 0, .int .u64 0, .int .u64 0, .int .u64 0, .int .i64 0, .int .i64 0, .int .u64 0, .int .u64 0, .int .u64 0, .int .u64 0, .int .i64 0, .int .i64 0] 118)) (w.heap.size + 1) 118 #[.int .u64 0, .int .u64 0, .int .u64 0, .int .u64 0, .int .i64 0, .int .i64 0, .int .u64 0, .int .u64 0, .int .u64 0, .int .u64 0, .int .i64 0, .int .i64 0] := (by simpa using Blk.new (w.alloc (.cells #[uv a.b.v, uv a.b.m, uv a.lo, uv a.hi, sv a.sl, sv a.sh, uv b.b.v, uv b.b.m, uv b.lo, uv b.hi, sv b.sl, sv b.sh] 118)) 118 #[.int .u64 0, .int .u64 0, .int .u64 0, .int .u64 0, .int .i64 0, .int .i64 0, .int .u64 0, .int .u64 0, .int .u64 0, .int .u64 0, .int .i64 0, .int .i64 0] : Blk _ (w.heap.size + 1) 118 #[.int .u64 0, .int .u64 0, .int .u64 0, .int .u64 0, .int .i64 0, .int .i64 0, .int .u64 0, .int .u64 0, .int .u64 0, .int .u64 0, .int .i64 0, .int .i64 0])
  have hB : Below w.heap.size w ((w.alloc (.cells #[uv a.b.v, uv a.b.m, uv a.lo, uv a.hi, sv a.sl, sv a.sh, uv b.b.v, uv b.b.m, uv b.lo, uv b.hi, sv b.sl, sv b.sh] 118)).alloc (.cells #[.int .u64 0, .int .u64 0, .int .u64 0, .int .u64 0, .int .i64 0, .int .i64 0, .int .u64 0, .int .u64 0, .int .u64 0, .int .u64 0, .int .i64 0, .int .i64 0] 118)) := (Bl_alloc (Bl_alloc (Bl_refl w) _) _)
  clear hgp
  clear gp
  clear hgr
  clear gr
  generalize ((w.alloc (.cells #[uv a.b.v, uv a.b.m, uv a.lo, uv a.hi, sv a.sl, sv a.sh, uv b.b.v, uv b.b.m, uv b.lo, uv b.hi, sv b.sl, sv b.sh] 118)).alloc (.cells #[.int .u64 0, .int .u64 0, .int .u64 0, .int .u64 0, .int .i64 0, .int .i64 0, .int .u64 0, .int .u64 0, .int .u64 0, .int .u64 0, .int .i64 0, .int .i64 0] 118)) = w1 at *
  obtain ⟨cp0, cp1, cp2, cp3, cp4, cp5, cp6, cp7, cp8, cp9, cp10, cp11⟩ := cells12 Bp
  have fp := Bp.frozen; have lp := Bp.lt
  obtain ⟨cr0, cr1, cr2, cr3, cr4, cr5, cr6, cr7, cr8, cr9, cr10, cr11⟩ := cells12 Br
  have fr := Br.frozen; have lr := Br.lt
  go_wp2_with fail
  refine (k_R _).mono ?_
  rintro e w2 ⟨rfl, hb⟩
  clear cp0 cp1 cp2 cp3 cp4 cp5 cp6 cp7 cp8 cp9 cp10 cp11 fp lp
  clear cr0 cr1 cr2 cr3 cr4 cr5 cr6 cr7 cr8 cr9 cr10 cr11 fr lr
  replace Bp := (Bp).next hb
  replace Br := (Br).next hb
  replace hB : Below w.heap.size w w2 := by repeat (first | exact hB | (refine Bl_set ?_ (by first | omega | (simp; omega)) _) | apply Bl_alloc | (refine Bl_trans ?_ hb))
  clear hb
  obtain ⟨cp0, cp1, cp2, cp3, cp4, cp5, cp6, cp7, cp8, cp9, cp10, cp11⟩ := cells12 Bp
  have fp := Bp.frozen; have lp := Bp.lt
  obtain ⟨cr0, cr1, cr2, cr3, cr4, cr5, cr6, cr7, cr8, cr9, cr10, cr11⟩ := cells12 Br
  have fr := Br.frozen; have lr := Br.lt
  go_wp2
  exact bodyPost_ret (v := tv R) (by simp [results, Try.results76, go_sem, cr0, cr1, cr2, cr3, cr4, cr5, cr6, cr7, cr8, cr9, cr10, cr11, lr]) rfl ⟨by rw [hs]; first | done | rfl, by repeat (first | (with_reducible exact hB) | (with_reducible refine Bl_set ?_ (by first | omega | (simp; done) | (simp; omega)) _) | with_reducible apply Bl_alloc)⟩
set_option maxRecDepth 100000 in
set_option maxHeartbeats 3200000 in
theorem whe_10 (a b : Rng) (w : World) : Calls Try.prog 76 #[.int .i64 10, pv2 a b] w fun e w' => e = .returned (tv (PlainBranch.whereF 10 (a, b))) ∧ Below w.heap.size w w' := by
  obtain ⟨R, e_R⟩ : ∃ z' : PlainBranch.Pair × Bool, z' = PlainBranch.turned (a, b) PlainBranch.greater true := ⟨_, rfl⟩
  have k_R : ∀ w : World, Calls Try.prog 82 #[pv2 a b, .func (.func 81) #[] #[], .bool true] w fun e w' => e = .returned (tv R) ∧ Below w.heap.size w w' := fun w => by rw [e_R]; exact turnedG_c a b true w
  have hs : PlainBranch.whereF 10 (a, b) = R := by rw [e_R]; unfold PlainBranch.whereF; simp
  clear e_R
  go_enter Try.func76, Try.ntmps76
  go_wp2_with fail
  obtain ⟨gp, hgp⟩ : ∃ g, g = w.heap.size := ⟨_, rfl⟩
  obtain ⟨gr, hgr⟩ : ∃ g, g = w.heap.size + 1 := ⟨_, rfl⟩
  have Bp : Blk ((w.alloc (.cells #[uv a.b.v, uv a.b.m, uv a.lo, uv a.hi, sv a.sl, sv a.sh, uv b.b.v, uv b.b.m, uv b.lo, uv b.hi, sv b.sl, sv b.sh] 118)).alloc (.cells #[.int .u64 0, .int .u64 0, .int .u64 0, .int .u64 0, .int .i64 0, .int .i64 0, .int .u64 0, .int .u64 0, .int .u64 0, .int .u64 0, .int .i64 0, .int .i64 0] 118)) (w.heap.size) 118 #[uv a.b.v, uv a.b.m, uv a.lo, uv a.hi, sv a.sl, sv a.sh, uv b.b.v, uv b.b.m, uv b.lo, uv b.hi, sv b.sl, sv b.sh] := ((Blk.new w 118 #[uv a.b.v, uv a.b.m, uv a.lo, uv a.hi, sv a.sl, sv a.sh, uv b.b.v, uv b.b.m, uv b.lo, uv b.hi, sv b.sl, sv b.sh])).alloc _
  have Br : Blk ((w.alloc (.cells #[uv a.b.v, uv a.b.m, uv a.lo, uv a.hi, sv a.sl, sv a.sh, uv b.b.v, uv b.b.m, uv b.lo, uv b.hi, sv b.sl, sv b.sh] 118)).alloc (.cells #[.int .u64 0, .int .u64 0, .int .u64 0, .int .u64 0, .int .i64 0, .int .i64 0, .int .u64 0, .int .u64 0, .int .u64 0, .int .u64 0, .int .i64 0, .int .i64 0] 118)) (w.heap.size + 1) 118 #[.int .u64 0, .int .u64 0, .int .u64 0, .int .u64 0, .int .i64 0, .int .i64 0, .int .u64 0, .int .u64 0, .int .u64 0, .int .u64 0, .int .i64 0, .int .i64 0] := (by simpa using Blk.new (w.alloc (.cells #[uv a.b.v, uv a.b.m, uv a.lo, uv a.hi, sv a.sl, sv a.sh, uv b.b.v, uv b.b.m, uv b.lo, uv b.hi, sv b.sl, sv b.sh] 118)) 118 #[.int .u64 0, .int .u64 0, .int .u64 0, .int .u64 0, .int .i64 0, .int .i64 0, .int .u64 0, .int .u64 0, .int .u64 0, .int .u64 0, .int .i64 0, .int .i64 0] : Blk _ (w.heap.size + 1) 118 #[.int .u64 0, .int .u64 0, .int .u64 0, .int .u64 0, .int .i64 0, .int .i64 0, .int .u64 0, .int .u64 0, .int .u64 0, .int .u64 0, .int .i64 0, .int .i64 0])
  have hB : Below w.heap.size w ((w.alloc (.cells #[uv a.b.v, uv a.b.m, uv a.lo, uv a.hi, sv a.sl, sv a.sh, uv b.b.v, uv b.b.m, uv b.lo, uv b.hi, sv b.sl, sv b.sh] 118)).alloc (.cells #[.int .u64 0, .int .u64 0, .int .u64 0, .int .u64 0, .int .i64 0, .int .i64 0, .int .u64 0, .int .u64 0, .int .u64 0, .int .u64 0, .int .i64 0, .int .i64 0] 118)) := (Bl_alloc (Bl_alloc (Bl_refl w) _) _)
  clear hgp
  clear gp
  clear hgr
  clear gr
  generalize ((w.alloc (.cells #[uv a.b.v, uv a.b.m, uv a.lo, uv a.hi, sv a.sl, sv a.sh, uv b.b.v, uv b.b.m, uv b.lo, uv b.hi, sv b.sl, sv b.sh] 118)).alloc (.cells #[.int .u64 0, .int .u64 0, .int .u64 0, .int .u64 0, .int .i64 0, .int .i64 0, .int .u64 0, .int .u64 0, .int .u64 0, .int .u64 0, .int .i64 0, .int .i64 0] 118)) = w1 at *
  obtain ⟨cp0, cp1, cp2, cp3, cp4, cp5, cp6, cp7, cp8, cp9, cp10, cp11⟩ := cells12 Bp
  have fp := Bp.frozen; have lp := Bp.lt
  obtain ⟨cr0, cr1, cr2, cr3, cr4, cr5, cr6, cr7, cr8, cr9, cr10, cr11⟩ := cells12 Br
  have fr := Br.frozen; have lr := Br.lt
  go_wp2_with fail
  refine (k_R _).mono ?_
  rintro e w2 ⟨rfl, hb⟩
  clear cp0 cp1 cp2 cp3 cp4 cp5 cp6 cp7 cp8 cp9 cp10 cp11 fp lp
  clear cr0 cr1 cr2 cr3 cr4 cr5 cr6 cr7 cr8 cr9 cr10 cr11 fr lr
  replace Bp := (Bp).next hb
  replace Br := (Br).next hb
  replace hB : Below w.heap.size w w2 := by repeat (first | exact hB | (refine Bl_set ?_ (by first | omega | (simp; omega)) _) | apply Bl_alloc | (refine Bl_trans ?_ hb))
  clear hb
  obtain ⟨cp0, cp1, cp2, cp3, cp4, cp5, cp6, cp7, cp8, cp9, cp10, cp11⟩ := cells12 Bp
  have fp := Bp.frozen; have lp := Bp.lt
  obtain ⟨cr0, cr1, cr2, cr3, cr4, cr5, cr6, cr7, cr8, cr9, cr10, cr11⟩ := cells12 Br
  have fr := Br.frozen; have lr := Br.lt
  go_wp2
  exact bodyPost_ret (v := tv R) (by simp [results, Try.results76, go_sem, cr0, cr1, cr2, cr3, cr4, cr5, cr6, cr7, cr8, cr9, cr10, cr11, lr]) rfl ⟨by rw [hs]; first | done | rfl, by repeat (first | (with_reducible exact hB) | (with_reducible refine Bl_set ?_ (by first | omega | (simp; done) | (simp; omega)) _) | with_reducible apply Bl_alloc)⟩
set_option maxRecDepth 100000 in
set_option maxHeartbeats 3200000 in
theorem whe_11 (a b : Rng) (w : World) : Calls Try.prog 76 #[.int .i64 11, pv2 a b] w fun e w' => e = .returned (tv (PlainBranch.whereF 11 (a, b))) ∧ Below w.heap.size w w' := by
  obtain ⟨R, e_R⟩ : ∃ z' : PlainBranch.Pair × Bool, z' = PlainBranch.turned (a, b) PlainBranch.greater false := ⟨_, rfl⟩
  have k_R : ∀ w : World, Calls Try.prog 82 #[pv2 a b, .func (.func 81) #[] #[], .bool false] w fun e w' => e = .returned (tv R) ∧ Below w.heap.size w w' := fun w => by rw [e_R]; exact turnedG_c a b false w
  have hs : PlainBranch.whereF 11 (a, b) = R := by rw [e_R]; unfold PlainBranch.whereF; simp
  clear e_R
  go_enter Try.func76, Try.ntmps76
  go_wp2_with fail
  obtain ⟨gp, hgp⟩ : ∃ g, g = w.heap.size := ⟨_, rfl⟩
  obtain ⟨gr, hgr⟩ : ∃ g, g = w.heap.size + 1 := ⟨_, rfl⟩
  have Bp : Blk ((w.alloc (.cells #[uv a.b.v, uv a.b.m, uv a.lo, uv a.hi, sv a.sl, sv a.sh, uv b.b.v, uv b.b.m, uv b.lo, uv b.hi, sv b.sl, sv b.sh] 118)).alloc (.cells #[.int .u64 0, .int .u64 0, .int .u64 0, .int .u64 0, .int .i64 0, .int .i64 0, .int .u64 0, .int .u64 0, .int .u64 0, .int .u64 0, .int .i64 0, .int .i64 0] 118)) (w.heap.size) 118 #[uv a.b.v, uv a.b.m, uv a.lo, uv a.hi, sv a.sl, sv a.sh, uv b.b.v, uv b.b.m, uv b.lo, uv b.hi, sv b.sl, sv b.sh] := ((Blk.new w 118 #[uv a.b.v, uv a.b.m, uv a.lo, uv a.hi, sv a.sl, sv a.sh, uv b.b.v, uv b.b.m, uv b.lo, uv b.hi, sv b.sl, sv b.sh])).alloc _
  have Br : Blk ((w.alloc (.cells #[uv a.b.v, uv a.b.m, uv a.lo, uv a.hi, sv a.sl, sv a.sh, uv b.b.v, uv b.b.m, uv b.lo, uv b.hi, sv b.sl, sv b.sh] 118)).alloc (.cells #[.int .u64 0, .int .u64 0, .int .u64 0, .int .u64 0, .int .i64 0, .int .i64 0, .int .u64 0, .int .u64 0, .int .u64 0, .int .u64 0, .int .i64 0, .int .i64 0] 118)) (w.heap.size + 1) 118 #[.int .u64 0, .int .u64 0, .int .u64 0, .int .u64 0, .int .i64 0, .int .i64 0, .int .u64 0, .int .u64 0, .int .u64 0, .int .u64 0, .int .i64 0, .int .i64 0] := (by simpa using Blk.new (w.alloc (.cells #[uv a.b.v, uv a.b.m, uv a.lo, uv a.hi, sv a.sl, sv a.sh, uv b.b.v, uv b.b.m, uv b.lo, uv b.hi, sv b.sl, sv b.sh] 118)) 118 #[.int .u64 0, .int .u64 0, .int .u64 0, .int .u64 0, .int .i64 0, .int .i64 0, .int .u64 0, .int .u64 0, .int .u64 0, .int .u64 0, .int .i64 0, .int .i64 0] : Blk _ (w.heap.size + 1) 118 #[.int .u64 0, .int .u64 0, .int .u64 0, .int .u64 0, .int .i64 0, .int .i64 0, .int .u64 0, .int .u64 0, .int .u64 0, .int .u64 0, .int .i64 0, .int .i64 0])
  have hB : Below w.heap.size w ((w.alloc (.cells #[uv a.b.v, uv a.b.m, uv a.lo, uv a.hi, sv a.sl, sv a.sh, uv b.b.v, uv b.b.m, uv b.lo, uv b.hi, sv b.sl, sv b.sh] 118)).alloc (.cells #[.int .u64 0, .int .u64 0, .int .u64 0, .int .u64 0, .int .i64 0, .int .i64 0, .int .u64 0, .int .u64 0, .int .u64 0, .int .u64 0, .int .i64 0, .int .i64 0] 118)) := (Bl_alloc (Bl_alloc (Bl_refl w) _) _)
  clear hgp
  clear gp
  clear hgr
  clear gr
  generalize ((w.alloc (.cells #[uv a.b.v, uv a.b.m, uv a.lo, uv a.hi, sv a.sl, sv a.sh, uv b.b.v, uv b.b.m, uv b.lo, uv b.hi, sv b.sl, sv b.sh] 118)).alloc (.cells #[.int .u64 0, .int .u64 0, .int .u64 0, .int .u64 0, .int .i64 0, .int .i64 0, .int .u64 0, .int .u64 0, .int .u64 0, .int .u64 0, .int .i64 0, .int .i64 0] 118)) = w1 at *
  obtain ⟨cp0, cp1, cp2, cp3, cp4, cp5, cp6, cp7, cp8, cp9, cp10, cp11⟩ := cells12 Bp
  have fp := Bp.frozen; have lp := Bp.lt
  obtain ⟨cr0, cr1, cr2, cr3, cr4, cr5, cr6, cr7, cr8, cr9, cr10, cr11⟩ := cells12 Br
  have fr := Br.frozen; have lr := Br.lt
  go_wp2_with fail
  refine (k_R _).mono ?_
  rintro e w2 ⟨rfl, hb⟩
  clear cp0 cp1 cp2 cp3 cp4 cp5 cp6 cp7 cp8 cp9 cp10 cp11 fp lp
  clear cr0 cr1 cr2 cr3 cr4 cr5 cr6 cr7 cr8 cr9 cr10 cr11 fr lr
  replace Bp := (Bp).next hb
  replace Br := (Br).next hb
  replace hB : Below w.heap.size w w2 := by repeat (first | exact hB | (refine Bl_set ?_ (by first | omega | (simp; omega)) _) | apply Bl_alloc | (refine Bl_trans ?_ hb))
  clear hb
  obtain ⟨cp0, cp1, cp2, cp3, cp4, cp5, cp6, cp7, cp8, cp9, cp10, cp11⟩ := cells12 Bp
  have fp := Bp.frozen; have lp := Bp.lt
  obtain ⟨cr0, cr1, cr2, cr3, cr4, cr5, cr6, cr7, cr8, cr9, cr10, cr11⟩ := cells12 Br
  have fr := Br.frozen; have lr := Br.lt
  go_wp2
  exact bodyPost_ret (v := tv R) (by simp [results, Try.results76, go_sem, cr0, cr1, cr2, cr3, cr4, cr5, cr6, cr7, cr8, cr9, cr10, cr11, lr]) rfl ⟨by rw [hs]; first | done | rfl, by repeat (first | (with_reducible exact hB) | (with_reducible refine Bl_set ?_ (by first | omega | (simp; done) | (simp; omega)) _) | with_reducible apply Bl_alloc)⟩
set_option maxRecDepth 100000 in
set_option maxHeartbeats 3200000 in
theorem whe_6 (a b : Rng) (w : World) : Calls Try.prog 76 #[.int .i64 6, pv2 a b] w fun e w' => e = .returned (tv (PlainBranch.whereF 6 (a, b))) ∧ Below w.heap.size w w' := by
  obtain ⟨R, e_R⟩ : ∃ z' : PlainBranch.Pair × Bool, z' = PlainBranch.sGreater (a, b) true := ⟨_, rfl⟩
  have k_R : ∀ w : World, Calls Try.prog 83 #[pv2 a b, .bool true] w fun e w' => e = .returned (tv R) ∧ Below w.heap.size w w' := fun w => by rw [e_R]; exact sgreater_c a b true w
  have hs : PlainBranch.whereF 6 (a, b) = R := by rw [e_R]; unfold PlainBranch.whereF; simp
  clear e_R
  go_enter Try.func76, Try.ntmps76
  go_wp2_with fail
  obtain ⟨gp, hgp⟩ : ∃ g, g = w.heap.size := ⟨_, rfl⟩
  obtain ⟨gr, hgr⟩ : ∃ g, g = w.heap.size + 1 := ⟨_, rfl⟩
  have Bp : Blk ((w.alloc (.cells #[uv a.b.v, uv a.b.m, uv a.lo, uv a.hi, sv a.sl, sv a.sh, uv b.b.v, uv b.b.m, uv b.lo, uv b.hi, sv b.sl, sv b.sh] 118)).alloc (.cells #[.int .u64 0, .int .u64 0, .int .u64 0, .int .u64 0, .int .i64 0, .int .i64 0, .int .u64 0, .int .u64 0, .int .u64 0, .int .u64 0, .int .i64 0, .int .i64 0] 118)) (w.heap.size) 118 #[uv a.b.v, uv a.b.m, uv a.lo, uv a.hi, sv a.sl, sv a.sh, uv b.b.v, uv b.b.m, uv b.lo, uv b.hi, sv b.sl, sv b.sh] := ((Blk.new w 118 #[uv a.b.v, uv a.b.m, uv a.lo, uv a.hi, sv a.sl, sv a.sh, uv b.b.v, uv b.b.m, uv b.lo, uv b.hi, sv b.sl, sv b.sh])).alloc _
  have Br : Blk ((w.alloc (.cells #[uv a.b.v, uv a.b.m, uv a.lo, uv a.hi, sv a.sl, sv a.sh, uv b.b.v, uv b.b.m, uv b.lo, uv b.hi, sv b.sl, sv b.sh] 118)).alloc (.cells #[.int .u64 0, .int .u64 0, .int .u64 0, .int .u64 0, .int .i64 0, .int .i64 0, .int .u64 0, .int .u64 0, .int .u64 0, .int .u64 0, .int .i64 0, .int .i64 0] 118)) (w.heap.size + 1) 118 #[.int .u64 0, .int .u64 0, .int .u64 0, .int .u64 0, .int .i64 0, .int .i64 0, .int .u64 0, .int .u64 0, .int .u64 0, .int .u64 0, .int .i64 0, .int .i64 0] := (by simpa using Blk.new (w.alloc (.cells #[uv a.b.v, uv a.b.m, uv a.lo, uv a.hi, sv a.sl, sv a.sh, uv b.b.v, uv b.b.m, uv b.lo, uv b.hi, sv b.sl, sv b.sh] 118)) 118 #[.int .u64 0, .int .u64 0, .int .u64 0, .int .u64 0, .int .i64 0, .int .i64 0, .int .u64 0, .int .u64 0, .int .u64 0, .int .u64 0, .int .i64 0, .int .i64 0] : Blk _ (w.heap.size + 1) 118 #[.int .u64 0, .int .u64 0, .int .u64 0, .int .u64 0, .int .i64 0, .int .i64 0, .int .u64 0, .int .u64 0, .int .u64 0, .int .u64 0, .int .i64 0, .int .i64 0])
  have hB : Below w.heap.size w ((w.alloc (.cells #[uv a.b.v, uv a.b.m, uv a.lo, uv a.hi, sv a.sl, sv a.sh, uv b.b.v, uv b.b.m, uv b.lo, uv b.hi, sv b.sl, sv b.sh] 118)).alloc (.cells #[.int .u64 0, .int .u64 0, .int .u64 0, .int .u64 0, .int .i64 0, .int .i64 0, .int .u64 0, .int .u64 0, .int .u64 0, .int .u64 0, .int .i64 0, .int .i64 0] 118)) := (Bl_alloc (Bl_alloc (Bl_refl w) _) _)
  clear hgp
  clear gp
  clear hgr
  clear gr
  generalize ((w.alloc (.cells #[uv a.b.v, uv a.b.m, uv a.lo, uv a.hi, sv a.sl, sv a.sh, uv b.b.v, uv b.b.m, uv b.lo, uv b.hi, sv b.sl, sv b.sh] 118)).alloc (.cells #[.int .u64 0, .int .u64 0, .int .u64 0, .int .u64 0, .int .i64 0, .int .i64 0, .int .u64 0, .int .u64 0, .int .u64 0, .int .u64 0, .int .i64 0, .int .i64 0] 118)) = w1 at *
  obtain ⟨cp0, cp1, cp2, cp3, cp4, cp5, cp6, cp7, cp8, cp9, cp10, cp11⟩ := cells12 Bp
  have fp := Bp.frozen; have lp := Bp.lt
  obtain ⟨cr0, cr1, cr2, cr3, cr4, cr5, cr6, cr7, cr8, cr9, cr10, cr11⟩ := cells12 Br
  have fr := Br.frozen; have lr := Br.lt
  go_wp2_with fail
  refine (k_R _).mono ?_
  rintro e w2 ⟨rfl, hb⟩
  clear cp0 cp1 cp2 cp3 cp4 cp5 cp6 cp7 cp8 cp9 cp10 cp11 fp lp
  clear cr0 cr1 cr2 cr3 cr4 cr5 cr6 cr7 cr8 cr9 cr10 cr11 fr lr
  replace Bp := (Bp).next hb
  replace Br := (Br).next hb
  replace hB : Below w.heap.size w w2 := by repeat (first | exact hB | (refine Bl_set ?_ (by first | omega | (simp; omega)) _) | apply Bl_alloc | (refine Bl_trans ?_ hb))
  clear hb
  obtain ⟨cp0, cp1, cp2, cp3, cp4, cp5, cp6, cp7, cp8, cp9, cp10, cp11⟩ := cells12 Bp
  have fp := Bp.frozen; have lp := Bp.lt
  obtain ⟨cr0, cr1, cr2, cr3, cr4, cr5, cr6, cr7, cr8, cr9, cr10, cr11⟩ := cells12 Br
  have fr := Br.frozen; have lr := Br.lt
  go_wp2
  exact bodyPost_ret (v := tv R) (by simp [results, Try.results76, go_sem, cr0, cr1, cr2, cr3, cr4, cr5, cr6, cr7, cr8, cr9, cr10, cr11, lr]) rfl ⟨by rw [hs]; first | done | rfl, by repeat (first | (with_reducible exact hB) | (with_reducible refine Bl_set ?_ (by first | omega | (simp; done) | (simp; omega)) _) | with_reducible apply Bl_alloc)⟩
set_option maxRecDepth 100000 in
set_option maxHeartbeats 3200000 in
theorem whe_7 (a b : Rng) (w : World) : Calls Try.prog 76 #[.int .i64 7, pv2 a b] w fun e w' => e = .returned (tv (PlainBranch.whereF 7 (a, b))) ∧ Below w.heap.size w w' := by
  obtain ⟨R, e_R⟩ : ∃ z' : PlainBranch.Pair × Bool, z' = PlainBranch.sGreater (a, b) false := ⟨_, rfl⟩
  have k_R : ∀ w : World, Calls Try.prog 83 #[pv2 a b, .bool false] w fun e w' => e = .returned (tv R) ∧ Below w.heap.size w w' := fun w => by rw [e_R]; exact sgreater_c a b false w
  have hs : PlainBranch.whereF 7 (a, b) = R := by rw [e_R]; unfold PlainBranch.whereF; simp
  clear e_R
  go_enter Try.func76, Try.ntmps76
  go_wp2_with fail
  obtain ⟨gp, hgp⟩ : ∃ g, g = w.heap.size := ⟨_, rfl⟩
  obtain ⟨gr, hgr⟩ : ∃ g, g = w.heap.size + 1 := ⟨_, rfl⟩
  have Bp : Blk ((w.alloc (.cells #[uv a.b.v, uv a.b.m, uv a.lo, uv a.hi, sv a.sl, sv a.sh, uv b.b.v, uv b.b.m, uv b.lo, uv b.hi, sv b.sl, sv b.sh] 118)).alloc (.cells #[.int .u64 0, .int .u64 0, .int .u64 0, .int .u64 0, .int .i64 0, .int .i64 0, .int .u64 0, .int .u64 0, .int .u64 0, .int .u64 0, .int .i64 0, .int .i64 0] 118)) (w.heap.size) 118 #[uv a.b.v, uv a.b.m, uv a.lo, uv a.hi, sv a.sl, sv a.sh, uv b.b.v, uv b.b.m, uv b.lo, uv b.hi, sv b.sl, sv b.sh] := ((Blk.new w 118 #[uv a.b.v, uv a.b.m, uv a.lo, uv a.hi, sv a.sl, sv a.sh, uv b.b.v, uv b.b.m, uv b.lo, uv b.hi, sv b.sl, sv b.sh])).alloc _
  have Br : Blk ((w.alloc (.cells #[uv a.b.v, uv a.b.m, uv a.lo, uv a.hi, sv a.sl, sv a.sh, uv b.b.v, uv b.b.m, uv b.lo, uv b.hi, sv b.sl, sv b.sh] 118)).alloc (.cells #[.int .u64 0, .int .u64 0, .int .u64 0, .int .u64 0, .int .i64 0, .int .i64 0, .int .u64 0, .int .u64 0, .int .u64 0, .int .u64 0, .int .i64 0, .int .i64 0] 118)) (w.heap.size + 1) 118 #[.int .u64 0, .int .u64 0, .int .u64 0, .int .u64 0, .int .i64 0, .int .i64 0, .int .u64 0, .int .u64 0, .int .u64 0, .int .u64 0, .int .i64 0, .int .i64 0] := (by simpa using Blk.new (w.alloc (.cells #[uv a.b.v, uv a.b.m, uv a.lo, uv a.hi, sv a.sl, sv a.sh, uv b.b.v, uv b.b.m, uv b.lo, uv b.hi, sv b.sl, sv b.sh] 118)) 118 #[.int .u64 0, .int .u64 0, .int .u64 0, .int .u64 0, .int .i64 0, .int .i64 0, .int .u64 0, .int .u64 0, .int .u64 0, .int .u64 0, .int .i64 0, .int .i64 0] : Blk _ (w.heap.size + 1) 118 #[.int .u64 0, .int .u64 0, .int .u64 0, .int .u64 0, .int .i64 0, .int .i64 0, .int .u64 0, .int .u64 0, .int .u64 0, .int .u64 0, .int .i64 0, .int .i64 0])
  have hB : Below w.heap.size w ((w.alloc (.cells #[uv a.b.v, uv a.b.m, uv a.lo, uv a.hi, sv a.sl, sv a.sh, uv b.b.v, uv b.b.m, uv b.lo, uv b.hi, sv b.sl, sv b.sh] 118)).alloc (.cells #[.int .u64 0, .int .u64 0, .int .u64 0, .int .u64 0, .int .i64 0, .int .i64 0, .int .u64 0, .int .u64 0, .int .u64 0, .int .u64 0, .int .i64 0, .int .i64 0] 118)) := (Bl_alloc (Bl_alloc (Bl_refl w) _) _)
  clear hgp
  clear gp
  clear hgr
  clear gr
  generalize ((w.alloc (.cells #[uv a.b.v, uv a.b.m, uv a.lo, uv a.hi, sv a.sl, sv a.sh, uv b.b.v, uv b.b.m, uv b.lo, uv b.hi, sv b.sl, sv b.sh] 118)).alloc (.cells #[.int .u64 0, .int .u64 0, .int .u64 0, .int .u64 0, .int .i64 0, .int .i64 0, .int .u64 0, .int .u64 0, .int .u64 0, .int .u64 0, .int .i64 0, .int .i64 0] 118)) = w1 at *
  obtain ⟨cp0, cp1, cp2, cp3, cp4, cp5, cp6, cp7, cp8, cp9, cp10, cp11⟩ := cells12 Bp
  have fp := Bp.frozen; have lp := Bp.lt
  obtain ⟨cr0, cr1, cr2, cr3, cr4, cr5, cr6, cr7, cr8, cr9, cr10, cr11⟩ := cells12 Br
  have fr := Br.frozen; have lr := Br.lt
  go_wp2_with fail
  refine (k_R _).mono ?_
  rintro e w2 ⟨rfl, hb⟩
  clear cp0 cp1 cp2 cp3 cp4 cp5 cp6 cp7 cp8 cp9 cp10 cp11 fp lp
  clear cr0 cr1 cr2 cr3 cr4 cr5 cr6 cr7 cr8 cr9 cr10 cr11 fr lr
  replace Bp := (Bp).next hb
  replace Br := (Br).next hb
  replace hB : Below w.heap.size w w2 := by repeat (first | exact hB | (refine Bl_set ?_ (by first | omega | (simp; omega)) _) | apply Bl_alloc | (refine Bl_trans ?_ hb))
  clear hb
  obtain ⟨cp0, cp1, cp2, cp3, cp4, cp5, cp6, cp7, cp8, cp9, cp10, cp11⟩ := cells12 Bp
  have fp := Bp.frozen; have lp := Bp.lt
  obtain ⟨cr0, cr1, cr2, cr3, cr4, cr5, cr6, cr7, cr8, cr9, cr10, cr11⟩ := cells12 Br
  have fr := Br.frozen; have lr := Br.lt
  go_wp2
  exact bodyPost_ret (v := tv R) (by simp [results, Try.results76, go_sem, cr0, cr1, cr2, cr3, cr4, cr5, cr6, cr7, cr8, cr9, cr10, cr11, lr]) rfl ⟨by rw [hs]; first | done | rfl, by repeat (first | (with_reducible exact hB) | (with_reducible refine Bl_set ?_ (by first | omega | (simp; done) | (simp; omega)) _) | with_reducible apply Bl_alloc)⟩
set_option maxRecDepth 100000 in
set_option maxHeartbeats 3200000 in
theorem whe_12 (a b : Rng) (w : World) : Calls Try.prog 76 #[.int .i64 12, pv2 a b] w fun e w' => e = .returned (tv (PlainBranch.whereF 12 (a, b))) ∧ Below w.heap.size w w' := by
  obtain ⟨R, e_R⟩ : ∃ z' : PlainBranch.Pair × Bool, z' = PlainBranch.turned (a, b) PlainBranch.sGreater true := ⟨_, rfl⟩
  have k_R : ∀ w : World, Calls Try.prog 82 #[pv2 a b, .func (.func 83) #[] #[], .bool true] w fun e w' => e = .returned (tv R) ∧ Below w.heap.size w w' := fun w => by rw [e_R]; exact turnedS_c a b true w
  have hs : PlainBranch.whereF 12 (a, b) = R := by rw [e_R]; unfold PlainBranch.whereF; simp
  clear e_R
  go_enter Try.func76, Try.ntmps76
  go_wp2_with fail
  obtain ⟨gp, hgp⟩ : ∃ g, g = w.heap.size := ⟨_, rfl⟩
  obtain ⟨gr, hgr⟩ : ∃ g, g = w.heap.size + 1 := ⟨_, rfl⟩
  have Bp : Blk ((w.alloc (.cells #[uv a.b.v, uv a.b.m, uv a.lo, uv a.hi, sv a.sl, sv a.sh, uv b.b.v, uv b.b.m, uv b.lo, uv b.hi, sv b.sl, sv b.sh] 118)).alloc (.cells #[.int .u64 0, .int .u64 0, .int .u64 0, .int .u64 0, .int .i64 0, .int .i64 0, .int .u64 0, .int .u64 0, .int .u64 0, .int .u64 0, .int .i64 0, .int .i64 0] 118)) (w.heap.size) 118 #[uv a.b.v, uv a.b.m, uv a.lo, uv a.hi, sv a.sl, sv a.sh, uv b.b.v, uv b.b.m, uv b.lo, uv b.hi, sv b.sl, sv b.sh] := ((Blk.new w 118 #[uv a.b.v, uv a.b.m, uv a.lo, uv a.hi, sv a.sl, sv a.sh, uv b.b.v, uv b.b.m, uv b.lo, uv b.hi, sv b.sl, sv b.sh])).alloc _
  have Br : Blk ((w.alloc (.cells #[uv a.b.v, uv a.b.m, uv a.lo, uv a.hi, sv a.sl, sv a.sh, uv b.b.v, uv b.b.m, uv b.lo, uv b.hi, sv b.sl, sv b.sh] 118)).alloc (.cells #[.int .u64 0, .int .u64 0, .int .u64 0, .int .u64 0, .int .i64 0, .int .i64 0, .int .u64 0, .int .u64 0, .int .u64 0, .int .u64 0, .int .i64 0, .int .i64 0] 118)) (w.heap.size + 1) 118 #[.int .u64 0, .int .u64 0, .int .u64 0, .int .u64 0, .int .i64 0, .int .i64 0, .int .u64 0, .int .u64 0, .int .u64 0, .int .u64 0, .int .i64 0, .int .i64 0] := (by simpa using Blk.new (w.alloc (.cells #[uv a.b.v, uv a.b.m, uv a.lo, uv a.hi, sv a.sl, sv a.sh, uv b.b.v, uv b.b.m, uv b.lo, uv b.hi, sv b.sl, sv b.sh] 118)) 118 #[.int .u64 0, .int .u64 0, .int .u64 0, .int .u64 0, .int .i64 0, .int .i64 0, .int .u64 0, .int .u64 0, .int .u64 0, .int .u64 0, .int .i64 0, .int .i64 0] : Blk _ (w.heap.size + 1) 118 #[.int .u64 0, .int .u64 0, .int .u64 0, .int .u64 0, .int .i64 0, .int .i64 0, .int .u64 0, .int .u64 0, .int .u64 0, .int .u64 0, .int .i64 0, .int .i64 0])
  have hB : Below w.heap.size w ((w.alloc (.cells #[uv a.b.v, uv a.b.m, uv a.lo, uv a.hi, sv a.sl, sv a.sh, uv b.b.v, uv b.b.m, uv b.lo, uv b.hi, sv b.sl, sv b.sh] 118)).alloc (.cells #[.int .u64 0, .int .u64 0, .int .u64 0, .int .u64 0, .int .i64 0, .int .i64 0, .int .u64 0, .int .u64 0, .int .u64 0, .int .u64 0, .int .i64 0, .int .i64 0] 118)) := (Bl_alloc (Bl_alloc (Bl_refl w) _) _)
  clear hgp
  clear gp
  clear hgr
  clear gr
  generalize ((w.alloc (.cells #[uv a.b.v, uv a.b.m, uv a.lo, uv a.hi, sv a.sl, sv a.sh, uv b.b.v, uv b.b.m, uv b.lo, uv b.hi, sv b.sl, sv b.sh] 118)).alloc (.cells #[.int .u64 0, .int .u64 0, .int .u64 0, .int .u64 0, .int .i64 0, .int .i64 0, .int .u64 0, .int .u64 0, .int .u64 0, .int .u64 0, .int .i64 0, .int .i64 0] 118)) = w1 at *
  obtain ⟨cp0, cp1, cp2, cp3, cp4, cp5, cp6, cp7, cp8, cp9, cp10, cp11⟩ := cells12 Bp
  have fp := Bp.frozen; have lp := Bp.lt
  obtain ⟨cr0, cr1, cr2, cr3, cr4, cr5, cr6, cr7, cr8, cr9, cr10, cr11⟩ := cells12 Br
  have fr := Br.frozen; have lr := Br.lt
  go_wp2_with fail
  refine (k_R _).mono ?_
  rintro e w2 ⟨rfl, hb⟩
  clear cp0 cp1 cp2 cp3 cp4 cp5 cp6 cp7 cp8 cp9 cp10 cp11 fp lp
  clear cr0 cr1 cr2 cr3 cr4 cr5 cr6 cr7 cr8 cr9 cr10 cr11 fr lr
  replace Bp := (Bp).next hb
  replace Br := (Br).next hb
  replace hB : Below w.heap.size w w2 := by repeat (first | exact hB | (refine Bl_set ?_ (by first | omega | (simp; omega)) _) | apply Bl_alloc | (refine Bl_trans ?_ hb))
  clear hb
  obtain ⟨cp0, cp1, cp2, cp3, cp4, cp5, cp6, cp7, cp8, cp9, cp10, cp11⟩ := cells12 Bp
  have fp := Bp.frozen; have lp := Bp.lt
  obtain ⟨cr0, cr1, cr2, cr3, cr4, cr5, cr6, cr7, cr8, cr9, cr10, cr11⟩ := cells12 Br
  have fr := Br.frozen; have lr := Br.lt
  go_wp2
  exact bodyPost_ret (v := tv R) (by simp [results, Try.results76, go_sem, cr0, cr1, cr2, cr3, cr4, cr5, cr6, cr7, cr8, cr9, cr10, cr11, lr]) rfl ⟨by rw [hs]; first | done | rfl, by repeat (first | (with_reducible exact hB) | (with_reducible refine Bl_set ?_ (by first | omega | (simp; done) | (simp; omega)) _) | with_reducible apply Bl_alloc)⟩
set_option maxRecDepth 100000 in
set_option maxHeartbeats 3200000 in
theorem whe_13 (a b : Rng) (w : World) : Calls Try.prog 76 #[.int .i64 13, pv2 a b] w fun e w' => e = .returned (tv (PlainBranch.whereF 13 (a, b))) ∧ Below w.heap.size w w' := by
  obtain ⟨R, e_R⟩ : ∃ z' : PlainBranch.Pair × Bool, z' = PlainBranch.turned (a, b) PlainBranch.sGreater false := ⟨_, rfl⟩
  have k_R : ∀ w : World, Calls Try.prog 82 #[pv2 a b, .func (.func 83) #[] #[], .bool false] w fun e w' => e = .returned (tv R) ∧ Below w.heap.size w w' := fun w => by rw [e_R]; exact turnedS_c a b false w
  have hs : PlainBranch.whereF 13 (a, b) = R := by rw [e_R]; unfold PlainBranch.whereF; simp
  clear e_R
  go_enter Try.func76, Try.ntmps76
  go_wp2_with fail
  obtain ⟨gp, hgp⟩ : ∃ g, g = w.heap.size := ⟨_, rfl⟩
  obtain ⟨gr, hgr⟩ : ∃ g, g = w.heap.size + 1 := ⟨_, rfl⟩
  have Bp : Blk ((w.alloc (.cells #[uv a.b.v, uv a.b.m, uv a.lo, uv a.hi, sv a.sl, sv a.sh, uv b.b.v, uv b.b.m, uv b.lo, uv b.hi, sv b.sl, sv b.sh] 118)).alloc (.cells #[.int .u64 0, .int .u64 0, .int .u64 0, .int .u64 0, .int .i64 0, .int .i64 0, .int .u64 0, .int .u64 0, .int .u64 0, .int .u64 0, .int .i64 0, .int .i64 0] 118)) (w.heap.size) 118 #[uv a.b.v, uv a.b.m, uv a.lo, uv a.hi, sv a.sl, sv a.sh, uv b.b.v, uv b.b.m, uv b.lo, uv b.hi, sv b.sl, sv b.sh] := ((Blk.new w 118 #[uv a.b.v, uv a.b.m, uv a.lo, uv a.hi, sv a.sl, sv a.sh, uv b.b.v, uv b.b.m, uv b.lo, uv b.hi, sv b.sl, sv b.sh])).alloc _
  have Br : Blk ((w.alloc (.cells #[uv a.b.v, uv a.b.m, uv a.lo, uv a.hi, sv a.sl, sv a.sh, uv b.b.v, uv b.b.m, uv b.lo, uv b.hi, sv b.sl, sv b.sh] 118)).alloc (.cells #[.int .u64 0, .int .u64 0, .int .u64 0, .int .u64 0, .int .i64 0, .int .i64 0, .int .u64 0, .int .u64 0, .int .u64 0, .int .u64 0, .int .i64 0, .int .i64 0] 118)) (w.heap.size + 1) 118 #[.int .u64 0, .int .u64 0, .int .u64 0, .int .u64 0, .int .i64 0, .int .i64 0, .int .u64 0, .int .u64 0, .int .u64 0, .int .u64 0, .int .i64 0, .int .i64 0] := (by simpa using Blk.new (w.alloc (.cells #[uv a.b.v, uv a.b.m, uv a.lo, uv a.hi, sv a.sl, sv a.sh, uv b.b.v, uv b.b.m, uv b.lo, uv b.hi, sv b.sl, sv b.sh] 118)) 118 #[.int .u64 0, .int .u64 0, .int .u64 0, .int .u64 0, .int .i64 0, .int .i64 0, .int .u64 0, .int .u64 0, .int .u64 0, .int .u64 0, .int .i64 0, .int .i64 0] : Blk _ (w.heap.size + 1) 118 #[.int .u64 0, .int .u64 0, .int .u64 0, .int .u64 0, .int .i64 0, .int .i64 0, .int .u64 0, .int .u64 0, .int .u64 0, .int .u64 0, .int .i64 0, .int .i64 0])
  have hB : Below w.heap.size w ((w.alloc (.cells #[uv a.b.v, uv a.b.m, uv a.lo, uv a.hi, sv a.sl, sv a.sh, uv b.b.v, uv b.b.m, uv b.lo, uv b.hi, sv b.sl, sv b.sh] 118)).alloc (.cells #[.int .u64 0, .int .u64 0, .int .u64 0, .int .u64 0, .int .i64 0, .int .i64 0, .int .u64 0, .int .u64 0, .int .u64 0, .int .u64 0, .int .i64 0, .int .i64 0] 118)) := (Bl_alloc (Bl_alloc (Bl_refl w) _) _)
  clear hgp
  clear gp
  clear hgr
  clear gr
  generalize ((w.alloc (.cells #[uv a.b.v, uv a.b.m, uv a.lo, uv a.hi, sv a.sl, sv a.sh, uv b.b.v, uv b.b.m, uv b.lo, uv b.hi, sv b.sl, sv b.sh] 118)).alloc (.cells #[.int .u64 0, .int .u64 0, .int .u64 0, .int .u64 0, .int .i64 0, .int .i64 0, .int .u64 0, .int .u64 0, .int .u64 0, .int .u64 0, .int .i64 0, .int .i64 0] 118)) = w1 at *
  obtain ⟨cp0, cp1, cp2, cp3, cp4, cp5, cp6, cp7, cp8, cp9, cp10, cp11⟩ := cells12 Bp
  have fp := Bp.frozen; have lp := Bp.lt
  obtain ⟨cr0, cr1, cr2, cr3, cr4, cr5, cr6, cr7, cr8, cr9, cr10, cr11⟩ := cells12 Br
  have fr := Br.frozen; have lr := Br.lt
  go_wp2_with fail
  refine (k_R _).mono ?_
  rintro e w2 ⟨rfl, hb⟩
  clear cp0 cp1 cp2 cp3 cp4 cp5 cp6 cp7 cp8 cp9 cp10 cp11 fp lp
  clear cr0 cr1 cr2 cr3 cr4 cr5 cr6 cr7 cr8 cr9 cr10 cr11 fr lr
  replace Bp := (Bp).next hb
  replace Br := (Br).next hb
  replace hB : Below w.heap.size w w2 := by repeat (first | exact hB | (refine Bl_set ?_ (by first | omega | (simp; omega)) _) | apply Bl_alloc | (refine Bl_trans ?_ hb))
  clear hb
  obtain ⟨cp0, cp1, cp2, cp3, cp4, cp5, cp6, cp7, cp8, cp9, cp10, cp11⟩ := cells12 Bp
  have fp := Bp.frozen; have lp := Bp.lt
  obtain ⟨cr0, cr1, cr2, cr3, cr4, cr5, cr6, cr7, cr8, cr9, cr10, cr11⟩ := cells12 Br
  have fr := Br.frozen; have lr := Br.lt
  go_wp2
  exact bodyPost_ret (v := tv R) (by simp [results, Try.results76, go_sem, cr0, cr1, cr2, cr3, cr4, cr5, cr6, cr7, cr8, cr9, cr10, cr11, lr]) rfl ⟨by rw [hs]; first | done | rfl, by repeat (first | (with_reducible exact hB) | (with_reducible refine Bl_set ?_ (by first | omega | (simp; done) | (simp; omega)) _) | with_reducible apply Bl_alloc)⟩
set_option maxRecDepth 100000 in
set_option maxHeartbeats 3200000 in
theorem whe_op (op : Int) (h1 : ¬ op = 1) (h5 : ¬ op = 5) (h2 : ¬ op = 2) (h3 : ¬ op = 3) (h10 : ¬ op = 10) (h11 : ¬ op = 11) (h6 : ¬ op = 6) (h7 : ¬ op = 7) (h12 : ¬ op = 12) (h13 : ¬ op = 13) (a b : Rng) (w : World) : Calls Try.prog 76 #[.int .i64 op, pv2 a b] w fun e w' => e = .returned (tv (PlainBranch.whereF op (a, b))) ∧ Below w.heap.size w w' := by
  have e1 : (op == 1) = false := by simpa using h1
  have e5 : (op == 5) = false := by simpa using h5
  have e2 : (op == 2) = false := by simpa using h2
  have e3 : (op == 3) = false := by simpa using h3
  have e10 : (op == 10) = false := by simpa using h10
  have e11 : (op == 11) = false := by simpa using h11
  have e6 : (op == 6) = false := by simpa using h6
  have e7 : (op == 7) = false := by simpa using h7
  have e12 : (op == 12) = false := by simpa using h12
  have e13 : (op == 13) = false := by simpa using h13
  obtain ⟨R, e_R⟩ : ∃ z' : PlainBranch.Pair × Bool, z' = PlainBranch.settleP (a, b) := ⟨_, rfl⟩
  have k_R : ∀ w : World, Calls Try.prog 71 #[pv2 a b] w fun e w' => e = .returned (tv R) ∧ Below w.heap.size w w' := fun w => by rw [e_R]; exact psettle_c a b w
  have hs : PlainBranch.whereF op (a, b) = R := by rw [e_R]; unfold PlainBranch.whereF; simp [h1, h5, h2, h3, h10, h11, h6, h7, h12, h13]
  clear e_R
  go_enter Try.func76, Try.ntmps76
  go_wp2_with fail
  obtain ⟨gp, hgp⟩ : ∃ g, g = w.heap.size := ⟨_, rfl⟩
  obtain ⟨gr, hgr⟩ : ∃ g, g = w.heap.size + 1 := ⟨_, rfl⟩
  have Bp : Blk ((w.alloc (.cells #[uv a.b.v, uv a.b.m, uv a.lo, uv a.hi, sv a.sl, sv a.sh, uv b.b.v, uv b.b.m, uv b.lo, uv b.hi, sv b.sl, sv b.sh] 118)).alloc (.cells #[.int .u64 0, .int .u64 0, .int .u64 0, .int .u64 0, .int .i64 0, .int .i64 0, .int .u64 0, .int .u64 0, .int .u64 0, .int .u64 0, .int .i64 0, .int .i64 0] 118)) (w.heap.size) 118 #[uv a.b.v, uv a.b.m, uv a.lo, uv a.hi, sv a.sl, sv a.sh, uv b.b.v, uv b.b.m, uv b.lo, uv b.hi, sv b.sl, sv b.sh] := ((Blk.new w 118 #[uv a.b.v, uv a.b.m, uv a.lo, uv a.hi, sv a.sl, sv a.sh, uv b.b.v, uv b.b.m, uv b.lo, uv b.hi, sv b.sl, sv b.sh])).alloc _
  have Br : Blk ((w.alloc (.cells #[uv a.b.v, uv a.b.m, uv a.lo, uv a.hi, sv a.sl, sv a.sh, uv b.b.v, uv b.b.m, uv b.lo, uv b.hi, sv b.sl, sv b.sh] 118)).alloc (.cells #[.int .u64 0, .int .u64 0, .int .u64 0, .int .u64 0, .int .i64 0, .int .i64 0, .int .u64 0, .int .u64 0, .int .u64 0, .int .u64 0, .int .i64 0, .int .i64 0] 118)) (w.heap.size + 1) 118 #[.int .u64 0, .int .u64 0, .int .u64 0, .int .u64 0, .int .i64 0, .int .i64 0, .int .u64 0, .int .u64 0, .int .u64 0, .int .u64 0, .int .i64 0, .int .i64 0] := (by simpa using Blk.new (w.alloc (.cells #[uv a.b.v, uv a.b.m, uv a.lo, uv a.hi, sv a.sl, sv a.sh, uv b.b.v, uv b.b.m, uv b.lo, uv b.hi, sv b.sl, sv b.sh] 118)) 118 #[.int .u64 0, .int .u64 0, .int .u64 0, .int .u64 0, .int .i64 0, .int .i64 0, .int .u64 0, .int .u64 0, .int .u64 0, .int .u64 0, .int .i64 0, .int .i64 0] : Blk _ (w.heap.size + 1) 118 #[.int .u64 0, .int .u64 0, .int .u64 0, .int .u64 0, .int .i64 0, .int .i64 0, .int .u64 0, .int .u64 0, .int .u64 0, .int .u64 0, .int .i64 0, .int .i64 0])
  have hB : Below w.heap.size w ((w.alloc (.cells #[uv a.b.v, uv a.b.m, uv a.lo, uv a.hi, sv a.sl, sv a.sh, uv b.b.v, uv b.b.m, uv b.lo, uv b.hi, sv b.sl, sv b.sh] 118)).alloc (.cells #[.int .u64 0, .int .u64 0, .int .u64 0, .int .u64 0, .int .i64 0, .int .i64 0, .int .u64 0, .int .u64 0, .int .u64 0, .int .u64 0, .int .i64 0, .int .i64 0] 118)) := (Bl_alloc (Bl_alloc (Bl_refl w) _) _)
  clear hgp
  clear gp
  clear hgr
  clear gr
  generalize ((w.alloc (.cells #[uv a.b.v, uv a.b.m, uv a.lo, uv a.hi, sv a.sl, sv a.sh, uv b.b.v, uv b.b.m, uv b.lo, uv b.hi, sv b.sl, sv b.sh] 118)).alloc (.cells #[.int .u64 0, .int .u64 0, .int .u64 0, .int .u64 0, .int .i64 0, .int .i64 0, .int .u64 0, .int .u64 0, .int .u64 0, .int .u64 0, .int .i64 0, .int .i64 0] 118)) = w1 at *
  obtain ⟨cp0, cp1, cp2, cp3, cp4, cp5, cp6, cp7, cp8, cp9, cp10, cp11⟩ := cells12 Bp
  have fp := Bp.frozen; have lp := Bp.lt
  obtain ⟨cr0, cr1, cr2, cr3, cr4, cr5, cr6, cr7, cr8, cr9, cr10, cr11⟩ := cells12 Br
  have fr := Br.frozen; have lr := Br.lt
  go_wp2_with fail
  refine (k_R _).mono ?_
  rintro e w2 ⟨rfl, hb⟩
  clear cp0 cp1 cp2 cp3 cp4 cp5 cp6 cp7 cp8 cp9 cp10 cp11 fp lp
  clear cr0 cr1 cr2 cr3 cr4 cr5 cr6 cr7 cr8 cr9 cr10 cr11 fr lr
  replace Bp := (Bp).next hb
  replace Br := (Br).next hb
  replace hB : Below w.heap.size w w2 := by repeat (first | exact hB | (refine Bl_set ?_ (by first | omega | (simp; omega)) _) | apply Bl_alloc | (refine Bl_trans ?_ hb))
  clear hb
  obtain ⟨cp0, cp1, cp2, cp3, cp4, cp5, cp6, cp7, cp8, cp9, cp10, cp11⟩ := cells12 Bp
  have fp := Bp.frozen; have lp := Bp.lt
  obtain ⟨cr0, cr1, cr2, cr3, cr4, cr5, cr6, cr7, cr8, cr9, cr10, cr11⟩ := cells12 Br
  have fr := Br.frozen; have lr := Br.lt
  go_wp2
  exact bodyPost_ret (v := tv R) (by simp [results, Try.results76, go_sem, cr0, cr1, cr2, cr3, cr4, cr5, cr6, cr7, cr8, cr9, cr10, cr11, lr]) rfl ⟨by rw [hs]; first | done | rfl, by repeat (first | (with_reducible exact hB) | (with_reducible refine Bl_set ?_ (by first | omega | (simp; done) | (simp; omega)) _) | with_reducible apply Bl_alloc)⟩
theorem where_c (op : Int) (a b : Rng) (w : World) : Calls Try.prog 76 #[.int .i64 op, pv2 a b] w fun e w' => e = .returned (tv (PlainBranch.whereF op (a, b))) ∧ Below w.heap.size w w' := by
  by_cases h1 : op = 1
  · subst h1; exact whe_1 a b w
  by_cases h5 : op = 5
  · subst h5; exact whe_5 a b w
  by_cases h2 : op = 2
  · subst h2; exact whe_2 a b w
  by_cases h3 : op = 3
  · subst h3; exact whe_3 a b w
  by_cases h10 : op = 10
  · subst h10; exact whe_10 a b w
  by_cases h11 : op = 11
  · subst h11; exact whe_11 a b w
  by_cases h6 : op = 6
  · subst h6; exact whe_6 a b w
  by_cases h7 : op = 7
  · subst h7; exact whe_7 a b w
  by_cases h12 : op = 12
  · subst h12; exact whe_12 a b w
  by_cases h13 : op = 13
  · subst h13; exact whe_13 a b w
  exact whe_op op h1 h5 h2 h3 h10 h11 h6 h7 h12 h13 a b w
end Go.Proofs.Ytmghpoagpiljhab
