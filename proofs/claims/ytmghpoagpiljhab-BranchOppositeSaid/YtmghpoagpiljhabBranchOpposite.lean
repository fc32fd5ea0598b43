/- BranchOpposite: for two numbers, of 64 bits or of 32, the law returns true, and its arguments read as before. No condition. -/
import Derived.Test.YtmghpoagpiljhabOpen
import Derived.Test.YtmghpoagpiljhabBr7
set_option linter.unusedSimpArgs false
namespace Go.Proofs.Ytmghpoagpiljhab
open Go.ChangeShapes Go.WideShapes Go.ChangeAt Go.RowKit
open PlainTnum (N)
open PlainScalar (Rng)
set_option linter.unusedVariables false
set_option maxHeartbeats 800000 in
theorem turn_1 (l : Bool) (p q : W) (w : World) : Calls Try.prog 39 #[.int .i64 1, .bool l, .agg #[uv p, uv q]] w fun e w' => e = .returned (.bool (PlainBranch.holds 1 l p q)) ∧ Below w.heap.size w w' := by
  go_enter Try.func39, Try.ntmps39
  go_wp2_with fail
  refine (rholds_c 1 l p q _).mono ?_
  rintro e w1 ⟨rfl, hb1⟩
  go_wp2
  go_ret
  exact ⟨rfl, (by repeat (first | (with_reducible exact Bl_refl _) | with_reducible apply Bl_alloc | with_reducible apply Bl_drew | with_reducible apply Bl_drewN | (with_reducible refine Bl_set ?_ (by first | omega | (simp; done) | (simp; omega)) _) | (with_reducible refine Bl_trans ?_ (by assumption))))⟩
theorem mirror_1 (l : Bool) (p q : W) : PlainBranch.holds 1 l q p = PlainBranch.holds 1 l p q := by
  cases l <;> simp [PlainBranch.holds, PlainBranch.unsigned, PlainBranch.signedC] <;> first | rfl | exact Bool.beq_comm ..
set_option maxHeartbeats 800000 in
theorem turn_2 (l : Bool) (p q : W) (w : World) : Calls Try.prog 39 #[.int .i64 2, .bool l, .agg #[uv p, uv q]] w fun e w' => e = .returned (.bool (PlainBranch.holds 10 l p q)) ∧ Below w.heap.size w w' := by
  go_enter Try.func39, Try.ntmps39
  go_wp2_with fail
  refine (rholds_c 10 l p q _).mono ?_
  rintro e w1 ⟨rfl, hb1⟩
  go_wp2
  go_ret
  exact ⟨rfl, (by repeat (first | (with_reducible exact Bl_refl _) | with_reducible apply Bl_alloc | with_reducible apply Bl_drew | with_reducible apply Bl_drewN | (with_reducible refine Bl_set ?_ (by first | omega | (simp; done) | (simp; omega)) _) | (with_reducible refine Bl_trans ?_ (by assumption))))⟩
theorem mirror_2 (l : Bool) (p q : W) : PlainBranch.holds 2 l q p = PlainBranch.holds 10 l p q := by
  cases l <;> simp [PlainBranch.holds, PlainBranch.unsigned, PlainBranch.signedC] <;> first | rfl | exact Bool.beq_comm ..
set_option maxHeartbeats 800000 in
theorem turn_3 (l : Bool) (p q : W) (w : World) : Calls Try.prog 39 #[.int .i64 3, .bool l, .agg #[uv p, uv q]] w fun e w' => e = .returned (.bool (PlainBranch.holds 11 l p q)) ∧ Below w.heap.size w w' := by
  go_enter Try.func39, Try.ntmps39
  go_wp2_with fail
  refine (rholds_c 11 l p q _).mono ?_
  rintro e w1 ⟨rfl, hb1⟩
  go_wp2
  go_ret
  exact ⟨rfl, (by repeat (first | (with_reducible exact Bl_refl _) | with_reducible apply Bl_alloc | with_reducible apply Bl_drew | with_reducible apply Bl_drewN | (with_reducible refine Bl_set ?_ (by first | omega | (simp; done) | (simp; omega)) _) | (with_reducible refine Bl_trans ?_ (by assumption))))⟩
theorem mirror_3 (l : Bool) (p q : W) : PlainBranch.holds 3 l q p = PlainBranch.holds 11 l p q := by
  cases l <;> simp [PlainBranch.holds, PlainBranch.unsigned, PlainBranch.signedC] <;> first | rfl | exact Bool.beq_comm ..
set_option maxHeartbeats 800000 in
theorem turn_6 (l : Bool) (p q : W) (w : World) : Calls Try.prog 39 #[.int .i64 6, .bool l, .agg #[uv p, uv q]] w fun e w' => e = .returned (.bool (PlainBranch.holds 12 l p q)) ∧ Below w.heap.size w w' := by
  go_enter Try.func39, Try.ntmps39
  go_wp2_with fail
  refine (rholds_c 12 l p q _).mono ?_
  rintro e w1 ⟨rfl, hb1⟩
  go_wp2
  go_ret
  exact ⟨rfl, (by repeat (first | (with_reducible exact Bl_refl _) | with_reducible apply Bl_alloc | with_reducible apply Bl_drew | with_reducible apply Bl_drewN | (with_reducible refine Bl_set ?_ (by first | omega | (simp; done) | (simp; omega)) _) | (with_reducible refine Bl_trans ?_ (by assumption))))⟩
theorem mirror_6 (l : Bool) (p q : W) : PlainBranch.holds 6 l q p = PlainBranch.holds 12 l p q := by
  cases l <;> simp [PlainBranch.holds, PlainBranch.unsigned, PlainBranch.signedC] <;> first | rfl | exact Bool.beq_comm ..
set_option maxHeartbeats 800000 in
theorem turn_7 (l : Bool) (p q : W) (w : World) : Calls Try.prog 39 #[.int .i64 7, .bool l, .agg #[uv p, uv q]] w fun e w' => e = .returned (.bool (PlainBranch.holds 13 l p q)) ∧ Below w.heap.size w w' := by
  go_enter Try.func39, Try.ntmps39
  go_wp2_with fail
  refine (rholds_c 13 l p q _).mono ?_
  rintro e w1 ⟨rfl, hb1⟩
  go_wp2
  go_ret
  exact ⟨rfl, (by repeat (first | (with_reducible exact Bl_refl _) | with_reducible apply Bl_alloc | with_reducible apply Bl_drew | with_reducible apply Bl_drewN | (with_reducible refine Bl_set ?_ (by first | omega | (simp; done) | (simp; omega)) _) | (with_reducible refine Bl_trans ?_ (by assumption))))⟩
theorem mirror_7 (l : Bool) (p q : W) : PlainBranch.holds 7 l q p = PlainBranch.holds 13 l p q := by
  cases l <;> simp [PlainBranch.holds, PlainBranch.unsigned, PlainBranch.signedC] <;> first | rfl | exact Bool.beq_comm ..
set_option maxRecDepth 100000 in
set_option maxHeartbeats 3200000 in
theorem walk_BranchOpposite (l : Bool) (p q : W) (w : World) : Calls Try.prog 10 #[.bool l, .agg #[uv p, uv q]] w fun e w' => e = .returned (.bool true) ∧ Below w.heap.size w w' := by
  go_enter Try.func10, Try.ntmps10
  go_upto_region 1 with fail
  obtain ⟨gn, hgn⟩ : ∃ g, g = w.heap.size := ⟨_, rfl⟩
  have Bn : Blk (w.alloc (.cells #[uv p, uv q] 47)) (w.heap.size) 47 #[uv p, uv q] := (Blk.new w 47 #[uv p, uv q])
  have hB : Below w.heap.size w (w.alloc (.cells #[uv p, uv q] 47)) := (Bl_alloc (Bl_refl w) _)
  clear hgn
  clear gn
  generalize (w.alloc (.cells #[uv p, uv q] 47)) = w1 at *
  obtain ⟨cn0, cn1⟩ := cells2 Bn
  have fn := Bn.frozen; have ln := Bn.lt
  go_upto_region 2 with fail
  clear cn0 cn1 fn ln
  have Bs := Blk.new w1 43 #[.int .i64 1, .int .i64 5, .int .i64 2, .int .i64 11, .int .i64 3, .int .i64 10, .int .i64 6, .int .i64 13, .int .i64 7, .int .i64 12]
  have hgs := hB.size
  have hnns := Nat.ne_of_lt Bn.lt; have hltns := Bn.lt
  replace Bn : Blk (w1.alloc (.cells #[.int .i64 1, .int .i64 5, .int .i64 2, .int .i64 11, .int .i64 3, .int .i64 10, .int .i64 6, .int .i64 13, .int .i64 7, .int .i64 12] 43)) (w.heap.size) 47 #[uv p, uv q] := Bn.alloc _
  replace hB : Below w.heap.size w (w1.alloc (.cells #[.int .i64 1, .int .i64 5, .int .i64 2, .int .i64 11, .int .i64 3, .int .i64 10, .int .i64 6, .int .i64 13, .int .i64 7, .int .i64 12] 43)) := Bl_alloc hB _
  generalize (w1.alloc (.cells #[.int .i64 1, .int .i64 5, .int .i64 2, .int .i64 11, .int .i64 3, .int .i64 10, .int .i64 6, .int .i64 13, .int .i64 7, .int .i64 12] 43)) = w2 at *
  generalize w1.heap.size = gs at *
  obtain ⟨cn0, cn1⟩ := cells2 Bn
  have fn := Bn.frozen; have ln := Bn.lt
  have cs0 : w2.cell? ⟨gs, 0, none⟩ = some (.int .i64 1) := Bs.cell 0
  have cs1 : w2.cell? ⟨gs, 1, none⟩ = some (.int .i64 5) := Bs.cell 1
  have cs2 : w2.cell? ⟨gs, 2, none⟩ = some (.int .i64 2) := Bs.cell 2
  have cs3 : w2.cell? ⟨gs, 3, none⟩ = some (.int .i64 11) := Bs.cell 3
  have cs4 : w2.cell? ⟨gs, 4, none⟩ = some (.int .i64 3) := Bs.cell 4
  have cs5 : w2.cell? ⟨gs, 5, none⟩ = some (.int .i64 10) := Bs.cell 5
  have cs6 : w2.cell? ⟨gs, 6, none⟩ = some (.int .i64 6) := Bs.cell 6
  have cs7 : w2.cell? ⟨gs, 7, none⟩ = some (.int .i64 13) := Bs.cell 7
  have cs8 : w2.cell? ⟨gs, 8, none⟩ = some (.int .i64 7) := Bs.cell 8
  have cs9 : w2.cell? ⟨gs, 9, none⟩ = some (.int .i64 12) := Bs.cell 9
  have fs := Bs.frozen; have ls := Bs.lt
  go_wp2_with fail
  clear cn0 cn1 fn ln
  clear cs0 cs1 cs2 cs3 cs4 cs5 cs6 cs7 cs8 cs9 fs ls
  go_loopg [6] 5 (fun m i wr => ∃ j : Nat, j ≤ 5 ∧ m + j = 5 ∧ i = .int .i64 (j : Int) ∧ Below w.heap.size w wr ∧ Blk wr (w.heap.size) 47 #[uv p, uv q] ∧ Blk wr (gs) 43 #[.int .i64 1, .int .i64 5, .int .i64 2, .int .i64 11, .int .i64 3, .int .i64 10, .int .i64 6, .int .i64 13, .int .i64 7, .int .i64 12])
  case atStart => exact ⟨0, by omega, rfl, rfl, hB, Bn, Bs⟩
  case round =>
    clear hB Bn Bs
    obtain ⟨j, hj, hgk, rfl, hB, Bn, Bs⟩ := hrel
    obtain ⟨cn0, cn1⟩ := cells2 Bn
    have fn := Bn.frozen; have ln := Bn.lt
    have cs0 : wr.cell? ⟨gs, 0, none⟩ = some (.int .i64 1) := Bs.cell 0
    have cs1 : wr.cell? ⟨gs, 1, none⟩ = some (.int .i64 5) := Bs.cell 1
    have cs2 : wr.cell? ⟨gs, 2, none⟩ = some (.int .i64 2) := Bs.cell 2
    have cs3 : wr.cell? ⟨gs, 3, none⟩ = some (.int .i64 11) := Bs.cell 3
    have cs4 : wr.cell? ⟨gs, 4, none⟩ = some (.int .i64 3) := Bs.cell 4
    have cs5 : wr.cell? ⟨gs, 5, none⟩ = some (.int .i64 10) := Bs.cell 5
    have cs6 : wr.cell? ⟨gs, 6, none⟩ = some (.int .i64 6) := Bs.cell 6
    have cs7 : wr.cell? ⟨gs, 7, none⟩ = some (.int .i64 13) := Bs.cell 7
    have cs8 : wr.cell? ⟨gs, 8, none⟩ = some (.int .i64 7) := Bs.cell 8
    have cs9 : wr.cell? ⟨gs, 9, none⟩ = some (.int .i64 12) := Bs.cell 9
    have fs := Bs.frozen; have ls := Bs.lt
    cases qj : decide ((j : Int) < 5)
    · go_wp2_with fail
      refine (tells_c _).mono ?_
      rintro e w3 ⟨rfl, hb⟩
      clear cn0 cn1 fn ln
      clear cs0 cs1 cs2 cs3 cs4 cs5 cs6 cs7 cs8 cs9 fs ls
      replace Bn := (Bn).next hb
      replace Bs := (Bs).next hb
      replace hB : Below w.heap.size w w3 := by repeat (first | exact hB | (refine Bl_set ?_ (by first | omega | (simp; omega)) _) | apply Bl_alloc | (refine Bl_trans ?_ hb))
      clear hb
      obtain ⟨cn0, cn1⟩ := cells2 Bn
      have fn := Bn.frozen; have ln := Bn.lt
      have cs0 : w3.cell? ⟨gs, 0, none⟩ = some (.int .i64 1) := Bs.cell 0
      have cs1 : w3.cell? ⟨gs, 1, none⟩ = some (.int .i64 5) := Bs.cell 1
      have cs2 : w3.cell? ⟨gs, 2, none⟩ = some (.int .i64 2) := Bs.cell 2
      have cs3 : w3.cell? ⟨gs, 3, none⟩ = some (.int .i64 11) := Bs.cell 3
      have cs4 : w3.cell? ⟨gs, 4, none⟩ = some (.int .i64 3) := Bs.cell 4
      have cs5 : w3.cell? ⟨gs, 5, none⟩ = some (.int .i64 10) := Bs.cell 5
      have cs6 : w3.cell? ⟨gs, 6, none⟩ = some (.int .i64 6) := Bs.cell 6
      have cs7 : w3.cell? ⟨gs, 7, none⟩ = some (.int .i64 13) := Bs.cell 7
      have cs8 : w3.cell? ⟨gs, 8, none⟩ = some (.int .i64 7) := Bs.cell 8
      have cs9 : w3.cell? ⟨gs, 9, none⟩ = some (.int .i64 12) := Bs.cell 9
      have fs := Bs.frozen; have ls := Bs.lt
      go_wp2
      go_ret
      exact ⟨rfl, by repeat (first | exact hB | (refine Bl_set ?_ (by first | omega | (simp; omega)) _) | apply Bl_alloc)⟩
    · have hj5 : (j : Int) < 5 := of_decide_eq_true qj
      clear qj
      obtain rfl | rfl | rfl | rfl | rfl : j = 0 ∨ j = 1 ∨ j = 2 ∨ j = 3 ∨ j = 4 := by omega
      · have k1 := holds_c 1 l p q; have k2 := holds_c 5 l p q; have k3 := holds_c 1 l q p; have k4 := turn_1 l p q
        rw [show PlainBranch.holds 5 l p q = !PlainBranch.holds 1 l p q from PlainBranch.holds_opposite (op := 1) (by unfold PlainBranch.isOp; omega) (by decide) l p q] at k2
        rw [← mirror_1 l p q] at k4
        generalize PlainBranch.holds 1 l p q = H at k1 k2; generalize PlainBranch.holds 1 l q p = V at k3 k4
        cases H
        · replace k2 : ∀ w : World, Calls Try.prog 36 #[.int .i64 5, .bool l, uv p, uv q] w fun e w' => e = .returned (.bool true) ∧ Below w.heap.size w w' := k2
          go_wp2_with fail
          clear cn0 cn1; obtain ⟨cn0, cn1⟩ := lcells2 Bn
          replace cs0 : ∀ g : Later wr, g.w.cell? ⟨gs, 0, none⟩ = some (.int .i64 1) := fun g => g.cell (Bs.cell 0)
          replace cs1 : ∀ g : Later wr, g.w.cell? ⟨gs, 1, none⟩ = some (.int .i64 5) := fun g => g.cell (Bs.cell 1)
          replace cs2 : ∀ g : Later wr, g.w.cell? ⟨gs, 2, none⟩ = some (.int .i64 2) := fun g => g.cell (Bs.cell 2)
          replace cs3 : ∀ g : Later wr, g.w.cell? ⟨gs, 3, none⟩ = some (.int .i64 11) := fun g => g.cell (Bs.cell 3)
          replace cs4 : ∀ g : Later wr, g.w.cell? ⟨gs, 4, none⟩ = some (.int .i64 3) := fun g => g.cell (Bs.cell 4)
          replace cs5 : ∀ g : Later wr, g.w.cell? ⟨gs, 5, none⟩ = some (.int .i64 10) := fun g => g.cell (Bs.cell 5)
          replace cs6 : ∀ g : Later wr, g.w.cell? ⟨gs, 6, none⟩ = some (.int .i64 6) := fun g => g.cell (Bs.cell 6)
          replace cs7 : ∀ g : Later wr, g.w.cell? ⟨gs, 7, none⟩ = some (.int .i64 13) := fun g => g.cell (Bs.cell 7)
          replace cs8 : ∀ g : Later wr, g.w.cell? ⟨gs, 8, none⟩ = some (.int .i64 7) := fun g => g.cell (Bs.cell 8)
          replace cs9 : ∀ g : Later wr, g.w.cell? ⟨gs, 9, none⟩ = some (.int .i64 12) := fun g => g.cell (Bs.cell 9)
          refine wp_region_mix 24 (fun _ => #[]) (by kernel_rfl) (by kernel_rfl) (no_alloc (by kernel_rfl)) ?_
          simp only [List.take_succ_cons, List.take_zero, List.drop_succ_cons, List.drop_zero]
          repeat (refine wpMix_step (fun K hK => ?_); go_simp; first | (refine hK _ ?_; clear hK K) | (apply Exists.intro; refine ⟨fun g => ?_, hK _ ?_⟩; ((with_reducible refine Calls.mono (k1 g.w) ?_); exact fun _ _ h => h); clear hK K) | (apply Exists.intro; refine ⟨fun g => ?_, hK _ ?_⟩; ((with_reducible refine Calls.mono (k2 g.w) ?_); exact fun _ _ h => h); clear hK K))
          refine wpMix_nil ?_
          intro G w3 hgr hblk hdist
          have hb : Below wr.heap.size wr w3 := hgr
          replace Bn := Bn.next hb
          replace Bs := Bs.next hb
          clear cn0 cn1 fn ln
          clear cs0 cs1 cs2 cs3 cs4 cs5 cs6 cs7 cs8 cs9 fs ls
          replace hB : Below w.heap.size w w3 := Bl_trans hB hb
          simp only [putAll, isAlloc]
          clear hb hgr hblk hdist
          obtain ⟨cn0, cn1⟩ := cells2 Bn
          have fn := Bn.frozen; have ln := Bn.lt
          have cs0 : w3.cell? ⟨gs, 0, none⟩ = some (.int .i64 1) := Bs.cell 0
          have cs1 : w3.cell? ⟨gs, 1, none⟩ = some (.int .i64 5) := Bs.cell 1
          have cs2 : w3.cell? ⟨gs, 2, none⟩ = some (.int .i64 2) := Bs.cell 2
          have cs3 : w3.cell? ⟨gs, 3, none⟩ = some (.int .i64 11) := Bs.cell 3
          have cs4 : w3.cell? ⟨gs, 4, none⟩ = some (.int .i64 3) := Bs.cell 4
          have cs5 : w3.cell? ⟨gs, 5, none⟩ = some (.int .i64 10) := Bs.cell 5
          have cs6 : w3.cell? ⟨gs, 6, none⟩ = some (.int .i64 6) := Bs.cell 6
          have cs7 : w3.cell? ⟨gs, 7, none⟩ = some (.int .i64 13) := Bs.cell 7
          have cs8 : w3.cell? ⟨gs, 8, none⟩ = some (.int .i64 7) := Bs.cell 8
          have cs9 : w3.cell? ⟨gs, 9, none⟩ = some (.int .i64 12) := Bs.cell 9
          have fs := Bs.frozen; have ls := Bs.lt
          go_wp2_with fail
          clear cn0 cn1; obtain ⟨cn0, cn1⟩ := lcells2 Bn
          replace cs0 : ∀ g : Later w3, g.w.cell? ⟨gs, 0, none⟩ = some (.int .i64 1) := fun g => g.cell (Bs.cell 0)
          replace cs1 : ∀ g : Later w3, g.w.cell? ⟨gs, 1, none⟩ = some (.int .i64 5) := fun g => g.cell (Bs.cell 1)
          replace cs2 : ∀ g : Later w3, g.w.cell? ⟨gs, 2, none⟩ = some (.int .i64 2) := fun g => g.cell (Bs.cell 2)
          replace cs3 : ∀ g : Later w3, g.w.cell? ⟨gs, 3, none⟩ = some (.int .i64 11) := fun g => g.cell (Bs.cell 3)
          replace cs4 : ∀ g : Later w3, g.w.cell? ⟨gs, 4, none⟩ = some (.int .i64 3) := fun g => g.cell (Bs.cell 4)
          replace cs5 : ∀ g : Later w3, g.w.cell? ⟨gs, 5, none⟩ = some (.int .i64 10) := fun g => g.cell (Bs.cell 5)
          replace cs6 : ∀ g : Later w3, g.w.cell? ⟨gs, 6, none⟩ = some (.int .i64 6) := fun g => g.cell (Bs.cell 6)
          replace cs7 : ∀ g : Later w3, g.w.cell? ⟨gs, 7, none⟩ = some (.int .i64 13) := fun g => g.cell (Bs.cell 7)
          replace cs8 : ∀ g : Later w3, g.w.cell? ⟨gs, 8, none⟩ = some (.int .i64 7) := fun g => g.cell (Bs.cell 8)
          replace cs9 : ∀ g : Later w3, g.w.cell? ⟨gs, 9, none⟩ = some (.int .i64 12) := fun g => g.cell (Bs.cell 9)
          refine wp_region_mix 25 (fun _ => #[]) (by kernel_rfl) (by kernel_rfl) (no_alloc (by kernel_rfl)) ?_
          simp only [List.take_succ_cons, List.take_zero, List.drop_succ_cons, List.drop_zero]
          repeat (refine wpMix_step (fun K hK => ?_); go_simp; first | (refine hK _ ?_; clear hK K) | (apply Exists.intro; refine ⟨fun g => ?_, hK _ ?_⟩; ((with_reducible refine Calls.mono (k3 g.w) ?_); exact fun _ _ h => h); clear hK K) | (apply Exists.intro; refine ⟨fun g => ?_, hK _ ?_⟩; ((with_reducible refine Calls.mono (k4 g.w) ?_); exact fun _ _ h => h); clear hK K))
          refine wpMix_nil ?_
          intro G w4 hgr hblk hdist
          have hb : Below w3.heap.size w3 w4 := hgr
          replace Bn := Bn.next hb
          replace Bs := Bs.next hb
          clear cn0 cn1 fn ln
          clear cs0 cs1 cs2 cs3 cs4 cs5 cs6 cs7 cs8 cs9 fs ls
          replace hB : Below w.heap.size w w4 := Bl_trans hB hb
          simp only [putAll, isAlloc]
          clear hb hgr hblk hdist
          obtain ⟨cn0, cn1⟩ := cells2 Bn
          have fn := Bn.frozen; have ln := Bn.lt
          have cs0 : w4.cell? ⟨gs, 0, none⟩ = some (.int .i64 1) := Bs.cell 0
          have cs1 : w4.cell? ⟨gs, 1, none⟩ = some (.int .i64 5) := Bs.cell 1
          have cs2 : w4.cell? ⟨gs, 2, none⟩ = some (.int .i64 2) := Bs.cell 2
          have cs3 : w4.cell? ⟨gs, 3, none⟩ = some (.int .i64 11) := Bs.cell 3
          have cs4 : w4.cell? ⟨gs, 4, none⟩ = some (.int .i64 3) := Bs.cell 4
          have cs5 : w4.cell? ⟨gs, 5, none⟩ = some (.int .i64 10) := Bs.cell 5
          have cs6 : w4.cell? ⟨gs, 6, none⟩ = some (.int .i64 6) := Bs.cell 6
          have cs7 : w4.cell? ⟨gs, 7, none⟩ = some (.int .i64 13) := Bs.cell 7
          have cs8 : w4.cell? ⟨gs, 8, none⟩ = some (.int .i64 7) := Bs.cell 8
          have cs9 : w4.cell? ⟨gs, 9, none⟩ = some (.int .i64 12) := Bs.cell 9
          have fs := Bs.frozen; have ls := Bs.lt
          go_wp2_with fail
          go_roundg 4
          case measure => omega
          case rel => exact ⟨1, by omega, by omega, by go_num, hB, Bn, Bs⟩
        · replace k2 : ∀ w : World, Calls Try.prog 36 #[.int .i64 5, .bool l, uv p, uv q] w fun e w' => e = .returned (.bool false) ∧ Below w.heap.size w w' := k2
          go_wp2_with fail
          clear cn0 cn1; obtain ⟨cn0, cn1⟩ := lcells2 Bn
          replace cs0 : ∀ g : Later wr, g.w.cell? ⟨gs, 0, none⟩ = some (.int .i64 1) := fun g => g.cell (Bs.cell 0)
          replace cs1 : ∀ g : Later wr, g.w.cell? ⟨gs, 1, none⟩ = some (.int .i64 5) := fun g => g.cell (Bs.cell 1)
          replace cs2 : ∀ g : Later wr, g.w.cell? ⟨gs, 2, none⟩ = some (.int .i64 2) := fun g => g.cell (Bs.cell 2)
          replace cs3 : ∀ g : Later wr, g.w.cell? ⟨gs, 3, none⟩ = some (.int .i64 11) := fun g => g.cell (Bs.cell 3)
          replace cs4 : ∀ g : Later wr, g.w.cell? ⟨gs, 4, none⟩ = some (.int .i64 3) := fun g => g.cell (Bs.cell 4)
          replace cs5 : ∀ g : Later wr, g.w.cell? ⟨gs, 5, none⟩ = some (.int .i64 10) := fun g => g.cell (Bs.cell 5)
          replace cs6 : ∀ g : Later wr, g.w.cell? ⟨gs, 6, none⟩ = some (.int .i64 6) := fun g => g.cell (Bs.cell 6)
          replace cs7 : ∀ g : Later wr, g.w.cell? ⟨gs, 7, none⟩ = some (.int .i64 13) := fun g => g.cell (Bs.cell 7)
          replace cs8 : ∀ g : Later wr, g.w.cell? ⟨gs, 8, none⟩ = some (.int .i64 7) := fun g => g.cell (Bs.cell 8)
          replace cs9 : ∀ g : Later wr, g.w.cell? ⟨gs, 9, none⟩ = some (.int .i64 12) := fun g => g.cell (Bs.cell 9)
          refine wp_region_mix 24 (fun _ => #[]) (by kernel_rfl) (by kernel_rfl) (no_alloc (by kernel_rfl)) ?_
          simp only [List.take_succ_cons, List.take_zero, List.drop_succ_cons, List.drop_zero]
          repeat (refine wpMix_step (fun K hK => ?_); go_simp; first | (refine hK _ ?_; clear hK K) | (apply Exists.intro; refine ⟨fun g => ?_, hK _ ?_⟩; ((with_reducible refine Calls.mono (k1 g.w) ?_); exact fun _ _ h => h); clear hK K) | (apply Exists.intro; refine ⟨fun g => ?_, hK _ ?_⟩; ((with_reducible refine Calls.mono (k2 g.w) ?_); exact fun _ _ h => h); clear hK K))
          refine wpMix_nil ?_
          intro G w3 hgr hblk hdist
          have hb : Below wr.heap.size wr w3 := hgr
          replace Bn := Bn.next hb
          replace Bs := Bs.next hb
          clear cn0 cn1 fn ln
          clear cs0 cs1 cs2 cs3 cs4 cs5 cs6 cs7 cs8 cs9 fs ls
          replace hB : Below w.heap.size w w3 := Bl_trans hB hb
          simp only [putAll, isAlloc]
          clear hb hgr hblk hdist
          obtain ⟨cn0, cn1⟩ := cells2 Bn
          have fn := Bn.frozen; have ln := Bn.lt
          have cs0 : w3.cell? ⟨gs, 0, none⟩ = some (.int .i64 1) := Bs.cell 0
          have cs1 : w3.cell? ⟨gs, 1, none⟩ = some (.int .i64 5) := Bs.cell 1
          have cs2 : w3.cell? ⟨gs, 2, none⟩ = some (.int .i64 2) := Bs.cell 2
          have cs3 : w3.cell? ⟨gs, 3, none⟩ = some (.int .i64 11) := Bs.cell 3
          have cs4 : w3.cell? ⟨gs, 4, none⟩ = some (.int .i64 3) := Bs.cell 4
          have cs5 : w3.cell? ⟨gs, 5, none⟩ = some (.int .i64 10) := Bs.cell 5
          have cs6 : w3.cell? ⟨gs, 6, none⟩ = some (.int .i64 6) := Bs.cell 6
          have cs7 : w3.cell? ⟨gs, 7, none⟩ = some (.int .i64 13) := Bs.cell 7
          have cs8 : w3.cell? ⟨gs, 8, none⟩ = some (.int .i64 7) := Bs.cell 8
          have cs9 : w3.cell? ⟨gs, 9, none⟩ = some (.int .i64 12) := Bs.cell 9
          have fs := Bs.frozen; have ls := Bs.lt
          go_wp2_with fail
          clear cn0 cn1; obtain ⟨cn0, cn1⟩ := lcells2 Bn
          replace cs0 : ∀ g : Later w3, g.w.cell? ⟨gs, 0, none⟩ = some (.int .i64 1) := fun g => g.cell (Bs.cell 0)
          replace cs1 : ∀ g : Later w3, g.w.cell? ⟨gs, 1, none⟩ = some (.int .i64 5) := fun g => g.cell (Bs.cell 1)
          replace cs2 : ∀ g : Later w3, g.w.cell? ⟨gs, 2, none⟩ = some (.int .i64 2) := fun g => g.cell (Bs.cell 2)
          replace cs3 : ∀ g : Later w3, g.w.cell? ⟨gs, 3, none⟩ = some (.int .i64 11) := fun g => g.cell (Bs.cell 3)
          replace cs4 : ∀ g : Later w3, g.w.cell? ⟨gs, 4, none⟩ = some (.int .i64 3) := fun g => g.cell (Bs.cell 4)
          replace cs5 : ∀ g : Later w3, g.w.cell? ⟨gs, 5, none⟩ = some (.int .i64 10) := fun g => g.cell (Bs.cell 5)
          replace cs6 : ∀ g : Later w3, g.w.cell? ⟨gs, 6, none⟩ = some (.int .i64 6) := fun g => g.cell (Bs.cell 6)
          replace cs7 : ∀ g : Later w3, g.w.cell? ⟨gs, 7, none⟩ = some (.int .i64 13) := fun g => g.cell (Bs.cell 7)
          replace cs8 : ∀ g : Later w3, g.w.cell? ⟨gs, 8, none⟩ = some (.int .i64 7) := fun g => g.cell (Bs.cell 8)
          replace cs9 : ∀ g : Later w3, g.w.cell? ⟨gs, 9, none⟩ = some (.int .i64 12) := fun g => g.cell (Bs.cell 9)
          refine wp_region_mix 25 (fun _ => #[]) (by kernel_rfl) (by kernel_rfl) (no_alloc (by kernel_rfl)) ?_
          simp only [List.take_succ_cons, List.take_zero, List.drop_succ_cons, List.drop_zero]
          repeat (refine wpMix_step (fun K hK => ?_); go_simp; first | (refine hK _ ?_; clear hK K) | (apply Exists.intro; refine ⟨fun g => ?_, hK _ ?_⟩; ((with_reducible refine Calls.mono (k3 g.w) ?_); exact fun _ _ h => h); clear hK K) | (apply Exists.intro; refine ⟨fun g => ?_, hK _ ?_⟩; ((with_reducible refine Calls.mono (k4 g.w) ?_); exact fun _ _ h => h); clear hK K))
          refine wpMix_nil ?_
          intro G w4 hgr hblk hdist
          have hb : Below w3.heap.size w3 w4 := hgr
          replace Bn := Bn.next hb
          replace Bs := Bs.next hb
          clear cn0 cn1 fn ln
          clear cs0 cs1 cs2 cs3 cs4 cs5 cs6 cs7 cs8 cs9 fs ls
          replace hB : Below w.heap.size w w4 := Bl_trans hB hb
          simp only [putAll, isAlloc]
          clear hb hgr hblk hdist
          obtain ⟨cn0, cn1⟩ := cells2 Bn
          have fn := Bn.frozen; have ln := Bn.lt
          have cs0 : w4.cell? ⟨gs, 0, none⟩ = some (.int .i64 1) := Bs.cell 0
          have cs1 : w4.cell? ⟨gs, 1, none⟩ = some (.int .i64 5) := Bs.cell 1
          have cs2 : w4.cell? ⟨gs, 2, none⟩ = some (.int .i64 2) := Bs.cell 2
          have cs3 : w4.cell? ⟨gs, 3, none⟩ = some (.int .i64 11) := Bs.cell 3
          have cs4 : w4.cell? ⟨gs, 4, none⟩ = some (.int .i64 3) := Bs.cell 4
          have cs5 : w4.cell? ⟨gs, 5, none⟩ = some (.int .i64 10) := Bs.cell 5
          have cs6 : w4.cell? ⟨gs, 6, none⟩ = some (.int .i64 6) := Bs.cell 6
          have cs7 : w4.cell? ⟨gs, 7, none⟩ = some (.int .i64 13) := Bs.cell 7
          have cs8 : w4.cell? ⟨gs, 8, none⟩ = some (.int .i64 7) := Bs.cell 8
          have cs9 : w4.cell? ⟨gs, 9, none⟩ = some (.int .i64 12) := Bs.cell 9
          have fs := Bs.frozen; have ls := Bs.lt
          go_wp2_with fail
          go_roundg 4
          case measure => omega
          case rel => exact ⟨1, by omega, by omega, by go_num, hB, Bn, Bs⟩
      · have k1 := holds_c 2 l p q; have k2 := holds_c 11 l p q; have k3 := holds_c 2 l q p; have k4 := turn_2 l p q
        rw [show PlainBranch.holds 11 l p q = !PlainBranch.holds 2 l p q from PlainBranch.holds_opposite (op := 2) (by unfold PlainBranch.isOp; omega) (by decide) l p q] at k2
        rw [← mirror_2 l p q] at k4
        generalize PlainBranch.holds 2 l p q = H at k1 k2; generalize PlainBranch.holds 2 l q p = V at k3 k4
        cases H
        · replace k2 : ∀ w : World, Calls Try.prog 36 #[.int .i64 11, .bool l, uv p, uv q] w fun e w' => e = .returned (.bool true) ∧ Below w.heap.size w w' := k2
          go_wp2_with fail
          clear cn0 cn1; obtain ⟨cn0, cn1⟩ := lcells2 Bn
          replace cs0 : ∀ g : Later wr, g.w.cell? ⟨gs, 0, none⟩ = some (.int .i64 1) := fun g => g.cell (Bs.cell 0)
          replace cs1 : ∀ g : Later wr, g.w.cell? ⟨gs, 1, none⟩ = some (.int .i64 5) := fun g => g.cell (Bs.cell 1)
          replace cs2 : ∀ g : Later wr, g.w.cell? ⟨gs, 2, none⟩ = some (.int .i64 2) := fun g => g.cell (Bs.cell 2)
          replace cs3 : ∀ g : Later wr, g.w.cell? ⟨gs, 3, none⟩ = some (.int .i64 11) := fun g => g.cell (Bs.cell 3)
          replace cs4 : ∀ g : Later wr, g.w.cell? ⟨gs, 4, none⟩ = some (.int .i64 3) := fun g => g.cell (Bs.cell 4)
          replace cs5 : ∀ g : Later wr, g.w.cell? ⟨gs, 5, none⟩ = some (.int .i64 10) := fun g => g.cell (Bs.cell 5)
          replace cs6 : ∀ g : Later wr, g.w.cell? ⟨gs, 6, none⟩ = some (.int .i64 6) := fun g => g.cell (Bs.cell 6)
          replace cs7 : ∀ g : Later wr, g.w.cell? ⟨gs, 7, none⟩ = some (.int .i64 13) := fun g => g.cell (Bs.cell 7)
          replace cs8 : ∀ g : Later wr, g.w.cell? ⟨gs, 8, none⟩ = some (.int .i64 7) := fun g => g.cell (Bs.cell 8)
          replace cs9 : ∀ g : Later wr, g.w.cell? ⟨gs, 9, none⟩ = some (.int .i64 12) := fun g => g.cell (Bs.cell 9)
          refine wp_region_mix 24 (fun _ => #[]) (by kernel_rfl) (by kernel_rfl) (no_alloc (by kernel_rfl)) ?_
          simp only [List.take_succ_cons, List.take_zero, List.drop_succ_cons, List.drop_zero]
          repeat (refine wpMix_step (fun K hK => ?_); go_simp; first | (refine hK _ ?_; clear hK K) | (apply Exists.intro; refine ⟨fun g => ?_, hK _ ?_⟩; ((with_reducible refine Calls.mono (k1 g.w) ?_); exact fun _ _ h => h); clear hK K) | (apply Exists.intro; refine ⟨fun g => ?_, hK _ ?_⟩; ((with_reducible refine Calls.mono (k2 g.w) ?_); exact fun _ _ h => h); clear hK K))
          refine wpMix_nil ?_
          intro G w3 hgr hblk hdist
          have hb : Below wr.heap.size wr w3 := hgr
          replace Bn := Bn.next hb
          replace Bs := Bs.next hb
          clear cn0 cn1 fn ln
          clear cs0 cs1 cs2 cs3 cs4 cs5 cs6 cs7 cs8 cs9 fs ls
          replace hB : Below w.heap.size w w3 := Bl_trans hB hb
          simp only [putAll, isAlloc]
          clear hb hgr hblk hdist
          obtain ⟨cn0, cn1⟩ := cells2 Bn
          have fn := Bn.frozen; have ln := Bn.lt
          have cs0 : w3.cell? ⟨gs, 0, none⟩ = some (.int .i64 1) := Bs.cell 0
          have cs1 : w3.cell? ⟨gs, 1, none⟩ = some (.int .i64 5) := Bs.cell 1
          have cs2 : w3.cell? ⟨gs, 2, none⟩ = some (.int .i64 2) := Bs.cell 2
          have cs3 : w3.cell? ⟨gs, 3, none⟩ = some (.int .i64 11) := Bs.cell 3
          have cs4 : w3.cell? ⟨gs, 4, none⟩ = some (.int .i64 3) := Bs.cell 4
          have cs5 : w3.cell? ⟨gs, 5, none⟩ = some (.int .i64 10) := Bs.cell 5
          have cs6 : w3.cell? ⟨gs, 6, none⟩ = some (.int .i64 6) := Bs.cell 6
          have cs7 : w3.cell? ⟨gs, 7, none⟩ = some (.int .i64 13) := Bs.cell 7
          have cs8 : w3.cell? ⟨gs, 8, none⟩ = some (.int .i64 7) := Bs.cell 8
          have cs9 : w3.cell? ⟨gs, 9, none⟩ = some (.int .i64 12) := Bs.cell 9
          have fs := Bs.frozen; have ls := Bs.lt
          go_wp2_with fail
          clear cn0 cn1; obtain ⟨cn0, cn1⟩ := lcells2 Bn
          replace cs0 : ∀ g : Later w3, g.w.cell? ⟨gs, 0, none⟩ = some (.int .i64 1) := fun g => g.cell (Bs.cell 0)
          replace cs1 : ∀ g : Later w3, g.w.cell? ⟨gs, 1, none⟩ = some (.int .i64 5) := fun g => g.cell (Bs.cell 1)
          replace cs2 : ∀ g : Later w3, g.w.cell? ⟨gs, 2, none⟩ = some (.int .i64 2) := fun g => g.cell (Bs.cell 2)
          replace cs3 : ∀ g : Later w3, g.w.cell? ⟨gs, 3, none⟩ = some (.int .i64 11) := fun g => g.cell (Bs.cell 3)
          replace cs4 : ∀ g : Later w3, g.w.cell? ⟨gs, 4, none⟩ = some (.int .i64 3) := fun g => g.cell (Bs.cell 4)
          replace cs5 : ∀ g : Later w3, g.w.cell? ⟨gs, 5, none⟩ = some (.int .i64 10) := fun g => g.cell (Bs.cell 5)
          replace cs6 : ∀ g : Later w3, g.w.cell? ⟨gs, 6, none⟩ = some (.int .i64 6) := fun g => g.cell (Bs.cell 6)
          replace cs7 : ∀ g : Later w3, g.w.cell? ⟨gs, 7, none⟩ = some (.int .i64 13) := fun g => g.cell (Bs.cell 7)
          replace cs8 : ∀ g : Later w3, g.w.cell? ⟨gs, 8, none⟩ = some (.int .i64 7) := fun g => g.cell (Bs.cell 8)
          replace cs9 : ∀ g : Later w3, g.w.cell? ⟨gs, 9, none⟩ = some (.int .i64 12) := fun g => g.cell (Bs.cell 9)
          refine wp_region_mix 25 (fun _ => #[]) (by kernel_rfl) (by kernel_rfl) (no_alloc (by kernel_rfl)) ?_
          simp only [List.take_succ_cons, List.take_zero, List.drop_succ_cons, List.drop_zero]
          repeat (refine wpMix_step (fun K hK => ?_); go_simp; first | (refine hK _ ?_; clear hK K) | (apply Exists.intro; refine ⟨fun g => ?_, hK _ ?_⟩; ((with_reducible refine Calls.mono (k3 g.w) ?_); exact fun _ _ h => h); clear hK K) | (apply Exists.intro; refine ⟨fun g => ?_, hK _ ?_⟩; ((with_reducible refine Calls.mono (k4 g.w) ?_); exact fun _ _ h => h); clear hK K))
          refine wpMix_nil ?_
          intro G w4 hgr hblk hdist
          have hb : Below w3.heap.size w3 w4 := hgr
          replace Bn := Bn.next hb
          replace Bs := Bs.next hb
          clear cn0 cn1 fn ln
          clear cs0 cs1 cs2 cs3 cs4 cs5 cs6 cs7 cs8 cs9 fs ls
          replace hB : Below w.heap.size w w4 := Bl_trans hB hb
          simp only [putAll, isAlloc]
          clear hb hgr hblk hdist
          obtain ⟨cn0, cn1⟩ := cells2 Bn
          have fn := Bn.frozen; have ln := Bn.lt
          have cs0 : w4.cell? ⟨gs, 0, none⟩ = some (.int .i64 1) := Bs.cell 0
          have cs1 : w4.cell? ⟨gs, 1, none⟩ = some (.int .i64 5) := Bs.cell 1
          have cs2 : w4.cell? ⟨gs, 2, none⟩ = some (.int .i64 2) := Bs.cell 2
          have cs3 : w4.cell? ⟨gs, 3, none⟩ = some (.int .i64 11) := Bs.cell 3
          have cs4 : w4.cell? ⟨gs, 4, none⟩ = some (.int .i64 3) := Bs.cell 4
          have cs5 : w4.cell? ⟨gs, 5, none⟩ = some (.int .i64 10) := Bs.cell 5
          have cs6 : w4.cell? ⟨gs, 6, none⟩ = some (.int .i64 6) := Bs.cell 6
          have cs7 : w4.cell? ⟨gs, 7, none⟩ = some (.int .i64 13) := Bs.cell 7
          have cs8 : w4.cell? ⟨gs, 8, none⟩ = some (.int .i64 7) := Bs.cell 8
          have cs9 : w4.cell? ⟨gs, 9, none⟩ = some (.int .i64 12) := Bs.cell 9
          have fs := Bs.frozen; have ls := Bs.lt
          go_wp2_with fail
          go_roundg 3
          case measure => omega
          case rel => exact ⟨2, by omega, by omega, by go_num, hB, Bn, Bs⟩
        · replace k2 : ∀ w : World, Calls Try.prog 36 #[.int .i64 11, .bool l, uv p, uv q] w fun e w' => e = .returned (.bool false) ∧ Below w.heap.size w w' := k2
          go_wp2_with fail
          clear cn0 cn1; obtain ⟨cn0, cn1⟩ := lcells2 Bn
          replace cs0 : ∀ g : Later wr, g.w.cell? ⟨gs, 0, none⟩ = some (.int .i64 1) := fun g => g.cell (Bs.cell 0)
          replace cs1 : ∀ g : Later wr, g.w.cell? ⟨gs, 1, none⟩ = some (.int .i64 5) := fun g => g.cell (Bs.cell 1)
          replace cs2 : ∀ g : Later wr, g.w.cell? ⟨gs, 2, none⟩ = some (.int .i64 2) := fun g => g.cell (Bs.cell 2)
          replace cs3 : ∀ g : Later wr, g.w.cell? ⟨gs, 3, none⟩ = some (.int .i64 11) := fun g => g.cell (Bs.cell 3)
          replace cs4 : ∀ g : Later wr, g.w.cell? ⟨gs, 4, none⟩ = some (.int .i64 3) := fun g => g.cell (Bs.cell 4)
          replace cs5 : ∀ g : Later wr, g.w.cell? ⟨gs, 5, none⟩ = some (.int .i64 10) := fun g => g.cell (Bs.cell 5)
          replace cs6 : ∀ g : Later wr, g.w.cell? ⟨gs, 6, none⟩ = some (.int .i64 6) := fun g => g.cell (Bs.cell 6)
          replace cs7 : ∀ g : Later wr, g.w.cell? ⟨gs, 7, none⟩ = some (.int .i64 13) := fun g => g.cell (Bs.cell 7)
          replace cs8 : ∀ g : Later wr, g.w.cell? ⟨gs, 8, none⟩ = some (.int .i64 7) := fun g => g.cell (Bs.cell 8)
          replace cs9 : ∀ g : Later wr, g.w.cell? ⟨gs, 9, none⟩ = some (.int .i64 12) := fun g => g.cell (Bs.cell 9)
          refine wp_region_mix 24 (fun _ => #[]) (by kernel_rfl) (by kernel_rfl) (no_alloc (by kernel_rfl)) ?_
          simp only [List.take_succ_cons, List.take_zero, List.drop_succ_cons, List.drop_zero]
          repeat (refine wpMix_step (fun K hK => ?_); go_simp; first | (refine hK _ ?_; clear hK K) | (apply Exists.intro; refine ⟨fun g => ?_, hK _ ?_⟩; ((with_reducible refine Calls.mono (k1 g.w) ?_); exact fun _ _ h => h); clear hK K) | (apply Exists.intro; refine ⟨fun g => ?_, hK _ ?_⟩; ((with_reducible refine Calls.mono (k2 g.w) ?_); exact fun _ _ h => h); clear hK K))
          refine wpMix_nil ?_
          intro G w3 hgr hblk hdist
          have hb : Below wr.heap.size wr w3 := hgr
          replace Bn := Bn.next hb
          replace Bs := Bs.next hb
          clear cn0 cn1 fn ln
          clear cs0 cs1 cs2 cs3 cs4 cs5 cs6 cs7 cs8 cs9 fs ls
          replace hB : Below w.heap.size w w3 := Bl_trans hB hb
          simp only [putAll, isAlloc]
          clear hb hgr hblk hdist
          obtain ⟨cn0, cn1⟩ := cells2 Bn
          have fn := Bn.frozen; have ln := Bn.lt
          have cs0 : w3.cell? ⟨gs, 0, none⟩ = some (.int .i64 1) := Bs.cell 0
          have cs1 : w3.cell? ⟨gs, 1, none⟩ = some (.int .i64 5) := Bs.cell 1
          have cs2 : w3.cell? ⟨gs, 2, none⟩ = some (.int .i64 2) := Bs.cell 2
          have cs3 : w3.cell? ⟨gs, 3, none⟩ = some (.int .i64 11) := Bs.cell 3
          have cs4 : w3.cell? ⟨gs, 4, none⟩ = some (.int .i64 3) := Bs.cell 4
          have cs5 : w3.cell? ⟨gs, 5, none⟩ = some (.int .i64 10) := Bs.cell 5
          have cs6 : w3.cell? ⟨gs, 6, none⟩ = some (.int .i64 6) := Bs.cell 6
          have cs7 : w3.cell? ⟨gs, 7, none⟩ = some (.int .i64 13) := Bs.cell 7
          have cs8 : w3.cell? ⟨gs, 8, none⟩ = some (.int .i64 7) := Bs.cell 8
          have cs9 : w3.cell? ⟨gs, 9, none⟩ = some (.int .i64 12) := Bs.cell 9
          have fs := Bs.frozen; have ls := Bs.lt
          go_wp2_with fail
          clear cn0 cn1; obtain ⟨cn0, cn1⟩ := lcells2 Bn
          replace cs0 : ∀ g : Later w3, g.w.cell? ⟨gs, 0, none⟩ = some (.int .i64 1) := fun g => g.cell (Bs.cell 0)
          replace cs1 : ∀ g : Later w3, g.w.cell? ⟨gs, 1, none⟩ = some (.int .i64 5) := fun g => g.cell (Bs.cell 1)
          replace cs2 : ∀ g : Later w3, g.w.cell? ⟨gs, 2, none⟩ = some (.int .i64 2) := fun g => g.cell (Bs.cell 2)
          replace cs3 : ∀ g : Later w3, g.w.cell? ⟨gs, 3, none⟩ = some (.int .i64 11) := fun g => g.cell (Bs.cell 3)
          replace cs4 : ∀ g : Later w3, g.w.cell? ⟨gs, 4, none⟩ = some (.int .i64 3) := fun g => g.cell (Bs.cell 4)
          replace cs5 : ∀ g : Later w3, g.w.cell? ⟨gs, 5, none⟩ = some (.int .i64 10) := fun g => g.cell (Bs.cell 5)
          replace cs6 : ∀ g : Later w3, g.w.cell? ⟨gs, 6, none⟩ = some (.int .i64 6) := fun g => g.cell (Bs.cell 6)
          replace cs7 : ∀ g : Later w3, g.w.cell? ⟨gs, 7, none⟩ = some (.int .i64 13) := fun g => g.cell (Bs.cell 7)
          replace cs8 : ∀ g : Later w3, g.w.cell? ⟨gs, 8, none⟩ = some (.int .i64 7) := fun g => g.cell (Bs.cell 8)
          replace cs9 : ∀ g : Later w3, g.w.cell? ⟨gs, 9, none⟩ = some (.int .i64 12) := fun g => g.cell (Bs.cell 9)
          refine wp_region_mix 25 (fun _ => #[]) (by kernel_rfl) (by kernel_rfl) (no_alloc (by kernel_rfl)) ?_
          simp only [List.take_succ_cons, List.take_zero, List.drop_succ_cons, List.drop_zero]
          repeat (refine wpMix_step (fun K hK => ?_); go_simp; first | (refine hK _ ?_; clear hK K) | (apply Exists.intro; refine ⟨fun g => ?_, hK _ ?_⟩; ((with_reducible refine Calls.mono (k3 g.w) ?_); exact fun _ _ h => h); clear hK K) | (apply Exists.intro; refine ⟨fun g => ?_, hK _ ?_⟩; ((with_reducible refine Calls.mono (k4 g.w) ?_); exact fun _ _ h => h); clear hK K))
          refine wpMix_nil ?_
          intro G w4 hgr hblk hdist
          have hb : Below w3.heap.size w3 w4 := hgr
          replace Bn := Bn.next hb
          replace Bs := Bs.next hb
          clear cn0 cn1 fn ln
          clear cs0 cs1 cs2 cs3 cs4 cs5 cs6 cs7 cs8 cs9 fs ls
          replace hB : Below w.heap.size w w4 := Bl_trans hB hb
          simp only [putAll, isAlloc]
          clear hb hgr hblk hdist
          obtain ⟨cn0, cn1⟩ := cells2 Bn
          have fn := Bn.frozen; have ln := Bn.lt
          have cs0 : w4.cell? ⟨gs, 0, none⟩ = some (.int .i64 1) := Bs.cell 0
          have cs1 : w4.cell? ⟨gs, 1, none⟩ = some (.int .i64 5) := Bs.cell 1
          have cs2 : w4.cell? ⟨gs, 2, none⟩ = some (.int .i64 2) := Bs.cell 2
          have cs3 : w4.cell? ⟨gs, 3, none⟩ = some (.int .i64 11) := Bs.cell 3
          have cs4 : w4.cell? ⟨gs, 4, none⟩ = some (.int .i64 3) := Bs.cell 4
          have cs5 : w4.cell? ⟨gs, 5, none⟩ = some (.int .i64 10) := Bs.cell 5
          have cs6 : w4.cell? ⟨gs, 6, none⟩ = some (.int .i64 6) := Bs.cell 6
          have cs7 : w4.cell? ⟨gs, 7, none⟩ = some (.int .i64 13) := Bs.cell 7
          have cs8 : w4.cell? ⟨gs, 8, none⟩ = some (.int .i64 7) := Bs.cell 8
          have cs9 : w4.cell? ⟨gs, 9, none⟩ = some (.int .i64 12) := Bs.cell 9
          have fs := Bs.frozen; have ls := Bs.lt
          go_wp2_with fail
          go_roundg 3
          case measure => omega
          case rel => exact ⟨2, by omega, by omega, by go_num, hB, Bn, Bs⟩
      · have k1 := holds_c 3 l p q; have k2 := holds_c 10 l p q; have k3 := holds_c 3 l q p; have k4 := turn_3 l p q
        rw [show PlainBranch.holds 10 l p q = !PlainBranch.holds 3 l p q from PlainBranch.holds_opposite (op := 3) (by unfold PlainBranch.isOp; omega) (by decide) l p q] at k2
        rw [← mirror_3 l p q] at k4
        generalize PlainBranch.holds 3 l p q = H at k1 k2; generalize PlainBranch.holds 3 l q p = V at k3 k4
        cases H
        · replace k2 : ∀ w : World, Calls Try.prog 36 #[.int .i64 10, .bool l, uv p, uv q] w fun e w' => e = .returned (.bool true) ∧ Below w.heap.size w w' := k2
          go_wp2_with fail
          clear cn0 cn1; obtain ⟨cn0, cn1⟩ := lcells2 Bn
          replace cs0 : ∀ g : Later wr, g.w.cell? ⟨gs, 0, none⟩ = some (.int .i64 1) := fun g => g.cell (Bs.cell 0)
          replace cs1 : ∀ g : Later wr, g.w.cell? ⟨gs, 1, none⟩ = some (.int .i64 5) := fun g => g.cell (Bs.cell 1)
          replace cs2 : ∀ g : Later wr, g.w.cell? ⟨gs, 2, none⟩ = some (.int .i64 2) := fun g => g.cell (Bs.cell 2)
          replace cs3 : ∀ g : Later wr, g.w.cell? ⟨gs, 3, none⟩ = some (.int .i64 11) := fun g => g.cell (Bs.cell 3)
          replace cs4 : ∀ g : Later wr, g.w.cell? ⟨gs, 4, none⟩ = some (.int .i64 3) := fun g => g.cell (Bs.cell 4)
          replace cs5 : ∀ g : Later wr, g.w.cell? ⟨gs, 5, none⟩ = some (.int .i64 10) := fun g => g.cell (Bs.cell 5)
          replace cs6 : ∀ g : Later wr, g.w.cell? ⟨gs, 6, none⟩ = some (.int .i64 6) := fun g => g.cell (Bs.cell 6)
          replace cs7 : ∀ g : Later wr, g.w.cell? ⟨gs, 7, none⟩ = some (.int .i64 13) := fun g => g.cell (Bs.cell 7)
          replace cs8 : ∀ g : Later wr, g.w.cell? ⟨gs, 8, none⟩ = some (.int .i64 7) := fun g => g.cell (Bs.cell 8)
          replace cs9 : ∀ g : Later wr, g.w.cell? ⟨gs, 9, none⟩ = some (.int .i64 12) := fun g => g.cell (Bs.cell 9)
          refine wp_region_mix 24 (fun _ => #[]) (by kernel_rfl) (by kernel_rfl) (no_alloc (by kernel_rfl)) ?_
          simp only [List.take_succ_cons, List.take_zero, List.drop_succ_cons, List.drop_zero]
          repeat (refine wpMix_step (fun K hK => ?_); go_simp; first | (refine hK _ ?_; clear hK K) | (apply Exists.intro; refine ⟨fun g => ?_, hK _ ?_⟩; ((with_reducible refine Calls.mono (k1 g.w) ?_); exact fun _ _ h => h); clear hK K) | (apply Exists.intro; refine ⟨fun g => ?_, hK _ ?_⟩; ((with_reducible refine Calls.mono (k2 g.w) ?_); exact fun _ _ h => h); clear hK K))
          refine wpMix_nil ?_
          intro G w3 hgr hblk hdist
          have hb : Below wr.heap.size wr w3 := hgr
          replace Bn := Bn.next hb
          replace Bs := Bs.next hb
          clear cn0 cn1 fn ln
          clear cs0 cs1 cs2 cs3 cs4 cs5 cs6 cs7 cs8 cs9 fs ls
          replace hB : Below w.heap.size w w3 := Bl_trans hB hb
          simp only [putAll, isAlloc]
          clear hb hgr hblk hdist
          obtain ⟨cn0, cn1⟩ := cells2 Bn
          have fn := Bn.frozen; have ln := Bn.lt
          have cs0 : w3.cell? ⟨gs, 0, none⟩ = some (.int .i64 1) := Bs.cell 0
          have cs1 : w3.cell? ⟨gs, 1, none⟩ = some (.int .i64 5) := Bs.cell 1
          have cs2 : w3.cell? ⟨gs, 2, none⟩ = some (.int .i64 2) := Bs.cell 2
          have cs3 : w3.cell? ⟨gs, 3, none⟩ = some (.int .i64 11) := Bs.cell 3
          have cs4 : w3.cell? ⟨gs, 4, none⟩ = some (.int .i64 3) := Bs.cell 4
          have cs5 : w3.cell? ⟨gs, 5, none⟩ = some (.int .i64 10) := Bs.cell 5
          have cs6 : w3.cell? ⟨gs, 6, none⟩ = some (.int .i64 6) := Bs.cell 6
          have cs7 : w3.cell? ⟨gs, 7, none⟩ = some (.int .i64 13) := Bs.cell 7
          have cs8 : w3.cell? ⟨gs, 8, none⟩ = some (.int .i64 7) := Bs.cell 8
          have cs9 : w3.cell? ⟨gs, 9, none⟩ = some (.int .i64 12) := Bs.cell 9
          have fs := Bs.frozen; have ls := Bs.lt
          go_wp2_with fail
          clear cn0 cn1; obtain ⟨cn0, cn1⟩ := lcells2 Bn
          replace cs0 : ∀ g : Later w3, g.w.cell? ⟨gs, 0, none⟩ = some (.int .i64 1) := fun g => g.cell (Bs.cell 0)
          replace cs1 : ∀ g : Later w3, g.w.cell? ⟨gs, 1, none⟩ = some (.int .i64 5) := fun g => g.cell (Bs.cell 1)
          replace cs2 : ∀ g : Later w3, g.w.cell? ⟨gs, 2, none⟩ = some (.int .i64 2) := fun g => g.cell (Bs.cell 2)
          replace cs3 : ∀ g : Later w3, g.w.cell? ⟨gs, 3, none⟩ = some (.int .i64 11) := fun g => g.cell (Bs.cell 3)
          replace cs4 : ∀ g : Later w3, g.w.cell? ⟨gs, 4, none⟩ = some (.int .i64 3) := fun g => g.cell (Bs.cell 4)
          replace cs5 : ∀ g : Later w3, g.w.cell? ⟨gs, 5, none⟩ = some (.int .i64 10) := fun g => g.cell (Bs.cell 5)
          replace cs6 : ∀ g : Later w3, g.w.cell? ⟨gs, 6, none⟩ = some (.int .i64 6) := fun g => g.cell (Bs.cell 6)
          replace cs7 : ∀ g : Later w3, g.w.cell? ⟨gs, 7, none⟩ = some (.int .i64 13) := fun g => g.cell (Bs.cell 7)
          replace cs8 : ∀ g : Later w3, g.w.cell? ⟨gs, 8, none⟩ = some (.int .i64 7) := fun g => g.cell (Bs.cell 8)
          replace cs9 : ∀ g : Later w3, g.w.cell? ⟨gs, 9, none⟩ = some (.int .i64 12) := fun g => g.cell (Bs.cell 9)
          refine wp_region_mix 25 (fun _ => #[]) (by kernel_rfl) (by kernel_rfl) (no_alloc (by kernel_rfl)) ?_
          simp only [List.take_succ_cons, List.take_zero, List.drop_succ_cons, List.drop_zero]
          repeat (refine wpMix_step (fun K hK => ?_); go_simp; first | (refine hK _ ?_; clear hK K) | (apply Exists.intro; refine ⟨fun g => ?_, hK _ ?_⟩; ((with_reducible refine Calls.mono (k3 g.w) ?_); exact fun _ _ h => h); clear hK K) | (apply Exists.intro; refine ⟨fun g => ?_, hK _ ?_⟩; ((with_reducible refine Calls.mono (k4 g.w) ?_); exact fun _ _ h => h); clear hK K))
          refine wpMix_nil ?_
          intro G w4 hgr hblk hdist
          have hb : Below w3.heap.size w3 w4 := hgr
          replace Bn := Bn.next hb
          replace Bs := Bs.next hb
          clear cn0 cn1 fn ln
          clear cs0 cs1 cs2 cs3 cs4 cs5 cs6 cs7 cs8 cs9 fs ls
          replace hB : Below w.heap.size w w4 := Bl_trans hB hb
          simp only [putAll, isAlloc]
          clear hb hgr hblk hdist
          obtain ⟨cn0, cn1⟩ := cells2 Bn
          have fn := Bn.frozen; have ln := Bn.lt
          have cs0 : w4.cell? ⟨gs, 0, none⟩ = some (.int .i64 1) := Bs.cell 0
          have cs1 : w4.cell? ⟨gs, 1, none⟩ = some (.int .i64 5) := Bs.cell 1
          have cs2 : w4.cell? ⟨gs, 2, none⟩ = some (.int .i64 2) := Bs.cell 2
          have cs3 : w4.cell? ⟨gs, 3, none⟩ = some (.int .i64 11) := Bs.cell 3
          have cs4 : w4.cell? ⟨gs, 4, none⟩ = some (.int .i64 3) := Bs.cell 4
          have cs5 : w4.cell? ⟨gs, 5, none⟩ = some (.int .i64 10) := Bs.cell 5
          have cs6 : w4.cell? ⟨gs, 6, none⟩ = some (.int .i64 6) := Bs.cell 6
          have cs7 : w4.cell? ⟨gs, 7, none⟩ = some (.int .i64 13) := Bs.cell 7
          have cs8 : w4.cell? ⟨gs, 8, none⟩ = some (.int .i64 7) := Bs.cell 8
          have cs9 : w4.cell? ⟨gs, 9, none⟩ = some (.int .i64 12) := Bs.cell 9
          have fs := Bs.frozen; have ls := Bs.lt
          go_wp2_with fail
          go_roundg 2
          case measure => omega
          case rel => exact ⟨3, by omega, by omega, by go_num, hB, Bn, Bs⟩
        · replace k2 : ∀ w : World, Calls Try.prog 36 #[.int .i64 10, .bool l, uv p, uv q] w fun e w' => e = .returned (.bool false) ∧ Below w.heap.size w w' := k2
          go_wp2_with fail
          clear cn0 cn1; obtain ⟨cn0, cn1⟩ := lcells2 Bn
          replace cs0 : ∀ g : Later wr, g.w.cell? ⟨gs, 0, none⟩ = some (.int .i64 1) := fun g => g.cell (Bs.cell 0)
          replace cs1 : ∀ g : Later wr, g.w.cell? ⟨gs, 1, none⟩ = some (.int .i64 5) := fun g => g.cell (Bs.cell 1)
          replace cs2 : ∀ g : Later wr, g.w.cell? ⟨gs, 2, none⟩ = some (.int .i64 2) := fun g => g.cell (Bs.cell 2)
          replace cs3 : ∀ g : Later wr, g.w.cell? ⟨gs, 3, none⟩ = some (.int .i64 11) := fun g => g.cell (Bs.cell 3)
          replace cs4 : ∀ g : Later wr, g.w.cell? ⟨gs, 4, none⟩ = some (.int .i64 3) := fun g => g.cell (Bs.cell 4)
          replace cs5 : ∀ g : Later wr, g.w.cell? ⟨gs, 5, none⟩ = some (.int .i64 10) := fun g => g.cell (Bs.cell 5)
          replace cs6 : ∀ g : Later wr, g.w.cell? ⟨gs, 6, none⟩ = some (.int .i64 6) := fun g => g.cell (Bs.cell 6)
          replace cs7 : ∀ g : Later wr, g.w.cell? ⟨gs, 7, none⟩ = some (.int .i64 13) := fun g => g.cell (Bs.cell 7)
          replace cs8 : ∀ g : Later wr, g.w.cell? ⟨gs, 8, none⟩ = some (.int .i64 7) := fun g => g.cell (Bs.cell 8)
          replace cs9 : ∀ g : Later wr, g.w.cell? ⟨gs, 9, none⟩ = some (.int .i64 12) := fun g => g.cell (Bs.cell 9)
          refine wp_region_mix 24 (fun _ => #[]) (by kernel_rfl) (by kernel_rfl) (no_alloc (by kernel_rfl)) ?_
          simp only [List.take_succ_cons, List.take_zero, List.drop_succ_cons, List.drop_zero]
          repeat (refine wpMix_step (fun K hK => ?_); go_simp; first | (refine hK _ ?_; clear hK K) | (apply Exists.intro; refine ⟨fun g => ?_, hK _ ?_⟩; ((with_reducible refine Calls.mono (k1 g.w) ?_); exact fun _ _ h => h); clear hK K) | (apply Exists.intro; refine ⟨fun g => ?_, hK _ ?_⟩; ((with_reducible refine Calls.mono (k2 g.w) ?_); exact fun _ _ h => h); clear hK K))
          refine wpMix_nil ?_
          intro G w3 hgr hblk hdist
          have hb : Below wr.heap.size wr w3 := hgr
          replace Bn := Bn.next hb
          replace Bs := Bs.next hb
          clear cn0 cn1 fn ln
          clear cs0 cs1 cs2 cs3 cs4 cs5 cs6 cs7 cs8 cs9 fs ls
          replace hB : Below w.heap.size w w3 := Bl_trans hB hb
          simp only [putAll, isAlloc]
          clear hb hgr hblk hdist
          obtain ⟨cn0, cn1⟩ := cells2 Bn
          have fn := Bn.frozen; have ln := Bn.lt
          have cs0 : w3.cell? ⟨gs, 0, none⟩ = some (.int .i64 1) := Bs.cell 0
          have cs1 : w3.cell? ⟨gs, 1, none⟩ = some (.int .i64 5) := Bs.cell 1
          have cs2 : w3.cell? ⟨gs, 2, none⟩ = some (.int .i64 2) := Bs.cell 2
          have cs3 : w3.cell? ⟨gs, 3, none⟩ = some (.int .i64 11) := Bs.cell 3
          have cs4 : w3.cell? ⟨gs, 4, none⟩ = some (.int .i64 3) := Bs.cell 4
          have cs5 : w3.cell? ⟨gs, 5, none⟩ = some (.int .i64 10) := Bs.cell 5
          have cs6 : w3.cell? ⟨gs, 6, none⟩ = some (.int .i64 6) := Bs.cell 6
          have cs7 : w3.cell? ⟨gs, 7, none⟩ = some (.int .i64 13) := Bs.cell 7
          have cs8 : w3.cell? ⟨gs, 8, none⟩ = some (.int .i64 7) := Bs.cell 8
          have cs9 : w3.cell? ⟨gs, 9, none⟩ = some (.int .i64 12) := Bs.cell 9
          have fs := Bs.frozen; have ls := Bs.lt
          go_wp2_with fail
          clear cn0 cn1; obtain ⟨cn0, cn1⟩ := lcells2 Bn
          replace cs0 : ∀ g : Later w3, g.w.cell? ⟨gs, 0, none⟩ = some (.int .i64 1) := fun g => g.cell (Bs.cell 0)
          replace cs1 : ∀ g : Later w3, g.w.cell? ⟨gs, 1, none⟩ = some (.int .i64 5) := fun g => g.cell (Bs.cell 1)
          replace cs2 : ∀ g : Later w3, g.w.cell? ⟨gs, 2, none⟩ = some (.int .i64 2) := fun g => g.cell (Bs.cell 2)
          replace cs3 : ∀ g : Later w3, g.w.cell? ⟨gs, 3, none⟩ = some (.int .i64 11) := fun g => g.cell (Bs.cell 3)
          replace cs4 : ∀ g : Later w3, g.w.cell? ⟨gs, 4, none⟩ = some (.int .i64 3) := fun g => g.cell (Bs.cell 4)
          replace cs5 : ∀ g : Later w3, g.w.cell? ⟨gs, 5, none⟩ = some (.int .i64 10) := fun g => g.cell (Bs.cell 5)
          replace cs6 : ∀ g : Later w3, g.w.cell? ⟨gs, 6, none⟩ = some (.int .i64 6) := fun g => g.cell (Bs.cell 6)
          replace cs7 : ∀ g : Later w3, g.w.cell? ⟨gs, 7, none⟩ = some (.int .i64 13) := fun g => g.cell (Bs.cell 7)
          replace cs8 : ∀ g : Later w3, g.w.cell? ⟨gs, 8, none⟩ = some (.int .i64 7) := fun g => g.cell (Bs.cell 8)
          replace cs9 : ∀ g : Later w3, g.w.cell? ⟨gs, 9, none⟩ = some (.int .i64 12) := fun g => g.cell (Bs.cell 9)
          refine wp_region_mix 25 (fun _ => #[]) (by kernel_rfl) (by kernel_rfl) (no_alloc (by kernel_rfl)) ?_
          simp only [List.take_succ_cons, List.take_zero, List.drop_succ_cons, List.drop_zero]
          repeat (refine wpMix_step (fun K hK => ?_); go_simp; first | (refine hK _ ?_; clear hK K) | (apply Exists.intro; refine ⟨fun g => ?_, hK _ ?_⟩; ((with_reducible refine Calls.mono (k3 g.w) ?_); exact fun _ _ h => h); clear hK K) | (apply Exists.intro; refine ⟨fun g => ?_, hK _ ?_⟩; ((with_reducible refine Calls.mono (k4 g.w) ?_); exact fun _ _ h => h); clear hK K))
          refine wpMix_nil ?_
          intro G w4 hgr hblk hdist
          have hb : Below w3.heap.size w3 w4 := hgr
          replace Bn := Bn.next hb
          replace Bs := Bs.next hb
          clear cn0 cn1 fn ln
          clear cs0 cs1 cs2 cs3 cs4 cs5 cs6 cs7 cs8 cs9 fs ls
          replace hB : Below w.heap.size w w4 := Bl_trans hB hb
          simp only [putAll, isAlloc]
          clear hb hgr hblk hdist
          obtain ⟨cn0, cn1⟩ := cells2 Bn
          have fn := Bn.frozen; have ln := Bn.lt
          have cs0 : w4.cell? ⟨gs, 0, none⟩ = some (.int .i64 1) := Bs.cell 0
          have cs1 : w4.cell? ⟨gs, 1, none⟩ = some (.int .i64 5) := Bs.cell 1
          have cs2 : w4.cell? ⟨gs, 2, none⟩ = some (.int .i64 2) := Bs.cell 2
          have cs3 : w4.cell? ⟨gs, 3, none⟩ = some (.int .i64 11) := Bs.cell 3
          have cs4 : w4.cell? ⟨gs, 4, none⟩ = some (.int .i64 3) := Bs.cell 4
          have cs5 : w4.cell? ⟨gs, 5, none⟩ = some (.int .i64 10) := Bs.cell 5
          have cs6 : w4.cell? ⟨gs, 6, none⟩ = some (.int .i64 6) := Bs.cell 6
          have cs7 : w4.cell? ⟨gs, 7, none⟩ = some (.int .i64 13) := Bs.cell 7
          have cs8 : w4.cell? ⟨gs, 8, none⟩ = some (.int .i64 7) := Bs.cell 8
          have cs9 : w4.cell? ⟨gs, 9, none⟩ = some (.int .i64 12) := Bs.cell 9
          have fs := Bs.frozen; have ls := Bs.lt
          go_wp2_with fail
          go_roundg 2
          case measure => omega
          case rel => exact ⟨3, by omega, by omega, by go_num, hB, Bn, Bs⟩
      · have k1 := holds_c 6 l p q; have k2 := holds_c 13 l p q; have k3 := holds_c 6 l q p; have k4 := turn_6 l p q
        rw [show PlainBranch.holds 13 l p q = !PlainBranch.holds 6 l p q from PlainBranch.holds_opposite (op := 6) (by unfold PlainBranch.isOp; omega) (by decide) l p q] at k2
        rw [← mirror_6 l p q] at k4
        generalize PlainBranch.holds 6 l p q = H at k1 k2; generalize PlainBranch.holds 6 l q p = V at k3 k4
        cases H
        · replace k2 : ∀ w : World, Calls Try.prog 36 #[.int .i64 13, .bool l, uv p, uv q] w fun e w' => e = .returned (.bool true) ∧ Below w.heap.size w w' := k2
          go_wp2_with fail
          clear cn0 cn1; obtain ⟨cn0, cn1⟩ := lcells2 Bn
          replace cs0 : ∀ g : Later wr, g.w.cell? ⟨gs, 0, none⟩ = some (.int .i64 1) := fun g => g.cell (Bs.cell 0)
          replace cs1 : ∀ g : Later wr, g.w.cell? ⟨gs, 1, none⟩ = some (.int .i64 5) := fun g => g.cell (Bs.cell 1)
          replace cs2 : ∀ g : Later wr, g.w.cell? ⟨gs, 2, none⟩ = some (.int .i64 2) := fun g => g.cell (Bs.cell 2)
          replace cs3 : ∀ g : Later wr, g.w.cell? ⟨gs, 3, none⟩ = some (.int .i64 11) := fun g => g.cell (Bs.cell 3)
          replace cs4 : ∀ g : Later wr, g.w.cell? ⟨gs, 4, none⟩ = some (.int .i64 3) := fun g => g.cell (Bs.cell 4)
          replace cs5 : ∀ g : Later wr, g.w.cell? ⟨gs, 5, none⟩ = some (.int .i64 10) := fun g => g.cell (Bs.cell 5)
          replace cs6 : ∀ g : Later wr, g.w.cell? ⟨gs, 6, none⟩ = some (.int .i64 6) := fun g => g.cell (Bs.cell 6)
          replace cs7 : ∀ g : Later wr, g.w.cell? ⟨gs, 7, none⟩ = some (.int .i64 13) := fun g => g.cell (Bs.cell 7)
          replace cs8 : ∀ g : Later wr, g.w.cell? ⟨gs, 8, none⟩ = some (.int .i64 7) := fun g => g.cell (Bs.cell 8)
          replace cs9 : ∀ g : Later wr, g.w.cell? ⟨gs, 9, none⟩ = some (.int .i64 12) := fun g => g.cell (Bs.cell 9)
          refine wp_region_mix 24 (fun _ => #[]) (by kernel_rfl) (by kernel_rfl) (no_alloc (by kernel_rfl)) ?_
          simp only [List.take_succ_cons, List.take_zero, List.drop_succ_cons, List.drop_zero]
          repeat (refine wpMix_step (fun K hK => ?_); go_simp; first | (refine hK _ ?_; clear hK K) | (apply Exists.intro; refine ⟨fun g => ?_, hK _ ?_⟩; ((with_reducible refine Calls.mono (k1 g.w) ?_); exact fun _ _ h => h); clear hK K) | (apply Exists.intro; refine ⟨fun g => ?_, hK _ ?_⟩; ((with_reducible refine Calls.mono (k2 g.w) ?_); exact fun _ _ h => h); clear hK K))
          refine wpMix_nil ?_
          intro G w3 hgr hblk hdist
          have hb : Below wr.heap.size wr w3 := hgr
          replace Bn := Bn.next hb
          replace Bs := Bs.next hb
          clear cn0 cn1 fn ln
          clear cs0 cs1 cs2 cs3 cs4 cs5 cs6 cs7 cs8 cs9 fs ls
          replace hB : Below w.heap.size w w3 := Bl_trans hB hb
          simp only [putAll, isAlloc]
          clear hb hgr hblk hdist
          obtain ⟨cn0, cn1⟩ := cells2 Bn
          have fn := Bn.frozen; have ln := Bn.lt
          have cs0 : w3.cell? ⟨gs, 0, none⟩ = some (.int .i64 1) := Bs.cell 0
          have cs1 : w3.cell? ⟨gs, 1, none⟩ = some (.int .i64 5) := Bs.cell 1
          have cs2 : w3.cell? ⟨gs, 2, none⟩ = some (.int .i64 2) := Bs.cell 2
          have cs3 : w3.cell? ⟨gs, 3, none⟩ = some (.int .i64 11) := Bs.cell 3
          have cs4 : w3.cell? ⟨gs, 4, none⟩ = some (.int .i64 3) := Bs.cell 4
          have cs5 : w3.cell? ⟨gs, 5, none⟩ = some (.int .i64 10) := Bs.cell 5
          have cs6 : w3.cell? ⟨gs, 6, none⟩ = some (.int .i64 6) := Bs.cell 6
          have cs7 : w3.cell? ⟨gs, 7, none⟩ = some (.int .i64 13) := Bs.cell 7
          have cs8 : w3.cell? ⟨gs, 8, none⟩ = some (.int .i64 7) := Bs.cell 8
          have cs9 : w3.cell? ⟨gs, 9, none⟩ = some (.int .i64 12) := Bs.cell 9
          have fs := Bs.frozen; have ls := Bs.lt
          go_wp2_with fail
          clear cn0 cn1; obtain ⟨cn0, cn1⟩ := lcells2 Bn
          replace cs0 : ∀ g : Later w3, g.w.cell? ⟨gs, 0, none⟩ = some (.int .i64 1) := fun g => g.cell (Bs.cell 0)
          replace cs1 : ∀ g : Later w3, g.w.cell? ⟨gs, 1, none⟩ = some (.int .i64 5) := fun g => g.cell (Bs.cell 1)
          replace cs2 : ∀ g : Later w3, g.w.cell? ⟨gs, 2, none⟩ = some (.int .i64 2) := fun g => g.cell (Bs.cell 2)
          replace cs3 : ∀ g : Later w3, g.w.cell? ⟨gs, 3, none⟩ = some (.int .i64 11) := fun g => g.cell (Bs.cell 3)
          replace cs4 : ∀ g : Later w3, g.w.cell? ⟨gs, 4, none⟩ = some (.int .i64 3) := fun g => g.cell (Bs.cell 4)
          replace cs5 : ∀ g : Later w3, g.w.cell? ⟨gs, 5, none⟩ = some (.int .i64 10) := fun g => g.cell (Bs.cell 5)
          replace cs6 : ∀ g : Later w3, g.w.cell? ⟨gs, 6, none⟩ = some (.int .i64 6) := fun g => g.cell (Bs.cell 6)
          replace cs7 : ∀ g : Later w3, g.w.cell? ⟨gs, 7, none⟩ = some (.int .i64 13) := fun g => g.cell (Bs.cell 7)
          replace cs8 : ∀ g : Later w3, g.w.cell? ⟨gs, 8, none⟩ = some (.int .i64 7) := fun g => g.cell (Bs.cell 8)
          replace cs9 : ∀ g : Later w3, g.w.cell? ⟨gs, 9, none⟩ = some (.int .i64 12) := fun g => g.cell (Bs.cell 9)
          refine wp_region_mix 25 (fun _ => #[]) (by kernel_rfl) (by kernel_rfl) (no_alloc (by kernel_rfl)) ?_
          simp only [List.take_succ_cons, List.take_zero, List.drop_succ_cons, List.drop_zero]
          repeat (refine wpMix_step (fun K hK => ?_); go_simp; first | (refine hK _ ?_; clear hK K) | (apply Exists.intro; refine ⟨fun g => ?_, hK _ ?_⟩; ((with_reducible refine Calls.mono (k3 g.w) ?_); exact fun _ _ h => h); clear hK K) | (apply Exists.intro; refine ⟨fun g => ?_, hK _ ?_⟩; ((with_reducible refine Calls.mono (k4 g.w) ?_); exact fun _ _ h => h); clear hK K))
          refine wpMix_nil ?_
          intro G w4 hgr hblk hdist
          have hb : Below w3.heap.size w3 w4 := hgr
          replace Bn := Bn.next hb
          replace Bs := Bs.next hb
          clear cn0 cn1 fn ln
          clear cs0 cs1 cs2 cs3 cs4 cs5 cs6 cs7 cs8 cs9 fs ls
          replace hB : Below w.heap.size w w4 := Bl_trans hB hb
          simp only [putAll, isAlloc]
          clear hb hgr hblk hdist
          obtain ⟨cn0, cn1⟩ := cells2 Bn
          have fn := Bn.frozen; have ln := Bn.lt
          have cs0 : w4.cell? ⟨gs, 0, none⟩ = some (.int .i64 1) := Bs.cell 0
          have cs1 : w4.cell? ⟨gs, 1, none⟩ = some (.int .i64 5) := Bs.cell 1
          have cs2 : w4.cell? ⟨gs, 2, none⟩ = some (.int .i64 2) := Bs.cell 2
          have cs3 : w4.cell? ⟨gs, 3, none⟩ = some (.int .i64 11) := Bs.cell 3
          have cs4 : w4.cell? ⟨gs, 4, none⟩ = some (.int .i64 3) := Bs.cell 4
          have cs5 : w4.cell? ⟨gs, 5, none⟩ = some (.int .i64 10) := Bs.cell 5
          have cs6 : w4.cell? ⟨gs, 6, none⟩ = some (.int .i64 6) := Bs.cell 6
          have cs7 : w4.cell? ⟨gs, 7, none⟩ = some (.int .i64 13) := Bs.cell 7
          have cs8 : w4.cell? ⟨gs, 8, none⟩ = some (.int .i64 7) := Bs.cell 8
          have cs9 : w4.cell? ⟨gs, 9, none⟩ = some (.int .i64 12) := Bs.cell 9
          have fs := Bs.frozen; have ls := Bs.lt
          go_wp2_with fail
          go_roundg 1
          case measure => omega
          case rel => exact ⟨4, by omega, by omega, by go_num, hB, Bn, Bs⟩
        · replace k2 : ∀ w : World, Calls Try.prog 36 #[.int .i64 13, .bool l, uv p, uv q] w fun e w' => e = .returned (.bool false) ∧ Below w.heap.size w w' := k2
          go_wp2_with fail
          clear cn0 cn1; obtain ⟨cn0, cn1⟩ := lcells2 Bn
          replace cs0 : ∀ g : Later wr, g.w.cell? ⟨gs, 0, none⟩ = some (.int .i64 1) := fun g => g.cell (Bs.cell 0)
          replace cs1 : ∀ g : Later wr, g.w.cell? ⟨gs, 1, none⟩ = some (.int .i64 5) := fun g => g.cell (Bs.cell 1)
          replace cs2 : ∀ g : Later wr, g.w.cell? ⟨gs, 2, none⟩ = some (.int .i64 2) := fun g => g.cell (Bs.cell 2)
          replace cs3 : ∀ g : Later wr, g.w.cell? ⟨gs, 3, none⟩ = some (.int .i64 11) := fun g => g.cell (Bs.cell 3)
          replace cs4 : ∀ g : Later wr, g.w.cell? ⟨gs, 4, none⟩ = some (.int .i64 3) := fun g => g.cell (Bs.cell 4)
          replace cs5 : ∀ g : Later wr, g.w.cell? ⟨gs, 5, none⟩ = some (.int .i64 10) := fun g => g.cell (Bs.cell 5)
          replace cs6 : ∀ g : Later wr, g.w.cell? ⟨gs, 6, none⟩ = some (.int .i64 6) := fun g => g.cell (Bs.cell 6)
          replace cs7 : ∀ g : Later wr, g.w.cell? ⟨gs, 7, none⟩ = some (.int .i64 13) := fun g => g.cell (Bs.cell 7)
          replace cs8 : ∀ g : Later wr, g.w.cell? ⟨gs, 8, none⟩ = some (.int .i64 7) := fun g => g.cell (Bs.cell 8)
          replace cs9 : ∀ g : Later wr, g.w.cell? ⟨gs, 9, none⟩ = some (.int .i64 12) := fun g => g.cell (Bs.cell 9)
          refine wp_region_mix 24 (fun _ => #[]) (by kernel_rfl) (by kernel_rfl) (no_alloc (by kernel_rfl)) ?_
          simp only [List.take_succ_cons, List.take_zero, List.drop_succ_cons, List.drop_zero]
          repeat (refine wpMix_step (fun K hK => ?_); go_simp; first | (refine hK _ ?_; clear hK K) | (apply Exists.intro; refine ⟨fun g => ?_, hK _ ?_⟩; ((with_reducible refine Calls.mono (k1 g.w) ?_); exact fun _ _ h => h); clear hK K) | (apply Exists.intro; refine ⟨fun g => ?_, hK _ ?_⟩; ((with_reducible refine Calls.mono (k2 g.w) ?_); exact fun _ _ h => h); clear hK K))
          refine wpMix_nil ?_
          intro G w3 hgr hblk hdist
          have hb : Below wr.heap.size wr w3 := hgr
          replace Bn := Bn.next hb
          replace Bs := Bs.next hb
          clear cn0 cn1 fn ln
          clear cs0 cs1 cs2 cs3 cs4 cs5 cs6 cs7 cs8 cs9 fs ls
          replace hB : Below w.heap.size w w3 := Bl_trans hB hb
          simp only [putAll, isAlloc]
          clear hb hgr hblk hdist
          obtain ⟨cn0, cn1⟩ := cells2 Bn
          have fn := Bn.frozen; have ln := Bn.lt
          have cs0 : w3.cell? ⟨gs, 0, none⟩ = some (.int .i64 1) := Bs.cell 0
          have cs1 : w3.cell? ⟨gs, 1, none⟩ = some (.int .i64 5) := Bs.cell 1
          have cs2 : w3.cell? ⟨gs, 2, none⟩ = some (.int .i64 2) := Bs.cell 2
          have cs3 : w3.cell? ⟨gs, 3, none⟩ = some (.int .i64 11) := Bs.cell 3
          have cs4 : w3.cell? ⟨gs, 4, none⟩ = some (.int .i64 3) := Bs.cell 4
          have cs5 : w3.cell? ⟨gs, 5, none⟩ = some (.int .i64 10) := Bs.cell 5
          have cs6 : w3.cell? ⟨gs, 6, none⟩ = some (.int .i64 6) := Bs.cell 6
          have cs7 : w3.cell? ⟨gs, 7, none⟩ = some (.int .i64 13) := Bs.cell 7
          have cs8 : w3.cell? ⟨gs, 8, none⟩ = some (.int .i64 7) := Bs.cell 8
          have cs9 : w3.cell? ⟨gs, 9, none⟩ = some (.int .i64 12) := Bs.cell 9
          have fs := Bs.frozen; have ls := Bs.lt
          go_wp2_with fail
          clear cn0 cn1; obtain ⟨cn0, cn1⟩ := lcells2 Bn
          replace cs0 : ∀ g : Later w3, g.w.cell? ⟨gs, 0, none⟩ = some (.int .i64 1) := fun g => g.cell (Bs.cell 0)
          replace cs1 : ∀ g : Later w3, g.w.cell? ⟨gs, 1, none⟩ = some (.int .i64 5) := fun g => g.cell (Bs.cell 1)
          replace cs2 : ∀ g : Later w3, g.w.cell? ⟨gs, 2, none⟩ = some (.int .i64 2) := fun g => g.cell (Bs.cell 2)
          replace cs3 : ∀ g : Later w3, g.w.cell? ⟨gs, 3, none⟩ = some (.int .i64 11) := fun g => g.cell (Bs.cell 3)
          replace cs4 : ∀ g : Later w3, g.w.cell? ⟨gs, 4, none⟩ = some (.int .i64 3) := fun g => g.cell (Bs.cell 4)
          replace cs5 : ∀ g : Later w3, g.w.cell? ⟨gs, 5, none⟩ = some (.int .i64 10) := fun g => g.cell (Bs.cell 5)
          replace cs6 : ∀ g : Later w3, g.w.cell? ⟨gs, 6, none⟩ = some (.int .i64 6) := fun g => g.cell (Bs.cell 6)
          replace cs7 : ∀ g : Later w3, g.w.cell? ⟨gs, 7, none⟩ = some (.int .i64 13) := fun g => g.cell (Bs.cell 7)
          replace cs8 : ∀ g : Later w3, g.w.cell? ⟨gs, 8, none⟩ = some (.int .i64 7) := fun g => g.cell (Bs.cell 8)
          replace cs9 : ∀ g : Later w3, g.w.cell? ⟨gs, 9, none⟩ = some (.int .i64 12) := fun g => g.cell (Bs.cell 9)
          refine wp_region_mix 25 (fun _ => #[]) (by kernel_rfl) (by kernel_rfl) (no_alloc (by kernel_rfl)) ?_
          simp only [List.take_succ_cons, List.take_zero, List.drop_succ_cons, List.drop_zero]
          repeat (refine wpMix_step (fun K hK => ?_); go_simp; first | (refine hK _ ?_; clear hK K) | (apply Exists.intro; refine ⟨fun g => ?_, hK _ ?_⟩; ((with_reducible refine Calls.mono (k3 g.w) ?_); exact fun _ _ h => h); clear hK K) | (apply Exists.intro; refine ⟨fun g => ?_, hK _ ?_⟩; ((with_reducible refine Calls.mono (k4 g.w) ?_); exact fun _ _ h => h); clear hK K))
          refine wpMix_nil ?_
          intro G w4 hgr hblk hdist
          have hb : Below w3.heap.size w3 w4 := hgr
          replace Bn := Bn.next hb
          replace Bs := Bs.next hb
          clear cn0 cn1 fn ln
          clear cs0 cs1 cs2 cs3 cs4 cs5 cs6 cs7 cs8 cs9 fs ls
          replace hB : Below w.heap.size w w4 := Bl_trans hB hb
          simp only [putAll, isAlloc]
          clear hb hgr hblk hdist
          obtain ⟨cn0, cn1⟩ := cells2 Bn
          have fn := Bn.frozen; have ln := Bn.lt
          have cs0 : w4.cell? ⟨gs, 0, none⟩ = some (.int .i64 1) := Bs.cell 0
          have cs1 : w4.cell? ⟨gs, 1, none⟩ = some (.int .i64 5) := Bs.cell 1
          have cs2 : w4.cell? ⟨gs, 2, none⟩ = some (.int .i64 2) := Bs.cell 2
          have cs3 : w4.cell? ⟨gs, 3, none⟩ = some (.int .i64 11) := Bs.cell 3
          have cs4 : w4.cell? ⟨gs, 4, none⟩ = some (.int .i64 3) := Bs.cell 4
          have cs5 : w4.cell? ⟨gs, 5, none⟩ = some (.int .i64 10) := Bs.cell 5
          have cs6 : w4.cell? ⟨gs, 6, none⟩ = some (.int .i64 6) := Bs.cell 6
          have cs7 : w4.cell? ⟨gs, 7, none⟩ = some (.int .i64 13) := Bs.cell 7
          have cs8 : w4.cell? ⟨gs, 8, none⟩ = some (.int .i64 7) := Bs.cell 8
          have cs9 : w4.cell? ⟨gs, 9, none⟩ = some (.int .i64 12) := Bs.cell 9
          have fs := Bs.frozen; have ls := Bs.lt
          go_wp2_with fail
          go_roundg 1
          case measure => omega
          case rel => exact ⟨4, by omega, by omega, by go_num, hB, Bn, Bs⟩
      · have k1 := holds_c 7 l p q; have k2 := holds_c 12 l p q; have k3 := holds_c 7 l q p; have k4 := turn_7 l p q
        rw [show PlainBranch.holds 12 l p q = !PlainBranch.holds 7 l p q from PlainBranch.holds_opposite (op := 7) (by unfold PlainBranch.isOp; omega) (by decide) l p q] at k2
        rw [← mirror_7 l p q] at k4
        generalize PlainBranch.holds 7 l p q = H at k1 k2; generalize PlainBranch.holds 7 l q p = V at k3 k4
        cases H
        · replace k2 : ∀ w : World, Calls Try.prog 36 #[.int .i64 12, .bool l, uv p, uv q] w fun e w' => e = .returned (.bool true) ∧ Below w.heap.size w w' := k2
          go_wp2_with fail
          clear cn0 cn1; obtain ⟨cn0, cn1⟩ := lcells2 Bn
          replace cs0 : ∀ g : Later wr, g.w.cell? ⟨gs, 0, none⟩ = some (.int .i64 1) := fun g => g.cell (Bs.cell 0)
          replace cs1 : ∀ g : Later wr, g.w.cell? ⟨gs, 1, none⟩ = some (.int .i64 5) := fun g => g.cell (Bs.cell 1)
          replace cs2 : ∀ g : Later wr, g.w.cell? ⟨gs, 2, none⟩ = some (.int .i64 2) := fun g => g.cell (Bs.cell 2)
          replace cs3 : ∀ g : Later wr, g.w.cell? ⟨gs, 3, none⟩ = some (.int .i64 11) := fun g => g.cell (Bs.cell 3)
          replace cs4 : ∀ g : Later wr, g.w.cell? ⟨gs, 4, none⟩ = some (.int .i64 3) := fun g => g.cell (Bs.cell 4)
          replace cs5 : ∀ g : Later wr, g.w.cell? ⟨gs, 5, none⟩ = some (.int .i64 10) := fun g => g.cell (Bs.cell 5)
          replace cs6 : ∀ g : Later wr, g.w.cell? ⟨gs, 6, none⟩ = some (.int .i64 6) := fun g => g.cell (Bs.cell 6)
          replace cs7 : ∀ g : Later wr, g.w.cell? ⟨gs, 7, none⟩ = some (.int .i64 13) := fun g => g.cell (Bs.cell 7)
          replace cs8 : ∀ g : Later wr, g.w.cell? ⟨gs, 8, none⟩ = some (.int .i64 7) := fun g => g.cell (Bs.cell 8)
          replace cs9 : ∀ g : Later wr, g.w.cell? ⟨gs, 9, none⟩ = some (.int .i64 12) := fun g => g.cell (Bs.cell 9)
          refine wp_region_mix 24 (fun _ => #[]) (by kernel_rfl) (by kernel_rfl) (no_alloc (by kernel_rfl)) ?_
          simp only [List.take_succ_cons, List.take_zero, List.drop_succ_cons, List.drop_zero]
          repeat (refine wpMix_step (fun K hK => ?_); go_simp; first | (refine hK _ ?_; clear hK K) | (apply Exists.intro; refine ⟨fun g => ?_, hK _ ?_⟩; ((with_reducible refine Calls.mono (k1 g.w) ?_); exact fun _ _ h => h); clear hK K) | (apply Exists.intro; refine ⟨fun g => ?_, hK _ ?_⟩; ((with_reducible refine Calls.mono (k2 g.w) ?_); exact fun _ _ h => h); clear hK K))
          refine wpMix_nil ?_
          intro G w3 hgr hblk hdist
          have hb : Below wr.heap.size wr w3 := hgr
          replace Bn := Bn.next hb
          replace Bs := Bs.next hb
          clear cn0 cn1 fn ln
          clear cs0 cs1 cs2 cs3 cs4 cs5 cs6 cs7 cs8 cs9 fs ls
          replace hB : Below w.heap.size w w3 := Bl_trans hB hb
          simp only [putAll, isAlloc]
          clear hb hgr hblk hdist
          obtain ⟨cn0, cn1⟩ := cells2 Bn
          have fn := Bn.frozen; have ln := Bn.lt
          have cs0 : w3.cell? ⟨gs, 0, none⟩ = some (.int .i64 1) := Bs.cell 0
          have cs1 : w3.cell? ⟨gs, 1, none⟩ = some (.int .i64 5) := Bs.cell 1
          have cs2 : w3.cell? ⟨gs, 2, none⟩ = some (.int .i64 2) := Bs.cell 2
          have cs3 : w3.cell? ⟨gs, 3, none⟩ = some (.int .i64 11) := Bs.cell 3
          have cs4 : w3.cell? ⟨gs, 4, none⟩ = some (.int .i64 3) := Bs.cell 4
          have cs5 : w3.cell? ⟨gs, 5, none⟩ = some (.int .i64 10) := Bs.cell 5
          have cs6 : w3.cell? ⟨gs, 6, none⟩ = some (.int .i64 6) := Bs.cell 6
          have cs7 : w3.cell? ⟨gs, 7, none⟩ = some (.int .i64 13) := Bs.cell 7
          have cs8 : w3.cell? ⟨gs, 8, none⟩ = some (.int .i64 7) := Bs.cell 8
          have cs9 : w3.cell? ⟨gs, 9, none⟩ = some (.int .i64 12) := Bs.cell 9
          have fs := Bs.frozen; have ls := Bs.lt
          go_wp2_with fail
          clear cn0 cn1; obtain ⟨cn0, cn1⟩ := lcells2 Bn
          replace cs0 : ∀ g : Later w3, g.w.cell? ⟨gs, 0, none⟩ = some (.int .i64 1) := fun g => g.cell (Bs.cell 0)
          replace cs1 : ∀ g : Later w3, g.w.cell? ⟨gs, 1, none⟩ = some (.int .i64 5) := fun g => g.cell (Bs.cell 1)
          replace cs2 : ∀ g : Later w3, g.w.cell? ⟨gs, 2, none⟩ = some (.int .i64 2) := fun g => g.cell (Bs.cell 2)
          replace cs3 : ∀ g : Later w3, g.w.cell? ⟨gs, 3, none⟩ = some (.int .i64 11) := fun g => g.cell (Bs.cell 3)
          replace cs4 : ∀ g : Later w3, g.w.cell? ⟨gs, 4, none⟩ = some (.int .i64 3) := fun g => g.cell (Bs.cell 4)
          replace cs5 : ∀ g : Later w3, g.w.cell? ⟨gs, 5, none⟩ = some (.int .i64 10) := fun g => g.cell (Bs.cell 5)
          replace cs6 : ∀ g : Later w3, g.w.cell? ⟨gs, 6, none⟩ = some (.int .i64 6) := fun g => g.cell (Bs.cell 6)
          replace cs7 : ∀ g : Later w3, g.w.cell? ⟨gs, 7, none⟩ = some (.int .i64 13) := fun g => g.cell (Bs.cell 7)
          replace cs8 : ∀ g : Later w3, g.w.cell? ⟨gs, 8, none⟩ = some (.int .i64 7) := fun g => g.cell (Bs.cell 8)
          replace cs9 : ∀ g : Later w3, g.w.cell? ⟨gs, 9, none⟩ = some (.int .i64 12) := fun g => g.cell (Bs.cell 9)
          refine wp_region_mix 25 (fun _ => #[]) (by kernel_rfl) (by kernel_rfl) (no_alloc (by kernel_rfl)) ?_
          simp only [List.take_succ_cons, List.take_zero, List.drop_succ_cons, List.drop_zero]
          repeat (refine wpMix_step (fun K hK => ?_); go_simp; first | (refine hK _ ?_; clear hK K) | (apply Exists.intro; refine ⟨fun g => ?_, hK _ ?_⟩; ((with_reducible refine Calls.mono (k3 g.w) ?_); exact fun _ _ h => h); clear hK K) | (apply Exists.intro; refine ⟨fun g => ?_, hK _ ?_⟩; ((with_reducible refine Calls.mono (k4 g.w) ?_); exact fun _ _ h => h); clear hK K))
          refine wpMix_nil ?_
          intro G w4 hgr hblk hdist
          have hb : Below w3.heap.size w3 w4 := hgr
          replace Bn := Bn.next hb
          replace Bs := Bs.next hb
          clear cn0 cn1 fn ln
          clear cs0 cs1 cs2 cs3 cs4 cs5 cs6 cs7 cs8 cs9 fs ls
          replace hB : Below w.heap.size w w4 := Bl_trans hB hb
          simp only [putAll, isAlloc]
          clear hb hgr hblk hdist
          obtain ⟨cn0, cn1⟩ := cells2 Bn
          have fn := Bn.frozen; have ln := Bn.lt
          have cs0 : w4.cell? ⟨gs, 0, none⟩ = some (.int .i64 1) := Bs.cell 0
          have cs1 : w4.cell? ⟨gs, 1, none⟩ = some (.int .i64 5) := Bs.cell 1
          have cs2 : w4.cell? ⟨gs, 2, none⟩ = some (.int .i64 2) := Bs.cell 2
          have cs3 : w4.cell? ⟨gs, 3, none⟩ = some (.int .i64 11) := Bs.cell 3
          have cs4 : w4.cell? ⟨gs, 4, none⟩ = some (.int .i64 3) := Bs.cell 4
          have cs5 : w4.cell? ⟨gs, 5, none⟩ = some (.int .i64 10) := Bs.cell 5
          have cs6 : w4.cell? ⟨gs, 6, none⟩ = some (.int .i64 6) := Bs.cell 6
          have cs7 : w4.cell? ⟨gs, 7, none⟩ = some (.int .i64 13) := Bs.cell 7
          have cs8 : w4.cell? ⟨gs, 8, none⟩ = some (.int .i64 7) := Bs.cell 8
          have cs9 : w4.cell? ⟨gs, 9, none⟩ = some (.int .i64 12) := Bs.cell 9
          have fs := Bs.frozen; have ls := Bs.lt
          go_wp2_with fail
          go_roundg 0
          case measure => omega
          case rel => exact ⟨5, by omega, by omega, by go_num, hB, Bn, Bs⟩
        · replace k2 : ∀ w : World, Calls Try.prog 36 #[.int .i64 12, .bool l, uv p, uv q] w fun e w' => e = .returned (.bool false) ∧ Below w.heap.size w w' := k2
          go_wp2_with fail
          clear cn0 cn1; obtain ⟨cn0, cn1⟩ := lcells2 Bn
          replace cs0 : ∀ g : Later wr, g.w.cell? ⟨gs, 0, none⟩ = some (.int .i64 1) := fun g => g.cell (Bs.cell 0)
          replace cs1 : ∀ g : Later wr, g.w.cell? ⟨gs, 1, none⟩ = some (.int .i64 5) := fun g => g.cell (Bs.cell 1)
          replace cs2 : ∀ g : Later wr, g.w.cell? ⟨gs, 2, none⟩ = some (.int .i64 2) := fun g => g.cell (Bs.cell 2)
          replace cs3 : ∀ g : Later wr, g.w.cell? ⟨gs, 3, none⟩ = some (.int .i64 11) := fun g => g.cell (Bs.cell 3)
          replace cs4 : ∀ g : Later wr, g.w.cell? ⟨gs, 4, none⟩ = some (.int .i64 3) := fun g => g.cell (Bs.cell 4)
          replace cs5 : ∀ g : Later wr, g.w.cell? ⟨gs, 5, none⟩ = some (.int .i64 10) := fun g => g.cell (Bs.cell 5)
          replace cs6 : ∀ g : Later wr, g.w.cell? ⟨gs, 6, none⟩ = some (.int .i64 6) := fun g => g.cell (Bs.cell 6)
          replace cs7 : ∀ g : Later wr, g.w.cell? ⟨gs, 7, none⟩ = some (.int .i64 13) := fun g => g.cell (Bs.cell 7)
          replace cs8 : ∀ g : Later wr, g.w.cell? ⟨gs, 8, none⟩ = some (.int .i64 7) := fun g => g.cell (Bs.cell 8)
          replace cs9 : ∀ g : Later wr, g.w.cell? ⟨gs, 9, none⟩ = some (.int .i64 12) := fun g => g.cell (Bs.cell 9)
          refine wp_region_mix 24 (fun _ => #[]) (by kernel_rfl) (by kernel_rfl) (no_alloc (by kernel_rfl)) ?_
          simp only [List.take_succ_cons, List.take_zero, List.drop_succ_cons, List.drop_zero]
          repeat (refine wpMix_step (fun K hK => ?_); go_simp; first | (refine hK _ ?_; clear hK K) | (apply Exists.intro; refine ⟨fun g => ?_, hK _ ?_⟩; ((with_reducible refine Calls.mono (k1 g.w) ?_); exact fun _ _ h => h); clear hK K) | (apply Exists.intro; refine ⟨fun g => ?_, hK _ ?_⟩; ((with_reducible refine Calls.mono (k2 g.w) ?_); exact fun _ _ h => h); clear hK K))
          refine wpMix_nil ?_
          intro G w3 hgr hblk hdist
          have hb : Below wr.heap.size wr w3 := hgr
          replace Bn := Bn.next hb
          replace Bs := Bs.next hb
          clear cn0 cn1 fn ln
          clear cs0 cs1 cs2 cs3 cs4 cs5 cs6 cs7 cs8 cs9 fs ls
          replace hB : Below w.heap.size w w3 := Bl_trans hB hb
          simp only [putAll, isAlloc]
          clear hb hgr hblk hdist
          obtain ⟨cn0, cn1⟩ := cells2 Bn
          have fn := Bn.frozen; have ln := Bn.lt
          have cs0 : w3.cell? ⟨gs, 0, none⟩ = some (.int .i64 1) := Bs.cell 0
          have cs1 : w3.cell? ⟨gs, 1, none⟩ = some (.int .i64 5) := Bs.cell 1
          have cs2 : w3.cell? ⟨gs, 2, none⟩ = some (.int .i64 2) := Bs.cell 2
          have cs3 : w3.cell? ⟨gs, 3, none⟩ = some (.int .i64 11) := Bs.cell 3
          have cs4 : w3.cell? ⟨gs, 4, none⟩ = some (.int .i64 3) := Bs.cell 4
          have cs5 : w3.cell? ⟨gs, 5, none⟩ = some (.int .i64 10) := Bs.cell 5
          have cs6 : w3.cell? ⟨gs, 6, none⟩ = some (.int .i64 6) := Bs.cell 6
          have cs7 : w3.cell? ⟨gs, 7, none⟩ = some (.int .i64 13) := Bs.cell 7
          have cs8 : w3.cell? ⟨gs, 8, none⟩ = some (.int .i64 7) := Bs.cell 8
          have cs9 : w3.cell? ⟨gs, 9, none⟩ = some (.int .i64 12) := Bs.cell 9
          have fs := Bs.frozen; have ls := Bs.lt
          go_wp2_with fail
          clear cn0 cn1; obtain ⟨cn0, cn1⟩ := lcells2 Bn
          replace cs0 : ∀ g : Later w3, g.w.cell? ⟨gs, 0, none⟩ = some (.int .i64 1) := fun g => g.cell (Bs.cell 0)
          replace cs1 : ∀ g : Later w3, g.w.cell? ⟨gs, 1, none⟩ = some (.int .i64 5) := fun g => g.cell (Bs.cell 1)
          replace cs2 : ∀ g : Later w3, g.w.cell? ⟨gs, 2, none⟩ = some (.int .i64 2) := fun g => g.cell (Bs.cell 2)
          replace cs3 : ∀ g : Later w3, g.w.cell? ⟨gs, 3, none⟩ = some (.int .i64 11) := fun g => g.cell (Bs.cell 3)
          replace cs4 : ∀ g : Later w3, g.w.cell? ⟨gs, 4, none⟩ = some (.int .i64 3) := fun g => g.cell (Bs.cell 4)
          replace cs5 : ∀ g : Later w3, g.w.cell? ⟨gs, 5, none⟩ = some (.int .i64 10) := fun g => g.cell (Bs.cell 5)
          replace cs6 : ∀ g : Later w3, g.w.cell? ⟨gs, 6, none⟩ = some (.int .i64 6) := fun g => g.cell (Bs.cell 6)
          replace cs7 : ∀ g : Later w3, g.w.cell? ⟨gs, 7, none⟩ = some (.int .i64 13) := fun g => g.cell (Bs.cell 7)
          replace cs8 : ∀ g : Later w3, g.w.cell? ⟨gs, 8, none⟩ = some (.int .i64 7) := fun g => g.cell (Bs.cell 8)
          replace cs9 : ∀ g : Later w3, g.w.cell? ⟨gs, 9, none⟩ = some (.int .i64 12) := fun g => g.cell (Bs.cell 9)
          refine wp_region_mix 25 (fun _ => #[]) (by kernel_rfl) (by kernel_rfl) (no_alloc (by kernel_rfl)) ?_
          simp only [List.take_succ_cons, List.take_zero, List.drop_succ_cons, List.drop_zero]
          repeat (refine wpMix_step (fun K hK => ?_); go_simp; first | (refine hK _ ?_; clear hK K) | (apply Exists.intro; refine ⟨fun g => ?_, hK _ ?_⟩; ((with_reducible refine Calls.mono (k3 g.w) ?_); exact fun _ _ h => h); clear hK K) | (apply Exists.intro; refine ⟨fun g => ?_, hK _ ?_⟩; ((with_reducible refine Calls.mono (k4 g.w) ?_); exact fun _ _ h => h); clear hK K))
          refine wpMix_nil ?_
          intro G w4 hgr hblk hdist
          have hb : Below w3.heap.size w3 w4 := hgr
          replace Bn := Bn.next hb
          replace Bs := Bs.next hb
          clear cn0 cn1 fn ln
          clear cs0 cs1 cs2 cs3 cs4 cs5 cs6 cs7 cs8 cs9 fs ls
          replace hB : Below w.heap.size w w4 := Bl_trans hB hb
          simp only [putAll, isAlloc]
          clear hb hgr hblk hdist
          obtain ⟨cn0, cn1⟩ := cells2 Bn
          have fn := Bn.frozen; have ln := Bn.lt
          have cs0 : w4.cell? ⟨gs, 0, none⟩ = some (.int .i64 1) := Bs.cell 0
          have cs1 : w4.cell? ⟨gs, 1, none⟩ = some (.int .i64 5) := Bs.cell 1
          have cs2 : w4.cell? ⟨gs, 2, none⟩ = some (.int .i64 2) := Bs.cell 2
          have cs3 : w4.cell? ⟨gs, 3, none⟩ = some (.int .i64 11) := Bs.cell 3
          have cs4 : w4.cell? ⟨gs, 4, none⟩ = some (.int .i64 3) := Bs.cell 4
          have cs5 : w4.cell? ⟨gs, 5, none⟩ = some (.int .i64 10) := Bs.cell 5
          have cs6 : w4.cell? ⟨gs, 6, none⟩ = some (.int .i64 6) := Bs.cell 6
          have cs7 : w4.cell? ⟨gs, 7, none⟩ = some (.int .i64 13) := Bs.cell 7
          have cs8 : w4.cell? ⟨gs, 8, none⟩ = some (.int .i64 7) := Bs.cell 8
          have cs9 : w4.cell? ⟨gs, 9, none⟩ = some (.int .i64 12) := Bs.cell 9
          have fs := Bs.frozen; have ls := Bs.lt
          go_wp2_with fail
          go_roundg 0
          case measure => omega
          case rel => exact ⟨5, by omega, by omega, by go_num, hB, Bn, Bs⟩
theorem walkN_BranchOpposite (l : Bool) (p q : W) (w : World) : Calls Try.prog 10 #[.bool l, .agg #[.int .u64 (T p), .int .u64 (T q)]] w fun e w' => e = .returned (.bool true) ∧ Below w.heap.size w w' := walk_BranchOpposite l p q w
namespace branchOpposite
set_option maxRecDepth 100000 in
theorem lifted (os : Os) (started : os.Started) (H : Type) (enc : TypeId × Value → H) :
    ReturnsInHanded {} Try.checked os 10 .any (Rows.branchOppositeSpec.pre6 enc Try.prog Try.f10 Rows.branchOppositeRow.domain false) (Rows.branchOppositeSpec.post enc Try.prog Try.f10 false true false false) := by
  refine returnsInHanded_of_change (C := Try.checked) own started (by kernel_rfl) Try.func10
    (ChangeSpec.witness6 (enc := enc) (C := Try.checked) false ⟨#[], #[.bool false, .agg #[.int .u64 0, .int .u64 0]], []⟩ 8 (by kernel_rfl) (by kernel_rfl) (by kernel_rfl) (by kernel_rfl)) ?_
  intro W base args ds gs before hval0 hW hcnd _
  have hval : ∀ (j : Nat) t v, Try.f10.params[j]? = some t → args[j]? = some v → Value.okWide Try.prog W .any base t v := hval0
  have hW' := hW
  obtain ⟨p, q, hA0, hV, rfl, hfz, hnd⟩ := hW
  have hA : DataW.TrodAll enc Try.prog W 0 (fun _ => true) true Try.f10.params.toList args.toList ds p := hA0
  rw [Try.params10] at hA hval
  obtain ⟨v0, vs0, d0, ds0, p0, q0, hargs, rfl, rfl, h0, r0⟩ := trodAll_cons hA
  obtain ⟨v1, vs1, d1, ds1, p1, q1, rfl, rfl, rfl, h1, r1⟩ := trodAll_cons r0
  obtain ⟨rfl, rfl, rfl⟩ := trodAll_nil r1
  obtain rfl : args = #[v0, v1] := by cases args; simp_all
  obtain ⟨rfl, rfl⟩ := trodVars_none hV
  have lt0 : ∀ x ∈ p0, x.block < W.heap.size := by obtain ⟨m, hm⟩ := h0; exact DataW.trod_lt m _ _ _ hm
  obtain ⟨x0, rfl⟩ := okWide_bool Try.underlying4 (hval 0 4 v0 rfl rfl)
  have lt1 : ∀ x ∈ p1, x.block < W.heap.size := by obtain ⟨m, hm⟩ := h1; exact DataW.trod_lt m _ _ _ hm
  obtain ⟨x1, y1, rfl⟩ := open_uu Try.underlying22 (by rw [Try.underlying47]) (by kernel_rfl) (by kernel_rfl) (hval 1 47 v1 rfl rfl)
  refine (walkN_BranchOpposite x0 x1 y1 W).mono fun e W' ⟨he, bel⟩ => ?_
  subst he
  exact ⟨_, rfl, _, _, _, [], _, [], hW', trodAll_mk1 (shut_bool Try.underlying4 _), (trodAll_cons_mk (Below.trod laidOut (by kernel_rfl) (of_decide_eq_true (by kernel_rfl)) h0 bel lt0) (trodAll_cons_mk (Below.trod laidOut (by kernel_rfl) (of_decide_eq_true (by kernel_rfl)) h1 bel lt1) trodAll_mk0)), rfl, bel.frame _, fun h => by cases h⟩
theorem over : Rows.branchOppositeRow.holds Try.pinned (OpenSpec.ofChange Rows.branchOppositeSpec) :=
  OpenClaim.holds_of_wide 10 Try.f10 rfl rfl rfl rfl rfl rfl rfl ⟨rfl, rfl, rfl, rfl, rfl⟩ rfl rfl rfl rfl rfl (by kernel_rfl) Try.func10 (by kernel_rfl)
    (of_decide_eq_true (by kernel_rfl)) (by unfold Func.isWrapper; first | (rw [if_pos (by decide +kernel)]; kernel_rfl) | (rw [if_neg (by decide +kernel)]; exact ⟨rfl, rfl⟩))
    (fun os started H enc _ => lifted os started H enc)
/-- The given statement. -/
theorem proved : Rows.BranchOppositeSaid := over
#print axioms proved
end branchOpposite
end Go.Proofs.Ytmghpoagpiljhab
