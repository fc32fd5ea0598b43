/- AbsregMaybes' own walk: one of its ways. -/
import Derived.Test.YtmghpoagpiljhabMay
set_option linter.unusedSimpArgs false
set_option linter.unusedVariables false
namespace Go.Proofs.Ytmghpoagpiljhab
open Go.RowKit
open PlainTnum (N)
open PlainScalar (Rng)
open PlainAbs (Rg St zr zs upd Im mreg two three)
set_option maxRecDepth 100000 in
set_option maxHeartbeats 8000000 in
theorem may_2t (x sl : Int) (ox : okKey x)  (w : World) : Calls Try.prog 7 #[.agg #[.int .i64 x, .int .i64 x, .int .i64 x], .int .i64 sl, .bool true] w fun e w' => e = .returned (.bool true) ∧ Below w.heap.size w w' := by
  have hW : (!(x == x) || (x == x)) = true := by simp_all
  have k_v : ∀ w : World, Calls Try.prog 31 #[.agg (stv (two sl x x)), .agg (stv (two sl x x))] w fun e w' => e = .returned (.bool true) ∧ Below w.heap.size w w' := fun w => by have h := cover_c (two sl x x) (two sl x x) (fun k _ => ⟨PlainAbs.two_ok sl x x ox ox k, PlainAbs.two_ok sl x x ox ox k⟩) (fun k _ => ⟨show okKey 0 by decide, show okKey 0 by decide⟩) w; rw [PlainAbs.two_covers, hW] at h; exact h
  have k_t := settle_s (three sl x x) x true
  obtain ⟨u0, u6, u1, ul⟩ := PlainAbs.set_c sl x x
  have k_l := load_c (PlainAbs.settleS (three sl x x) x true) (-48) 8; rw [ul] at k_l
  obtain ⟨U, e_U⟩ : ∃ U, U = PlainAbs.settleS (three sl x x) x true := ⟨_, rfl⟩
  rw [← e_U] at k_t k_l u0 u1 u6; clear e_U ul hW
  replace u6 : (U.r 6).kind = 5 := by rw [u6]; simp_all
  have U0 := Lib.hid u0; have U1 := Lib.hid u1; have U6 := Lib.hid u6; clear u0 u1 u6
  have HS1 := Lib.hid (show stv (two sl x x) = setL (setL (stv PlainAbs.start) 0 (gl (mreg sl x))) 66 (gl (mreg sl x)) from by unfold two; rw [show (0 : Nat) = 0 * 11 from rfl, set_r PlainAbs.start (k := 0) (by omega), show (66 : Nat) = 6 * 11 from rfl, set_r _ (k := 6) (by omega)])
  have HT1 := Lib.hid (show stv (two sl x x) = setL (setL (stv PlainAbs.start) 0 (gl (mreg sl x))) 66 (gl (mreg sl x)) from by unfold two; rw [show (0 : Nat) = 0 * 11 from rfl, set_r PlainAbs.start (k := 0) (by omega), show (66 : Nat) = 6 * 11 from rfl, set_r _ (k := 6) (by omega)])
  generalize e1 : two sl x x = S1 at HS1 k_v HT1; have E1 := Lib.hid e1; clear e1
  generalize e3 : three sl x x = S3 at k_t; have E3 := Lib.hid e3; clear e3
  have hst := start_c
  obtain ⟨S0, e0⟩ : ∃ S, S = PlainAbs.start := ⟨_, rfl⟩; rw [← e0] at hst HS1 HT1; clear e0
  have hz := zero_st
  have k_x := tmaybe_c sl x
  have K1 := Lib.hid k_v; have K2 := Lib.hid k_t; have K3 := Lib.hid k_l; clear k_v k_t k_l ox
  go_enter Try.func7, Try.ntmps7
  go_upto_region 1 with fail
  obtain ⟨gp, hgp⟩ : ∃ g, g = w.heap.size := ⟨_, rfl⟩
  have Bp : Blk (w.alloc (.cells #[.int .i64 x, .int .i64 x, .int .i64 x] 71)) (w.heap.size) 71 #[.int .i64 x, .int .i64 x, .int .i64 x] := (Blk.new w 71 #[.int .i64 x, .int .i64 x, .int .i64 x])
  have hB : Below w.heap.size w (w.alloc (.cells #[.int .i64 x, .int .i64 x, .int .i64 x] 71)) := (Bl_alloc (Bl_refl w) _)
  clear hgp
  clear gp
  generalize (w.alloc (.cells #[.int .i64 x, .int .i64 x, .int .i64 x] 71)) = w1 at *
  have cp0 : w1.cell? ⟨w.heap.size, 0, none⟩ = some (.int .i64 x) := Bp.cell 0
  have cp1 : w1.cell? ⟨w.heap.size, 1, none⟩ = some (.int .i64 x) := Bp.cell 1
  have cp2 : w1.cell? ⟨w.heap.size, 2, none⟩ = some (.int .i64 x) := Bp.cell 2
  have fp := Bp.frozen; have lp := Bp.lt
  go_wp2_with fail
  refine (hst _).mono ?_
  rintro e w2 ⟨rfl, hb⟩
  clear cp0 cp1 cp2 fp lp
  replace Bp := (Bp).next hb
  replace hB : Below w.heap.size w w2 := by repeat (first | exact hB | (refine Bl_set ?_ (by first | omega | (simp; omega)) _) | apply Bl_alloc | (refine Bl_trans ?_ hb))
  clear hb
  have cp0 : w2.cell? ⟨w.heap.size, 0, none⟩ = some (.int .i64 x) := Bp.cell 0
  have cp1 : w2.cell? ⟨w.heap.size, 1, none⟩ = some (.int .i64 x) := Bp.cell 1
  have cp2 : w2.cell? ⟨w.heap.size, 2, none⟩ = some (.int .i64 x) := Bp.cell 2
  have fp := Bp.frozen; have lp := Bp.lt
  go_wp2_with fail
  refine (hst _).mono ?_
  rintro e w3 ⟨rfl, hb⟩
  clear cp0 cp1 cp2 fp lp
  replace Bp := (Bp).next hb
  replace hB : Below w.heap.size w w3 := by repeat (first | exact hB | (refine Bl_set ?_ (by first | omega | (simp; omega)) _) | apply Bl_alloc | (refine Bl_trans ?_ hb))
  clear hb
  have cp0 : w3.cell? ⟨w.heap.size, 0, none⟩ = some (.int .i64 x) := Bp.cell 0
  have cp1 : w3.cell? ⟨w.heap.size, 1, none⟩ = some (.int .i64 x) := Bp.cell 1
  have cp2 : w3.cell? ⟨w.heap.size, 2, none⟩ = some (.int .i64 x) := Bp.cell 2
  have fp := Bp.frozen; have lp := Bp.lt
  have hgs := hB.size; have hgt : w.heap.size ≤ w3.heap.size + 1 := by have := hB.size; omega
  have hnps := Nat.ne_of_lt Bp.lt; have hnpt : w.heap.size ≠ w3.heap.size + 1 := by have := Bp.lt; omega
  have hst2 : w3.heap.size ≠ w3.heap.size + 1 := by omega
  go_wp2_with (refine wpList_store_whole rfl 34 (.tmp 7) (.tmp 14) rfl (w3.heap.size) (stv S0) rfl rfl 34 (stv zs) ((Blk.new w3 _ _).alloc _) (size_st S0) (by rw [stv_size, stv_size]) (stv_one S0) ?_)
  clear cp0 cp1 cp2 fp lp
  intro wa hS
  replace Bp := hS.far hnps ((Bp.alloc _).alloc _)
  have Bt : Blk wa (w3.heap.size + 1) 34 (stv zs) := hS.far hst2.symm (by simpa using Blk.new (w3.alloc (.cells (stv zs) 34)) 34 (stv zs))
  have Bs : Blk wa (w3.heap.size) 34 (stv S0) := hS.blk
  replace hB := hS.bel (Bl_alloc (Bl_alloc hB _) _) hgs
  clear hS hst
  generalize w3.heap.size + 1 = gt at *; generalize w3.heap.size = gs at *
  have cp0 : wa.cell? ⟨w.heap.size, 0, none⟩ = some (.int .i64 x) := Bp.cell 0
  have cp1 : wa.cell? ⟨w.heap.size, 1, none⟩ = some (.int .i64 x) := Bp.cell 1
  have cp2 : wa.cell? ⟨w.heap.size, 2, none⟩ = some (.int .i64 x) := Bp.cell 2
  have fp := Bp.frozen; have lp := Bp.lt
  have fs := Bs.frozen; have ls := Bs.lt
  have ft := Bt.frozen; have lt := Bt.lt
  go_wp2_with (refine wpList_store_whole rfl 34 (.tmp 8) (.tmp 15) rfl (gt) (stv S0) rfl rfl 34 (stv zs) Bt (size_st S0) (by rw [stv_size, stv_size]) (stv_one S0) ?_)
  intro w4 hS
  clear cp0 cp1 cp2 fp lp
  clear  fs ls
  clear  ft lt
  replace Bp := hS.far (by first | (simp; done) | (simp; omega) | (simp [*]; done) | (simp only [ne_eq]; constructor <;> omega)) Bp
  replace Bs := hS.far (by first | (simp; done) | (simp; omega) | (simp [*]; done) | (simp only [ne_eq]; constructor <;> omega)) Bs
  replace Bt : Blk w4 (gt) 34 (stv S0) := hS.blk
  replace hB := hS.bel hB (by first | omega | (simp; omega))
  clear hS
  have cp0 : w4.cell? ⟨w.heap.size, 0, none⟩ = some (.int .i64 x) := Bp.cell 0
  have cp1 : w4.cell? ⟨w.heap.size, 1, none⟩ = some (.int .i64 x) := Bp.cell 1
  have cp2 : w4.cell? ⟨w.heap.size, 2, none⟩ = some (.int .i64 x) := Bp.cell 2
  have fp := Bp.frozen; have lp := Bp.lt
  have fs := Bs.frozen; have ls := Bs.lt
  have ft := Bt.frozen; have lt := Bt.lt
  clear hz
  go_wp2_with fail
  clear cp0 cp1 cp2 fp lp
  clear  fs ls
  clear  ft lt
  obtain ⟨I, hI⟩ : ∃ I : World → Prop, ∀ wv, I wv ↔ (Below w.heap.size w wv ∧ Loose wv (gs) 34 (stv S0) (free2 0 ((#[.int .i64 6, .int .u64 0, .int .u64 0, .int .u64 0, .int .u64 0, .int .i64 0, .int .i64 0, .int .i64 sl, .int .i64 x, .int .i64 0, .int .i64 0] : Array Value)).toList.length 66 ((#[.int .i64 6, .int .u64 0, .int .u64 0, .int .u64 0, .int .u64 0, .int .i64 0, .int .i64 0, .int .i64 sl, .int .i64 x, .int .i64 0, .int .i64 0] : Array Value)).toList.length) ∧ Blk wv (w.heap.size) 71 #[.int .i64 x, .int .i64 x, .int .i64 x] ∧ Blk wv (gt) 34 (stv S0)) := ⟨_, fun _ => Iff.rfl⟩
  obtain ⟨D, hD⟩ : ∃ D : Nat → World → Prop, ∀ k wv, D k wv ↔ ((k = 10 → Has wv (gs) 34 0 ((#[.int .i64 6, .int .u64 0, .int .u64 0, .int .u64 0, .int .u64 0, .int .i64 0, .int .i64 0, .int .i64 sl, .int .i64 x, .int .i64 0, .int .i64 0] : Array Value)).toList) ∧ (k = 13 → Has wv (gs) 34 66 ((#[.int .i64 6, .int .u64 0, .int .u64 0, .int .u64 0, .int .u64 0, .int .i64 0, .int .i64 0, .int .i64 sl, .int .i64 x, .int .i64 0, .int .i64 0] : Array Value)).toList)) := ⟨_, fun _ _ => Iff.rfl⟩
  have hI0 : I w4 := (hI _).2 ⟨hB, Loose.of Bs _, Bp, Bt⟩
  have lp := Bp.lt; clear Bp
  have ls := Bs.lt; clear Bs
  have lt := Bt.lt; clear Bt
  have iBp : ∀ g : In I, Blk g.w (w.heap.size) 71 #[.int .i64 x, .int .i64 x, .int .i64 x] := fun g => ((hI _).1 g.is).2.2.1
  have cp0 : ∀ g : In I, g.w.cell? ⟨w.heap.size, 0, none⟩ = some (.int .i64 x) := fun g => (iBp g).cell 0
  have cp1 : ∀ g : In I, g.w.cell? ⟨w.heap.size, 1, none⟩ = some (.int .i64 x) := fun g => (iBp g).cell 1
  have cp2 : ∀ g : In I, g.w.cell? ⟨w.heap.size, 2, none⟩ = some (.int .i64 x) := fun g => (iBp g).cell 2
  have iBt : ∀ g : In I, Blk g.w (gt) 34 (stv S0) := fun g => ((hI _).1 g.is).2.2.2
  have hIg : ∀ x y, Grows x y → I x → I y := fun x y hg hx => by
    obtain ⟨hb, hL, m0, m1⟩ := (hI _).1 hx
    exact (hI _).2 ⟨Bl_trans hb hg, hL.next hg, m0.next hg, m1.next hg⟩
  have hDg : ∀ k x y, Grows x y → D k x → D k y := fun k x y hg hx => by
    obtain ⟨d0, d1⟩ := (hD _ _).1 hx
    exact (hD _ _).2 ⟨fun e => (d0 e).next hg, fun e => (d1 e).next hg⟩
  have hDt : ∀ k, (k == 10 || k == 13) = false → ∀ x, D k x := fun k hk x => (hD _ _).2 ⟨fun e => by subst e; simp at hk, fun e => by subst e; simp at hk⟩
  have hS10 : ∀ (g : In I) {o : Oper} {ρ : Operand → Value}, o.op = .store 29 (.tmp 25) (.tmp 19) → ρ (.tmp 25) = .pointer (some ⟨gs, 0, none⟩) → ρ (.tmp 19) = .agg (#[.int .i64 6, .int .u64 0, .int .u64 0, .int .u64 0, .int .u64 0, .int .i64 0, .int .i64 0, .int .i64 sl, .int .i64 x, .int .i64 0, .int .i64 0] : Array Value) → ∃ w', (execOp ρ o).run Try.prog g.w = .ok .skip w' ∧ I w' ∧ D 10 w' ∧ ∀ j, D j g.w → D j w' := fun g o ρ ho hp hv => by
    obtain ⟨hb, hL, m0, m1⟩ := (hI _).1 g.is
    obtain ⟨w', hrun, hL', hH, hkeep, hoth, hbel⟩ := run_store_loose 29 (.tmp 25) (.tmp 19) ho (gs) 0 34 (stv S0) (#[.int .i64 6, .int .u64 0, .int .u64 0, .int .u64 0, .int .u64 0, .int .i64 0, .int .i64 0, .int .i64 sl, .int .i64 x, .int .i64 0, .int .i64 0] : Array Value) _ hp hv hL (size_re _ _ _ _ _ _ _ _ _ _ _) (by rw [stv_size]; simp) (fun i h1 h2 => free2_l h1 (by simpa using h2)) (gl_one (mreg sl x))
    refine ⟨w', hrun, (hI _).2 ⟨hbel _ _ hb (by first | omega | (simp; omega)), hL', (hoth _ (by first | (simp; done) | (simp; omega) | (simp [*]; done) | (simp only [ne_eq]; constructor <;> omega))).trans m0, (hoth _ (by first | (simp; done) | (simp; omega) | (simp [*]; done) | (simp only [ne_eq]; constructor <;> omega))).trans m1⟩, (hD _ _).2 ?_, fun j hj => (hD _ _).2 ?_⟩
    · exact ⟨fun _ => hH, fun e => absurd e (by decide)⟩
    · exact ⟨fun _ => hH, fun e => hkeep _ _ (by simp) (((hD _ _).1 hj).2 e)⟩
  have hS13 : ∀ (g : In I) {o : Oper} {ρ : Operand → Value}, o.op = .store 29 (.tmp 27) (.tmp 23) → ρ (.tmp 27) = .pointer (some ⟨gs, 66, none⟩) → ρ (.tmp 23) = .agg (#[.int .i64 6, .int .u64 0, .int .u64 0, .int .u64 0, .int .u64 0, .int .i64 0, .int .i64 0, .int .i64 sl, .int .i64 x, .int .i64 0, .int .i64 0] : Array Value) → ∃ w', (execOp ρ o).run Try.prog g.w = .ok .skip w' ∧ I w' ∧ D 13 w' ∧ ∀ j, D j g.w → D j w' := fun g o ρ ho hp hv => by
    obtain ⟨hb, hL, m0, m1⟩ := (hI _).1 g.is
    obtain ⟨w', hrun, hL', hH, hkeep, hoth, hbel⟩ := run_store_loose 29 (.tmp 27) (.tmp 23) ho (gs) 66 34 (stv S0) (#[.int .i64 6, .int .u64 0, .int .u64 0, .int .u64 0, .int .u64 0, .int .i64 0, .int .i64 0, .int .i64 sl, .int .i64 x, .int .i64 0, .int .i64 0] : Array Value) _ hp hv hL (size_re _ _ _ _ _ _ _ _ _ _ _) (by rw [stv_size]; simp) (fun i h1 h2 => free2_r h1 (by simpa using h2)) (gl_one (mreg sl x))
    refine ⟨w', hrun, (hI _).2 ⟨hbel _ _ hb (by first | omega | (simp; omega)), hL', (hoth _ (by first | (simp; done) | (simp; omega) | (simp [*]; done) | (simp only [ne_eq]; constructor <;> omega))).trans m0, (hoth _ (by first | (simp; done) | (simp; omega) | (simp [*]; done) | (simp only [ne_eq]; constructor <;> omega))).trans m1⟩, (hD _ _).2 ?_, fun j hj => (hD _ _).2 ?_⟩
    · exact ⟨fun e => absurd e (by decide), fun _ => hH⟩
    · exact ⟨fun e => hkeep _ _ (by simp) (((hD _ _).1 hj).1 e), fun _ => hH⟩
  refine wp_region_mixP I D (fun k => k == 10 || k == 13) (by kernel_rfl) (by kernel_rfl) (by kernel_rfl) hI0 hIg hDg hDt ?_
  have hne_I : Nonempty (In I) := ⟨⟨_, hI0⟩⟩
  clear hIg hDg hDt hI0
  repeat ((with_reducible refine wpMixP_step (fun K hK => ?_)); go_simp; first | ((with_reducible refine hK _ ?_); clear hK K) | (rw [if_neg (by decide)]; (with_reducible refine hK _ ?_); clear hK K) | (apply Exists.intro; refine ⟨fun g => ?_, hK _ ?_⟩; ((with_reducible refine Calls.mono (k_x g.w) ?_); exact fun _ _ h => h); clear hK K) | (refine ⟨⟨rfl, fun g => ?_⟩, hK _ ?_⟩; (exact hS10 g rfl rfl rfl); clear hK K) | (refine ⟨⟨rfl, fun g => ?_⟩, hK _ ?_⟩; (exact hS13 g rfl rfl rfl); clear hK K))
  refine wpMixP_nil ?_
  intro w5 hIw hDw
  clear hB hS10 hS13 iBp iBt cp0 cp1 cp2
  obtain ⟨hB, hL, Bp, Bt⟩ := (hI _).1 hIw
  have hBb := hL.close2 (((hD _ _).1 (hDw 10 (by decide))).1 rfl) (((hD _ _).1 (hDw 13 (by decide))).2 rfl) (by simp) (by rw [stv_size]; simp)
  have Bs : Blk w5 (gs) 34 (stv S1) := by rw [HS1.out]; exact hBb
  clear hBb hL hne_I hIw hDw hI hD I D lp ls lt
  have cp0 : w5.cell? ⟨w.heap.size, 0, none⟩ = some (.int .i64 x) := Bp.cell 0
  have cp1 : w5.cell? ⟨w.heap.size, 1, none⟩ = some (.int .i64 x) := Bp.cell 1
  have cp2 : w5.cell? ⟨w.heap.size, 2, none⟩ = some (.int .i64 x) := Bp.cell 2
  have fp := Bp.frozen; have lp := Bp.lt
  have fs := Bs.frozen; have ls := Bs.lt
  have ft := Bt.frozen; have lt := Bt.lt
  go_wp2_with fail
  clear cp0 cp1 cp2 fp lp
  clear  fs ls
  clear  ft lt
  obtain ⟨I, hI⟩ : ∃ I : World → Prop, ∀ wv, I wv ↔ (Below w.heap.size w wv ∧ Loose wv (gt) 34 (stv S0) (free2 0 ((#[.int .i64 6, .int .u64 0, .int .u64 0, .int .u64 0, .int .u64 0, .int .i64 0, .int .i64 0, .int .i64 sl, .int .i64 x, .int .i64 0, .int .i64 0] : Array Value)).toList.length 66 ((#[.int .i64 6, .int .u64 0, .int .u64 0, .int .u64 0, .int .u64 0, .int .i64 0, .int .i64 0, .int .i64 sl, .int .i64 x, .int .i64 0, .int .i64 0] : Array Value)).toList.length) ∧ Blk wv (w.heap.size) 71 #[.int .i64 x, .int .i64 x, .int .i64 x] ∧ Blk wv (gs) 34 ((stv S1))) := ⟨_, fun _ => Iff.rfl⟩
  obtain ⟨D, hD⟩ : ∃ D : Nat → World → Prop, ∀ k wv, D k wv ↔ ((k = 10 → Has wv (gt) 34 0 ((#[.int .i64 6, .int .u64 0, .int .u64 0, .int .u64 0, .int .u64 0, .int .i64 0, .int .i64 0, .int .i64 sl, .int .i64 x, .int .i64 0, .int .i64 0] : Array Value)).toList) ∧ (k = 13 → Has wv (gt) 34 66 ((#[.int .i64 6, .int .u64 0, .int .u64 0, .int .u64 0, .int .u64 0, .int .i64 0, .int .i64 0, .int .i64 sl, .int .i64 x, .int .i64 0, .int .i64 0] : Array Value)).toList)) := ⟨_, fun _ _ => Iff.rfl⟩
  have hI0 : I w5 := (hI _).2 ⟨hB, Loose.of Bt _, Bp, Bs⟩
  have lp := Bp.lt; clear Bp
  have ls := Bs.lt; clear Bs
  have lt := Bt.lt; clear Bt
  have iBp : ∀ g : In I, Blk g.w (w.heap.size) 71 #[.int .i64 x, .int .i64 x, .int .i64 x] := fun g => ((hI _).1 g.is).2.2.1
  have cp0 : ∀ g : In I, g.w.cell? ⟨w.heap.size, 0, none⟩ = some (.int .i64 x) := fun g => (iBp g).cell 0
  have cp1 : ∀ g : In I, g.w.cell? ⟨w.heap.size, 1, none⟩ = some (.int .i64 x) := fun g => (iBp g).cell 1
  have cp2 : ∀ g : In I, g.w.cell? ⟨w.heap.size, 2, none⟩ = some (.int .i64 x) := fun g => (iBp g).cell 2
  have iBs : ∀ g : In I, Blk g.w (gs) 34 ((stv S1)) := fun g => ((hI _).1 g.is).2.2.2
  have hIg : ∀ x y, Grows x y → I x → I y := fun x y hg hx => by
    obtain ⟨hb, hL, m0, m1⟩ := (hI _).1 hx
    exact (hI _).2 ⟨Bl_trans hb hg, hL.next hg, m0.next hg, m1.next hg⟩
  have hDg : ∀ k x y, Grows x y → D k x → D k y := fun k x y hg hx => by
    obtain ⟨d0, d1⟩ := (hD _ _).1 hx
    exact (hD _ _).2 ⟨fun e => (d0 e).next hg, fun e => (d1 e).next hg⟩
  have hDt : ∀ k, (k == 10 || k == 13) = false → ∀ x, D k x := fun k hk x => (hD _ _).2 ⟨fun e => by subst e; simp at hk, fun e => by subst e; simp at hk⟩
  have hS10 : ∀ (g : In I) {o : Oper} {ρ : Operand → Value}, o.op = .store 29 (.tmp 37) (.tmp 31) → ρ (.tmp 37) = .pointer (some ⟨gt, 0, none⟩) → ρ (.tmp 31) = .agg (#[.int .i64 6, .int .u64 0, .int .u64 0, .int .u64 0, .int .u64 0, .int .i64 0, .int .i64 0, .int .i64 sl, .int .i64 x, .int .i64 0, .int .i64 0] : Array Value) → ∃ w', (execOp ρ o).run Try.prog g.w = .ok .skip w' ∧ I w' ∧ D 10 w' ∧ ∀ j, D j g.w → D j w' := fun g o ρ ho hp hv => by
    obtain ⟨hb, hL, m0, m1⟩ := (hI _).1 g.is
    obtain ⟨w', hrun, hL', hH, hkeep, hoth, hbel⟩ := run_store_loose 29 (.tmp 37) (.tmp 31) ho (gt) 0 34 (stv S0) (#[.int .i64 6, .int .u64 0, .int .u64 0, .int .u64 0, .int .u64 0, .int .i64 0, .int .i64 0, .int .i64 sl, .int .i64 x, .int .i64 0, .int .i64 0] : Array Value) _ hp hv hL (size_re _ _ _ _ _ _ _ _ _ _ _) (by rw [stv_size]; simp) (fun i h1 h2 => free2_l h1 (by simpa using h2)) (gl_one (mreg sl x))
    refine ⟨w', hrun, (hI _).2 ⟨hbel _ _ hb (by first | omega | (simp; omega)), hL', (hoth _ (by first | (simp; done) | (simp; omega) | (simp [*]; done) | (simp only [ne_eq]; constructor <;> omega))).trans m0, (hoth _ (by first | (simp; done) | (simp; omega) | (simp [*]; done) | (simp only [ne_eq]; constructor <;> omega))).trans m1⟩, (hD _ _).2 ?_, fun j hj => (hD _ _).2 ?_⟩
    · exact ⟨fun _ => hH, fun e => absurd e (by decide)⟩
    · exact ⟨fun _ => hH, fun e => hkeep _ _ (by simp) (((hD _ _).1 hj).2 e)⟩
  have hS13 : ∀ (g : In I) {o : Oper} {ρ : Operand → Value}, o.op = .store 29 (.tmp 39) (.tmp 35) → ρ (.tmp 39) = .pointer (some ⟨gt, 66, none⟩) → ρ (.tmp 35) = .agg (#[.int .i64 6, .int .u64 0, .int .u64 0, .int .u64 0, .int .u64 0, .int .i64 0, .int .i64 0, .int .i64 sl, .int .i64 x, .int .i64 0, .int .i64 0] : Array Value) → ∃ w', (execOp ρ o).run Try.prog g.w = .ok .skip w' ∧ I w' ∧ D 13 w' ∧ ∀ j, D j g.w → D j w' := fun g o ρ ho hp hv => by
    obtain ⟨hb, hL, m0, m1⟩ := (hI _).1 g.is
    obtain ⟨w', hrun, hL', hH, hkeep, hoth, hbel⟩ := run_store_loose 29 (.tmp 39) (.tmp 35) ho (gt) 66 34 (stv S0) (#[.int .i64 6, .int .u64 0, .int .u64 0, .int .u64 0, .int .u64 0, .int .i64 0, .int .i64 0, .int .i64 sl, .int .i64 x, .int .i64 0, .int .i64 0] : Array Value) _ hp hv hL (size_re _ _ _ _ _ _ _ _ _ _ _) (by rw [stv_size]; simp) (fun i h1 h2 => free2_r h1 (by simpa using h2)) (gl_one (mreg sl x))
    refine ⟨w', hrun, (hI _).2 ⟨hbel _ _ hb (by first | omega | (simp; omega)), hL', (hoth _ (by first | (simp; done) | (simp; omega) | (simp [*]; done) | (simp only [ne_eq]; constructor <;> omega))).trans m0, (hoth _ (by first | (simp; done) | (simp; omega) | (simp [*]; done) | (simp only [ne_eq]; constructor <;> omega))).trans m1⟩, (hD _ _).2 ?_, fun j hj => (hD _ _).2 ?_⟩
    · exact ⟨fun e => absurd e (by decide), fun _ => hH⟩
    · exact ⟨fun e => hkeep _ _ (by simp) (((hD _ _).1 hj).1 e), fun _ => hH⟩
  refine wp_region_mixP I D (fun k => k == 10 || k == 13) (by kernel_rfl) (by kernel_rfl) (by kernel_rfl) hI0 hIg hDg hDt ?_
  have hne_I : Nonempty (In I) := ⟨⟨_, hI0⟩⟩
  clear hIg hDg hDt hI0
  repeat ((with_reducible refine wpMixP_step (fun K hK => ?_)); go_simp; first | ((with_reducible refine hK _ ?_); clear hK K) | (rw [if_neg (by decide)]; (with_reducible refine hK _ ?_); clear hK K) | (apply Exists.intro; refine ⟨fun g => ?_, hK _ ?_⟩; ((with_reducible refine Calls.mono (k_x g.w) ?_); exact fun _ _ h => h); clear hK K) | (refine ⟨⟨rfl, fun g => ?_⟩, hK _ ?_⟩; (exact hS10 g rfl rfl rfl); clear hK K) | (refine ⟨⟨rfl, fun g => ?_⟩, hK _ ?_⟩; (exact hS13 g rfl rfl rfl); clear hK K))
  refine wpMixP_nil ?_
  intro w6 hIw hDw
  clear hB hS10 hS13 iBp iBs cp0 cp1 cp2
  obtain ⟨hB, hL, Bp, Bs⟩ := (hI _).1 hIw
  have hBb := hL.close2 (((hD _ _).1 (hDw 10 (by decide))).1 rfl) (((hD _ _).1 (hDw 13 (by decide))).2 rfl) (by simp) (by rw [stv_size]; simp)
  have Bt : Blk w6 (gt) 34 (stv S1) := by rw [HT1.out]; exact hBb
  clear hBb hL hne_I hIw hDw hI hD I D lp ls lt
  have cp0 : w6.cell? ⟨w.heap.size, 0, none⟩ = some (.int .i64 x) := Bp.cell 0
  have cp1 : w6.cell? ⟨w.heap.size, 1, none⟩ = some (.int .i64 x) := Bp.cell 1
  have cp2 : w6.cell? ⟨w.heap.size, 2, none⟩ = some (.int .i64 x) := Bp.cell 2
  have fp := Bp.frozen; have lp := Bp.lt
  have fs := Bs.frozen; have ls := Bs.lt
  have ft := Bt.frozen; have lt := Bt.lt
  have KX := Lib.hid k_x; clear HS1 HT1 k_x
  go_wp2_with fail
  refine (saves_c _).mono ?_
  rintro e w7 ⟨rfl, hb⟩
  clear cp0 cp1 cp2 fp lp
  clear  fs ls
  clear  ft lt
  replace Bp := (Bp).next hb
  replace Bs := (Bs).next hb
  replace Bt := (Bt).next hb
  replace hB : Below w.heap.size w w7 := by repeat (first | exact hB | (refine Bl_set ?_ (by first | omega | (simp; omega)) _) | apply Bl_alloc | (refine Bl_trans ?_ hb))
  clear hb
  have cp0 : w7.cell? ⟨w.heap.size, 0, none⟩ = some (.int .i64 x) := Bp.cell 0
  have cp1 : w7.cell? ⟨w.heap.size, 1, none⟩ = some (.int .i64 x) := Bp.cell 1
  have cp2 : w7.cell? ⟨w.heap.size, 2, none⟩ = some (.int .i64 x) := Bp.cell 2
  have fp := Bp.frozen; have lp := Bp.lt
  have fs := Bs.frozen; have ls := Bs.lt
  have ft := Bt.frozen; have lt := Bt.lt
  go_wp2_with fail
  refine wp_load_row 34 (.tmp 7) rfl (gs) rfl 34 (stv S1) (0, 0) _ Bs Try.underlying34 rfl (size_st S1) ?_
  go_wp2_with fail
  refine wp_load_row 34 (.tmp 8) rfl (gt) rfl 34 (stv S1) (0, 0) _ Bt Try.underlying34 rfl (size_st S1) ?_
  have k_v := K1.out
  go_wp2_with fail
  refine (k_v _).mono ?_
  rintro e w8 ⟨rfl, hb⟩
  clear cp0 cp1 cp2 fp lp
  clear  fs ls
  clear  ft lt
  replace Bp := (Bp).next hb
  replace Bs := (Bs).next hb
  replace Bt := (Bt).next hb
  replace hB : Below w.heap.size w w8 := by repeat (first | exact hB | (refine Bl_set ?_ (by first | omega | (simp; omega)) _) | apply Bl_alloc | (refine Bl_trans ?_ hb))
  clear hb
  have cp0 : w8.cell? ⟨w.heap.size, 0, none⟩ = some (.int .i64 x) := Bp.cell 0
  have cp1 : w8.cell? ⟨w.heap.size, 1, none⟩ = some (.int .i64 x) := Bp.cell 1
  have cp2 : w8.cell? ⟨w.heap.size, 2, none⟩ = some (.int .i64 x) := Bp.cell 2
  have fp := Bp.frozen; have lp := Bp.lt
  have fs := Bs.frozen; have ls := Bs.lt
  have ft := Bt.frozen; have lt := Bt.lt
  clear k_v
  go_wp2_with fail
  refine (KX.out _).mono ?_
  rintro e w9 ⟨rfl, hb⟩
  clear cp0 cp1 cp2 fp lp
  clear  fs ls
  clear  ft lt
  replace Bp := (Bp).next hb
  replace Bs := (Bs).next hb
  replace Bt := (Bt).next hb
  replace hB : Below w.heap.size w w9 := by repeat (first | exact hB | (refine Bl_set ?_ (by first | omega | (simp; omega)) _) | apply Bl_alloc | (refine Bl_trans ?_ hb))
  clear hb
  have cp0 : w9.cell? ⟨w.heap.size, 0, none⟩ = some (.int .i64 x) := Bp.cell 0
  have cp1 : w9.cell? ⟨w.heap.size, 1, none⟩ = some (.int .i64 x) := Bp.cell 1
  have cp2 : w9.cell? ⟨w.heap.size, 2, none⟩ = some (.int .i64 x) := Bp.cell 2
  have fp := Bp.frozen; have lp := Bp.lt
  have fs := Bs.frozen; have ls := Bs.lt
  have ft := Bt.frozen; have lt := Bt.lt
  go_wp2_with (refine wpList_store_part rfl 29 (.tmp 66) (.tmp 64) rfl (gs) (207) _ rfl rfl 34 (stv S1) Bs (by kernel_rfl) (by rw [stv_size]; simp; try omega) (gl_one (mreg sl x)) ?_)
  intro w10 hS
  clear cp0 cp1 cp2 fp lp
  clear  fs ls
  clear  ft lt
  replace Bp := hS.far (by first | (simp; done) | (simp; omega) | (simp [*]; done) | (simp only [ne_eq]; constructor <;> omega)) Bp
  replace Bs : Blk w10 (gs) 34 (stv S3) := by rw [← E3.out, three_stv, E1.out]; exact hS.blk
  replace Bt := hS.far (by first | (simp; done) | (simp; omega) | (simp [*]; done) | (simp only [ne_eq]; constructor <;> omega)) Bt
  replace hB := hS.bel hB (by first | omega | (simp; omega))
  clear hS
  have cp0 : w10.cell? ⟨w.heap.size, 0, none⟩ = some (.int .i64 x) := Bp.cell 0
  have cp1 : w10.cell? ⟨w.heap.size, 1, none⟩ = some (.int .i64 x) := Bp.cell 1
  have cp2 : w10.cell? ⟨w.heap.size, 2, none⟩ = some (.int .i64 x) := Bp.cell 2
  have fp := Bp.frozen; have lp := Bp.lt
  have fs := Bs.frozen; have ls := Bs.lt
  have ft := Bt.frozen; have lt := Bt.lt
  go_wp2_with (refine wpList_load_whole rfl 34 (.tmp 7) rfl (gs) rfl 34 (stv S3) _ Bs Try.underlying34 rfl (size_st S3) ?_)
  have k_t := K2.out; have hz := zero_st
  refine (k_t _).mono ?_
  rintro e w11 ⟨rfl, hb⟩
  clear cp0 cp1 cp2 fp lp
  clear  fs ls
  clear  ft lt
  replace Bp := (Bp).next hb
  replace Bs := (Bs).next hb
  replace Bt := (Bt).next hb
  replace hB : Below w.heap.size w w11 := by repeat (first | exact hB | (refine Bl_set ?_ (by first | omega | (simp; omega)) _) | apply Bl_alloc | (refine Bl_trans ?_ hb))
  clear hb
  have cp0 : w11.cell? ⟨w.heap.size, 0, none⟩ = some (.int .i64 x) := Bp.cell 0
  have cp1 : w11.cell? ⟨w.heap.size, 1, none⟩ = some (.int .i64 x) := Bp.cell 1
  have cp2 : w11.cell? ⟨w.heap.size, 2, none⟩ = some (.int .i64 x) := Bp.cell 2
  have fp := Bp.frozen; have lp := Bp.lt
  have fs := Bs.frozen; have ls := Bs.lt
  have ft := Bt.frozen; have lt := Bt.lt
  clear k_t
  go_wp2_with (refine wpList_store_whole rfl 34 (.tmp 10) (.tmp 71) rfl (w11.heap.size) (stv U) rfl rfl 34 (stv zs) (Blk.new w11 _ _) (size_st U) (by rw [stv_size, stv_size]) (stv_one U) ?_)
  intro w12 hS
  clear cp0 cp1 cp2 fp lp
  clear  fs ls
  clear  ft lt
  have hnpu := Nat.ne_of_lt Bp.lt
  replace Bp := hS.far hnpu (Bp.alloc _)
  have hnsu := Nat.ne_of_lt Bs.lt
  replace Bs := hS.far hnsu (Bs.alloc _)
  have hntu := Nat.ne_of_lt Bt.lt
  replace Bt := hS.far hntu (Bt.alloc _)
  have hgu := hB.size
  have Bu : Blk w12 (w11.heap.size) 34 (stv U) := hS.blk
  replace hB := hS.bel (Bl_alloc hB _) hgu
  clear hS
  generalize w11.heap.size = gu at *
  have cp0 : w12.cell? ⟨w.heap.size, 0, none⟩ = some (.int .i64 x) := Bp.cell 0
  have cp1 : w12.cell? ⟨w.heap.size, 1, none⟩ = some (.int .i64 x) := Bp.cell 1
  have cp2 : w12.cell? ⟨w.heap.size, 2, none⟩ = some (.int .i64 x) := Bp.cell 2
  have fp := Bp.frozen; have lp := Bp.lt
  have fs := Bs.frozen; have ls := Bs.lt
  have ft := Bt.frozen; have lt := Bt.lt
  have fu := Bu.frozen; have lu := Bu.lt
  clear hz
  go_wp2_with (refine wpList_load_whole rfl 34 (.tmp 10) rfl (gu) rfl 34 (stv U) _ Bu Try.underlying34 rfl (size_st U) ?_)
  have k_l := K3.out
  replace k_l : ∀ w : World, Calls Try.prog 19 #[.agg (stv U), .int .i64 (-48), .int .i64 8] w fun e w' => e = .returned (.tuple #[.agg #[.int .i64 5, .int .u64 0, .int .u64 0, .int .u64 0, .int .u64 0, .int .i64 0, .int .i64 0, .int .i64 sl, .int .i64 0, .int .i64 0, .int .i64 0], .bool true]) ∧ Below w.heap.size w w' := k_l
  refine (k_l _).mono ?_
  rintro e w13 ⟨rfl, hb⟩
  clear cp0 cp1 cp2 fp lp
  clear  fs ls
  clear  ft lt
  clear  fu lu
  replace Bp := (Bp).next hb
  replace Bs := (Bs).next hb
  replace Bt := (Bt).next hb
  replace Bu := (Bu).next hb
  replace hB : Below w.heap.size w w13 := by repeat (first | exact hB | (refine Bl_set ?_ (by first | omega | (simp; omega)) _) | apply Bl_alloc | (refine Bl_trans ?_ hb))
  clear hb
  have cp0 : w13.cell? ⟨w.heap.size, 0, none⟩ = some (.int .i64 x) := Bp.cell 0
  have cp1 : w13.cell? ⟨w.heap.size, 1, none⟩ = some (.int .i64 x) := Bp.cell 1
  have cp2 : w13.cell? ⟨w.heap.size, 2, none⟩ = some (.int .i64 x) := Bp.cell 2
  have fp := Bp.frozen; have lp := Bp.lt
  have fs := Bs.frozen; have ls := Bs.lt
  have ft := Bt.frozen; have lt := Bt.lt
  have fu := Bu.frozen; have lu := Bu.lt
  clear k_l K1 K2 K3
  go_upto_region 10 with fail
  clear cp0 cp1 cp2 fp lp
  clear  fs ls
  clear  ft lt
  clear  fu lu
  have Bv := Blk.new w13 29 #[.int .i64 5, .int .u64 0, .int .u64 0, .int .u64 0, .int .u64 0, .int .i64 0, .int .i64 0, .int .i64 sl, .int .i64 0, .int .i64 0, .int .i64 0]
  have hgv := hB.size
  have hnpv := Nat.ne_of_lt Bp.lt; have hltpv := Bp.lt
  have hnsv := Nat.ne_of_lt Bs.lt; have hltsv := Bs.lt
  have hntv := Nat.ne_of_lt Bt.lt; have hlttv := Bt.lt
  have hnuv := Nat.ne_of_lt Bu.lt; have hltuv := Bu.lt
  replace Bp : Blk (w13.alloc (.cells #[.int .i64 5, .int .u64 0, .int .u64 0, .int .u64 0, .int .u64 0, .int .i64 0, .int .i64 0, .int .i64 sl, .int .i64 0, .int .i64 0, .int .i64 0] 29)) (w.heap.size) 71 #[.int .i64 x, .int .i64 x, .int .i64 x] := Bp.alloc _
  replace Bs : Blk (w13.alloc (.cells #[.int .i64 5, .int .u64 0, .int .u64 0, .int .u64 0, .int .u64 0, .int .i64 0, .int .i64 0, .int .i64 sl, .int .i64 0, .int .i64 0, .int .i64 0] 29)) (gs) 34 (stv S3) := Bs.alloc _
  replace Bt : Blk (w13.alloc (.cells #[.int .i64 5, .int .u64 0, .int .u64 0, .int .u64 0, .int .u64 0, .int .i64 0, .int .i64 0, .int .i64 sl, .int .i64 0, .int .i64 0, .int .i64 0] 29)) (gt) 34 ((stv S1)) := Bt.alloc _
  replace Bu : Blk (w13.alloc (.cells #[.int .i64 5, .int .u64 0, .int .u64 0, .int .u64 0, .int .u64 0, .int .i64 0, .int .i64 0, .int .i64 sl, .int .i64 0, .int .i64 0, .int .i64 0] 29)) (gu) 34 (stv U) := Bu.alloc _
  replace hB : Below w.heap.size w (w13.alloc (.cells #[.int .i64 5, .int .u64 0, .int .u64 0, .int .u64 0, .int .u64 0, .int .i64 0, .int .i64 0, .int .i64 sl, .int .i64 0, .int .i64 0, .int .i64 0] 29)) := Bl_alloc hB _
  generalize (w13.alloc (.cells #[.int .i64 5, .int .u64 0, .int .u64 0, .int .u64 0, .int .u64 0, .int .i64 0, .int .i64 0, .int .i64 sl, .int .i64 0, .int .i64 0, .int .i64 0] 29)) = w14 at *
  generalize w13.heap.size = gv at *
  have cp0 : w14.cell? ⟨w.heap.size, 0, none⟩ = some (.int .i64 x) := Bp.cell 0
  have cp1 : w14.cell? ⟨w.heap.size, 1, none⟩ = some (.int .i64 x) := Bp.cell 1
  have cp2 : w14.cell? ⟨w.heap.size, 2, none⟩ = some (.int .i64 x) := Bp.cell 2
  have fp := Bp.frozen; have lp := Bp.lt
  have fs := Bs.frozen; have ls := Bs.lt
  have ft := Bt.frozen; have lt := Bt.lt
  have fu := Bu.frozen; have lu := Bu.lt
  have cv0 : w14.cell? ⟨gv, 0, none⟩ = some (.int .i64 5) := Bv.cell 0
  have cv1 : w14.cell? ⟨gv, 1, none⟩ = some (.int .u64 0) := Bv.cell 1
  have cv2 : w14.cell? ⟨gv, 2, none⟩ = some (.int .u64 0) := Bv.cell 2
  have cv3 : w14.cell? ⟨gv, 3, none⟩ = some (.int .u64 0) := Bv.cell 3
  have cv4 : w14.cell? ⟨gv, 4, none⟩ = some (.int .u64 0) := Bv.cell 4
  have cv5 : w14.cell? ⟨gv, 5, none⟩ = some (.int .i64 0) := Bv.cell 5
  have cv6 : w14.cell? ⟨gv, 6, none⟩ = some (.int .i64 0) := Bv.cell 6
  have cv7 : w14.cell? ⟨gv, 7, none⟩ = some (.int .i64 sl) := Bv.cell 7
  have cv8 : w14.cell? ⟨gv, 8, none⟩ = some (.int .i64 0) := Bv.cell 8
  have cv9 : w14.cell? ⟨gv, 9, none⟩ = some (.int .i64 0) := Bv.cell 9
  have cv10 : w14.cell? ⟨gv, 10, none⟩ = some (.int .i64 0) := Bv.cell 10
  have fv := Bv.frozen; have lv := Bv.lt
  have cu0 : w14.cell? ⟨gu, 0, none⟩ = some (.int .i64 5) := (by have h := (Bu.cell (0 * 11 + 0)).trans ((stv_get U (by omega)).trans (congrArg some (r_at U (by omega) (by omega)))); rw [U0.out] at h; exact h)
  have cu11 : w14.cell? ⟨gu, 11, none⟩ = some (.int .i64 2) := (by have h := (Bu.cell (1 * 11 + 0)).trans ((stv_get U (by omega)).trans (congrArg some (r_at U (by omega) (by omega)))); rw [U1.out] at h; exact h)
  have cu66 : w14.cell? ⟨gu, 66, none⟩ = some (.int .i64 5) := (by have h := (Bu.cell (6 * 11 + 0)).trans ((stv_get U (by omega)).trans (congrArg some (r_at U (by omega) (by omega)))); have e := U6.out; simp only [rc, e] at h; exact h)
  clear U0 U1 U6
  go_wp2_with fail
  replace cu0 : ∀ g : Later w14, g.w.cell? ⟨gu, 0, none⟩ = some (.int .i64 5) := fun g => g.cell (cu0)
  replace cu11 : ∀ g : Later w14, g.w.cell? ⟨gu, 11, none⟩ = some (.int .i64 2) := fun g => g.cell (cu11)
  replace cu66 : ∀ g : Later w14, g.w.cell? ⟨gu, 66, none⟩ = some (.int .i64 5) := fun g => g.cell (cu66)
  go_wp2_with fail
  replace cp0 : ∀ g : Later w14, g.w.cell? ⟨w.heap.size, 0, none⟩ = some (.int .i64 x) := fun g => g.cell (Bp.cell 0)
  replace cp1 : ∀ g : Later w14, g.w.cell? ⟨w.heap.size, 1, none⟩ = some (.int .i64 x) := fun g => g.cell (Bp.cell 1)
  replace cp2 : ∀ g : Later w14, g.w.cell? ⟨w.heap.size, 2, none⟩ = some (.int .i64 x) := fun g => g.cell (Bp.cell 2)
  replace cv0 : ∀ g : Later w14, g.w.cell? ⟨gv, 0, none⟩ = some (.int .i64 5) := fun g => g.cell (Bv.cell 0)
  replace cv1 : ∀ g : Later w14, g.w.cell? ⟨gv, 1, none⟩ = some (.int .u64 0) := fun g => g.cell (Bv.cell 1)
  replace cv2 : ∀ g : Later w14, g.w.cell? ⟨gv, 2, none⟩ = some (.int .u64 0) := fun g => g.cell (Bv.cell 2)
  replace cv3 : ∀ g : Later w14, g.w.cell? ⟨gv, 3, none⟩ = some (.int .u64 0) := fun g => g.cell (Bv.cell 3)
  replace cv4 : ∀ g : Later w14, g.w.cell? ⟨gv, 4, none⟩ = some (.int .u64 0) := fun g => g.cell (Bv.cell 4)
  replace cv5 : ∀ g : Later w14, g.w.cell? ⟨gv, 5, none⟩ = some (.int .i64 0) := fun g => g.cell (Bv.cell 5)
  replace cv6 : ∀ g : Later w14, g.w.cell? ⟨gv, 6, none⟩ = some (.int .i64 0) := fun g => g.cell (Bv.cell 6)
  replace cv7 : ∀ g : Later w14, g.w.cell? ⟨gv, 7, none⟩ = some (.int .i64 sl) := fun g => g.cell (Bv.cell 7)
  replace cv8 : ∀ g : Later w14, g.w.cell? ⟨gv, 8, none⟩ = some (.int .i64 0) := fun g => g.cell (Bv.cell 8)
  replace cv9 : ∀ g : Later w14, g.w.cell? ⟨gv, 9, none⟩ = some (.int .i64 0) := fun g => g.cell (Bv.cell 9)
  replace cv10 : ∀ g : Later w14, g.w.cell? ⟨gv, 10, none⟩ = some (.int .i64 0) := fun g => g.cell (Bv.cell 10)
  refine wp_region_mix 25 (fun _ => #[]) (by kernel_rfl) (by kernel_rfl) (no_alloc (by kernel_rfl)) ?_
  simp only [List.take_succ_cons, List.take_zero, List.drop_succ_cons, List.drop_zero]
  repeat ((with_reducible refine wpMix_step (fun K hK => ?_)); go_simp; first | ((with_reducible refine hK _ ?_); clear hK K) | (rw [if_neg (by decide)]; (with_reducible refine hK _ ?_); clear hK K))
  refine wpMix_nil ?_
  intro G w15 hgr hblk hdist
  have hb : Below w14.heap.size w14 w15 := hgr
  replace Bp := Bp.next hb
  replace Bs := Bs.next hb
  replace Bt := Bt.next hb
  replace Bu := Bu.next hb
  replace Bv := Bv.next hb
  clear cp0 cp1 cp2 fp lp
  clear  fs ls
  clear  ft lt
  clear  fu lu
  clear cv0 cv1 cv2 cv3 cv4 cv5 cv6 cv7 cv8 cv9 cv10 fv lv
  replace hB : Below w.heap.size w w15 := Bl_trans hB hb
  simp only [putAll, isAlloc]
  clear hb hgr hblk hdist
  have cp0 : w15.cell? ⟨w.heap.size, 0, none⟩ = some (.int .i64 x) := Bp.cell 0
  have cp1 : w15.cell? ⟨w.heap.size, 1, none⟩ = some (.int .i64 x) := Bp.cell 1
  have cp2 : w15.cell? ⟨w.heap.size, 2, none⟩ = some (.int .i64 x) := Bp.cell 2
  have fp := Bp.frozen; have lp := Bp.lt
  have fs := Bs.frozen; have ls := Bs.lt
  have ft := Bt.frozen; have lt := Bt.lt
  have fu := Bu.frozen; have lu := Bu.lt
  have cv0 : w15.cell? ⟨gv, 0, none⟩ = some (.int .i64 5) := Bv.cell 0
  have cv1 : w15.cell? ⟨gv, 1, none⟩ = some (.int .u64 0) := Bv.cell 1
  have cv2 : w15.cell? ⟨gv, 2, none⟩ = some (.int .u64 0) := Bv.cell 2
  have cv3 : w15.cell? ⟨gv, 3, none⟩ = some (.int .u64 0) := Bv.cell 3
  have cv4 : w15.cell? ⟨gv, 4, none⟩ = some (.int .u64 0) := Bv.cell 4
  have cv5 : w15.cell? ⟨gv, 5, none⟩ = some (.int .i64 0) := Bv.cell 5
  have cv6 : w15.cell? ⟨gv, 6, none⟩ = some (.int .i64 0) := Bv.cell 6
  have cv7 : w15.cell? ⟨gv, 7, none⟩ = some (.int .i64 sl) := Bv.cell 7
  have cv8 : w15.cell? ⟨gv, 8, none⟩ = some (.int .i64 0) := Bv.cell 8
  have cv9 : w15.cell? ⟨gv, 9, none⟩ = some (.int .i64 0) := Bv.cell 9
  have cv10 : w15.cell? ⟨gv, 10, none⟩ = some (.int .i64 0) := Bv.cell 10
  have fv := Bv.frozen; have lv := Bv.lt
  clear cu0 cu11 cu66
  go_wp2
  go_ret
  exact ⟨rfl, by repeat (first | exact hB | (refine Bl_set ?_ (by first | omega | (simp; omega)) _) | apply Bl_alloc)⟩
end Go.Proofs.Ytmghpoagpiljhab
