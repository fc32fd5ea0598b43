/- BranchHolds: for every comparison and two numbers the law returns true, and its arguments read as before. No condition. -/
import Derived.Test.YtmghpoagpiljhabOpen
import Derived.Test.YtmghpoagpiljhabBr7
set_option linter.unusedSimpArgs false
namespace Go.Proofs.Ytmghpoagpiljhab
open Go.ChangeShapes Go.WideShapes Go.ChangeAt Go.RowKit
open PlainTnum (N)
open PlainScalar (Rng)
set_option linter.unusedVariables false
set_option maxRecDepth 100000 in
set_option maxHeartbeats 3200000 in
theorem walk_BranchHolds (op : Int) (l : Bool) (p q : W) (w : World) : Calls Try.prog 8 #[.int .i64 op, .bool l, .agg #[uv p, uv q]] w fun e w' => e = .returned (.bool true) ∧ Below w.heap.size w w' := by
  have k_h := holds_c op l p q
  have k_g := rholds_c op l p q
  generalize PlainBranch.holds op l p q = H at k_h k_g
  go_enter Try.func8, Try.ntmps8
  go_wp2_with fail
  obtain ⟨gn, hgn⟩ : ∃ g, g = w.heap.size := ⟨_, rfl⟩
  have Bn : Blk (w.alloc (.cells #[uv p, uv q] 47)) (w.heap.size) 47 #[uv p, uv q] := (Blk.new w 47 #[uv p, uv q])
  have hB : Below w.heap.size w (w.alloc (.cells #[uv p, uv q] 47)) := (Bl_alloc (Bl_refl w) _)
  clear hgn
  clear gn
  generalize (w.alloc (.cells #[uv p, uv q] 47)) = w1 at *
  obtain ⟨cn0, cn1⟩ := cells2 Bn
  have fn := Bn.frozen; have ln := Bn.lt
  go_wp2_with fail
  clear cn0 cn1; obtain ⟨cn0, cn1⟩ := lcells2 Bn
  refine wp_region_mix 18 (fun _ => #[]) (by kernel_rfl) (by kernel_rfl) (no_alloc (by kernel_rfl)) ?_
  simp only [List.take_succ_cons, List.take_zero, List.drop_succ_cons, List.drop_zero]
  repeat (refine wpMix_step (fun K hK => ?_); go_simp; first | (refine hK _ ?_; clear hK K) | (apply Exists.intro; refine ⟨fun g => ?_, hK _ ?_⟩; ((with_reducible refine Calls.mono (tells_c g.w) ?_); exact fun _ _ h => h); clear hK K) | (apply Exists.intro; refine ⟨fun g => ?_, hK _ ?_⟩; ((with_reducible refine Calls.mono (k_h g.w) ?_); exact fun _ _ h => h); clear hK K) | (apply Exists.intro; refine ⟨fun g => ?_, hK _ ?_⟩; ((with_reducible refine Calls.mono (k_g g.w) ?_); exact fun _ _ h => h); clear hK K))
  refine wpMix_nil ?_
  intro G w2 hgr hblk hdist
  have hb : Below w1.heap.size w1 w2 := hgr
  replace Bn := Bn.next hb
  clear cn0 cn1 fn ln
  replace hB : Below w.heap.size w w2 := Bl_trans hB hb
  simp only [putAll, isAlloc]
  clear hb hgr hblk hdist
  obtain ⟨cn0, cn1⟩ := cells2 Bn
  have fn := Bn.frozen; have ln := Bn.lt
  go_wp2
  go_ret
  exact ⟨rfl, by repeat (first | exact hB | (refine Bl_set ?_ (by first | omega | (simp; omega)) _) | apply Bl_alloc)⟩
theorem walkN_BranchHolds (op : Int) (lo : -9223372036854775808 ≤ op) (hi : op ≤ 9223372036854775807) (l : Bool) (p q : W) (w : World) : Calls Try.prog 8 #[.int .i64 op, .bool l, .agg #[.int .u64 (T p), .int .u64 (T q)]] w fun e w' => e = .returned (.bool true) ∧ Below w.heap.size w w' := walk_BranchHolds op l p q w
namespace branchHolds
set_option maxRecDepth 100000 in
theorem lifted (os : Os) (started : os.Started) (H : Type) (enc : TypeId × Value → H) :
    ReturnsInHanded {} Try.checked os 8 .any (Rows.branchHoldsSpec.pre6 enc Try.prog Try.f8 Rows.branchHoldsRow.domain false) (Rows.branchHoldsSpec.post enc Try.prog Try.f8 false true false false) := by
  refine returnsInHanded_of_change (C := Try.checked) own started (by kernel_rfl) Try.func8
    (ChangeSpec.witness6 (enc := enc) (C := Try.checked) false ⟨#[], #[.int .i64 0, .bool false, .agg #[.int .u64 0, .int .u64 0]], []⟩ 8 (by kernel_rfl) (by kernel_rfl) (by kernel_rfl) (by kernel_rfl)) ?_
  intro W base args ds gs before hval0 hW hcnd _
  have hval : ∀ (j : Nat) t v, Try.f8.params[j]? = some t → args[j]? = some v → Value.okWide Try.prog W .any base t v := hval0
  have hW' := hW
  obtain ⟨p, q, hA0, hV, rfl, hfz, hnd⟩ := hW
  have hA : DataW.TrodAll enc Try.prog W 0 (fun _ => true) true Try.f8.params.toList args.toList ds p := hA0
  rw [Try.params8] at hA hval
  obtain ⟨v0, vs0, d0, ds0, p0, q0, hargs, rfl, rfl, h0, r0⟩ := trodAll_cons hA
  obtain ⟨v1, vs1, d1, ds1, p1, q1, rfl, rfl, rfl, h1, r1⟩ := trodAll_cons r0
  obtain ⟨v2, vs2, d2, ds2, p2, q2, rfl, rfl, rfl, h2, r2⟩ := trodAll_cons r1
  obtain ⟨rfl, rfl, rfl⟩ := trodAll_nil r2
  obtain rfl : args = #[v0, v1, v2] := by cases args; simp_all
  obtain ⟨rfl, rfl⟩ := trodVars_none hV
  have lt0 : ∀ x ∈ p0, x.block < W.heap.size := by obtain ⟨m, hm⟩ := h0; exact DataW.trod_lt m _ _ _ hm
  obtain ⟨x0, rfl, lo0, hi0⟩ := open_i64 Try.underlying3 (hval 0 3 v0 rfl rfl)
  have lt1 : ∀ x ∈ p1, x.block < W.heap.size := by obtain ⟨m, hm⟩ := h1; exact DataW.trod_lt m _ _ _ hm
  obtain ⟨x1, rfl⟩ := okWide_bool Try.underlying4 (hval 1 4 v1 rfl rfl)
  have lt2 : ∀ x ∈ p2, x.block < W.heap.size := by obtain ⟨m, hm⟩ := h2; exact DataW.trod_lt m _ _ _ hm
  obtain ⟨x2, y2, rfl⟩ := open_uu Try.underlying22 (by rw [Try.underlying47]) (by kernel_rfl) (by kernel_rfl) (hval 2 47 v2 rfl rfl)
  refine (walkN_BranchHolds x0 lo0 hi0 x1 x2 y2 W).mono fun e W' ⟨he, bel⟩ => ?_
  subst he
  exact ⟨_, rfl, _, _, _, [], _, [], hW', trodAll_mk1 (shut_bool Try.underlying4 _), (trodAll_cons_mk (Below.trod laidOut (by kernel_rfl) (of_decide_eq_true (by kernel_rfl)) h0 bel lt0) (trodAll_cons_mk (Below.trod laidOut (by kernel_rfl) (of_decide_eq_true (by kernel_rfl)) h1 bel lt1) (trodAll_cons_mk (Below.trod laidOut (by kernel_rfl) (of_decide_eq_true (by kernel_rfl)) h2 bel lt2) trodAll_mk0))), rfl, bel.frame _, fun h => by cases h⟩
theorem over : Rows.branchHoldsRow.holds Try.pinned (OpenSpec.ofChange Rows.branchHoldsSpec) :=
  OpenClaim.holds_of_wide 8 Try.f8 rfl rfl rfl rfl rfl rfl rfl ⟨rfl, rfl, rfl, rfl, rfl⟩ rfl rfl rfl rfl rfl (by kernel_rfl) Try.func8 (by kernel_rfl)
    (of_decide_eq_true (by kernel_rfl)) (by unfold Func.isWrapper; first | (rw [if_pos (by decide +kernel)]; kernel_rfl) | (rw [if_neg (by decide +kernel)]; exact ⟨rfl, rfl⟩))
    (fun os started H enc _ => lifted os started H enc)
/-- The given statement. -/
theorem proved : Rows.BranchHoldsSaid := over
#print axioms proved
end branchHolds
end Go.Proofs.Ytmghpoagpiljhab
