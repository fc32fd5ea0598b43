/- AbsregMaybes: for all ids, slots and ways the law returns true, and its arguments read as before. No condition. -/
import Derived.Test.YtmghpoagpiljhabMay1t
import Derived.Test.YtmghpoagpiljhabMay1f
import Derived.Test.YtmghpoagpiljhabMay2t
import Derived.Test.YtmghpoagpiljhabMay2f
import Derived.Test.YtmghpoagpiljhabMay3t
import Derived.Test.YtmghpoagpiljhabMay3f
set_option linter.unusedSimpArgs false
set_option linter.unusedVariables false
namespace Go.Proofs.Ytmghpoagpiljhab
open Go.ChangeShapes Go.WideShapes Go.ChangeAt Go.RowKit
section
variable {P : Program} {w : World} {r : Reach} {base : Nat}
theorem okKey_of {x : Int} (h0 : IntKind.i64.min ≤ x) (h1 : x ≤ IntKind.i64.max) : okKey x := by
  show (decide _ && decide _) = true; rw [Bool.and_eq_true, decide_eq_true_eq, decide_eq_true_eq]; exact ⟨h0, h1⟩
theorem open_ooo {t u : TypeId} {v : Value} (hu : P.underlying u = some (.int .i64)) (hs : (match P.underlying t with | some (.struct _) | some (.array _ _) => true | _ => false) = true)
    (hc : P.cellTypes P.depth t = some [u, u, u]) (hn : P.cellsOf t = 3) (hv : Value.okWide P w r base t v) : ∃ x y z : Int, okKey x ∧ okKey y ∧ okKey z ∧ v = .agg #[.int .i64 x, .int .i64 y, .int .i64 z] := by
  obtain ⟨cs, rfl, hsz, hcell⟩ := open_flat hs hc hn hv
  obtain ⟨l⟩ := cs
  match l, hsz with
  | [c0, c1, c2], _ =>
    obtain ⟨x, rfl, a0, a1⟩ := cell_int hu (hcell 0 c0 u rfl rfl)
    obtain ⟨y, rfl, b0, b1⟩ := cell_int hu (hcell 1 c1 u rfl rfl)
    obtain ⟨z, rfl, d0, d1⟩ := cell_int hu (hcell 2 c2 u rfl rfl)
    exact ⟨x, y, z, okKey_of a0 a1, okKey_of b0 b1, okKey_of d0 d1, rfl⟩
end
theorem walkN_AbsregMaybes (x y z : Int) (ox : okKey x) (oy : okKey y) (oz : okKey z) (sl : Int) (l0 : -9223372036854775808 ≤ sl) (h0 : sl ≤ 9223372036854775807) (c : Bool) (w : World) : Calls Try.prog 7 #[.agg #[.int .i64 x, .int .i64 y, .int .i64 z], .int .i64 sl, .bool c] w fun e w' => e = .returned (.bool true) ∧ Below w.heap.size w w' := by
  by_cases hxy : x = y
  · subst hxy
    by_cases hxz : x = z
    · subst hxz
      cases c
      · exact may_2f x sl ox w
      · exact may_2t x sl ox w
    · have h : (x == z) = false := by simpa using hxz
      cases c
      · exact may_3f x z sl ox oz h hxz w
      · exact may_3t x z sl ox oz h hxz w
  · have h : (x == y) = false := by simpa using hxy
    cases c
    · exact may_1f x y z sl ox oy oz h hxy w
    · exact may_1t x y z sl ox oy oz h hxy w
namespace absregMaybes
set_option maxRecDepth 100000 in
theorem lifted (os : Os) (started : os.Started) (H : Type) (enc : TypeId × Value → H) :
    ReturnsInHanded {} Try.checked os 7 .any (Rows.absregMaybesSpec.pre6 enc Try.prog Try.f7 Rows.absregMaybesRow.domain false) (Rows.absregMaybesSpec.post enc Try.prog Try.f7 false true false false) := by
  refine returnsInHanded_of_change (C := Try.checked) own started (by kernel_rfl) Try.func7
    (ChangeSpec.witness6 (enc := enc) (C := Try.checked) false ⟨#[], #[.agg #[.int .i64 0, .int .i64 0, .int .i64 0], .int .i64 0, .bool false], []⟩ 8 (by kernel_rfl) (by kernel_rfl) (by kernel_rfl) (by kernel_rfl)) ?_
  intro W base args ds gs before hval0 hW hcnd _
  have hval : ∀ (j : Nat) t v, Try.f7.params[j]? = some t → args[j]? = some v → Value.okWide Try.prog W .any base t v := hval0
  have hW' := hW
  obtain ⟨p, q, hA0, hV, rfl, hfz, hnd⟩ := hW
  have hA : DataW.TrodAll enc Try.prog W 0 (fun _ => true) true Try.f7.params.toList args.toList ds p := hA0
  rw [Try.params7] at hA hval
  obtain ⟨v0, vs0, d0, ds0, p0, q0, hargs, rfl, rfl, h0, r0⟩ := trodAll_cons hA
  obtain ⟨v1, vs1, d1, ds1, p1, q1, rfl, rfl, rfl, h1, r1⟩ := trodAll_cons r0
  obtain ⟨v2, vs2, d2, ds2, p2, q2, rfl, rfl, rfl, h2, r2⟩ := trodAll_cons r1
  obtain ⟨rfl, rfl, rfl⟩ := trodAll_nil r2
  obtain rfl : args = #[v0, v1, v2] := by cases args; simp_all
  obtain ⟨rfl, rfl⟩ := trodVars_none hV
  have lt0 : ∀ x ∈ p0, x.block < W.heap.size := by obtain ⟨m, hm⟩ := h0; exact DataW.trod_lt m _ _ _ hm
  obtain ⟨x0, y0, z0, ox0, oy0, oz0, rfl⟩ := open_ooo Try.underlying3 (by rw [Try.underlying71]) (by kernel_rfl) (by kernel_rfl) (hval 0 71 v0 rfl rfl)
  have lt1 : ∀ x ∈ p1, x.block < W.heap.size := by obtain ⟨m, hm⟩ := h1; exact DataW.trod_lt m _ _ _ hm
  obtain ⟨x1, rfl, lo1, hi1⟩ := open_i64 Try.underlying3 (hval 1 3 v1 rfl rfl)
  have lt2 : ∀ x ∈ p2, x.block < W.heap.size := by obtain ⟨m, hm⟩ := h2; exact DataW.trod_lt m _ _ _ hm
  obtain ⟨x2, rfl⟩ := okWide_bool Try.underlying4 (hval 2 4 v2 rfl rfl)
  refine (walkN_AbsregMaybes x0 y0 z0 ox0 oy0 oz0 x1 lo1 hi1 x2 W).mono fun e W' ⟨he, bel⟩ => ?_
  subst he
  exact ⟨_, rfl, _, _, _, [], _, [], hW', trodAll_mk1 (shut_bool Try.underlying4 _), (trodAll_cons_mk (Below.trod laidOut (by kernel_rfl) (of_decide_eq_true (by kernel_rfl)) h0 bel lt0) (trodAll_cons_mk (Below.trod laidOut (by kernel_rfl) (of_decide_eq_true (by kernel_rfl)) h1 bel lt1) (trodAll_cons_mk (Below.trod laidOut (by kernel_rfl) (of_decide_eq_true (by kernel_rfl)) h2 bel lt2) trodAll_mk0))), rfl, bel.frame _, fun h => by cases h⟩
theorem over : Rows.absregMaybesRow.holds Try.pinned (OpenSpec.ofChange Rows.absregMaybesSpec) :=
  OpenClaim.holds_of_wide 7 Try.f7 rfl rfl rfl rfl rfl rfl rfl ⟨rfl, rfl, rfl, rfl, rfl⟩ rfl rfl rfl rfl rfl (by kernel_rfl) Try.func7 (by kernel_rfl)
    (of_decide_eq_true (by kernel_rfl)) (by unfold Func.isWrapper; first | (rw [if_pos (by decide +kernel)]; kernel_rfl) | (rw [if_neg (by decide +kernel)]; exact ⟨rfl, rfl⟩))
    (fun os started H enc _ => lifted os started H enc)
/-- The given statement. -/
theorem proved : Rows.AbsregMaybesSaid := over
#print axioms proved
end absregMaybes
end Go.Proofs.Ytmghpoagpiljhab
