/- AbsregChains: for all pairs the law returns true, and its arguments read as before. No condition. -/
import Derived.Test.YtmghpoagpiljhabChains
import Derived.Test.YtmghpoagpiljhabChains2
import Derived.Test.YtmghpoagpiljhabChains3
set_option linter.unusedSimpArgs false
set_option linter.unusedVariables false
namespace Go.Proofs.Ytmghpoagpiljhab
open Go.ChangeShapes Go.WideShapes Go.ChangeAt Go.RowKit
open PlainTnum (N)
open PlainScalar (Rng)
open PlainAbs (Rg St zr zs upd Im pairS one)
theorem rem2_is (m : Nat) (h0 : 0 < m) (hm : m < 100) (k : Int) : ∃ n : Nat, n < m ∧ wrap64 ((IntKind.u64.wrap k).tmod m) = (n : Int) ∧ IntKind.i64.wrap ((IntKind.u64.wrap k).tmod m) = (n : Int) := by
  have h : 0 ≤ IntKind.u64.wrap k := by rw [wrap_u]; exact T_lo _
  obtain ⟨x, hx⟩ : ∃ x : Nat, IntKind.u64.wrap k = (x : Int) := ⟨_, (Int.toNat_of_nonneg h).symm⟩
  have hl := Nat.mod_lt x h0
  have e : (IntKind.u64.wrap k).tmod (m : Int) = ((x % m : Nat) : Int) := by rw [hx, Int.tmod_eq_emod_of_nonneg (by omega)]; exact (Int.natCast_emod _ _).symm
  refine ⟨x % m, hl, ?_, ?_⟩
  · rw [e]; exact IntWalk.wrap64_in _ (by constructor <;> omega)
  · rw [e]; exact IntWalk.i64_in _ (by constructor <;> omega)
theorem k_cov (x y z u : Rg) (ox : okKey x.id) (oy : okKey y.id) (oz : okKey z.id) (ou : okKey u.id) (v : Bool) (h : PlainAbs.covers (pairS x y) (pairS z u) = v) (w : World) : Calls Try.prog 31 #[.agg (stv (pairS x y)), .agg (stv (pairS z u))] w fun e w' => e = .returned (.bool v) ∧ Below w.heap.size w w' := by
  have g := cover_c (pairS x y) (pairS z u) (fun k _ => ⟨pair_ok x y ox oy k, pair_ok z u oz ou k⟩) (fun k _ => ⟨show okKey 0 by decide, show okKey 0 by decide⟩) w
  rw [h] at g; exact g
theorem h_one (x : Rg) : stv (one x) = setL (stv PlainAbs.start) 0 (gl x) := (set_r PlainAbs.start (k := 0) (by omega) x).symm
theorem h_pair (x y : Rg) : stv (pairS x y) = setL (stv (one x)) 66 (gl y) := (set_r (one x) (k := 6) (by omega) y).symm
theorem walkN_AbsregChains (a b : Rg) (n0 n1 m0 m1 : W) (oa : okKey a.id) (ob : okKey b.id) (c d : Rg) (i0 i1 j0 j1 : W) (oc : okKey c.id) (od : okKey d.id) (w : World) : Calls Try.prog 6 #[.agg #[.int .i64 a.kind, uv a.r.b.v, uv a.r.b.m, uv a.r.lo, uv a.r.hi, sv a.r.sl, sv a.r.sh, .int .i64 a.slot, .int .i64 a.id, .int .i64 a.low, .int .i64 a.high, .int .i64 b.kind, uv b.r.b.v, uv b.r.b.m, uv b.r.lo, uv b.r.hi, sv b.r.sl, sv b.r.sh, .int .i64 b.slot, .int .i64 b.id, .int .i64 b.low, .int .i64 b.high, uv n0, uv n1, uv m0, uv m1], .agg #[.int .i64 c.kind, uv c.r.b.v, uv c.r.b.m, uv c.r.lo, uv c.r.hi, sv c.r.sl, sv c.r.sh, .int .i64 c.slot, .int .i64 c.id, .int .i64 c.low, .int .i64 c.high, .int .i64 d.kind, uv d.r.b.v, uv d.r.b.m, uv d.r.lo, uv d.r.hi, sv d.r.sl, sv d.r.sh, .int .i64 d.slot, .int .i64 d.id, .int .i64 d.low, .int .i64 d.high, uv i0, uv i1, uv j0, uv j1]] w fun e w' => e = .returned (.bool true) ∧ Below w.heap.size w w' := by
  obtain ⟨ka, _, rka, ska⟩ := rem2_is 7 (by decide) (by decide) a.kind
  obtain ⟨kb, _, rkb, skb⟩ := rem2_is 7 (by decide) (by decide) b.kind
  obtain ⟨kc, _, rkc, skc⟩ := rem2_is 7 (by decide) (by decide) c.kind
  obtain ⟨kd, _, rkd, skd⟩ := rem2_is 7 (by decide) (by decide) d.kind
  have h_p := regs_c a b n0 n1 m0 m1 ka kb _ _ rfl rfl rka ska rkb skb
  have h_q := regs_c c d i0 i1 j0 j1 kc kd _ _ rfl rfl rkc skc rkd skd
  obtain ⟨A, eA⟩ : ∃ z, z = mk7 a ka n0 n1 := ⟨_, rfl⟩
  have oA : okKey A.id := by rw [eA]; exact oa
  obtain ⟨B, eB⟩ : ∃ z, z = mk7 b kb m0 m1 := ⟨_, rfl⟩
  have oB : okKey B.id := by rw [eB]; exact ob
  obtain ⟨C, eC⟩ : ∃ z, z = mk7 c kc i0 i1 := ⟨_, rfl⟩
  have oC : okKey C.id := by rw [eC]; exact oc
  obtain ⟨D, eD⟩ : ∃ z, z = mk7 d kd j0 j1 := ⟨_, rfl⟩
  have oD : okKey D.id := by rw [eD]; exact od
  have k_p : ∀ w : World, Calls Try.prog 30 #[.agg #[.int .i64 a.kind, uv a.r.b.v, uv a.r.b.m, uv a.r.lo, uv a.r.hi, sv a.r.sl, sv a.r.sh, .int .i64 a.slot, .int .i64 a.id, .int .i64 a.low, .int .i64 a.high, .int .i64 b.kind, uv b.r.b.v, uv b.r.b.m, uv b.r.lo, uv b.r.hi, sv b.r.sl, sv b.r.sh, .int .i64 b.slot, .int .i64 b.id, .int .i64 b.low, .int .i64 b.high, uv n0, uv n1, uv m0, uv m1]] w fun e w' => e = .returned (.tuple #[.agg #[.int .i64 A.kind, uv A.r.b.v, uv A.r.b.m, uv A.r.lo, uv A.r.hi, sv A.r.sl, sv A.r.sh, .int .i64 A.slot, .int .i64 A.id, .int .i64 A.low, .int .i64 A.high], .agg #[.int .i64 B.kind, uv B.r.b.v, uv B.r.b.m, uv B.r.lo, uv B.r.hi, sv B.r.sl, sv B.r.sh, .int .i64 B.slot, .int .i64 B.id, .int .i64 B.low, .int .i64 B.high]]) ∧ Below w.heap.size w w' := by rw [eA, eB]; exact h_p
  have k_q : ∀ w : World, Calls Try.prog 30 #[.agg #[.int .i64 c.kind, uv c.r.b.v, uv c.r.b.m, uv c.r.lo, uv c.r.hi, sv c.r.sl, sv c.r.sh, .int .i64 c.slot, .int .i64 c.id, .int .i64 c.low, .int .i64 c.high, .int .i64 d.kind, uv d.r.b.v, uv d.r.b.m, uv d.r.lo, uv d.r.hi, sv d.r.sl, sv d.r.sh, .int .i64 d.slot, .int .i64 d.id, .int .i64 d.low, .int .i64 d.high, uv i0, uv i1, uv j0, uv j1]] w fun e w' => e = .returned (.tuple #[.agg #[.int .i64 C.kind, uv C.r.b.v, uv C.r.b.m, uv C.r.lo, uv C.r.hi, sv C.r.sl, sv C.r.sh, .int .i64 C.slot, .int .i64 C.id, .int .i64 C.low, .int .i64 C.high], .agg #[.int .i64 D.kind, uv D.r.b.v, uv D.r.b.m, uv D.r.lo, uv D.r.hi, sv D.r.sl, sv D.r.sh, .int .i64 D.slot, .int .i64 D.id, .int .i64 D.low, .int .i64 D.high]]) ∧ Below w.heap.size w w' := by rw [eC, eD]; exact h_q
  clear h_p h_q eA eB eC eD
  cases v1 : PlainAbs.covers (pairS A D) (pairS B B)
  · exact chains_1 _ _ rfl rfl A B C D _ _ _ _ _ _ _ k_p k_q start_c (h_one A) (h_one B) (h_one C) (h_pair A D) (h_pair B B) (h_pair C B) (k_cov A D B B oA oD oB oB _ v1) w
  · cases v2 : PlainAbs.covers (pairS B B) (pairS C B)
    · exact chains_2 _ _ rfl rfl A B C D _ _ _ _ _ _ _ k_p k_q start_c (h_one A) (h_one B) (h_one C) (h_pair A D) (h_pair B B) (h_pair C B) (k_cov A D B B oA oD oB oB _ v1) (k_cov B B C B oB oB oC oB _ v2) w
    · exact chains_3 _ _ rfl rfl A B C D _ _ _ _ _ _ _ k_p k_q start_c (h_one A) (h_one B) (h_one C) (h_pair A D) (h_pair B B) (h_pair C B) (k_cov A D B B oA oD oB oB _ v1) (k_cov B B C B oB oB oC oB _ v2) (k_cov A D C B oA oD oC oB _ (PlainAbs.chains A B C D v1 v2)) w
namespace absregChains
set_option maxRecDepth 100000 in
theorem lifted (os : Os) (started : os.Started) (H : Type) (enc : TypeId × Value → H) :
    ReturnsInHanded {} Try.checked os 6 .any (Rows.absregChainsSpec.pre6 enc Try.prog Try.f6 Rows.absregChainsRow.domain false) (Rows.absregChainsSpec.post enc Try.prog Try.f6 false true false false) := by
  refine returnsInHanded_of_change (C := Try.checked) own started (by kernel_rfl) Try.func6
    (ChangeSpec.witness6 (enc := enc) (C := Try.checked) false ⟨#[], #[.agg #[.int .i64 0, .int .u64 0, .int .u64 0, .int .u64 0, .int .u64 0, .int .i64 0, .int .i64 0, .int .i64 0, .int .i64 0, .int .i64 0, .int .i64 0, .int .i64 0, .int .u64 0, .int .u64 0, .int .u64 0, .int .u64 0, .int .i64 0, .int .i64 0, .int .i64 0, .int .i64 0, .int .i64 0, .int .i64 0, .int .u64 0, .int .u64 0, .int .u64 0, .int .u64 0], .agg #[.int .i64 0, .int .u64 0, .int .u64 0, .int .u64 0, .int .u64 0, .int .i64 0, .int .i64 0, .int .i64 0, .int .i64 0, .int .i64 0, .int .i64 0, .int .i64 0, .int .u64 0, .int .u64 0, .int .u64 0, .int .u64 0, .int .i64 0, .int .i64 0, .int .i64 0, .int .i64 0, .int .i64 0, .int .i64 0, .int .u64 0, .int .u64 0, .int .u64 0, .int .u64 0]], []⟩ 8 (by kernel_rfl) (by kernel_rfl) (by kernel_rfl) (by kernel_rfl)) ?_
  intro W base args ds gs before hval0 hW hcnd _
  have hval : ∀ (j : Nat) t v, Try.f6.params[j]? = some t → args[j]? = some v → Value.okWide Try.prog W .any base t v := hval0
  have hW' := hW
  obtain ⟨p, q, hA0, hV, rfl, hfz, hnd⟩ := hW
  have hA : DataW.TrodAll enc Try.prog W 0 (fun _ => true) true Try.f6.params.toList args.toList ds p := hA0
  rw [Try.params6] at hA hval
  obtain ⟨v0, vs0, d0, ds0, p0, q0, hargs, rfl, rfl, h0, r0⟩ := trodAll_cons hA
  obtain ⟨v1, vs1, d1, ds1, p1, q1, rfl, rfl, rfl, h1, r1⟩ := trodAll_cons r0
  obtain ⟨rfl, rfl, rfl⟩ := trodAll_nil r1
  obtain rfl : args = #[v0, v1] := by cases args; simp_all
  obtain ⟨rfl, rfl⟩ := trodVars_none hV
  have lt0 : ∀ x ∈ p0, x.block < W.heap.size := by obtain ⟨m, hm⟩ := h0; exact DataW.trod_lt m _ _ _ hm
  obtain ⟨xa0, ya0, na0, nb0, ma0, mb0, oxa0, oya0, rfl⟩ := open_pair Try.underlying3 Try.underlying22 Try.underlying2 (by rw [Try.underlying66]) (by kernel_rfl) (by kernel_rfl) (hval 0 66 v0 rfl rfl)
  have lt1 : ∀ x ∈ p1, x.block < W.heap.size := by obtain ⟨m, hm⟩ := h1; exact DataW.trod_lt m _ _ _ hm
  obtain ⟨xa1, ya1, na1, nb1, ma1, mb1, oxa1, oya1, rfl⟩ := open_pair Try.underlying3 Try.underlying22 Try.underlying2 (by rw [Try.underlying66]) (by kernel_rfl) (by kernel_rfl) (hval 1 66 v1 rfl rfl)
  refine (walkN_AbsregChains xa0 ya0 na0 nb0 ma0 mb0 oxa0 oya0 xa1 ya1 na1 nb1 ma1 mb1 oxa1 oya1 W).mono fun e W' ⟨he, bel⟩ => ?_
  subst he
  exact ⟨_, rfl, _, _, _, [], _, [], hW', trodAll_mk1 (shut_bool Try.underlying4 _), (trodAll_cons_mk (Below.trod laidOut (by kernel_rfl) (of_decide_eq_true (by kernel_rfl)) h0 bel lt0) (trodAll_cons_mk (Below.trod laidOut (by kernel_rfl) (of_decide_eq_true (by kernel_rfl)) h1 bel lt1) trodAll_mk0)), rfl, bel.frame _, fun h => by cases h⟩
theorem over : Rows.absregChainsRow.holds Try.pinned (OpenSpec.ofChange Rows.absregChainsSpec) :=
  OpenClaim.holds_of_wide 6 Try.f6 rfl rfl rfl rfl rfl rfl rfl ⟨rfl, rfl, rfl, rfl, rfl⟩ rfl rfl rfl rfl rfl (by kernel_rfl) Try.func6 (by kernel_rfl)
    (of_decide_eq_true (by kernel_rfl)) (by unfold Func.isWrapper; first | (rw [if_pos (by decide +kernel)]; kernel_rfl) | (rw [if_neg (by decide +kernel)]; exact ⟨rfl, rfl⟩))
    (fun os started H enc _ => lifted os started H enc)
/-- The given statement. -/
theorem proved : Rows.AbsregChainsSaid := over
#print axioms proved
end absregChains
end Go.Proofs.Ytmghpoagpiljhab
