/- AbsregChains in plain words: what covers in a chain; a Pair's cells. -/
import Derived.Test.YtmghpoagpiljhabMayP
import Derived.Test.YtmghpoagpiljhabOpen
set_option linter.unusedSimpArgs false
set_option linter.unusedVariables false
namespace Go.Proofs.Ytmghpoagpiljhab
open Go.RowKit
open PlainTnum (N)
open PlainScalar (Rng)
namespace PlainAbs
theorem withinR_trans {a b c : Rng} (h : PlainScalar.within a b = true) (h' : PlainScalar.within b c = true) : PlainScalar.within a c = true := by
  unfold PlainScalar.within at *
  simp only [Bool.and_eq_true, decide_eq_true_eq] at *
  obtain ⟨⟨⟨h1, h2⟩, h3, h4⟩, h5⟩ := h
  obtain ⟨⟨⟨k1, k2⟩, k3, k4⟩, k5⟩ := h'
  exact ⟨⟨⟨by omega, by omega⟩, by omega, by omega⟩, PlainTnum.within_trans h5 k5⟩
def one (a : Rg) : St := { start with r := upd start.r 0 a }
def pairS (a d : Rg) : St := { one a with r := upd (one a).r 6 d }
theorem covN_same {M : Im} {f g : Nat → Rg} {j : Nat} (h : ∀ M, cov M (f j) (g j) = (true, M)) : covN M f g (j + 1) = covN M f g j := by
  show (if (covN M f g j).1 = true then cov (covN M f g j).2 (f j) (g j) else (false, (covN M f g j).2)) = _
  rw [h]
  cases e : covN M f g j with
  | mk b N => cases b <;> simp
theorem pair_covN (a d b e : Rg) : covN (fun _ => none) (pairS a d).r (pairS b e).r 11 = if (cov (fun _ => none) a b).1 = true then cov (cov (fun _ => none) a b).2 d e else (false, (cov (fun _ => none) a b).2) := by
  have z : ∀ M : Im, cov M zr zr = (true, M) := fun M => cov_start M 0 (by decide) (by decide)
  rw [covN_same (j := 10) (fun M => cov_start M 3 (by decide) (by decide)), covN_same (j := 9) (fun M => z M), covN_same (j := 8) (fun M => z M), covN_same (j := 7) (fun M => z M)]
  show (if (covN _ (pairS a d).r (pairS b e).r 6).1 = true then cov (covN _ (pairS a d).r (pairS b e).r 6).2 d e else (false, (covN _ (pairS a d).r (pairS b e).r 6).2)) = _
  rw [covN_same (j := 5) (fun M => z M), covN_same (j := 4) (fun M => z M), covN_same (j := 3) (fun M => z M), covN_same (j := 2) (fun M => z M), covN_same (j := 1) (fun M => cov_start M 2 (by decide) (by decide))]
  rfl
theorem pair_covers (a d b e : Rg) : covers (pairS a d) (pairS b e) = ((cov (fun _ => none) a b).1 && (cov (cov (fun _ => none) a b).2 d e).1) := by
  unfold covers
  rw [pair_covN, covN_none _ _ _ (fun i => rfl), whatN_all _ _ (fun i => rfl)]
  cases h : (cov (fun _ => none) a b).1 <;> simp
theorem cov_chain (a b c : Rg) (h1 : (cov (fun _ => none) a b).1 = true) (h2 : (cov (fun _ => none) b c).1 = true) (h3 : (cov (cov (fun _ => none) b c).2 b b).1 = true) : cov (fun _ => none) a c = (true, (cov (fun _ => none) a b).2) := by
  by_cases a0 : a.kind = 0
  · unfold cov; rw [if_pos a0, if_pos a0]
  by_cases e1 : a.kind = b.kind
  rotate_left
  · unfold cov at h1; rw [if_neg a0, if_pos e1] at h1; cases h1
  have b0 : ¬ b.kind = 0 := by rw [← e1]; exact a0
  by_cases e2 : b.kind = c.kind
  rotate_left
  · unfold cov at h2; rw [if_neg b0, if_pos e2] at h2; cases h2
  have e3 : a.kind = c.kind := e1.trans e2
  by_cases k1 : a.kind = 1
  · have k2 : b.kind = 1 := e1 ▸ k1
    unfold cov at h1 h2 ⊢
    rw [if_neg a0, if_neg (not_not_intro e1), if_pos k1] at h1
    rw [if_neg b0, if_neg (not_not_intro e2), if_pos k2] at h2
    rw [if_neg a0, if_neg (not_not_intro e3), if_pos k1, if_neg a0, if_neg (not_not_intro e1), if_pos k1]
    rw [withinR_trans h2 h1]
  have k2 : ¬ b.kind = 1 := e1 ▸ k1
  by_cases k4 : a.kind = 4
  · have k5 : b.kind = 4 := e1 ▸ k4
    unfold cov at h1 h2 ⊢
    rw [if_neg a0, if_neg (not_not_intro e1), if_neg k1, if_pos k4] at h1
    rw [if_neg b0, if_neg (not_not_intro e2), if_neg k2, if_pos k5] at h2
    rw [if_neg a0, if_neg (not_not_intro e3), if_neg k1, if_pos k4, if_neg a0, if_neg (not_not_intro e1), if_neg k1, if_pos k4]
    have g1 := eq_of_beq h1; have g2 := eq_of_beq h2
    rw [g1.trans g2]; simp
  have k5 : ¬ b.kind = 4 := e1 ▸ k4
  by_cases k6 : a.kind = 6
  · have k7 : b.kind = 6 := e1 ▸ k6
    unfold cov at h1 h2 h3 ⊢
    rw [if_neg b0, if_neg (not_not_intro rfl), if_neg k2, if_neg k5, if_pos k7, if_pos rfl, if_neg b0, if_neg (not_not_intro e2), if_neg k2, if_neg k5, if_pos k7] at h3
    rw [if_neg a0, if_neg (not_not_intro e1), if_neg k1, if_neg k4, if_pos k6] at h1
    rw [if_neg b0, if_neg (not_not_intro e2), if_neg k2, if_neg k5, if_pos k7] at h2
    rw [if_neg a0, if_neg (not_not_intro e3), if_neg k1, if_neg k4, if_pos k6, if_neg a0, if_neg (not_not_intro e1), if_neg k1, if_neg k4, if_pos k6]
    by_cases s1 : a.slot = b.slot
    rotate_left
    · rw [if_neg s1] at h1; cases h1
    by_cases s2 : b.slot = c.slot
    rotate_left
    · rw [if_neg s2] at h2; cases h2
    rw [if_pos s2] at h3
    rw [if_pos (s1.trans s2), if_pos s1]
    have e : c.id = b.id := by simpa [may] using h3
    simp [may, e]
  have k7 : ¬ b.kind = 6 := e1 ▸ k6
  unfold cov at h1 h2 ⊢
  rw [if_neg a0, if_neg (not_not_intro e1), if_neg k1, if_neg k4, if_neg k6] at h1
  rw [if_neg b0, if_neg (not_not_intro e2), if_neg k2, if_neg k5, if_neg k7] at h2
  rw [if_neg a0, if_neg (not_not_intro e3), if_neg k1, if_neg k4, if_neg k6, if_neg a0, if_neg (not_not_intro e1), if_neg k1, if_neg k4, if_neg k6]
  simp only [Bool.and_eq_true, decide_eq_true_eq, beq_iff_eq] at h1 h2
  obtain ⟨⟨p1, p2⟩, p3⟩ := h1
  obtain ⟨⟨q1, q2⟩, q3⟩ := h2
  have r2 : a.low ≤ c.low := by omega
  have r3 : c.high ≤ a.high := by omega
  simp [p1, q1, r2, r3]
theorem chains (a b c d : Rg) (h1 : covers (pairS a d) (pairS b b) = true) (h2 : covers (pairS b b) (pairS c b) = true) : covers (pairS a d) (pairS c b) = true := by
  rw [pair_covers, Bool.and_eq_true] at *
  obtain ⟨p1, p2⟩ := h1
  obtain ⟨q1, q2⟩ := h2
  rw [cov_chain a b c p1 q1 q2]
  exact ⟨rfl, p2⟩
theorem pair_r (P : Rg → Prop) (a d : Rg) (ha : P a) (hd : P d) (h0 : P zr) (h1 : P { zr with kind := 2 }) (h2 : P { zr with kind := 3 }) (k : Nat) : P ((pairS a d).r k) := by
  show P (upd (upd start.r 0 a) 6 d k)
  unfold upd
  by_cases h6 : k = 6
  · rw [if_pos h6]; exact hd
  rw [if_neg h6]
  by_cases h0' : k = 0
  · rw [if_pos h0']; exact ha
  rw [if_neg h0']; show P (upd (upd (fun _ => zr) 1 _) 10 _ k)
  unfold upd
  by_cases h10 : k = 10
  · rw [if_pos h10]; exact h2
  rw [if_neg h10]
  by_cases h1' : k = 1
  · rw [if_pos h1']; exact h1
  rw [if_neg h1']; exact h0
end PlainAbs
open PlainAbs (Rg St zr zs upd Im pairS)
/-- A register as a pair's range and kind make it. -/
def mk7 (x : Rg) (k : Nat) (n m : W) : Rg := { x with kind := (k : Int), r := PlainScalar.join (PlainScalar.const n) (PlainScalar.const m) }
theorem pair_ok (a d : Rg) (ha : okKey a.id) (hd : okKey d.id) (k : Nat) : okKey ((pairS a d).r k).id := PlainAbs.pair_r (fun x => okKey x.id) a d ha hd (by decide) (by decide) (by decide) k
section
variable {P : Program} {w : World} {r : Reach} {base : Nat}
theorem okKey_at {x : Int} (h0 : IntKind.i64.min ≤ x) (h1 : x ≤ IntKind.i64.max) : okKey x := by
  show (decide _ && decide _) = true; rw [Bool.and_eq_true, decide_eq_true_eq, decide_eq_true_eq]; exact ⟨h0, h1⟩
theorem open_pair {t k u i : TypeId} {v : Value} (hk : P.underlying k = some (.int .i64)) (hu : P.underlying u = some (.int .u64)) (hi : P.underlying i = some (.int .i64)) (hs : (match P.underlying t with | some (.struct _) | some (.array _ _) => true | _ => false) = true)
    (hc : P.cellTypes P.depth t = some [k, u, u, u, u, i, i, k, k, i, i, k, u, u, u, u, i, i, k, k, i, i, u, u, u, u]) (hn : P.cellsOf t = 26) (hv : Value.okWide P w r base t v) : ∃ (a b : Rg) (n0 n1 m0 m1 : W), okKey a.id ∧ okKey b.id ∧ v = .agg #[.int .i64 a.kind, uv a.r.b.v, uv a.r.b.m, uv a.r.lo, uv a.r.hi, sv a.r.sl, sv a.r.sh, .int .i64 a.slot, .int .i64 a.id, .int .i64 a.low, .int .i64 a.high, .int .i64 b.kind, uv b.r.b.v, uv b.r.b.m, uv b.r.lo, uv b.r.hi, sv b.r.sl, sv b.r.sh, .int .i64 b.slot, .int .i64 b.id, .int .i64 b.low, .int .i64 b.high, uv n0, uv n1, uv m0, uv m1] := by
  obtain ⟨cs, rfl, hsz, hcell⟩ := open_flat hs hc hn hv
  obtain ⟨l⟩ := cs
  match l, hsz with
  | [c0, c1, c2, c3, c4, c5, c6, c7, c8, c9, c10, c11, c12, c13, c14, c15, c16, c17, c18, c19, c20, c21, c22, c23, c24, c25], _ =>
    obtain ⟨x0, rfl, l0, h0⟩ := cell_int hk (hcell 0 c0 k rfl rfl)
    obtain ⟨x1, rfl⟩ := cell_u64 hu (hcell 1 c1 u rfl rfl)
    obtain ⟨x2, rfl⟩ := cell_u64 hu (hcell 2 c2 u rfl rfl)
    obtain ⟨x3, rfl⟩ := cell_u64 hu (hcell 3 c3 u rfl rfl)
    obtain ⟨x4, rfl⟩ := cell_u64 hu (hcell 4 c4 u rfl rfl)
    obtain ⟨x5, rfl⟩ := cell_i64 hi (hcell 5 c5 i rfl rfl)
    obtain ⟨x6, rfl⟩ := cell_i64 hi (hcell 6 c6 i rfl rfl)
    obtain ⟨x7, rfl, l7, h7⟩ := cell_int hk (hcell 7 c7 k rfl rfl)
    obtain ⟨x8, rfl, l8, h8⟩ := cell_int hk (hcell 8 c8 k rfl rfl)
    obtain ⟨x9, rfl, l9, h9⟩ := cell_int hi (hcell 9 c9 i rfl rfl)
    obtain ⟨x10, rfl, l10, h10⟩ := cell_int hi (hcell 10 c10 i rfl rfl)
    obtain ⟨x11, rfl, l11, h11⟩ := cell_int hk (hcell 11 c11 k rfl rfl)
    obtain ⟨x12, rfl⟩ := cell_u64 hu (hcell 12 c12 u rfl rfl)
    obtain ⟨x13, rfl⟩ := cell_u64 hu (hcell 13 c13 u rfl rfl)
    obtain ⟨x14, rfl⟩ := cell_u64 hu (hcell 14 c14 u rfl rfl)
    obtain ⟨x15, rfl⟩ := cell_u64 hu (hcell 15 c15 u rfl rfl)
    obtain ⟨x16, rfl⟩ := cell_i64 hi (hcell 16 c16 i rfl rfl)
    obtain ⟨x17, rfl⟩ := cell_i64 hi (hcell 17 c17 i rfl rfl)
    obtain ⟨x18, rfl, l18, h18⟩ := cell_int hk (hcell 18 c18 k rfl rfl)
    obtain ⟨x19, rfl, l19, h19⟩ := cell_int hk (hcell 19 c19 k rfl rfl)
    obtain ⟨x20, rfl, l20, h20⟩ := cell_int hi (hcell 20 c20 i rfl rfl)
    obtain ⟨x21, rfl, l21, h21⟩ := cell_int hi (hcell 21 c21 i rfl rfl)
    obtain ⟨x22, rfl⟩ := cell_u64 hu (hcell 22 c22 u rfl rfl)
    obtain ⟨x23, rfl⟩ := cell_u64 hu (hcell 23 c23 u rfl rfl)
    obtain ⟨x24, rfl⟩ := cell_u64 hu (hcell 24 c24 u rfl rfl)
    obtain ⟨x25, rfl⟩ := cell_u64 hu (hcell 25 c25 u rfl rfl)
    exact ⟨⟨x0, ⟨⟨x1, x2⟩, x3, x4, x5, x6⟩, x7, x8, x9, x10⟩, ⟨x11, ⟨⟨x12, x13⟩, x14, x15, x16, x17⟩, x18, x19, x20, x21⟩, x22, x23, x24, x25, okKey_at l8 h8, okKey_at l19 h19, rfl⟩
end
end Go.Proofs.Ytmghpoagpiljhab
