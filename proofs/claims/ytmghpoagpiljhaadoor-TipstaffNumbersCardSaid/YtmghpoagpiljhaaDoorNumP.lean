/- Plain law of TipstaffNumbers: a byte that is masked, bounded, shifted and added stays in what is told of it: no program in sight. -/
import Derived.Test.YtmghpoagpiljhaaDoorBranch
set_option linter.unusedSimpArgs false
set_option linter.unusedVariables false
namespace Go.Proofs.YtmghpoagpiljhaaDoor
namespace PlainNum
open PlainTnum (W N)
open PlainScalar (Rng Has has doF low any const within has_iff)
/-- A byte as a number of 64 bits. -/
def z64 (c : BitVec 8) : W := c.setWidth 64
def rF (m : BitVec 8) : Rng := doF 5 true (low any 1) (const (z64 m))
def aF (m bd : BitVec 8) (h : Bool) : (Rng × Rng) × Bool := PlainBranch.refine 10 true (rF m) (const (z64 bd)) h
def bF (a : Rng) (k : Nat) : Rng := doF 6 true a (const (BitVec.ofNat 64 k))
def cF (a : Rng) (k : Nat) : Rng := doF 0 true (bF a k) a
def dF (a : Rng) (k : Nat) : Rng := doF 1 false (cF a k) (const 3#64)
theorem z64_nat (c : BitVec 8) : (z64 c).toNat = c.toNat := by
  have := c.isLt
  unfold z64
  rw [BitVec.toNat_setWidth]
  omega
theorem z64_and (x m : BitVec 8) : z64 x &&& z64 m = z64 (x &&& m) := by
  apply BitVec.eq_of_getLsbD_eq
  intro i hi
  simp [z64, BitVec.getLsbD_and, BitVec.getLsbD_setWidth, hi]
theorem low_byte (x : BitVec 8) : PlainScalar.lowW (z64 x) 1 = z64 x := PlainScalar.lowW_small (.inl rfl) (by
  have := x.isLt
  rw [z64_nat]
  show x.toNat ≤ 255
  omega)
theorem r_has (x m : BitVec 8) : Has (rF m) (z64 (x &&& m)) := by
  have h := PlainScalar.low_has (PlainScalar.any_has (z64 x)) 1
  rw [low_byte] at h
  have h2 := PlainScalar.do_has (op := 5) (is64 := true) h (PlainScalar.const_has (z64 m))
  rw [← z64_and]
  exact h2
theorem a_has (x m bd : BitVec 8) (h : Bool) (hh : h = decide ((z64 (x &&& m)).toNat < (z64 bd).toNat)) : (aF m bd h).2 = true ∧ Has (aF m bd h).1.1 (z64 (x &&& m)) := by
  have hr := PlainBranch.refine_has (op := 10) (long := true) (by unfold PlainBranch.isOp; omega) (r_has x m) (PlainScalar.const_has (z64 bd))
  have e : PlainBranch.holds 10 true (z64 (x &&& m)) (z64 bd) = h := by rw [hh]; rfl
  rw [e] at hr
  exact ⟨hr.1, hr.2.1⟩
theorem b_has {a : Rng} {n : W} (h : Has a n) (k : Nat) (hk : k < 16) : Has (bF a k) (n <<< k) := by
  have h2 := PlainScalar.do_has (op := 6) (is64 := true) h (PlainScalar.const_has (BitVec.ofNat 64 k))
  have e : PlainScalar.eval 6 true n (BitVec.ofNat 64 k) = n <<< k := by
    show n <<< ((BitVec.ofNat 64 k).toNat % 64) = _
    rw [BitVec.toNat_ofNat, show k % 2 ^ 64 % 64 = k by omega]
  rw [e] at h2
  exact h2
theorem c_has {a : Rng} {n : W} (h : Has a n) (k : Nat) (hk : k < 16) : Has (cF a k) (n <<< k + n) :=
  PlainScalar.do_has (op := 0) (is64 := true) (b_has h k hk) h
theorem d_has {a : Rng} {n : W} (h : Has a n) (k : Nat) (hk : k < 16) : Has (dF a k) (PlainScalar.low4 (n <<< k + n - 3#64)) := by
  have h2 := PlainScalar.do_has (op := 1) (is64 := false) (c_has h k hk) (PlainScalar.const_has 3#64)
  have e : PlainScalar.eval 1 false (n <<< k + n) 3#64 = PlainScalar.low4 (n <<< k + n - 3#64) := by
    show PlainScalar.low4 (PlainScalar.low4 (n <<< k + n) - PlainScalar.low4 3#64) = _
    generalize n <<< k + n = y
    apply BitVec.eq_of_toNat_eq
    have := y.isLt
    rw [PlainScalar.low4_nat, PlainScalar.low4_nat, BitVec.toNat_sub, BitVec.toNat_sub, PlainScalar.low4_nat, show (3#64 : W).toNat = 3 from rfl, PlainScalar.low4_nat]
    omega
  rw [e] at h2
  exact h2
/-- All that the law asks. -/
theorem law (x m bd : BitVec 8) (k : Nat) (hk : k < 16) (h : Bool) (hh : h = decide ((z64 (x &&& m)).toNat < (z64 bd).toNat)) :
    has (rF m) (z64 (x &&& m)) = true ∧ (aF m bd h).2 = true ∧ has (aF m bd h).1.1 (z64 (x &&& m)) = true ∧ within (aF m bd h).1.1 (rF m) = true ∧
    has (bF (aF m bd h).1.1 k) (z64 (x &&& m) <<< k) = true ∧ has (cF (aF m bd h).1.1 k) (z64 (x &&& m) <<< k + z64 (x &&& m)) = true ∧
    has (dF (aF m bd h).1.1 k) (PlainScalar.low4 (z64 (x &&& m) <<< k + z64 (x &&& m) - 3#64)) = true := by
  have ha := a_has x m bd h hh
  exact ⟨has_iff.2 (r_has x m), ha.1, has_iff.2 ha.2, (PlainBranch.refine_in ha.1).1, has_iff.2 (b_has ha.2 k hk), has_iff.2 (c_has ha.2 k hk), has_iff.2 (d_has ha.2 k hk)⟩
end PlainNum
end Go.Proofs.YtmghpoagpiljhaaDoor
