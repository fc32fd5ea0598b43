/- Plain law of scalar: what a number may be, over BitVec 64: no program in sight. -/
import Derived.Test.YtmghpoagpiljhaaDoorTnum
set_option linter.unusedSimpArgs false
set_option linter.unusedVariables false
namespace Go.Proofs.YtmghpoagpiljhaaDoor
namespace PlainScalar
open PlainTnum (W N)

structure Rng where
  b : N
  lo : W
  hi : W
  sl : W
  sh : W
deriving DecidableEq
@[ext] theorem Rng.ext' {a b : Rng} (h1 : a.b = b.b) (h2 : a.lo = b.lo) (h3 : a.hi = b.hi) (h4 : a.sl = b.sl) (h5 : a.sh = b.sh) : a = b := by
  cases a; cases b; simp_all

def maxU (x y : W) : W := if x.toNat < y.toNat then y else x
def minU (x y : W) : W := if y.toNat < x.toNat then y else x
def maxS (x y : W) : W := if x.toInt < y.toInt then y else x
def minS (x y : W) : W := if y.toInt < x.toInt then y else x

def has (a : Rng) (x : W) : Bool := PlainTnum.has a.b x && decide (a.lo.toNat ≤ x.toNat) && decide (x.toNat ≤ a.hi.toNat) && decide (a.sl.toInt ≤ x.toInt) && decide (x.toInt ≤ a.sh.toInt)
structure Has (a : Rng) (x : W) : Prop where
  b : PlainTnum.has a.b x = true
  lo : a.lo.toNat ≤ x.toNat
  hi : x.toNat ≤ a.hi.toNat
  sl : a.sl.toInt ≤ x.toInt
  sh : x.toInt ≤ a.sh.toInt
theorem has_iff {a : Rng} {x : W} : has a x = true ↔ Has a x := by
  unfold has
  simp only [Bool.and_eq_true, decide_eq_true_eq]
  exact ⟨fun ⟨⟨⟨⟨a, b⟩, c⟩, d⟩, e⟩ => ⟨a, b, c, d, e⟩, fun ⟨a, b, c, d, e⟩ => ⟨⟨⟨⟨a, b⟩, c⟩, d⟩, e⟩⟩
def minI : W := 9223372036854775808#64
def maxI : W := 9223372036854775807#64
def const (x : W) : Rng := ⟨PlainTnum.const x, x, x, x, x⟩
def any : Rng := ⟨PlainTnum.any, 0#64, BitVec.allOnes 64, minI, maxI⟩
def within (a b : Rng) : Bool :=
  decide (b.lo.toNat ≤ a.lo.toNat) && decide (a.hi.toNat ≤ b.hi.toNat) && (decide (b.sl.toInt ≤ a.sl.toInt) && decide (a.sh.toInt ≤ b.sh.toInt)) && PlainTnum.within a.b b.b
def join (a b : Rng) : Rng := ⟨PlainTnum.join a.b b.b, minU a.lo b.lo, maxU a.hi b.hi, minS a.sl b.sl, maxS a.sh b.sh⟩

def signs1 (a : Rng) : Rng := if a.lo.toInt ≤ a.hi.toInt then { a with sl := maxS a.sl a.lo, sh := minS a.sh a.hi } else a
def signs2 (a : Rng) : Rng := if 0 ≤ a.sl.toInt ∨ a.sh.toInt < 0 then { a with lo := maxU a.lo a.sl, hi := minU a.hi a.sh } else a
def signs (a : Rng) : Rng := signs2 (signs1 a)
def len (x : W) : Nat := if x = 0#64 then 0 else x.toNat.log2 + 1
def maskOf (n : Nat) : W := if n = 64 then BitVec.allOnes 64 else (1#64 <<< n) - 1#64
def common (lo hi : W) : N := ⟨lo &&& ~~~maskOf (len (lo ^^^ hi)), maskOf (len (lo ^^^ hi))⟩
def none_ : Rng := ⟨⟨0#64, 0#64⟩, 0#64, 0#64, 0#64, 0#64⟩
def bound (a : Rng) : Rng := { a with lo := maxU a.lo a.b.v, hi := minU a.hi (a.b.v ||| a.b.m) }
def settle (a : Rng) : Rng × Bool :=
  if ¬ (PlainTnum.rightN a.b = true ∧ a.lo.toNat ≤ a.hi.toNat ∧ a.sl.toInt ≤ a.sh.toInt) then (none_, false) else
  if (bound a).hi.toNat < (bound a).lo.toNat then (none_, false) else
  if (signs (bound a)).hi.toNat < (signs (bound a)).lo.toNat ∨ (signs (bound a)).sh.toInt < (signs (bound a)).sl.toInt then (none_, false) else
  if (PlainTnum.meet (signs (bound a)).b (common (signs (bound a)).lo (signs (bound a)).hi)).2 = true then
    ({ signs (bound a) with b := (PlainTnum.meet (signs (bound a)).b (common (signs (bound a)).lo (signs (bound a)).hi)).1 }, true)
  else (none_, false)
def settled (a : Rng) : Rng := if (settle a).2 = true then (settle a).1 else a
def ofBits (t : N) : Rng := settled { any with b := t }
def between (lo hi : W) : Rng := settled { any with lo := lo, hi := hi }
/-- The greatest number of so many bytes. -/
def most (bytes : Int) : W := if bytes = 1 then 255#64 else if bytes = 2 then 65535#64 else 4294967295#64
def low (a : Rng) (bytes : Int) : Rng :=
  if bytes = 1 ∨ bytes = 2 ∨ bytes = 4 then
    if a.hi.toNat ≤ (most bytes).toNat then settled { between a.lo a.hi with b := PlainTnum.low a.b bytes } else ofBits (PlainTnum.low a.b bytes)
  else a
def alone (a : Rng) : Bool := (a.b.m == 0#64) && (a.lo == a.hi) && (a.sl == a.sh) && has a a.lo

/-! ### signs -/
theorem toInt_cond (x : W) : x.toInt = if x.toNat < 9223372036854775808 then (x.toNat : Int) else (x.toNat : Int) - 18446744073709551616 := by
  rw [BitVec.toInt_eq_toNat_cond]
  have := x.isLt
  split <;> split <;> omega
theorem lt64 (x : W) : x.toNat < 18446744073709551616 := x.isLt
theorem toInt_lo (x : W) : -9223372036854775808 ≤ x.toInt := by have := lt64 x; rw [toInt_cond]; split <;> omega
theorem toInt_hi (x : W) : x.toInt ≤ 9223372036854775807 := by have := lt64 x; rw [toInt_cond]; split <;> omega
theorem maxU_nat (x y : W) : (maxU x y).toNat = max x.toNat y.toNat := by unfold maxU; split <;> omega
theorem minU_nat (x y : W) : (minU x y).toNat = min x.toNat y.toNat := by unfold minU; split <;> omega
theorem maxS_int (x y : W) : (maxS x y).toInt = max x.toInt y.toInt := by unfold maxS; split <;> omega
theorem minS_int (x y : W) : (minS x y).toInt = min x.toInt y.toInt := by unfold minS; split <;> omega
theorem signs1_has {a : Rng} {x : W} (h : Has a x) : Has (signs1 a) x := by
  obtain ⟨h1, h2, h3, h4, h5⟩ := h
  unfold signs1
  split
  · rename_i hc
    refine ⟨h1, h2, h3, ?_, ?_⟩
    · show (maxS a.sl a.lo).toInt ≤ x.toInt
      rw [maxS_int]
      rw [toInt_cond a.lo, toInt_cond a.hi] at hc
      have e1 := toInt_cond a.lo
      have e2 := toInt_cond x
      have := lt64 a.hi
      split at hc <;> split at hc <;> split at e1 <;> split at e2 <;> omega
    · show x.toInt ≤ (minS a.sh a.hi).toInt
      rw [minS_int]
      rw [toInt_cond a.lo, toInt_cond a.hi] at hc
      have e1 := toInt_cond a.hi
      have e2 := toInt_cond x
      have := lt64 a.hi
      split at hc <;> split at hc <;> split at e1 <;> split at e2 <;> omega
  · exact ⟨h1, h2, h3, h4, h5⟩
theorem signs2_has {a : Rng} {x : W} (h : Has a x) : Has (signs2 a) x := by
  obtain ⟨h1, h2, h3, h4, h5⟩ := h
  unfold signs2
  split
  · rename_i hc
    refine ⟨h1, ?_, ?_, h4, h5⟩
    · show (maxU a.lo a.sl).toNat ≤ x.toNat
      rw [maxU_nat]
      have e0 := toInt_cond a.sh
      have e1 := toInt_cond a.sl
      have e2 := toInt_cond x
      have := lt64 a.sl
      have := lt64 a.sh
      have := lt64 x
      split at e0 <;> split at e1 <;> split at e2 <;> omega
    · show x.toNat ≤ (minU a.hi a.sh).toNat
      rw [minU_nat]
      have e0 := toInt_cond a.sh
      have e1 := toInt_cond a.sl
      have e2 := toInt_cond x
      have := lt64 a.sl
      have := lt64 a.sh
      have := lt64 x
      split at e0 <;> split at e1 <;> split at e2 <;> omega
  · exact ⟨h1, h2, h3, h4, h5⟩
theorem signs_has {a : Rng} {x : W} (h : Has a x) : Has (signs a) x := signs2_has (signs1_has h)
theorem signs_b (a : Rng) : (signs a).b = a.b := by
  unfold signs signs2 signs1; split <;> split <;> rfl

/-! ### bits and bounds -/
theorem le_of_bits {x y : W} (h : PlainTnum.le x y) : x.toNat ≤ y.toNat := by
  have e : x = x &&& y := by
    apply PlainTnum.ext64
    intro i hi
    have := h i hi
    simp only [BitVec.getLsbD_and]
    revert this
    cases x.getLsbD i <;> cases y.getLsbD i <;> simp
  rw [e, BitVec.toNat_and]
  exact Nat.and_le_right
theorem v_le {a : N} {x : W} (h : PlainTnum.has a x = true) : a.v.toNat ≤ x.toNat := by
  have h' := PlainTnum.has_iff.1 h
  apply le_of_bits
  intro i hi
  rw [← h' i hi]
  cases x.getLsbD i <;> cases a.m.getLsbD i <;> rfl
theorem le_vm {a : N} {x : W} (h : PlainTnum.has a x = true) : x.toNat ≤ (a.v ||| a.m).toNat := by
  have h' := PlainTnum.has_iff.1 h
  apply le_of_bits
  intro i hi
  simp only [BitVec.getLsbD_or]
  rw [← h' i hi]
  cases x.getLsbD i <;> cases a.m.getLsbD i <;> rfl
theorem bound_has {a : Rng} {x : W} (h : Has a x) : Has (bound a) x := by
  obtain ⟨h1, h2, h3, h4, h5⟩ := h
  have := v_le h1
  have := le_vm h1
  refine ⟨h1, ?_, ?_, h4, h5⟩
  · show (maxU _ _).toNat ≤ _
    rw [maxU_nat]; omega
  · show _ ≤ (minU _ _).toNat
    rw [minU_nat]; omega

/-! ### the upper bits that all numbers of two bounds have -/
theorem len_le (x : W) : len x ≤ 64 := by
  unfold len
  split
  · omega
  · rename_i h
    have : x.toNat ≠ 0 := fun e => h (BitVec.eq_of_toNat_eq (by simpa using e))
    have := (Nat.log2_lt this).2 (show x.toNat < 2 ^ 64 from x.isLt)
    omega
theorem lt_len (x : W) : x.toNat < 2 ^ len x := by
  unfold len
  split
  · rename_i h; subst h; decide
  · rename_i h
    have h0 : x.toNat ≠ 0 := fun e => h (BitVec.eq_of_toNat_eq (by simpa using e))
    exact (Nat.log2_lt h0).1 (by omega)
theorem mask_bit (n i : Nat) (hn : n ≤ 64) (hi : i < 64) : (maskOf n).getLsbD i = decide (i < n) := by
  unfold maskOf
  split
  · rename_i h; subst h; rw [BitVec.getLsbD_allOnes]
  · have e : (1#64 <<< n) - 1#64 = BitVec.ofNat 64 (2 ^ n - 1) := by
      apply BitVec.eq_of_toNat_eq
      have hlt : 2 ^ n < 2 ^ 64 := Nat.pow_lt_pow_right (by omega) (by omega)
      have hpos : 0 < 2 ^ n := Nat.two_pow_pos n
      simp only [BitVec.toNat_sub, BitVec.toNat_shiftLeft, BitVec.toNat_ofNat, Nat.shiftLeft_eq]
      have e1 : 1 % 2 ^ 64 = 1 := by decide
      rw [e1, Nat.one_mul, Nat.mod_eq_of_lt hlt, Nat.mod_eq_of_lt (show 2 ^ n - 1 < 2 ^ 64 by omega)]
      omega
    rw [e, PlainTnum.keep_bit n i hi]
theorem upper_same {x y : W} {n : Nat} (h : (x ^^^ y).toNat < 2 ^ n) : x.toNat / 2 ^ n = y.toNat / 2 ^ n := by
  have h0 : (x.toNat ^^^ y.toNat) >>> n = 0 := by
    rw [BitVec.toNat_xor] at h
    rw [Nat.shiftRight_eq_div_pow]
    exact Nat.div_eq_of_lt h
  rw [Nat.shiftRight_xor_distrib] at h0
  rw [← Nat.shiftRight_eq_div_pow, ← Nat.shiftRight_eq_div_pow]
  have := congrArg (· ^^^ (y.toNat >>> n)) h0
  simpa [Nat.xor_assoc] using this
theorem upper_bit {x y : W} {n : Nat} (h : x.toNat / 2 ^ n = y.toNat / 2 ^ n) (i : Nat) (hi : n ≤ i) : x.getLsbD i = y.getLsbD i := by
  have e : ∀ z : W, z.getLsbD i = (z.toNat / 2 ^ n).testBit (i - n) := by
    intro z
    rw [← Nat.shiftRight_eq_div_pow, Nat.testBit_shiftRight, BitVec.getLsbD]
    congr 1
    omega
  rw [e, e, h]
theorem common_has {lo hi x : W} (h1 : lo.toNat ≤ x.toNat) (h2 : x.toNat ≤ hi.toNat) : PlainTnum.has (common lo hi) x = true := by
  have hlt := lt_len (lo ^^^ hi)
  have hle := len_le (lo ^^^ hi)
  unfold common
  generalize len (lo ^^^ hi) = n at hlt hle
  have hu := upper_same hlt
  have hx : x.toNat / 2 ^ n = lo.toNat / 2 ^ n := by
    have a := Nat.div_le_div_right (c := 2 ^ n) h1
    have b := Nat.div_le_div_right (c := 2 ^ n) h2
    omega
  rw [PlainTnum.has_iff]
  intro i hi'
  simp only [BitVec.getLsbD_and, BitVec.getLsbD_not, mask_bit n i hle hi', hi', decide_true, Bool.true_and]
  by_cases e : i < n
  · simp [e]
  · simp only [e, decide_false, Bool.not_false, Bool.and_true]
    exact upper_bit hx i (by omega)
theorem has_meet {a b : N} {x : W} (h1 : PlainTnum.has a x = true) (h2 : PlainTnum.has b x = true) : (PlainTnum.meet a b).2 = true ∧ PlainTnum.has (PlainTnum.meet a b).1 x = true := by
  have k1 := PlainTnum.has_iff.1 h1
  have k2 := PlainTnum.has_iff.1 h2
  have h0 : ((a.v ^^^ b.v) &&& ~~~(a.m ||| b.m)) = 0#64 := by
    apply PlainTnum.ext64
    intro i hi
    have k1 := k1 i hi
    have k2 := k2 i hi
    simp only [BitVec.getLsbD_and, BitVec.getLsbD_or, BitVec.getLsbD_xor, BitVec.getLsbD_not, BitVec.getLsbD_zero, hi, decide_true, Bool.true_and]
    rw [← k1, ← k2]
    cases x.getLsbD i <;> cases a.m.getLsbD i <;> cases b.m.getLsbD i <;> rfl
  unfold PlainTnum.meet
  rw [if_neg (by simp [h0])]
  refine ⟨rfl, ?_⟩
  rw [PlainTnum.has_iff]
  intro i hi
  have k1 := k1 i hi
  have k2 := k2 i hi
  simp only [PlainTnum.of, BitVec.getLsbD_and, BitVec.getLsbD_or, BitVec.getLsbD_not, hi, decide_true, Bool.true_and]
  rw [← k1, ← k2]
  cases x.getLsbD i <;> cases a.m.getLsbD i <;> cases b.m.getLsbD i <;> rfl

/-! ### settled bounds -/
theorem settle_has {a : Rng} {x : W} (h : Has a x) : (settle a).2 = true ∧ Has (settle a).1 x := by
  have hb := bound_has h
  have hs := signs_has hb
  unfold settle
  rw [if_neg (by
    rw [Classical.not_not]
    exact ⟨PlainTnum.R_iff.2 (PlainTnum.R_has h.b), Nat.le_trans h.lo h.hi, Int.le_trans h.sl h.sh⟩)]
  rw [if_neg (by have := hb.lo; have := hb.hi; omega)]
  rw [if_neg (by have := hs.lo; have := hs.hi; have := hs.sl; have := hs.sh; omega)]
  have hm := has_meet hs.b (common_has hs.lo hs.hi)
  rw [if_pos hm.1]
  exact ⟨rfl, hm.2, hs.lo, hs.hi, hs.sl, hs.sh⟩
theorem settled_has {a : Rng} {x : W} (h : Has a x) : Has (settled a) x := by
  have := settle_has h
  unfold settled
  rw [if_pos this.1]
  exact this.2
theorem any_has (x : W) : Has any x := by
  refine ⟨?_, ?_, ?_, ?_, ?_⟩
  · rw [PlainTnum.has_const]; exact PlainTnum.within_any
  · show (0#64).toNat ≤ _; simp
  · show _ ≤ (BitVec.allOnes 64).toNat
    have := lt64 x
    rw [BitVec.toNat_allOnes]; omega
  · have := toInt_lo x
    show minI.toInt ≤ _
    have e : minI.toInt = -9223372036854775808 := by decide
    omega
  · have := toInt_hi x
    show _ ≤ maxI.toInt
    have e : maxI.toInt = 9223372036854775807 := by decide
    omega
theorem const_has (x : W) : Has (const x) x := ⟨PlainTnum.has_self x, Nat.le_refl _, Nat.le_refl _, Int.le_refl _, Int.le_refl _⟩
theorem ofBits_has {t : N} {x : W} (h : PlainTnum.has t x = true) : Has (ofBits t) x := by
  have := any_has x
  exact settled_has ⟨h, this.lo, this.hi, this.sl, this.sh⟩
theorem between_has {lo hi x : W} (h1 : lo.toNat ≤ x.toNat) (h2 : x.toNat ≤ hi.toNat) : Has (between lo hi) x := by
  have := any_has x
  exact settled_has ⟨this.b, h1, h2, this.sl, this.sh⟩
theorem within_has {a b : Rng} (h : within a b = true) {x : W} (hx : Has a x) : Has b x := by
  unfold within at h
  simp only [Bool.and_eq_true, decide_eq_true_eq] at h
  obtain ⟨⟨⟨h1, h2⟩, h3, h4⟩, h5⟩ := h
  obtain ⟨k1, k2, k3, k4, k5⟩ := hx
  exact ⟨PlainTnum.within_has h5 k1, by omega, by omega, by omega, by omega⟩
theorem join_has_l {a b : Rng} {x : W} (h : Has a x) : Has (join a b) x := by
  obtain ⟨h1, h2, h3, h4, h5⟩ := h
  refine ⟨PlainTnum.has_join_l (PlainTnum.R_has h1) h1, ?_, ?_, ?_, ?_⟩
  · show (minU _ _).toNat ≤ _; rw [minU_nat]; omega
  · show _ ≤ (maxU _ _).toNat; rw [maxU_nat]; omega
  · show (minS _ _).toInt ≤ _; rw [minS_int]; omega
  · show _ ≤ (maxS _ _).toInt; rw [maxS_int]; omega
theorem join_has_r {a b : Rng} {x : W} (h : Has b x) : Has (join a b) x := by
  obtain ⟨h1, h2, h3, h4, h5⟩ := h
  refine ⟨PlainTnum.has_join_r (PlainTnum.R_has h1) h1, ?_, ?_, ?_, ?_⟩
  · show (minU _ _).toNat ≤ _; rw [minU_nat]; omega
  · show _ ≤ (maxU _ _).toNat; rw [maxU_nat]; omega
  · show (minS _ _).toInt ≤ _; rw [minS_int]; omega
  · show _ ≤ (maxS _ _).toInt; rw [maxS_int]; omega

/-! ### the lower bytes -/
/-- The lower bytes of a number. -/
def lowW (x : W) (bytes : Int) : W := if bytes = 1 then x &&& 255#64 else if bytes = 2 then x &&& 65535#64 else if bytes = 4 then x &&& 4294967295#64 else x
theorem tlow_has {a : N} {x : W} (h : PlainTnum.has a x = true) (bytes : Int) : PlainTnum.has (PlainTnum.low a bytes) (lowW x bytes) = true := by
  have k := PlainTnum.has_iff.1 h
  have key : ∀ m : W, PlainTnum.has (PlainTnum.of (a.v &&& m) (a.m &&& m)) (x &&& m) = true := by
    intro m
    rw [PlainTnum.has_iff]
    intro i hi
    have k := k i hi
    simp only [PlainTnum.of, BitVec.getLsbD_and, BitVec.getLsbD_not, hi, decide_true, Bool.true_and]
    rw [← k]
    cases x.getLsbD i <;> cases a.m.getLsbD i <;> cases m.getLsbD i <;> rfl
  unfold PlainTnum.low lowW
  split
  · exact key _
  · split
    · exact key _
    · split
      · exact key _
      · have := key (BitVec.allOnes 64)
        rwa [BitVec.and_allOnes, BitVec.and_allOnes, BitVec.and_allOnes] at this
theorem lowW_small {x : W} {bytes : Int} (hb : bytes = 1 ∨ bytes = 2 ∨ bytes = 4) (h : x.toNat ≤ (most bytes).toNat) : lowW x bytes = x := by
  have key : ∀ n : Nat, n < 64 → x.toNat ≤ 2 ^ n - 1 → x &&& BitVec.ofNat 64 (2 ^ n - 1) = x := by
    intro n hn hx
    apply BitVec.eq_of_toNat_eq
    have hpos : 0 < 2 ^ n := Nat.two_pow_pos n
    have hlt : 2 ^ n < 2 ^ 64 := Nat.pow_lt_pow_right (by omega) hn
    rw [BitVec.toNat_and, BitVec.toNat_ofNat, Nat.mod_eq_of_lt (by omega), Nat.and_two_pow_sub_one_eq_mod, Nat.mod_eq_of_lt (by omega)]
  unfold lowW
  rcases hb with rfl | rfl | rfl
  · rw [if_pos rfl]; exact key 8 (by omega) h
  · rw [if_neg (by decide), if_pos rfl]; exact key 16 (by omega) h
  · rw [if_neg (by decide), if_neg (by decide), if_pos rfl]; exact key 32 (by omega) h
theorem low_has {a : Rng} {x : W} (h : Has a x) (bytes : Int) : Has (low a bytes) (lowW x bytes) := by
  unfold low
  have ht := tlow_has h.b bytes
  split
  · rename_i hb
    split
    · rename_i hm
      have e := lowW_small hb (Nat.le_trans h.hi hm)
      have hbt := between_has h.lo h.hi
      rw [e] at ht ⊢
      exact settled_has ⟨ht, hbt.lo, hbt.hi, hbt.sl, hbt.sh⟩
    · exact ofBits_has ht
  · rename_i hb
    unfold lowW
    rw [if_neg (by omega), if_neg (by omega), if_neg (by omega)]
    exact h

/-! ### what an operation makes of two numbers -/
def plain (op : Int) (x y : W) : W :=
  if op = 0 then x + y else if op = 1 then x - y else if op = 2 then x * y else if op = 4 then x ||| y else if op = 5 then x &&& y else
  if op = 8 then -x else if op = 10 then x ^^^ y else if op = 11 then y else
  if op = 3 then (if y = 0#64 then 0#64 else x / y) else if op = 9 then (if y = 0#64 then x else x % y) else 0#64
/-- The lower half, with its sign, shifted down. -/
def sar32 (x : W) (k : Nat) : W := ((x.setWidth 32).signExtend 64).sshiftRight k
def count (wide : Bool) (y : W) : Nat := y.toNat % (if wide then 64 else 32)
def shift (op : Int) (wide : Bool) (x y : W) : W :=
  if op = 6 then x <<< count wide y else if op = 7 then x >>> count wide y else if wide then x.sshiftRight (count wide y) else sar32 x (count wide y)
def core (op : Int) (wide : Bool) (x y : W) : W :=
  if op = 6 ∨ op = 7 ∨ op = 12 then shift op wide x y else plain op x y
def low4 (x : W) : W := x &&& 4294967295#64
def eval (op : Int) (wide : Bool) (x y : W) : W :=
  if wide then core op true x y else low4 (core op false (low4 x) (low4 y))

/-! ### what an operation makes of two ranges -/
def sum (a b : Rng) : Rng :=
  settled (if a.hi.toNat + b.hi.toNat < 18446744073709551616 then { any with b := PlainTnum.add a.b b.b, lo := a.lo + b.lo, hi := a.hi + b.hi } else { any with b := PlainTnum.add a.b b.b })
def difference (a b : Rng) : Rng :=
  settled (if b.hi.toNat ≤ a.lo.toNat then { any with b := PlainTnum.sub a.b b.b, lo := a.lo - b.hi, hi := a.hi - b.lo } else { any with b := PlainTnum.sub a.b b.b })
def product (a b : Rng) : Rng :=
  settled (if a.hi.toNat * b.hi.toNat < 18446744073709551616 then { any with b := PlainTnum.mul a.b b.b, lo := a.lo * b.lo, hi := a.hi * b.hi } else { any with b := PlainTnum.mul a.b b.b })
def bitwise (op : Int) (a b : Rng) : Rng :=
  settled (if op = 5 then { any with b := PlainTnum.and a.b b.b, hi := minU a.hi b.hi } else if op = 4 then { any with b := PlainTnum.or a.b b.b, lo := maxU a.lo b.lo } else { any with b := PlainTnum.xor a.b b.b })
def quotient (op : Int) (a b : Rng) : Rng :=
  if op = 3 ∧ 0 < b.lo.toNat ∧ b.lo.toNat ≤ b.hi.toNat then between (a.lo / b.hi) (a.hi / b.lo) else
  if op = 3 then between 0#64 a.hi else if 0 < b.lo.toNat then between 0#64 (minU a.hi (b.hi - 1#64)) else between 0#64 a.hi
def shifted (op : Int) (k : Nat) (a : Rng) : Rng :=
  if op = 6 then settled (if k ≤ 64 - len a.hi then { any with b := PlainTnum.left a.b k, lo := a.lo <<< k, hi := a.hi <<< k } else { any with b := PlainTnum.left a.b k }) else
  if op = 7 then settled { between (a.lo >>> k) (a.hi >>> k) with b := PlainTnum.down a.b k } else
  settled { any with sl := a.sl.sshiftRight k, sh := a.sh.sshiftRight k }
def moved (op : Int) (wide : Bool) (a b : Rng) : Rng :=
  if ¬ alone b = true then any else if op = 12 ∧ wide = false ∧ 2147483647 < a.hi.toNat then between 0#64 4294967295#64 else shifted op (count wide b.lo) a
def wideF (op : Int) (is64 : Bool) (a b : Rng) : Rng :=
  if op = 0 then sum a b else if op = 1 then difference a b else if op = 8 then difference (const 0#64) a else if op = 2 then product a b else
  if op = 5 ∨ op = 4 ∨ op = 10 then bitwise op a b else if op = 3 ∨ op = 9 then quotient op a b else if op = 6 ∨ op = 7 ∨ op = 12 then moved op is64 a b else
  if op = 11 then b else const 0#64
def doF (op : Int) (is64 : Bool) (a b : Rng) : Rng :=
  if alone a = true ∧ alone b = true then const (eval op is64 a.lo b.lo) else
  if is64 then wideF op true a b else low (wideF op false (low a 4) (low b 4)) 4

/-! ### one number of each -/
theorem anyb {t : N} {x : W} (h : PlainTnum.has t x = true) : Has { any with b := t } x := by
  have := any_has x; exact ⟨h, this.lo, this.hi, this.sl, this.sh⟩
theorem anyu {t : N} {lo hi x : W} (h : PlainTnum.has t x = true) (h1 : lo.toNat ≤ x.toNat) (h2 : x.toNat ≤ hi.toNat) : Has { any with b := t, lo := lo, hi := hi } x := by
  have := any_has x; exact ⟨h, h1, h2, this.sl, this.sh⟩
theorem sum_has {a b : Rng} {x y : W} (hx : Has a x) (hy : Has b y) : Has (sum a b) (x + y) := by
  have hb := PlainTnum.has_add (PlainTnum.R_has hy.b) hx.b hy.b
  unfold sum
  apply settled_has
  split
  · have h1 := hx.lo; have h2 := hx.hi; have h3 := hy.lo; have h4 := hy.hi
    have l := lt64 a.hi
    refine anyu hb ?_ ?_
    · rw [BitVec.toNat_add, BitVec.toNat_add]; omega
    · rw [BitVec.toNat_add, BitVec.toNat_add]; omega
  · exact anyb hb
theorem difference_has {a b : Rng} {x y : W} (hx : Has a x) (hy : Has b y) : Has (difference a b) (x - y) := by
  have hb := PlainTnum.has_sub hx.b hy.b
  unfold difference
  apply settled_has
  split
  · have h1 := hx.lo; have h2 := hx.hi; have h3 := hy.lo; have h4 := hy.hi
    have l := lt64 a.hi
    have l2 := lt64 b.hi
    refine anyu hb ?_ ?_
    · rw [BitVec.toNat_sub, BitVec.toNat_sub]; omega
    · rw [BitVec.toNat_sub, BitVec.toNat_sub]; omega
  · exact anyb hb
theorem product_has {a b : Rng} {x y : W} (hx : Has a x) (hy : Has b y) : Has (product a b) (x * y) := by
  have hb := PlainTnum.has_mul hx.b hy.b
  unfold product
  apply settled_has
  split
  · rename_i hlt
    have h1 := hx.lo; have h2 := hx.hi; have h3 := hy.lo; have h4 := hy.hi
    have m1 : a.lo.toNat * b.lo.toNat ≤ x.toNat * y.toNat := Nat.mul_le_mul h1 h3
    have m2 : x.toNat * y.toNat ≤ a.hi.toNat * b.hi.toNat := Nat.mul_le_mul h2 h4
    refine anyu hb ?_ ?_
    · rw [BitVec.toNat_mul, BitVec.toNat_mul, Nat.mod_eq_of_lt (by omega), Nat.mod_eq_of_lt (by omega)]; exact m1
    · rw [BitVec.toNat_mul, BitVec.toNat_mul, Nat.mod_eq_of_lt (by omega), Nat.mod_eq_of_lt (by omega)]; exact m2
  · exact anyb hb
theorem bitwise_has {op : Int} {a b : Rng} {x y : W} (ho : op = 5 ∨ op = 4 ∨ op = 10) (hx : Has a x) (hy : Has b y) : Has (bitwise op a b) (plain op x y) := by
  unfold bitwise
  apply settled_has
  have h2 := hx.hi; have h4 := hy.hi; have h1 := hx.lo; have h3 := hy.lo
  rcases ho with rfl | rfl | rfl
  · rw [if_pos rfl]
    have hb := PlainTnum.has_and hx.b hy.b
    refine anyu hb (by simp [any]) ?_
    show (x &&& y).toNat ≤ _
    rw [BitVec.toNat_and, minU_nat]
    have := @Nat.and_le_left x.toNat y.toNat
    have := @Nat.and_le_right x.toNat y.toNat
    omega
  · rw [if_neg (by decide), if_pos rfl]
    have hb := PlainTnum.has_or hx.b hy.b
    refine anyu hb ?_ (any_has _).hi
    show _ ≤ (x ||| y).toNat
    rw [BitVec.toNat_or, maxU_nat]
    have := @Nat.left_le_or x.toNat y.toNat
    have := @Nat.right_le_or x.toNat y.toNat
    omega
  · rw [if_neg (by decide), if_neg (by decide)]
    exact anyb (PlainTnum.has_xor hx.b hy.b)
theorem quotient_has {op : Int} {a b : Rng} {x y : W} (ho : op = 3 ∨ op = 9) (hx : Has a x) (hy : Has b y) : Has (quotient op a b) (plain op x y) := by
  have h1 := hx.lo; have h2 := hx.hi; have h3 := hy.lo; have h4 := hy.hi
  unfold quotient
  rcases ho with rfl | rfl
  · have e : (plain 3 x y).toNat = x.toNat / y.toNat := by
      show (if y = 0#64 then 0#64 else x / y).toNat = _
      split
      · rename_i h; subst h; simp
      · exact BitVec.toNat_udiv
    split
    · rename_i hc
      apply between_has
      · rw [e, BitVec.toNat_udiv]
        exact Nat.div_le_div h1 h4 (by omega)
      · rw [e, BitVec.toNat_udiv]
        exact Nat.div_le_div h2 h3 (by omega)
    · rw [if_pos rfl]
      apply between_has (by simp)
      rw [e]
      exact Nat.le_trans (Nat.div_le_self _ _) h2
  · have e : (plain 9 x y).toNat = x.toNat % y.toNat := by
      show (if y = 0#64 then x else x % y).toNat = _
      split
      · rename_i h; subst h; simp
      · exact BitVec.toNat_umod
    rw [if_neg (by omega), if_neg (by decide)]
    have hm := Nat.mod_le x.toNat y.toNat
    split
    · rename_i hc
      apply between_has (by simp)
      rw [e, minU_nat, BitVec.toNat_sub]
      have := Nat.mod_lt x.toNat (show y.toNat > 0 by omega)
      have l := lt64 b.hi
      have e1 : (1#64).toNat = 1 := rfl
      rw [e1]
      omega
    · apply between_has (by simp)
      rw [e]
      omega
theorem alone_one {b : Rng} {y : W} (h : alone b = true) (hy : Has b y) : y = b.lo := by
  unfold alone at h
  simp only [Bool.and_eq_true, beq_iff_eq] at h
  obtain ⟨⟨⟨_, h1⟩, _⟩, _⟩ := h
  apply BitVec.eq_of_toNat_eq
  have := hy.lo; have := hy.hi
  rw [← h1] at this
  omega
theorem shl_nat {x : W} {k : Nat} (h : k ≤ 64 - len x) : x.toNat * 2 ^ k < 18446744073709551616 := by
  have h1 := lt_len x
  have h2 := len_le x
  have : x.toNat * 2 ^ k < 2 ^ len x * 2 ^ k := (Nat.mul_lt_mul_right (Nat.two_pow_pos k)).2 h1
  rw [← Nat.pow_add] at this
  have h3 : 2 ^ (len x + k) ≤ 2 ^ 64 := Nat.pow_le_pow_right (by omega) (by omega)
  omega
theorem shl_le {x y : W} {k : Nat} (h : x.toNat ≤ y.toNat) (hy : y.toNat * 2 ^ k < 18446744073709551616) : (x <<< k).toNat ≤ (y <<< k).toNat := by
  have m := Nat.mul_le_mul_right (2 ^ k) h
  rw [BitVec.toNat_shiftLeft, BitVec.toNat_shiftLeft, Nat.shiftLeft_eq, Nat.shiftLeft_eq, Nat.mod_eq_of_lt (by omega), Nat.mod_eq_of_lt (by omega)]
  exact m
theorem shr_le {x y : W} (k : Nat) (h : x.toNat ≤ y.toNat) : (x >>> k).toNat ≤ (y >>> k).toNat := by
  rw [BitVec.toNat_ushiftRight, BitVec.toNat_ushiftRight, Nat.shiftRight_eq_div_pow, Nat.shiftRight_eq_div_pow]
  exact Nat.div_le_div_right h
theorem sar_le {x y : W} (k : Nat) (h : x.toInt ≤ y.toInt) : (x.sshiftRight k).toInt ≤ (y.sshiftRight k).toInt := by
  rw [BitVec.toInt_sshiftRight, BitVec.toInt_sshiftRight, Int.shiftRight_eq_div_pow, Int.shiftRight_eq_div_pow]
  exact Int.ediv_le_ediv (by exact_mod_cast Nat.two_pow_pos k) h
theorem shifted_has {op : Int} {k : Nat} {a : Rng} {x : W} (ho : op = 6 ∨ op = 7 ∨ op = 12) (hx : Has a x) :
    Has (shifted op k a) (if op = 6 then x <<< k else if op = 7 then x >>> k else x.sshiftRight k) := by
  have h1 := hx.lo; have h2 := hx.hi
  unfold shifted
  rcases ho with rfl | rfl | rfl
  · rw [if_pos rfl, if_pos rfl]
    apply settled_has
    have hb := PlainTnum.has_left hx.b k
    split
    · rename_i hc
      have hk := shl_nat hc
      refine anyu hb (shl_le h1 ?_) (shl_le h2 hk)
      have := Nat.mul_le_mul_right (2 ^ k) h2
      omega
    · exact anyb hb
  · rw [if_neg (by decide), if_pos rfl, if_neg (by decide), if_pos rfl]
    apply settled_has
    have hb := PlainTnum.has_down hx.b k
    have hbt := between_has (shr_le k h1) (shr_le k h2)
    exact ⟨hb, hbt.lo, hbt.hi, hbt.sl, hbt.sh⟩
  · rw [if_neg (by decide), if_neg (by decide), if_neg (by decide), if_neg (by decide)]
    apply settled_has
    have := any_has (x.sshiftRight k)
    exact ⟨this.b, this.lo, this.hi, sar_le k hx.sl, sar_le k hx.sh⟩
theorem low4_nat (x : W) : (low4 x).toNat = x.toNat % 4294967296 := by
  unfold low4
  rw [BitVec.toNat_and]
  exact Nat.and_two_pow_sub_one_eq_mod x.toNat 32
theorem low4_lt (x : W) : (low4 x).toNat ≤ 4294967295 := by rw [low4_nat]; omega
theorem low4_low4 (x : W) : low4 (low4 x) = low4 x := by
  apply BitVec.eq_of_toNat_eq
  rw [low4_nat, low4_nat]; omega
theorem lowW_4 (x : W) : lowW x 4 = low4 x := by
  unfold lowW; rw [if_neg (by decide), if_neg (by decide), if_pos rfl]; rfl
/-- A small number has no sign to be shifted down. -/
theorem sar32_small {x : W} (h : x.toNat ≤ 2147483647) (k : Nat) : sar32 x k = x.sshiftRight k := by
  unfold sar32
  congr 1
  apply BitVec.eq_of_toInt_eq
  rw [BitVec.toInt_signExtend]
  have e1 : (x.setWidth 32).toInt = x.toNat := by
    rw [BitVec.toInt_eq_toNat_cond, BitVec.toNat_setWidth, if_pos (by omega)]
    omega
  have e2 : x.toInt = x.toNat := by
    rw [toInt_cond, if_pos (by omega)]
  rw [e1, e2]
  show Int.bmod (x.toNat : Int) 4294967296 = _
  rw [Int.bmod_def]
  split <;> omega
theorem moved_has {op : Int} {wide : Bool} {a b : Rng} {x y : W} (ho : op = 6 ∨ op = 7 ∨ op = 12) (hx : Has a x) (hy : Has b y) :
    ∃ z, (wide = true → z = shift op wide x y) ∧ low4 z = low4 (shift op wide x y) ∧ Has (moved op wide a b) z := by
  unfold moved
  split
  · exact ⟨_, fun _ => rfl, rfl, any_has _⟩
  · rename_i hal
    have hal : alone b = true := by simpa using hal
    have hy' := alone_one hal hy
    subst hy'
    split
    · rename_i hc
      refine ⟨low4 (shift op wide x b.lo), fun hw => absurd hw (by rw [hc.2.1]; decide), low4_low4 _, ?_⟩
      apply between_has (by simp)
      exact low4_lt _
    · rename_i hc
      have hs := shifted_has (k := count wide b.lo) ho hx
      refine ⟨_, ?_, ?_, hs⟩
      all_goals
        have key : (if op = 6 then x <<< count wide b.lo else if op = 7 then x >>> count wide b.lo else x.sshiftRight (count wide b.lo)) = shift op wide x b.lo := by
          unfold shift
          split
          · rfl
          · split
            · rfl
            · split
              · rfl
              · rename_i h6 h7 hw
                have h12 : op = 12 := by omega
                have hw : wide = false := by simpa using hw
                have hhi : a.hi.toNat ≤ 2147483647 := by
                  rcases Nat.lt_or_ge 2147483647 a.hi.toNat with h | h
                  · exact absurd ⟨h12, hw, h⟩ hc
                  · exact h
                exact (sar32_small (Nat.le_trans hx.hi hhi) _).symm
      · intro _; exact key
      · rw [key]
theorem wide_has {op : Int} {wide : Bool} {a b : Rng} {x y : W} (hx : Has a x) (hy : Has b y) :
    ∃ z, (wide = true → z = core op wide x y) ∧ low4 z = low4 (core op wide x y) ∧ Has (wideF op wide a b) z := by
  have direct : ∀ {r : Rng} {z : W}, core op wide x y = z → Has r z → ∃ z, (wide = true → z = core op wide x y) ∧ low4 z = low4 (core op wide x y) ∧ Has r z :=
    fun {r z} e h => ⟨z, fun _ => e.symm, by rw [e], h⟩
  unfold wideF
  by_cases h0 : op = 0
  · subst h0; exact direct (by simp [core, plain]) (sum_has hx hy)
  rw [if_neg h0]
  by_cases h1 : op = 1
  · subst h1; exact direct (by simp [core, plain]) (difference_has hx hy)
  rw [if_neg h1]
  by_cases h8 : op = 8
  · subst h8; exact direct (z := 0#64 - x) (by simp [core, plain]) (difference_has (const_has _) hx)
  rw [if_neg h8]
  by_cases h2 : op = 2
  · subst h2; exact direct (by simp [core, plain]) (product_has hx hy)
  rw [if_neg h2]
  by_cases hb : op = 5 ∨ op = 4 ∨ op = 10
  · rw [if_pos hb]
    exact direct (by unfold core; rw [if_neg (by omega)]) (bitwise_has hb hx hy)
  rw [if_neg hb]
  by_cases hq : op = 3 ∨ op = 9
  · rw [if_pos hq]
    exact direct (by unfold core; rw [if_neg (by omega)]) (quotient_has hq hx hy)
  rw [if_neg hq]
  by_cases hm : op = 6 ∨ op = 7 ∨ op = 12
  · rw [if_pos hm]
    obtain ⟨z, hz1, hz2, hz3⟩ := moved_has (wide := wide) hm hx hy
    refine ⟨z, ?_, ?_, hz3⟩
    · intro hw; unfold core; rw [if_pos hm]; exact hz1 hw
    · unfold core; rw [if_pos hm]; exact hz2
  rw [if_neg hm]
  by_cases h11 : op = 11
  · subst h11; exact direct (by simp [core, plain]) hy
  rw [if_neg h11]
  refine direct ?_ (const_has _)
  unfold core plain
  rw [if_neg hm, if_neg h0, if_neg h1, if_neg h2, if_neg (by omega), if_neg (by omega), if_neg h8, if_neg (by omega), if_neg h11, if_neg (by omega), if_neg (by omega)]
theorem do_has {op : Int} {is64 : Bool} {a b : Rng} {x y : W} (hx : Has a x) (hy : Has b y) : Has (doF op is64 a b) (eval op is64 x y) := by
  unfold doF
  split
  · rename_i h
    rw [alone_one h.1 hx, alone_one h.2 hy]
    exact const_has _
  · cases is64 with
    | true =>
      rw [if_pos rfl]
      obtain ⟨z, hz, _, h⟩ := wide_has (op := op) (wide := true) hx hy
      rw [hz rfl] at h
      simpa [eval] using h
    | false =>
      rw [if_neg (by decide)]
      have hx' := low_has hx 4
      have hy' := low_has hy 4
      rw [lowW_4] at hx' hy'
      obtain ⟨z, _, hz, h⟩ := wide_has (op := op) (wide := false) hx' hy'
      have h' := low_has h 4
      rw [lowW_4, hz] at h'
      simpa [eval] using h'
theorem alone_const (x : W) : alone (const x) = true := by
  unfold alone
  simp only [Bool.and_eq_true]
  refine ⟨⟨⟨by simp [const, PlainTnum.const], by simp [const]⟩, by simp [const]⟩, has_iff.2 (const_has x)⟩
theorem do_const (op : Int) (is64 : Bool) (x y : W) : doF op is64 (const x) (const y) = const (eval op is64 x y) := by
  unfold doF
  rw [if_pos ⟨alone_const x, alone_const y⟩]
  rfl
/-- What is settled is no wider. -/
theorem signs_in (a : Rng) : a.lo.toNat ≤ (signs a).lo.toNat ∧ (signs a).hi.toNat ≤ a.hi.toNat ∧ a.sl.toInt ≤ (signs a).sl.toInt ∧ (signs a).sh.toInt ≤ a.sh.toInt := by
  have h1 : ∀ c : Rng, c.lo.toNat ≤ (signs1 c).lo.toNat ∧ (signs1 c).hi.toNat ≤ c.hi.toNat ∧ c.sl.toInt ≤ (signs1 c).sl.toInt ∧ (signs1 c).sh.toInt ≤ c.sh.toInt := by
    intro c
    unfold signs1
    split
    · refine ⟨Nat.le_refl _, Nat.le_refl _, ?_, ?_⟩
      · show _ ≤ (maxS _ _).toInt; rw [maxS_int]; omega
      · show (minS _ _).toInt ≤ _; rw [minS_int]; omega
    · exact ⟨Nat.le_refl _, Nat.le_refl _, Int.le_refl _, Int.le_refl _⟩
  have h2 : ∀ c : Rng, c.lo.toNat ≤ (signs2 c).lo.toNat ∧ (signs2 c).hi.toNat ≤ c.hi.toNat ∧ c.sl.toInt ≤ (signs2 c).sl.toInt ∧ (signs2 c).sh.toInt ≤ c.sh.toInt := by
    intro c
    unfold signs2
    split
    · refine ⟨?_, ?_, Int.le_refl _, Int.le_refl _⟩
      · show _ ≤ (maxU _ _).toNat; rw [maxU_nat]; omega
      · show (minU _ _).toNat ≤ _; rw [minU_nat]; omega
    · exact ⟨Nat.le_refl _, Nat.le_refl _, Int.le_refl _, Int.le_refl _⟩
  have a1 := h1 a
  have a2 := h2 (signs1 a)
  unfold signs
  omega
theorem bound_in (a : Rng) : a.lo.toNat ≤ (bound a).lo.toNat ∧ (bound a).hi.toNat ≤ a.hi.toNat ∧ (bound a).sl = a.sl ∧ (bound a).sh = a.sh ∧ (bound a).b = a.b := by
  refine ⟨?_, ?_, rfl, rfl, rfl⟩
  · show _ ≤ (maxU _ _).toNat; rw [maxU_nat]; omega
  · show (minU _ _).toNat ≤ _; rw [minU_nat]; omega
theorem settle_in {a : Rng} (h : (settle a).2 = true) : a.lo.toNat ≤ (settle a).1.lo.toNat ∧ (settle a).1.hi.toNat ≤ a.hi.toNat ∧ a.sl.toInt ≤ (settle a).1.sl.toInt ∧ (settle a).1.sh.toInt ≤ a.sh.toInt ∧
    PlainTnum.within (settle a).1.b a.b = true ∧ ((settle a).1.b.m &&& ~~~a.b.m) = 0#64 := by
  have hb := bound_in a
  have hs := signs_in (bound a)
  have hsb := signs_b (bound a)
  unfold settle at h ⊢
  by_cases c1 : ¬ (PlainTnum.rightN a.b = true ∧ a.lo.toNat ≤ a.hi.toNat ∧ a.sl.toInt ≤ a.sh.toInt)
  · rw [if_pos c1] at h; simp at h
  rw [if_neg c1] at h ⊢
  have c1' := Classical.not_not.1 c1
  by_cases c2 : (bound a).hi.toNat < (bound a).lo.toNat
  · rw [if_pos c2] at h; simp at h
  rw [if_neg c2] at h ⊢
  by_cases c3 : (signs (bound a)).hi.toNat < (signs (bound a)).lo.toNat ∨ (signs (bound a)).sh.toInt < (signs (bound a)).sl.toInt
  · rw [if_pos c3] at h; simp at h
  rw [if_neg c3] at h ⊢
  by_cases c4 : (PlainTnum.meet (signs (bound a)).b (common (signs (bound a)).lo (signs (bound a)).hi)).2 = true
  · rw [if_pos c4]
    rw [hb.2.2.1, hb.2.2.2.1] at hs
    have hR := PlainTnum.R_iff.1 c1'.1
    have hRc : PlainTnum.R (common (signs (bound a)).lo (signs (bound a)).hi) := by
      intro i hi
      simp [common]
    rw [hsb, hb.2.2.2.2] at c4 ⊢
    have hm := (PlainTnum.meet_within (m := (PlainTnum.meet a.b (common (signs (bound a)).lo (signs (bound a)).hi)).1) hR hRc (by rw [← c4])).1
    refine ⟨by show a.lo.toNat ≤ (signs (bound a)).lo.toNat; omega, by show (signs (bound a)).hi.toNat ≤ _; omega, by show _ ≤ (signs (bound a)).sl.toInt; omega, by show (signs (bound a)).sh.toInt ≤ _; omega, hm, ?_⟩
    unfold PlainTnum.within at hm
    simp only [Bool.and_eq_true, beq_iff_eq] at hm
    exact hm.1
  · rw [if_neg c4] at h; simp at h
end PlainScalar
end Go.Proofs.YtmghpoagpiljhaaDoor
