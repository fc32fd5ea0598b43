/- Plain law of tnum: numbers of which some bits are known, over BitVec 64: no program in sight. -/
import Derived.Test.YtmghpoagpiljhaaDoorRows
set_option linter.unusedSimpArgs false
set_option linter.unusedVariables false
namespace Go.Proofs.YtmghpoagpiljhaaDoor
namespace PlainTnum

abbrev W := BitVec 64

structure N where
  v : W
  m : W
deriving DecidableEq

@[ext] theorem N.ext' {a b : N} (h1 : a.v = b.v) (h2 : a.m = b.m) : a = b := by
  cases a; cases b; simp_all

def rightN (a : N) : Bool := (a.v &&& a.m) == 0#64
def has (a : N) (x : W) : Bool := (x &&& ~~~a.m) == a.v
def within (a b : N) : Bool := ((a.m &&& ~~~b.m) == 0#64) && ((a.v &&& ~~~b.m) == b.v)
def of (v m : W) : N := ⟨v &&& ~~~m, m⟩
def const (x : W) : N := ⟨x, 0#64⟩
def any : N := ⟨0#64, BitVec.allOnes 64⟩
def add (a b : N) : N := of (a.v + b.v) (((a.v + b.v) ^^^ (a.v + b.v + a.m + b.m)) ||| a.m ||| b.m)
def sub (a b : N) : N := of (a.v - b.v) (((a.v - b.v + a.m) ^^^ (a.v - b.v - b.m)) ||| a.m ||| b.m)
def and (a b : N) : N := of (a.v &&& b.v) (((a.v ||| a.m) &&& (b.v ||| b.m)) &&& ~~~(a.v &&& b.v))
def or (a b : N) : N := of (a.v ||| b.v) ((a.m ||| b.m) &&& ~~~(a.v ||| b.v))
def xor (a b : N) : N := of (a.v ^^^ b.v) (a.m ||| b.m)
def left (a : N) (k : Nat) : N := of (a.v <<< k) (a.m <<< k)
def down (a : N) (k : Nat) : N := of (a.v >>> k) (a.m >>> k)
def join (a b : N) : N := of a.v (a.m ||| b.m ||| (a.v ^^^ b.v))
def meet (a b : N) : N × Bool :=
  if ((a.v ^^^ b.v) &&& ~~~(a.m ||| b.m)) != 0#64 then (⟨0#64, 0#64⟩, false) else (of (a.v ||| b.v) (a.m &&& b.m), true)
/-- 'keep' of so many bytes. -/
def keep (n : Nat) : W := (1#64 <<< n) - 1#64
def low (a : N) (bytes : Int) : N :=
  if bytes = 1 then of (a.v &&& 255#64) (a.m &&& 255#64) else
  if bytes = 2 then of (a.v &&& 65535#64) (a.m &&& 65535#64) else
  if bytes = 4 then of (a.v &&& 4294967295#64) (a.m &&& 4294967295#64) else of a.v a.m
def right (a : N) : N := ⟨a.v &&& ~~~a.m, a.m⟩
def pick (a : N) (x : W) : W := a.v ||| (x &&& a.m)

theorem and_all (x : W) : x &&& 18446744073709551615#64 = x := by
  have e : 18446744073709551615#64 = BitVec.allOnes 64 := by decide
  rw [e, BitVec.and_allOnes]

/-! ### bits -/
theorem ext64 {x y : W} (h : ∀ i, i < 64 → x.getLsbD i = y.getLsbD i) : x = y := BitVec.eq_of_getLsbD_eq h
theorem bit_of {x y : W} (h : x = y) (i : Nat) : x.getLsbD i = y.getLsbD i := by rw [h]

def R (a : N) : Prop := ∀ i, i < 64 → (a.v.getLsbD i && a.m.getLsbD i) = false
theorem R_right (a : N) : R (right a) := by
  intro i hi; simp [right]
theorem R_of (v m : W) : R (of v m) := by
  intro i hi; simp [of]
theorem R_iff {a : N} : rightN a = true ↔ R a := by
  unfold rightN R
  rw [beq_iff_eq]
  constructor
  · intro h i hi
    have := bit_of h i
    simpa using this
  · intro h
    apply ext64
    intro i hi
    have := h i hi
    simpa using this
theorem R_const (x : W) : R (const x) := by intro i hi; simp [const]

theorem has_iff {a : N} {x : W} : has a x = true ↔ ∀ i, i < 64 → (x.getLsbD i && !a.m.getLsbD i) = a.v.getLsbD i := by
  unfold has
  rw [beq_iff_eq]
  constructor
  · intro h i hi
    have := bit_of h i
    simpa [hi] using this
  · intro h
    apply ext64
    intro i hi
    have := h i hi
    simpa [hi] using this
theorem within_iff {a b : N} : within a b = true ↔ ∀ i, i < 64 → (a.m.getLsbD i && !b.m.getLsbD i) = false ∧ (a.v.getLsbD i && !b.m.getLsbD i) = b.v.getLsbD i := by
  unfold within
  rw [Bool.and_eq_true, beq_iff_eq, beq_iff_eq]
  constructor
  · rintro ⟨h1, h2⟩ i hi
    have h1 := bit_of h1 i
    have h2 := bit_of h2 i
    exact ⟨by simpa [hi] using h1, by simpa [hi] using h2⟩
  · intro h
    refine ⟨?_, ?_⟩
    · apply ext64
      intro i hi
      have := (h i hi).1
      simpa [hi] using this
    · apply ext64
      intro i hi
      have := (h i hi).2
      simpa [hi] using this
theorem has_pick {a : N} (h : R a) (x : W) : has a (pick a x) = true := by
  rw [has_iff]
  intro i hi
  have := h i hi
  simp [pick]
  revert this
  cases a.v.getLsbD i <;> cases a.m.getLsbD i <;> cases x.getLsbD i <;> simp
theorem within_has {a b : N} (h : within a b = true) {x : W} (hx : has a x = true) : has b x = true := by
  rw [within_iff] at h
  rw [has_iff] at hx ⊢
  intro i hi
  have h1 := h i hi
  have h2 := hx i hi
  revert h1 h2
  cases a.v.getLsbD i <;> cases a.m.getLsbD i <;> cases x.getLsbD i <;> cases b.v.getLsbD i <;> cases b.m.getLsbD i <;> simp

/-! ### what a bit may be; a number that is built bit by bit -/
/-- (may it be 0, may it be 1) -/
abbrev May := Bool × Bool
def bitsOf (a : N) (i : Nat) : May :=
  if a.m.getLsbD i then (true, true) else (!a.v.getLsbD i, a.v.getLsbD i)
def setN (out : N) (i : Nat) (may : May) : N :=
  if may.1 && may.2 then ⟨out.v, out.m ||| (1#64 <<< i)⟩ else if may.2 then ⟨out.v ||| (1#64 <<< i), out.m⟩ else out
def build (f : Nat → May) : Nat → N
  | 0 => ⟨0#64, 0#64⟩
  | n + 1 => setN (build f n) n (f n)

theorem one_shift (i j : Nat) (hj : j < 64) : (1#64 <<< i).getLsbD j = decide (i = j) := by
  simp only [BitVec.getLsbD_shiftLeft, BitVec.getLsbD_one]
  rw [Bool.eq_iff_iff]
  simp
  omega
theorem build_v (f : Nat → May) (n j : Nat) (hn : n ≤ 64) (hj : j < 64) : (build f n).v.getLsbD j = (decide (j < n) && ((f j).2 && !(f j).1)) := by
  induction n with
  | zero => simp [build]
  | succ n ih =>
    have ih := ih (by omega)
    unfold build setN
    by_cases e : n = j
    · subst e
      have h0 : (decide (n < n) : Bool) = false := by simp
      rw [h0] at ih
      by_cases h1 : (f n).1 = true <;> by_cases h2 : (f n).2 = true <;> simp_all
    · have : (decide (j < n + 1) : Bool) = decide (j < n) := by
        rw [Bool.eq_iff_iff]; simp; omega
      rw [this, ← ih]
      by_cases h1 : (f n).1 = true <;> by_cases h2 : (f n).2 = true <;> simp [h1, h2, one_shift n j hj, e, BitVec.getLsbD_or]
theorem build_m (f : Nat → May) (n j : Nat) (hn : n ≤ 64) (hj : j < 64) : (build f n).m.getLsbD j = (decide (j < n) && ((f j).2 && (f j).1)) := by
  induction n with
  | zero => simp [build]
  | succ n ih =>
    have ih := ih (by omega)
    unfold build setN
    by_cases e : n = j
    · subst e
      have h0 : (decide (n < n) : Bool) = false := by simp
      rw [h0] at ih
      by_cases h1 : (f n).1 = true <;> by_cases h2 : (f n).2 = true <;> simp_all
    · have : (decide (j < n + 1) : Bool) = decide (j < n) := by
        rw [Bool.eq_iff_iff]; simp; omega
      rw [this, ← ih]
      by_cases h1 : (f n).1 = true <;> by_cases h2 : (f n).2 = true <;> simp [h1, h2, one_shift n j hj, e, BitVec.getLsbD_or]
/-- What is built is a number, if it has its bits. -/
theorem eq_build {a : N} {f : Nat → May} {n : Nat} (hn : n ≤ 64)
    (h : ∀ j, j < 64 → a.v.getLsbD j = (decide (j < n) && ((f j).2 && !(f j).1)) ∧ a.m.getLsbD j = (decide (j < n) && ((f j).2 && (f j).1))) : a = build f n :=
  N.ext' (ext64 fun i hi => by rw [(h i hi).1, build_v f n i hn hi]) (ext64 fun i hi => by rw [(h i hi).2, build_m f n i hn hi])

/-- The bits of what is right. -/
theorem bits_1 {a : N} (h : R a) {i : Nat} (hi : i < 64) : (bitsOf a i).1 = !a.v.getLsbD i := by
  have := h i hi
  unfold bitsOf
  revert this
  cases a.v.getLsbD i <;> cases a.m.getLsbD i <;> simp
theorem bits_2 {a : N} (i : Nat) : (bitsOf a i).2 = (a.v.getLsbD i || a.m.getLsbD i) := by
  unfold bitsOf
  cases a.v.getLsbD i <;> cases a.m.getLsbD i <;> simp

/-! ### shifts, lower bytes, join, meet, each -/
def shiftF (a : N) (by_ : Nat) (l : Bool) (i : Nat) : May :=
  if l then (if i < by_ then (false, false) else bitsOf a (i - by_)) else (if i + by_ < 64 then bitsOf a (i + by_) else (false, false))
theorem left_eq {a : N} (h : R a) (k : Nat) (hk : k < 64) : left a k = build (shiftF a k true) 64 := by
  apply eq_build (by omega)
  intro j hj
  simp only [left, of, shiftF]
  by_cases e : j < k
  · simp [e]
  · have hb := h (j - k) (by omega)
    simp [e, hj, bits_1 h (show j - k < 64 by omega), bits_2, -BitVec.getLsbD_eq_getElem]
    revert hb
    cases a.v.getLsbD (j - k) <;> cases a.m.getLsbD (j - k) <;> simp
theorem down_eq {a : N} (h : R a) (k : Nat) (_hk : k < 64) : down a k = build (shiftF a k false) 64 := by
  apply eq_build (by omega)
  intro j hj
  simp only [down, of, shiftF]
  by_cases e : j + k < 64
  · have hb := h (j + k) e
    simp [e, bits_1 h e, bits_2, Nat.add_comm k j, -BitVec.getLsbD_eq_getElem, hj]
    revert hb
    cases a.v.getLsbD (j + k) <;> cases a.m.getLsbD (j + k) <;> simp
  · have h1 : a.v.getLsbD (k + j) = false := BitVec.getLsbD_of_ge _ _ (by omega)
    have h2 : a.m.getLsbD (k + j) = false := BitVec.getLsbD_of_ge _ _ (by omega)
    simp [e, hj, h1, h2]
theorem keep_bit (n j : Nat) (hj : j < 64) : (BitVec.ofNat 64 (2 ^ n - 1)).getLsbD j = decide (j < n) := by
  rw [BitVec.getLsbD_ofNat, Nat.testBit_two_pow_sub_one]
  simp [hj]
/-- How many bits so many bytes have. -/
def lowN (bytes : Int) : Nat := if bytes = 1 ∨ bytes = 2 ∨ bytes = 4 then 8 * bytes.toNat else 64
theorem lowN_le (bytes : Int) : lowN bytes ≤ 64 := by unfold lowN; split <;> omega
theorem low_eq {a : N} (h : R a) (bytes : Int) : low a bytes = build (bitsOf a) (lowN bytes) := by
  have key : ∀ (n : Nat) (hn : n ≤ 64), of (a.v &&& BitVec.ofNat 64 (2 ^ n - 1)) (a.m &&& BitVec.ofNat 64 (2 ^ n - 1)) = build (bitsOf a) n := by
    intro n hn
    apply eq_build hn
    intro j hj
    have hb := h j hj
    simp only [of, BitVec.getLsbD_and, BitVec.getLsbD_not, keep_bit n j hj, bits_1 h hj, bits_2, hj, decide_true, Bool.true_and]
    revert hb
    cases a.v.getLsbD j <;> cases a.m.getLsbD j <;> cases decide (j < n) <;> simp
  unfold low lowN
  by_cases h1 : bytes = 1
  · subst h1; exact key 8 (by omega)
  by_cases h2 : bytes = 2
  · subst h2; exact key 16 (by omega)
  by_cases h4 : bytes = 4
  · subst h4; exact key 32 (by omega)
  rw [if_neg h1, if_neg h2, if_neg h4, if_neg (by omega), ← key 64 (by omega)]
  have e : BitVec.ofNat 64 (2 ^ 64 - 1) = BitVec.allOnes 64 := by decide
  rw [e, BitVec.and_allOnes, BitVec.and_allOnes]

def joinF (a b : N) (i : Nat) : May := ((bitsOf a i).1 || (bitsOf b i).1, (bitsOf a i).2 || (bitsOf b i).2)
theorem join_eq {a b : N} (ha : R a) (hb : R b) : join a b = build (joinF a b) 64 := by
  apply eq_build (by omega)
  intro j hj
  have h1 := ha j hj
  have h2 := hb j hj
  simp only [join, of, joinF, BitVec.getLsbD_and, BitVec.getLsbD_or, BitVec.getLsbD_xor, BitVec.getLsbD_not, bits_1 ha hj, bits_1 hb hj, bits_2, hj, decide_true, Bool.true_and]
  revert h1 h2
  cases a.v.getLsbD j <;> cases a.m.getLsbD j <;> cases b.v.getLsbD j <;> cases b.m.getLsbD j <;> simp
def meetF (a b : N) (i : Nat) : May := ((bitsOf a i).1 && (bitsOf b i).1, (bitsOf a i).2 && (bitsOf b i).2)
/-- No bit below i has nothing that it may be. -/
def meetOk (a b : N) (n : Nat) : Prop := ∀ i, i < n → ((meetF a b i).1 || (meetF a b i).2) = true
theorem meet_ok_iff {a b : N} (ha : R a) (hb : R b) : ((a.v ^^^ b.v) &&& ~~~(a.m ||| b.m)) = 0#64 ↔ meetOk a b 64 := by
  unfold meetOk
  constructor
  · intro h i hi
    have h := bit_of h i
    have h1 := ha i hi
    have h2 := hb i hi
    simp only [meetF, BitVec.getLsbD_and, BitVec.getLsbD_or, BitVec.getLsbD_xor, BitVec.getLsbD_not, bits_1 ha hi, bits_1 hb hi, bits_2, hi, decide_true, Bool.true_and, BitVec.getLsbD_zero] at h ⊢
    revert h1 h2 h
    cases a.v.getLsbD i <;> cases a.m.getLsbD i <;> cases b.v.getLsbD i <;> cases b.m.getLsbD i <;> simp
  · intro h
    apply ext64
    intro i hi
    have h := h i hi
    have h1 := ha i hi
    have h2 := hb i hi
    simp only [meetF, BitVec.getLsbD_and, BitVec.getLsbD_or, BitVec.getLsbD_xor, BitVec.getLsbD_not, bits_1 ha hi, bits_1 hb hi, bits_2, hi, decide_true, Bool.true_and, BitVec.getLsbD_zero] at h ⊢
    revert h1 h2 h
    cases a.v.getLsbD i <;> cases a.m.getLsbD i <;> cases b.v.getLsbD i <;> cases b.m.getLsbD i <;> simp
theorem meet_eq {a b : N} (ha : R a) (hb : R b) (hok : meetOk a b 64) : meet a b = (build (meetF a b) 64, true) := by
  have h0 := (meet_ok_iff ha hb).2 hok
  unfold meet
  rw [if_neg (by simp [h0])]
  congr 1
  apply eq_build (by omega)
  intro j hj
  have h := hok j hj
  have h1 := ha j hj
  have h2 := hb j hj
  simp only [of, meetF, BitVec.getLsbD_and, BitVec.getLsbD_or, BitVec.getLsbD_not, bits_1 ha hj, bits_1 hb hj, bits_2, hj, decide_true, Bool.true_and] at h ⊢
  revert h h1 h2
  cases a.v.getLsbD j <;> cases a.m.getLsbD j <;> cases b.v.getLsbD j <;> cases b.m.getLsbD j <;> simp
theorem meet_no {a b : N} (ha : R a) (hb : R b) (hok : ¬ meetOk a b 64) : meet a b = (⟨0#64, 0#64⟩, false) := by
  have h0 := fun h => hok ((meet_ok_iff ha hb).1 h)
  unfold meet
  rw [if_pos (by simpa using h0)]

/-- bit by bit: 0 and, 1 or, 2 exclusive or -/
def eachOp (what : Nat) (p q : Bool) : Bool := if what = 0 then p && q else if what = 1 then p || q else Bool.xor p q
def eachF (what : Nat) (a b : N) (i : Nat) : May :=
  let x := bitsOf a i; let y := bitsOf b i
  let may (r : Bool) : Bool := (x.1 && y.1 && (eachOp what false false == r)) || (x.1 && y.2 && (eachOp what false true == r)) || (x.2 && y.1 && (eachOp what true false == r)) || (x.2 && y.2 && (eachOp what true true == r))
  (may false, may true)
theorem and_eq {a b : N} (ha : R a) (hb : R b) : and a b = build (eachF 0 a b) 64 := by
  apply eq_build (by omega)
  intro j hj
  have h1 := ha j hj
  have h2 := hb j hj
  simp only [and, of, eachF, eachOp, BitVec.getLsbD_and, BitVec.getLsbD_or, BitVec.getLsbD_not, bits_1 ha hj, bits_1 hb hj, bits_2, hj, decide_true, Bool.true_and]
  revert h1 h2
  cases a.v.getLsbD j <;> cases a.m.getLsbD j <;> cases b.v.getLsbD j <;> cases b.m.getLsbD j <;> simp
theorem or_eq {a b : N} (ha : R a) (hb : R b) : or a b = build (eachF 1 a b) 64 := by
  apply eq_build (by omega)
  intro j hj
  have h1 := ha j hj
  have h2 := hb j hj
  simp only [or, of, eachF, eachOp, BitVec.getLsbD_and, BitVec.getLsbD_or, BitVec.getLsbD_not, bits_1 ha hj, bits_1 hb hj, bits_2, hj, decide_true, Bool.true_and]
  revert h1 h2
  cases a.v.getLsbD j <;> cases a.m.getLsbD j <;> cases b.v.getLsbD j <;> cases b.m.getLsbD j <;> simp
theorem xor_eq {a b : N} (ha : R a) (hb : R b) : xor a b = build (eachF 2 a b) 64 := by
  apply eq_build (by omega)
  intro j hj
  have h1 := ha j hj
  have h2 := hb j hj
  simp only [xor, of, eachF, eachOp, BitVec.getLsbD_and, BitVec.getLsbD_or, BitVec.getLsbD_xor, BitVec.getLsbD_not, bits_1 ha hj, bits_1 hb hj, bits_2, hj, decide_true, Bool.true_and]
  revert h1 h2
  cases a.v.getLsbD j <;> cases a.m.getLsbD j <;> cases b.v.getLsbD j <;> cases b.m.getLsbD j <;> simp
/-! ### sums and differences, bit by bit, with what is carried -/
/-- One way through: bits p, q, and what was carried c: what the bit is, and what is carried. -/
def bitSum (minus : Bool) (p q c : Bool) : Bool × Bool :=
  (Bool.xor (Bool.xor p q) c, if minus then (q && c) || ((q || c) && !p) else (p && q) || ((p || q) && c))
def sel (x : May) (p : Bool) : Bool := if p then x.2 else x.1
def put (x : May) (p : Bool) : May := if p then (x.1, true) else (true, x.2)
/-- What may be, so far; what may be carried. -/
def inner (minus : Bool) (x y carry : May) (p q c : Bool) (st : May × May) : May × May :=
  if sel x p && sel y q && sel carry c then (put st.1 (bitSum minus p q c).1, put st.2 (bitSum minus p q c).2) else st
def overC (minus : Bool) (x y carry : May) (p q : Bool) (st : May × May) : May × May :=
  inner minus x y carry p q true (inner minus x y carry p q false st)
def overQ (minus : Bool) (x y carry : May) (p : Bool) (st : May × May) : May × May :=
  overC minus x y carry p true (overC minus x y carry p false st)
def overP (minus : Bool) (x y carry : May) : May × May :=
  overQ minus x y carry true (overQ minus x y carry false ((false, false), (false, false)))
def carryOf (minus : Bool) (a b : N) : Nat → May
  | 0 => (true, false)
  | n + 1 => (overP minus (bitsOf a n) (bitsOf b n) (carryOf minus a b n)).2
def sumF (minus : Bool) (a b : N) (n : Nat) : May := (overP minus (bitsOf a n) (bitsOf b n) (carryOf minus a b n)).1
def refSum (minus : Bool) (a b : N) : N := build (sumF minus a b) 64

/-- What a bit that is 0 where nothing is known, and one where all of it may be. -/
def two (l h : Bool) : May := (!(l && h), l || h)
theorem overP_sum : ∀ (v m v' m' l h : Bool), (v && m) = false → (v' && m') = false → (l && !h) = false →
    overP false (if m then (true, true) else (!v, v)) (if m' then (true, true) else (!v', v')) (two l h) =
      ((if m || m' || Bool.xor l h then (true, true) else (!(Bool.xor (Bool.xor v v') l), Bool.xor (Bool.xor v v') l)),
        two (bitSum false v v' l).2 (bitSum false (v || m) (v' || m') h).2) ∧ ((bitSum false v v' l).2 && !(bitSum false (v || m) (v' || m') h).2) = false := by decide
theorem overP_dif : ∀ (v m v' m' l h : Bool), (v && m) = false → (v' && m') = false → (l && !h) = false →
    overP true (if m then (true, true) else (!v, v)) (if m' then (true, true) else (!v', v')) (two l h) =
      ((if m || m' || Bool.xor l h then (true, true) else (!(Bool.xor (Bool.xor v v') l), Bool.xor (Bool.xor v v') l)),
        two (bitSum true (v || m) v' l).2 (bitSum true v (v' || m') h).2) ∧ ((bitSum true (v || m) v' l).2 && !(bitSum true v (v' || m') h).2) = false := by decide

theorem carry_step (x y : W) (c : Bool) (i : Nat) : BitVec.carry (i + 1) x y c = (bitSum false (x.getLsbD i) (y.getLsbD i) (BitVec.carry i x y c)).2 := by
  rw [BitVec.carry_succ]
  cases x.getLsbD i <;> cases y.getLsbD i <;> cases BitVec.carry i x y c <;> rfl
/-- What is borrowed. -/
def borrow (i : Nat) (x y : W) : Bool := !BitVec.carry i x (~~~y) true
theorem borrow_zero (x y : W) : borrow 0 x y = false := by simp [borrow, BitVec.carry, Nat.mod_one]
theorem carry_zero (x y : W) : BitVec.carry 0 x y false = false := by simp [BitVec.carry, Nat.mod_one]
theorem borrow_step (x y : W) (i : Nat) (hi : i < 64) : borrow (i + 1) x y = (bitSum true (x.getLsbD i) (y.getLsbD i) (borrow i x y)).2 := by
  unfold borrow
  rw [BitVec.carry_succ]
  simp only [BitVec.getLsbD_not, hi, decide_true, Bool.true_and]
  cases x.getLsbD i <;> cases y.getLsbD i <;> cases BitVec.carry i x (~~~y) true <;> rfl
theorem add_bit (x y : W) (i : Nat) (hi : i < 64) : (x + y).getLsbD i = Bool.xor (Bool.xor (x.getLsbD i) (y.getLsbD i)) (BitVec.carry i x y false) := by
  rw [BitVec.getLsbD_add hi, Bool.xor_assoc]
theorem sub_bit (x y : W) (i : Nat) (hi : i < 64) : (x - y).getLsbD i = Bool.xor (Bool.xor (x.getLsbD i) (y.getLsbD i)) (borrow i x y) := by
  have e : x - y = x + ~~~y + 1#64 := by rw [BitVec.sub_eq_add_neg, BitVec.neg_eq_not_add, BitVec.add_assoc]
  have h := BitVec.getLsbD_add_add_bool hi x (~~~y) true
  have e1 : BitVec.setWidth 64 (BitVec.ofBool true) = 1#64 := by decide
  rw [e1] at h
  rw [e, h]
  unfold borrow
  simp only [BitVec.getLsbD_not, hi, decide_true, Bool.true_and]
  cases x.getLsbD i <;> cases y.getLsbD i <;> cases BitVec.carry i x (~~~y) true <;> rfl

theorem or_of_R {a : N} (h : R a) : a.v + a.m = a.v ||| a.m := by
  apply BitVec.add_eq_or_of_and_eq_zero
  apply ext64
  intro i hi
  simpa using h i hi
/-- The least sum's carry, and the greatest one's. -/
theorem carries (a b : N) (ha : R a) (hb : R b) (n : Nat) (hn : n ≤ 64) :
    carryOf false a b n = two (BitVec.carry n a.v b.v false) (BitVec.carry n (a.v ||| a.m) (b.v ||| b.m) false) ∧
      (BitVec.carry n a.v b.v false && !BitVec.carry n (a.v ||| a.m) (b.v ||| b.m) false) = false := by
  induction n with
  | zero => rw [carry_zero, carry_zero]; exact ⟨rfl, rfl⟩
  | succ n ih =>
    obtain ⟨h1, h2⟩ := ih (by omega)
    have h := overP_sum _ _ _ _ _ _ (ha n (by omega)) (hb n (by omega)) h2
    rw [carry_step, carry_step, BitVec.getLsbD_or, BitVec.getLsbD_or]
    refine ⟨?_, h.2⟩
    unfold carryOf
    rw [h1]
    unfold bitsOf
    rw [h.1]
theorem borrows (a b : N) (ha : R a) (hb : R b) (n : Nat) (hn : n ≤ 64) :
    carryOf true a b n = two (borrow n (a.v ||| a.m) b.v) (borrow n a.v (b.v ||| b.m)) ∧ (borrow n (a.v ||| a.m) b.v && !borrow n a.v (b.v ||| b.m)) = false := by
  induction n with
  | zero => rw [borrow_zero, borrow_zero]; exact ⟨rfl, rfl⟩
  | succ n ih =>
    obtain ⟨h1, h2⟩ := ih (by omega)
    have h := overP_dif _ _ _ _ _ _ (ha n (by omega)) (hb n (by omega)) h2
    rw [borrow_step _ _ _ (by omega), borrow_step _ _ _ (by omega), BitVec.getLsbD_or, BitVec.getLsbD_or]
    refine ⟨?_, h.2⟩
    unfold carryOf
    rw [h1]
    unfold bitsOf
    rw [h.1]
theorem add_most (a b : N) (ha : R a) (hb : R b) : a.v + b.v + a.m + b.m = (a.v ||| a.m) + (b.v ||| b.m) := by
  rw [← or_of_R ha, ← or_of_R hb]
  ac_rfl
theorem sub_most (a b : N) (ha : R a) : a.v - b.v + a.m = (a.v ||| a.m) - b.v := by
  rw [← or_of_R ha, BitVec.sub_eq_add_neg, BitVec.sub_eq_add_neg]
  ac_rfl
theorem sub_least (a b : N) (hb : R b) : a.v - b.v - b.m = a.v - (b.v ||| b.m) := by
  rw [← or_of_R hb, BitVec.sub_eq_add_neg, BitVec.sub_eq_add_neg, BitVec.sub_eq_add_neg, BitVec.neg_add, BitVec.sub_eq_add_neg]
  ac_rfl
theorem add_eq {a b : N} (ha : R a) (hb : R b) : add a b = refSum false a b := by
  apply eq_build (by omega)
  intro j hj
  obtain ⟨h1, h2⟩ := carries a b ha hb j (by omega)
  have h := (overP_sum _ _ _ _ _ _ (ha j hj) (hb j hj) h2).1
  have h' := congrArg Prod.fst h
  have ea := ha j hj
  have eb := hb j hj
  simp only [add, of]
  rw [add_most a b ha hb]
  simp only [sumF, h1, bitsOf]
  rw [h']
  simp only [BitVec.getLsbD_and, BitVec.getLsbD_or, BitVec.getLsbD_xor, BitVec.getLsbD_not, add_bit _ _ j hj, hj, decide_true, Bool.true_and]
  revert ea eb h2
  clear h h' h1
  cases a.v.getLsbD j <;> cases a.m.getLsbD j <;> cases b.v.getLsbD j <;> cases b.m.getLsbD j <;> cases BitVec.carry j a.v b.v false <;> cases BitVec.carry j (a.v ||| a.m) (b.v ||| b.m) false <;> decide
theorem sub_eq {a b : N} (ha : R a) (hb : R b) : sub a b = refSum true a b := by
  apply eq_build (by omega)
  intro j hj
  obtain ⟨h1, h2⟩ := borrows a b ha hb j (by omega)
  have h := (overP_dif _ _ _ _ _ _ (ha j hj) (hb j hj) h2).1
  have h' := congrArg Prod.fst h
  have ea := ha j hj
  have eb := hb j hj
  have e0 : (a.v - b.v).getLsbD j = Bool.xor (Bool.xor (a.v.getLsbD j) (b.v.getLsbD j)) (borrow j a.v b.v) := sub_bit _ _ j hj
  simp only [sub, of]
  rw [sub_most a b ha, sub_least a b hb]
  simp only [sumF, h1, bitsOf]
  rw [h']
  -- the borrow of the values alone lies between
  have hmid : (borrow j (a.v ||| a.m) b.v && !borrow j a.v b.v) = false ∧ (borrow j a.v b.v && !borrow j a.v (b.v ||| b.m)) = false := by
    clear h h' h1 h2 ea eb e0
    constructor
    · have := (borrows ⟨a.v, a.m⟩ ⟨b.v, 0#64⟩ ha (by intro i hi; simp) j (by omega)).2
      simpa using this
    · have := (borrows ⟨a.v, 0#64⟩ b (by intro i hi; simp) hb j (by omega)).2
      simpa using this
  obtain ⟨m1, m2⟩ := hmid
  simp only [BitVec.getLsbD_and, BitVec.getLsbD_or, BitVec.getLsbD_xor, BitVec.getLsbD_not, sub_bit _ _ j hj, hj, decide_true, Bool.true_and]
  revert ea eb h2 m1 m2
  clear h h' h1 e0
  cases a.v.getLsbD j <;> cases a.m.getLsbD j <;> cases b.v.getLsbD j <;> cases b.m.getLsbD j <;> cases borrow j (a.v ||| a.m) b.v <;> cases borrow j a.v (b.v ||| b.m) <;> cases borrow j a.v b.v <;> decide

/-! ### what is less known leaves no more known -/
def le (x y : W) : Prop := ∀ i, i < 64 → (x.getLsbD i && !y.getLsbD i) = false
theorem carry_le {x y x' y' : W} (hx : le x x') (hy : le y y') (n : Nat) (hn : n ≤ 64) : (BitVec.carry n x y false && !BitVec.carry n x' y' false) = false := by
  induction n with
  | zero => rw [carry_zero]; rfl
  | succ n ih =>
    have ih := ih (by omega)
    have h1 := hx n (by omega)
    have h2 := hy n (by omega)
    rw [carry_step, carry_step]
    revert ih h1 h2
    cases x.getLsbD n <;> cases y.getLsbD n <;> cases x'.getLsbD n <;> cases y'.getLsbD n <;> cases BitVec.carry n x y false <;> cases BitVec.carry n x' y' false <;> decide
theorem borrow_le {x y x' y' : W} (hx : le x' x) (hy : le y y') (n : Nat) (hn : n ≤ 64) : (borrow n x y && !borrow n x' y') = false := by
  induction n with
  | zero => rw [borrow_zero]; rfl
  | succ n ih =>
    have ih := ih (by omega)
    have h1 := hx n (by omega)
    have h2 := hy n (by omega)
    rw [borrow_step _ _ _ (by omega), borrow_step _ _ _ (by omega)]
    revert ih h1 h2
    cases x.getLsbD n <;> cases y.getLsbD n <;> cases x'.getLsbD n <;> cases y'.getLsbD n <;> cases borrow n x y <;> cases borrow n x' y' <;> decide
theorem within_v {a b : N} (h : within a b = true) : le b.v a.v := by
  rw [within_iff] at h
  intro i hi
  have h := h i hi
  revert h
  cases a.v.getLsbD i <;> cases a.m.getLsbD i <;> cases b.v.getLsbD i <;> cases b.m.getLsbD i <;> simp
theorem within_vm {a b : N} (h : within a b = true) : le (a.v ||| a.m) (b.v ||| b.m) := by
  rw [within_iff] at h
  intro i hi
  have h := h i hi
  simp only [BitVec.getLsbD_or]
  revert h
  cases a.v.getLsbD i <;> cases a.m.getLsbD i <;> cases b.v.getLsbD i <;> cases b.m.getLsbD i <;> simp
theorem le_or (x y : W) : le x (x ||| y) := by
  intro i hi
  simp only [BitVec.getLsbD_or]
  cases x.getLsbD i <;> simp
theorem R_within {a b : N} (h : within a b = true) : R b := by
  rw [within_iff] at h
  intro i hi
  have h := h i hi
  revert h
  cases a.v.getLsbD i <;> cases a.m.getLsbD i <;> cases b.v.getLsbD i <;> cases b.m.getLsbD i <;> simp
theorem within_refl {a : N} (h : R a) : within a a = true := by
  rw [within_iff]
  intro i hi
  have := h i hi
  revert this
  cases a.v.getLsbD i <;> cases a.m.getLsbD i <;> simp
theorem within_any {a : N} : within a any = true := by
  rw [within_iff]
  intro i hi
  simp only [any, BitVec.getLsbD_allOnes, hi, decide_true, BitVec.getLsbD_zero]
  simp
theorem within_trans {a b c : N} (h : within a b = true) (h' : within b c = true) : within a c = true := by
  rw [within_iff] at h h' ⊢
  intro i hi
  have h := h i hi
  have h' := h' i hi
  revert h h'
  cases a.v.getLsbD i <;> cases a.m.getLsbD i <;> cases b.v.getLsbD i <;> cases b.m.getLsbD i <;> cases c.v.getLsbD i <;> cases c.m.getLsbD i <;> simp
theorem within_add {a b c d : N} (ha : R a) (hc : R c) (h : within a b = true) (h' : within c d = true) : within (add a c) (add b d) = true := by
  have hb := R_within h
  have hd := R_within h'
  rw [within_iff]
  intro i hi
  have l1 := carry_le (within_v h) (within_v h') i (by omega)
  have l2 := carry_le (le_or a.v a.m) (le_or c.v c.m) i (by omega)
  have l3 := carry_le (within_vm h) (within_vm h') i (by omega)
  rw [within_iff] at h h'
  have h := h i hi
  have h' := h' i hi
  have hb := hb i hi
  have hd := hd i hi
  simp only [add, of]
  rw [add_most a c ‹_› ‹_›, add_most b d ‹_› ‹_›]
  simp only [BitVec.getLsbD_and, BitVec.getLsbD_or, BitVec.getLsbD_xor, BitVec.getLsbD_not, add_bit _ _ i hi, hi, decide_true, Bool.true_and]
  revert h h' hb hd l1 l2 l3
  cases a.v.getLsbD i <;> cases a.m.getLsbD i <;> cases b.v.getLsbD i <;> cases b.m.getLsbD i <;> simp <;>
  cases c.v.getLsbD i <;> cases c.m.getLsbD i <;> cases d.v.getLsbD i <;> cases d.m.getLsbD i <;> simp <;>
  cases BitVec.carry i a.v c.v false <;> cases BitVec.carry i b.v d.v false <;> cases BitVec.carry i (a.v ||| a.m) (c.v ||| c.m) false <;> cases BitVec.carry i (b.v ||| b.m) (d.v ||| d.m) false <;> simp
theorem within_sub {a b c d : N} (ha : R a) (hc : R c) (h : within a b = true) (h' : within c d = true) : within (sub a c) (sub b d) = true := by
  have hb := R_within h
  have hd := R_within h'
  rw [within_iff]
  intro i hi
  have l1 := borrow_le (within_vm h) (within_v h') i (by omega)
  have l2 := borrow_le (le_or a.v a.m) (le_or c.v c.m) i (by omega)
  have l3 := borrow_le (within_v h) (within_vm h') i (by omega)
  have k1 := borrow_le (le_or a.v a.m) (fun i _ => by simp : le c.v c.v) i (by omega)
  have k2 := borrow_le (fun i _ => by simp : le a.v a.v) (le_or c.v c.m) i (by omega)
  have k3 := borrow_le (le_or b.v b.m) (fun i _ => by simp : le d.v d.v) i (by omega)
  have k4 := borrow_le (fun i _ => by simp : le b.v b.v) (le_or d.v d.m) i (by omega)
  rw [within_iff] at h h'
  have h := h i hi
  have h' := h' i hi
  have hb := hb i hi
  have hd := hd i hi
  simp only [sub, of]
  rw [sub_most a c ‹_›, sub_most b d ‹_›, sub_least a c ‹_›, sub_least b d ‹_›]
  simp only [BitVec.getLsbD_and, BitVec.getLsbD_or, BitVec.getLsbD_xor, BitVec.getLsbD_not, sub_bit _ _ i hi, hi, decide_true, Bool.true_and]
  revert h h' hb hd l1 l2 l3 k1 k2 k3 k4
  cases a.v.getLsbD i <;> cases a.m.getLsbD i <;> cases b.v.getLsbD i <;> cases b.m.getLsbD i <;> simp <;>
  cases c.v.getLsbD i <;> cases c.m.getLsbD i <;> cases d.v.getLsbD i <;> cases d.m.getLsbD i <;> simp <;>
  cases borrow i (a.v ||| a.m) c.v <;> cases borrow i a.v c.v <;> cases borrow i a.v (c.v ||| c.m) <;> simp <;> cases borrow i (b.v ||| b.m) d.v <;> cases borrow i b.v d.v <;> cases borrow i b.v (d.v ||| d.m) <;> simp

theorem within_and {a b c d : N} (ha : R a) (hc : R c) (h : within a b = true) (h' : within c d = true) : within (and a c) (and b d) = true := by
  rw [within_iff] at *
  intro i hi
  have h := h i hi
  have h' := h' i hi
  have ha := ha i hi
  have hc := hc i hi
  simp only [and, of, BitVec.getLsbD_and, BitVec.getLsbD_or, BitVec.getLsbD_not, hi, decide_true, Bool.true_and]
  revert h h' ha hc
  cases a.v.getLsbD i <;> cases a.m.getLsbD i <;> cases b.v.getLsbD i <;> cases b.m.getLsbD i <;> simp <;>
  cases c.v.getLsbD i <;> cases c.m.getLsbD i <;> cases d.v.getLsbD i <;> cases d.m.getLsbD i <;> simp
theorem within_or {a b c d : N} (ha : R a) (hc : R c) (h : within a b = true) (h' : within c d = true) : within (or a c) (or b d) = true := by
  rw [within_iff] at *
  intro i hi
  have h := h i hi
  have h' := h' i hi
  have ha := ha i hi
  have hc := hc i hi
  simp only [or, of, BitVec.getLsbD_and, BitVec.getLsbD_or, BitVec.getLsbD_not, hi, decide_true, Bool.true_and]
  revert h h' ha hc
  cases a.v.getLsbD i <;> cases a.m.getLsbD i <;> cases b.v.getLsbD i <;> cases b.m.getLsbD i <;> simp <;>
  cases c.v.getLsbD i <;> cases c.m.getLsbD i <;> cases d.v.getLsbD i <;> cases d.m.getLsbD i <;> simp
theorem within_xor {a b c d : N} (ha : R a) (hc : R c) (h : within a b = true) (h' : within c d = true) : within (xor a c) (xor b d) = true := by
  rw [within_iff] at *
  intro i hi
  have h := h i hi
  have h' := h' i hi
  have ha := ha i hi
  have hc := hc i hi
  simp only [xor, of, BitVec.getLsbD_and, BitVec.getLsbD_or, BitVec.getLsbD_xor, BitVec.getLsbD_not, hi, decide_true, Bool.true_and]
  revert h h' ha hc
  cases a.v.getLsbD i <;> cases a.m.getLsbD i <;> cases b.v.getLsbD i <;> cases b.m.getLsbD i <;> simp <;>
  cases c.v.getLsbD i <;> cases c.m.getLsbD i <;> cases d.v.getLsbD i <;> cases d.m.getLsbD i <;> simp
theorem within_join_l {a b : N} (ha : R a) : within a (join a b) = true := by
  rw [within_iff]
  intro i hi
  have ha := ha i hi
  simp only [join, of, BitVec.getLsbD_and, BitVec.getLsbD_or, BitVec.getLsbD_xor, BitVec.getLsbD_not, hi, decide_true, Bool.true_and]
  revert ha
  cases a.v.getLsbD i <;> cases a.m.getLsbD i <;> cases b.v.getLsbD i <;> cases b.m.getLsbD i <;> simp
theorem within_join_r {a b : N} (hb : R b) : within b (join a b) = true := by
  rw [within_iff]
  intro i hi
  have hb := hb i hi
  simp only [join, of, BitVec.getLsbD_and, BitVec.getLsbD_or, BitVec.getLsbD_xor, BitVec.getLsbD_not, hi, decide_true, Bool.true_and]
  revert hb
  cases a.v.getLsbD i <;> cases a.m.getLsbD i <;> cases b.v.getLsbD i <;> cases b.m.getLsbD i <;> simp
theorem meet_within {a b m : N} (ha : R a) (hb : R b) (h : meet a b = (m, true)) : within m a = true ∧ within m b = true := by
  unfold meet at h
  split at h
  · simp at h
  · rename_i h0
    simp only [Prod.mk.injEq, and_true] at h
    subst h
    have h0 : ((a.v ^^^ b.v) &&& ~~~(a.m ||| b.m)) = 0#64 := by simpa using h0
    rw [within_iff, within_iff]
    refine ⟨fun i hi => ?_, fun i hi => ?_⟩
    all_goals
      have h0 := bit_of h0 i
      have ha := ha i hi
      have hb := hb i hi
      simp only [of, BitVec.getLsbD_and, BitVec.getLsbD_or, BitVec.getLsbD_xor, BitVec.getLsbD_not, BitVec.getLsbD_zero, hi, decide_true, Bool.true_and] at h0 ⊢
      revert ha hb h0
      cases a.v.getLsbD i <;> cases a.m.getLsbD i <;> cases b.v.getLsbD i <;> cases b.m.getLsbD i <;> simp
/-- a is within b just where the numbers of both are a's. -/
theorem within_meet {a b : N} (ha : R a) (hb : R b) : within a b = true ↔ ((meet a b).2 = true ∧ (meet a b).1 = a) := by
  constructor
  · intro h
    have h := within_iff.1 h
    have h0 : ((a.v ^^^ b.v) &&& ~~~(a.m ||| b.m)) = 0#64 := by
      apply ext64
      intro i hi
      have h := h i hi
      simp only [BitVec.getLsbD_and, BitVec.getLsbD_or, BitVec.getLsbD_xor, BitVec.getLsbD_not, BitVec.getLsbD_zero, hi, decide_true, Bool.true_and]
      revert h
      cases a.v.getLsbD i <;> cases a.m.getLsbD i <;> cases b.v.getLsbD i <;> cases b.m.getLsbD i <;> simp
    unfold meet
    rw [if_neg (by simp [h0])]
    refine ⟨rfl, N.ext' (ext64 fun i hi => ?_) (ext64 fun i hi => ?_)⟩
    all_goals
      have h := h i hi
      have ha := ha i hi
      simp only [of, BitVec.getLsbD_and, BitVec.getLsbD_or, BitVec.getLsbD_not, hi, decide_true, Bool.true_and]
      revert h ha
      cases a.v.getLsbD i <;> cases a.m.getLsbD i <;> cases b.v.getLsbD i <;> cases b.m.getLsbD i <;> simp
  · rintro ⟨h1, h2⟩
    have h := (meet_within ha hb (m := (meet a b).1) (by rw [← h1])).2
    rwa [h2] at h

/-! ### numbers alone -/
theorem has_const {a : N} {x : W} : has a x = within (const x) a := by
  unfold has within const
  simp
theorem add_const (x y : W) : add (const x) (const y) = const (x + y) := by simp [add, const, of, and_all]
theorem sub_const (x y : W) : sub (const x) (const y) = const (x - y) := by simp [sub, const, of, and_all]
theorem and_const (x y : W) : and (const x) (const y) = const (x &&& y) := by simp [and, const, of, and_all]
theorem or_const (x y : W) : or (const x) (const y) = const (x ||| y) := by simp [or, const, of, and_all]
theorem xor_const (x y : W) : xor (const x) (const y) = const (x ^^^ y) := by simp [xor, const, of, and_all]
theorem left_const (x : W) (k : Nat) : left (const x) k = const (x <<< k) := by simp [left, const, of, and_all]
theorem down_const (x : W) (k : Nat) : down (const x) k = const (x >>> k) := by simp [down, const, of, and_all]
theorem join_const (x y : W) : (join (const x) (const y)).m = x ^^^ y := by simp [join, const, of]
theorem meet_const (x y : W) : (meet (const x) (const y)).2 = decide (x = y) := by
  unfold meet const
  by_cases h : x = y
  · subst h; simp
  · have h' : ¬ x ^^^ y = 0#64 := by
      intro e
      apply h
      have := congrArg (· ^^^ y) e
      simpa [BitVec.xor_assoc] using this
    simp [h, h', and_all]
theorem has_add {a b : N} (hb : R b) {x y : W} (h : has a x = true) (h' : has b y = true) : has (add a b) (x + y) = true := by
  have := hb
  rw [has_const] at *
  rw [← add_const]
  exact within_add (R_const _) (R_const _) h h'
theorem has_sub {a b : N} {x y : W} (h : has a x = true) (h' : has b y = true) : has (sub a b) (x - y) = true := by
  rw [has_const] at *
  rw [← sub_const]
  exact within_sub (R_const _) (R_const _) h h'
theorem has_and {a b : N} {x y : W} (h : has a x = true) (h' : has b y = true) : has (and a b) (x &&& y) = true := by
  rw [has_const] at *
  rw [← and_const]
  exact within_and (R_const _) (R_const _) h h'
theorem has_or {a b : N} {x y : W} (h : has a x = true) (h' : has b y = true) : has (or a b) (x ||| y) = true := by
  rw [has_const] at *
  rw [← or_const]
  exact within_or (R_const _) (R_const _) h h'
theorem has_xor {a b : N} {x y : W} (h : has a x = true) (h' : has b y = true) : has (xor a b) (x ^^^ y) = true := by
  rw [has_const] at *
  rw [← xor_const]
  exact within_xor (R_const _) (R_const _) h h'
theorem has_join_l {a b : N} {x : W} (ha : R a) (h : has a x = true) : has (join a b) x = true := within_has (within_join_l ha) h
theorem has_join_r {a b : N} {x : W} (hb : R b) (h : has b x = true) : has (join a b) x = true := within_has (within_join_r hb) h
theorem R_has {a : N} {x : W} (h : has a x = true) : R a := by
  rw [has_const] at h
  exact R_within h
theorem has_left {a : N} {x : W} (h : has a x = true) (k : Nat) : has (left a k) (x <<< k) = true := by
  rw [has_iff] at *
  intro i hi
  simp only [left, of, BitVec.getLsbD_and, BitVec.getLsbD_shiftLeft, BitVec.getLsbD_not, hi, decide_true, Bool.true_and]
  by_cases e : i < k
  · simp [e]
  · have h := h (i - k) (by omega)
    simp only [e, decide_false, Bool.not_false, Bool.true_and]
    rw [← h]
    cases x.getLsbD (i - k) <;> cases a.m.getLsbD (i - k) <;> rfl
theorem has_down {a : N} {x : W} (h : has a x = true) (k : Nat) : has (down a k) (x >>> k) = true := by
  rw [has_iff] at *
  intro i hi
  simp only [down, of, BitVec.getLsbD_and, BitVec.getLsbD_ushiftRight, BitVec.getLsbD_not, hi, decide_true, Bool.true_and]
  by_cases e : k + i < 64
  · have h := h (k + i) e
    rw [← h]
    cases x.getLsbD (k + i) <;> cases a.m.getLsbD (k + i) <;> rfl
  · rw [BitVec.getLsbD_of_ge _ _ (show 64 ≤ k + i by omega), BitVec.getLsbD_of_ge a.v _ (show 64 ≤ k + i by omega)]

/-! ### products -/
theorem div_lt (x : W) (h : x ≠ 0#64) : (x >>> 1).toNat < x.toNat := by
  have : x.toNat ≠ 0 := fun e => h (BitVec.eq_of_toNat_eq (by simpa using e))
  rw [BitVec.toNat_ushiftRight, Nat.shiftRight_eq_div_pow]
  omega
theorem down_or (a : N) : (down a 1).v ||| (down a 1).m = (a.v ||| a.m) >>> 1 := by
  apply ext64
  intro i hi
  simp only [down, of, BitVec.getLsbD_and, BitVec.getLsbD_or, BitVec.getLsbD_ushiftRight, BitVec.getLsbD_not, hi, decide_true, Bool.true_and]
  cases a.v.getLsbD (1 + i) <;> cases a.m.getLsbD (1 + i) <;> rfl
def mulStep (a b sum : N) : N :=
  if a.v &&& 1#64 = 1#64 then add sum ⟨0#64, b.m⟩ else if a.m &&& 1#64 = 1#64 then add sum ⟨0#64, b.v ||| b.m⟩ else sum
def mulW (a b sum : N) : N :=
  if _h : a.v ||| a.m = 0#64 then sum else mulW (down a 1) (left b 1) (mulStep a b sum)
termination_by (a.v ||| a.m).toNat
decreasing_by rw [down_or]; exact div_lt _ _h
def mul (a b : N) : N := mulW a b (const (a.v * b.v))
theorem mulW_end {a b sum : N} (h : a.v ||| a.m = 0#64) : mulW a b sum = sum := by rw [mulW, dif_pos h]
theorem mulW_step {a b sum : N} (h : ¬ a.v ||| a.m = 0#64) : mulW a b sum = mulW (down a 1) (left b 1) (mulStep a b sum) := by rw [mulW, dif_neg h]
theorem R_add (a b : N) : R (add a b) := R_of _ _
theorem R_mulStep {a b sum : N} (h : R sum) : R (mulStep a b sum) := by
  unfold mulStep; split
  · exact R_add _ _
  · split
    · exact R_add _ _
    · exact h
theorem R_mulW (a b sum : N) (h : R sum) : R (mulW a b sum) := by
  by_cases e : a.v ||| a.m = 0#64
  · rw [mulW_end e]; exact h
  · rw [mulW_step e]; exact R_mulW _ _ _ (R_mulStep h)
termination_by (a.v ||| a.m).toNat
decreasing_by rw [down_or]; exact div_lt _ e
theorem R_mul (a b : N) : R (mul a b) := R_mulW _ _ _ (R_const _)
theorem halves (x : W) : x = (x >>> 1) + (x >>> 1) + (x &&& 1#64) := by
  apply BitVec.eq_of_toNat_eq
  have h := x.isLt
  simp only [BitVec.toNat_add, BitVec.toNat_and, BitVec.toNat_ushiftRight, BitVec.toNat_ofNat, Nat.shiftRight_succ, Nat.shiftRight_zero]
  have e : x.toNat &&& 1 % 2 ^ 64 = x.toNat % 2 := by
    rw [show (1 % 2 ^ 64 : Nat) = 1 from by decide, Nat.and_one_is_mod]
  rw [e]
  omega
theorem double (x : W) : x <<< 1 = x + x := by
  apply BitVec.eq_of_toNat_eq
  simp only [BitVec.toNat_add, BitVec.toNat_shiftLeft, Nat.shiftLeft_eq]
  omega
theorem low_bit (x : W) : x &&& 1#64 = 0#64 ∨ x &&& 1#64 = 1#64 := by
  have h : (x &&& 1#64).toNat = x.toNat % 2 := by
    rw [BitVec.toNat_and, show (1#64).toNat = 1 from by decide, Nat.and_one_is_mod]
  rcases Nat.mod_two_eq_zero_or_one x.toNat with e | e
  · left; apply BitVec.eq_of_toNat_eq; rw [h, e]; rfl
  · right; apply BitVec.eq_of_toNat_eq; rw [h, e]; rfl
theorem down_R {a : N} (h : R a) : down a 1 = ⟨a.v >>> 1, a.m >>> 1⟩ := by
  refine N.ext' (ext64 fun i hi => ?_) rfl
  simp only [down, of, BitVec.getLsbD_and, BitVec.getLsbD_ushiftRight, BitVec.getLsbD_not, hi, decide_true, Bool.true_and]
  by_cases e : 1 + i < 64
  · have := h _ e
    revert this
    cases a.v.getLsbD (1 + i) <;> cases a.m.getLsbD (1 + i) <;> simp
  · rw [BitVec.getLsbD_of_ge a.v _ (by omega)]; rfl
theorem left_R {a : N} (h : R a) : left a 1 = ⟨a.v <<< 1, a.m <<< 1⟩ := by
  refine N.ext' (ext64 fun i hi => ?_) rfl
  simp only [left, of, BitVec.getLsbD_and, BitVec.getLsbD_shiftLeft, BitVec.getLsbD_not, hi, decide_true, Bool.true_and]
  by_cases e : i < 1
  · simp [e]
  · have := h (i - 1) (by omega)
    simp only [e, decide_false, Bool.not_false, Bool.true_and]
    revert this
    cases a.v.getLsbD (i - 1) <;> cases a.m.getLsbD (i - 1) <;> simp
/-- x has no other bits than m. -/
def sub_ (x m : W) : Prop := ∀ i, i < 64 → (x.getLsbD i && !m.getLsbD i) = false
theorem has_mask {m x : W} : has ⟨0#64, m⟩ x = true ↔ sub_ x m := by
  rw [has_iff]
  unfold sub_
  constructor
  · intro h i hi; simpa using h i hi
  · intro h i hi; simpa using h i hi
theorem sub_zero {x : W} (h : sub_ x 0#64) : x = 0#64 := by
  apply ext64
  intro i hi
  have := h i hi
  simpa using this
theorem sub_shr {x m : W} (h : sub_ x m) : sub_ (x >>> 1) (m >>> 1) := by
  intro i hi
  simp only [BitVec.getLsbD_ushiftRight]
  by_cases e : 1 + i < 64
  · exact h _ e
  · rw [BitVec.getLsbD_of_ge x _ (by omega)]; rfl
theorem sub_shl {x m : W} (h : sub_ x m) : sub_ (x <<< 1) (m <<< 1) := by
  intro i hi
  simp only [BitVec.getLsbD_shiftLeft, hi, decide_true, Bool.true_and]
  by_cases e : i < 1
  · simp [e]
  · have := h (i - 1) (by omega)
    simpa [e] using this
theorem sub_low {x m : W} (h : sub_ x m) (e : m &&& 1#64 = 0#64) : x &&& 1#64 = 0#64 := by
  apply ext64
  intro i hi
  have h1 := h i hi
  have h2 := bit_of e i
  simp only [BitVec.getLsbD_and, BitVec.getLsbD_zero] at h2 ⊢
  revert h1 h2
  cases x.getLsbD i <;> cases m.getLsbD i <;> simp
theorem R_low {a : N} (h : R a) (e : a.v &&& 1#64 = 1#64) : a.m &&& 1#64 = 0#64 := by
  apply ext64
  intro i hi
  have h1 := h i hi
  have h2 := bit_of e i
  simp only [BitVec.getLsbD_and, BitVec.getLsbD_zero] at h2 ⊢
  revert h1 h2
  cases a.v.getLsbD i <;> cases a.m.getLsbD i <;> cases (1#64).getLsbD i <;> simp
theorem add_or {v y m : W} (h : (R ⟨v, m⟩)) (hy : sub_ y m) : sub_ (v + y) (v ||| m) := by
  have e : v + y = v ||| y := by
    apply BitVec.add_eq_or_of_and_eq_zero
    apply ext64
    intro i hi
    have h1 := h i hi
    have h2 := hy i hi
    simp only [BitVec.getLsbD_and, BitVec.getLsbD_zero] at h1 ⊢
    revert h1 h2
    cases v.getLsbD i <;> cases y.getLsbD i <;> cases m.getLsbD i <;> simp
  rw [e]
  intro i hi
  have h2 := hy i hi
  simp only [BitVec.getLsbD_or]
  revert h2
  cases v.getLsbD i <;> cases y.getLsbD i <;> cases m.getLsbD i <;> simp
theorem has_mulW (a b sum : N) (ha : R a) (hb : R b) (x y t : W) (hx : sub_ x a.m) (hy : sub_ y b.m) (ht : has sum t = true) :
    has (mulW a b sum) (t + (a.v * y + x * (b.v + y))) = true := by
  by_cases e : a.v ||| a.m = 0#64
  · rw [mulW_end e]
    have ev : a.v = 0#64 := by
      apply ext64
      intro i hi
      have := bit_of e i
      simp only [BitVec.getLsbD_or, BitVec.getLsbD_zero] at this ⊢
      revert this
      cases a.v.getLsbD i <;> simp
    have em : a.m = 0#64 := by
      apply ext64
      intro i hi
      have := bit_of e i
      simp only [BitVec.getLsbD_or, BitVec.getLsbD_zero] at this ⊢
      revert this
      cases a.m.getLsbD i <;> simp
    rw [em] at hx
    rw [ev, sub_zero hx]
    simpa using ht
  · rw [mulW_step e]
    have hstep : has (mulStep a b sum) (t + ((a.v &&& 1#64) * y + (x &&& 1#64) * (b.v + y))) = true := by
      unfold mulStep
      have hbv := add_or (v := b.v) hb hy
      rcases low_bit a.v with e0 | e0
      · rw [e0, if_neg (by decide)]
        rcases low_bit a.m with m0 | m0
        · rw [m0, sub_low hx m0, if_neg (by decide)]
          simpa using ht
        · rw [m0, if_pos rfl]
          apply has_add (by intro i hi; simp) ht
          rw [has_mask]
          rcases low_bit x with x0 | x0
          · rw [x0]; intro i hi; simp
          · rw [x0]; simpa using hbv
      · rw [e0, if_pos rfl, sub_low hx (R_low ha e0)]
        apply has_add (by intro i hi; simp) ht
        rw [has_mask]
        simpa using hy
    have ih := has_mulW (down a 1) (left b 1) (mulStep a b sum) (R_of _ _) (R_of _ _) (x >>> 1) (y <<< 1) _
      (by rw [down_R ha]; exact sub_shr hx) (by rw [left_R hb]; exact sub_shl hy) hstep
    rw [down_R ha, left_R hb] at ih ⊢
    have key : t + ((a.v &&& 1#64) * y + (x &&& 1#64) * (b.v + y)) + ((a.v >>> 1) * (y <<< 1) + (x >>> 1) * (b.v <<< 1 + y <<< 1)) = t + (a.v * y + x * (b.v + y)) := by
      conv => rhs; rw [halves a.v, halves x]
      rw [double y, double b.v]
      simp only [BitVec.add_mul, BitVec.mul_add]
      generalize (a.v &&& 1#64) * y = p1
      generalize (x &&& 1#64) * y = p2
      generalize (x &&& 1#64) * b.v = p3
      generalize (a.v >>> 1) * y = p4
      generalize (x >>> 1) * y = p5
      generalize (x >>> 1) * b.v = p6
      ac_rfl
    rw [key] at ih
    exact ih
termination_by (a.v ||| a.m).toNat
decreasing_by rw [down_or]; exact div_lt _ e
theorem split_has {a : N} {x : W} (h : has a x = true) : ∃ u, sub_ u a.m ∧ x = a.v + u := by
  have hR := R_has h
  have h' := has_iff.1 h
  refine ⟨x &&& a.m, ?_, ?_⟩
  · intro i hi
    simp only [BitVec.getLsbD_and]
    cases x.getLsbD i <;> cases a.m.getLsbD i <;> rfl
  · have e : a.v + (x &&& a.m) = a.v ||| (x &&& a.m) := by
      apply BitVec.add_eq_or_of_and_eq_zero
      apply ext64
      intro i hi
      have h1 := hR i hi
      simp only [BitVec.getLsbD_and, BitVec.getLsbD_zero]
      revert h1
      cases a.v.getLsbD i <;> cases a.m.getLsbD i <;> simp
    rw [e]
    apply ext64
    intro i hi
    have h1 := h' i hi
    simp only [BitVec.getLsbD_and, BitVec.getLsbD_or]
    revert h1
    cases x.getLsbD i <;> cases a.v.getLsbD i <;> cases a.m.getLsbD i <;> simp
theorem has_self (x : W) : has (const x) x = true := by simp [has, const, and_all]
theorem has_mul {a b : N} {x y : W} (h : has a x = true) (h' : has b y = true) : has (mul a b) (x * y) = true := by
  obtain ⟨u, hu, rfl⟩ := split_has h
  obtain ⟨v, hv, rfl⟩ := split_has h'
  have := has_mulW a b (const (a.v * b.v)) (R_has h) (R_has h') u v (a.v * b.v) hu hv (has_self _)
  unfold mul
  have e : a.v * b.v + (a.v * v + u * (b.v + v)) = (a.v + u) * (b.v + v) := by
    simp only [BitVec.add_mul, BitVec.mul_add]
    generalize a.v * b.v = p1
    generalize a.v * v = p2
    generalize u * b.v = p3
    generalize u * v = p4
    ac_rfl
  rwa [e] at this
theorem add_zero' (x : W) : add (const x) ⟨0#64, 0#64⟩ = const x := by simp [add, const, of, and_all]
theorem mulW_const (a b : N) (x : W) (ha : a.m = 0#64) (hb : b.m = 0#64) : mulW a b (const x) = const x := by
  by_cases e : a.v ||| a.m = 0#64
  · rw [mulW_end e]
  · rw [mulW_step e]
    have hs : mulStep a b (const x) = const x := by
      unfold mulStep
      split
      · rw [hb, add_zero']
      · rw [if_neg (by rw [ha]; decide)]
    rw [hs]
    apply mulW_const
    · simp [down, of, ha]
    · simp [left, of, hb]
termination_by (a.v ||| a.m).toNat
decreasing_by rw [down_or]; exact div_lt _ e
theorem mul_const (x y : W) : mul (const x) (const y) = const (x * y) := mulW_const _ _ _ rfl rfl
theorem mul_pow (x : W) (k : Nat) : x * (1#64 <<< k) = x <<< k := by
  rw [BitVec.shiftLeft_eq_mul_twoPow x k, BitVec.twoPow]

/-! ### order, and what is wider -/
theorem add_comm' (a b : N) : add a b = add b a := by
  unfold add
  have e1 : a.v + b.v = b.v + a.v := BitVec.add_comm _ _
  have e2 : a.v + b.v + a.m + b.m = b.v + a.v + b.m + a.m := by ac_rfl
  rw [e2, e1]
  congr 1
  ac_rfl
theorem and_comm' (a b : N) : and a b = and b a := by
  unfold and
  rw [BitVec.and_comm a.v b.v, BitVec.and_comm (a.v ||| a.m)]
theorem or_comm' (a b : N) : or a b = or b a := by
  unfold or
  rw [BitVec.or_comm a.v b.v, BitVec.or_comm a.m]
theorem xor_comm' (a b : N) : xor a b = xor b a := by
  unfold xor
  rw [BitVec.xor_comm a.v b.v, BitVec.or_comm a.m]
theorem join_comm' {a b : N} : join a b = join b a := by
  refine N.ext' (ext64 fun i hi => ?_) (ext64 fun i hi => ?_)
  all_goals
    simp only [join, of, BitVec.getLsbD_and, BitVec.getLsbD_or, BitVec.getLsbD_xor, BitVec.getLsbD_not, hi, decide_true, Bool.true_and]
    cases a.v.getLsbD i <;> cases a.m.getLsbD i <;> cases b.v.getLsbD i <;> cases b.m.getLsbD i <;> rfl
theorem within_wide (a : N) (more : W) (ha : R a) : within a (right ⟨a.v, a.m ||| more⟩) = true := by
  rw [within_iff]
  intro i hi
  have := ha i hi
  simp only [right, BitVec.getLsbD_and, BitVec.getLsbD_or, BitVec.getLsbD_not, hi, decide_true, Bool.true_and]
  revert this
  cases a.v.getLsbD i <;> cases a.m.getLsbD i <;> cases more.getLsbD i <;> simp
end PlainTnum
end Go.Proofs.YtmghpoagpiljhaaDoor
