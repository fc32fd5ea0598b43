/- Plain law of digest: sums of 256 bits, over BitVec 32, one by one and in lanes: no program in sight. -/
import Derived.Test.YtmghpoagpiljhaaDoorRows
set_option linter.unusedSimpArgs false
set_option linter.unusedVariables false
namespace Go.Proofs.YtmghpoagpiljhaaDoor
namespace PlainSha

/-! ### one word -/
abbrev V := BitVec 32
def rr (x : V) (n : Nat) : V := (x <<< (32 - n)) ||| (x >>> n)
def s0 (x : V) : V := rr x 7 ^^^ rr x 18 ^^^ (x >>> 3)
def s1 (x : V) : V := rr x 17 ^^^ rr x 19 ^^^ (x >>> 10)
def b0 (x : V) : V := rr x 2 ^^^ rr x 13 ^^^ rr x 22
def b1 (x : V) : V := rr x 6 ^^^ rr x 11 ^^^ rr x 25
def ch (e f g : V) : V := (e &&& f) ^^^ (~~~e &&& g)
def mj (a b c : V) : V := (a &&& b) ^^^ (a &&& c) ^^^ (b &&& c)
structure St where
  a : V
  b : V
  c : V
  d : V
  e : V
  f : V
  g : V
  h : V
/-- A round, of a constant and a word. -/
def one (s : St) (k w : V) : V := s.h + b1 s.e + ch s.e s.f s.g + k + w
def two (s : St) : V := b0 s.a + mj s.a s.b s.c
def round (s : St) (k w : V) : St := ⟨one s k w + two s, s.a, s.b, s.c, s.d + one s k w, s.e, s.f, s.g⟩
def plus (s v : St) : St := ⟨s.a + v.a, s.b + v.b, s.c + v.c, s.d + v.d, s.e + v.e, s.f + v.f, s.g + v.g, s.h + v.h⟩
/-- The words of a block: sixteen that lie, what comes of them. -/
def new (m : Nat → V) : V := s1 (m 14) + m 9 + s0 (m 1) + m 0
def win (m : Nat → V) : Nat → Nat → V
  | 0 => m
  | t + 1 => fun i => if i < 15 then win m t (i + 1) else new (win m t)
def wd (m : Nat → V) (t : Nat) : V := win m t 0
theorem win_wd (m : Nat → V) : ∀ (i t : Nat), i < 16 → win m t i = wd m (t + i)
  | 0, t, _ => rfl
  | i + 1, t, h => by
      have h1 := win_wd m i (t + 1) (by omega)
      rw [show t + (i + 1) = t + 1 + i by omega, ← h1]
      show _ = (if i < 15 then win m t (i + 1) else _)
      rw [if_pos (by omega)]
theorem wd_low (m : Nat → V) (t : Nat) (h : t < 16) : wd m t = m t := by
  have := win_wd m t 0 h
  rw [Nat.zero_add] at this
  rw [← this]
  rfl
theorem wd_next (m : Nat → V) (t : Nat) : wd m (t + 16) = s1 (wd m (t + 14)) + wd m (t + 9) + s0 (wd m (t + 1)) + wd m t := by
  have h := win_wd m 15 (t + 1) (by omega)
  rw [show t + 16 = t + 1 + 15 by omega, ← h]
  show new (win m t) = _
  unfold new
  rw [win_wd m 14 t (by omega), win_wd m 9 t (by omega), win_wd m 1 t (by omega)]
  rfl
/-- All rounds over a list of constants, from a place on. -/
def rounds (m : Nat → V) : List V → Nat → St → St
  | [], _, s => s
  | k :: ks, t, s => rounds m ks (t + 1) (round s k (wd m t))
theorem rounds_app (m : Nat → V) : ∀ (l r : List V) (t : Nat) (s : St), rounds m (l ++ r) t s = rounds m r (t + l.length) (rounds m l t s)
  | [], r, t, s => rfl
  | k :: l, r, t, s => by
      show rounds m (l ++ r) (t + 1) _ = rounds m r (t + (l.length + 1)) (rounds m l (t + 1) _)
      rw [rounds_app m l r, show t + 1 + l.length = t + (l.length + 1) by omega]
def ks : List V := [
  0x428a2f98, 0x71374491, 0xb5c0fbcf, 0xe9b5dba5, 0x3956c25b, 0x59f111f1, 0x923f82a4, 0xab1c5ed5,
  0xd807aa98, 0x12835b01, 0x243185be, 0x550c7dc3, 0x72be5d74, 0x80deb1fe, 0x9bdc06a7, 0xc19bf174,
  0xe49b69c1, 0xefbe4786, 0x0fc19dc6, 0x240ca1cc, 0x2de92c6f, 0x4a7484aa, 0x5cb0a9dc, 0x76f988da,
  0x983e5152, 0xa831c66d, 0xb00327c8, 0xbf597fc7, 0xc6e00bf3, 0xd5a79147, 0x06ca6351, 0x14292967,
  0x27b70a85, 0x2e1b2138, 0x4d2c6dfc, 0x53380d13, 0x650a7354, 0x766a0abb, 0x81c2c92e, 0x92722c85,
  0xa2bfe8a1, 0xa81a664b, 0xc24b8b70, 0xc76c51a3, 0xd192e819, 0xd6990624, 0xf40e3585, 0x106aa070,
  0x19a4c116, 0x1e376c08, 0x2748774c, 0x34b0bcb5, 0x391c0cb3, 0x4ed8aa4a, 0x5b9cca4f, 0x682e6ff3,
  0x748f82ee, 0x78a5636f, 0x84c87814, 0x8cc70208, 0x90befffa, 0xa4506ceb, 0xbef9a3f7, 0xc67178f2]
def begin : St := ⟨0x6a09e667, 0xbb67ae85, 0x3c6ef372, 0xa54ff53a, 0x510e527f, 0x9b05688c, 0x1f83d9ab, 0x5be0cd19⟩
/-- A block worked in. -/
def comp (s : St) (m : Nat → V) : St := plus s (rounds m ks 0 s)

/-! ### lanes: 64 bits for each word -/
def pack : Nat → (Nat → Nat) → Nat
  | 0, _ => 0
  | n + 1, f => f 0 + 18446744073709551616 * pack n fun i => f (i + 1)
theorem pack_congr : ∀ (n : Nat) (f g : Nat → Nat), (∀ i, i < n → f i = g i) → pack n f = pack n g
  | 0, _, _, _ => rfl
  | n + 1, f, g, h => by
      unfold pack
      rw [h 0 (by omega), pack_congr n _ _ fun i hi => h (i + 1) (by omega)]
theorem pack_add : ∀ (n : Nat) (f g : Nat → Nat), pack n f + pack n g = pack n fun i => f i + g i
  | 0, _, _ => rfl
  | n + 1, f, g => by
      have := pack_add n (fun i => f (i + 1)) fun i => g (i + 1)
      show f 0 + 18446744073709551616 * pack n (fun i => f (i + 1)) + (g 0 + 18446744073709551616 * pack n (fun i => g (i + 1))) = f 0 + g 0 + 18446744073709551616 * pack n (fun i => f (i + 1) + g (i + 1))
      rw [← this]
      omega
theorem pack_mul (c : Nat) : ∀ (n : Nat) (f : Nat → Nat), c * pack n f = pack n fun i => c * f i
  | 0, _ => rfl
  | n + 1, f => by
      have := pack_mul c n fun i => f (i + 1)
      unfold pack
      rw [← this, Nat.mul_add, ← Nat.mul_assoc, Nat.mul_comm c 18446744073709551616, Nat.mul_assoc]
theorem pack_bit : ∀ (n : Nat) (f : Nat → Nat) (_ : ∀ i, f i < 2 ^ 64) (j : Nat), (pack n f).testBit j = (decide (j / 64 < n) && (f (j / 64)).testBit (j % 64))
  | 0, f, _, j => by simp [pack]
  | n + 1, f, h, j => by
      have ih := pack_bit n (fun i => f (i + 1)) (fun i => h (i + 1)) (j - 64)
      unfold pack
      have e : f 0 + 18446744073709551616 * pack n (fun i => f (i + 1)) = 2 ^ 64 * pack n (fun i => f (i + 1)) + f 0 := by
        rw [show (18446744073709551616 : Nat) = 2 ^ 64 from rfl, Nat.add_comm]
      rw [e, Nat.testBit_two_pow_mul_add _ (h 0)]
      by_cases hj : j < 64
      · rw [if_pos hj, Nat.div_eq_of_lt hj, Nat.mod_eq_of_lt hj]
        simp
      · rw [if_neg hj, ih]
        have e1 : (j - 64) / 64 + 1 = j / 64 := by omega
        have e2 : (j - 64) % 64 = j % 64 := by omega
        have e3 : ((j - 64) / 64 < n) = (j / 64 < n + 1) := by apply propext; constructor <;> intro _ <;> omega
        simp only [e1, e2, e3]
variable {L : Nat}
/-- A number that holds a word in each lane. -/
def Is (L : Nat) (X : Nat) (x : Nat → V) : Prop := X = pack L fun i => (x i).toNat
def mask (L : Nat) : Nat := pack L fun _ => 4294967295
def ones (L : Nat) : Nat := pack L fun _ => 1
theorem v64 (x : V) : x.toNat < 2 ^ 64 := by have := x.isLt; omega
theorem Is.bit {X : Nat} {x : Nat → V} (h : Is L X x) (j : Nat) : X.testBit j = (decide (j / 64 < L) && (x (j / 64)).toNat.testBit (j % 64)) := by
  rw [h, pack_bit _ _ fun i => v64 _]
theorem mask_lit (t : Nat) : Nat.testBit 4294967295 t = decide (t < 32) := by
  rw [show (4294967295 : Nat) = 2 ^ 32 - 1 from rfl, Nat.testBit_two_pow_sub_one]
theorem mask_bit (j : Nat) : (mask L).testBit j = (decide (j / 64 < L) && decide (j % 64 < 32)) := by
  unfold mask
  rw [pack_bit _ _ fun i => by decide, mask_lit]
theorem Is.of_bit {X : Nat} {x : Nat → V} (h : ∀ j, X.testBit j = (decide (j / 64 < L) && (x (j / 64)).getLsbD (j % 64))) : Is L X x := by
  apply Nat.eq_of_testBit_eq
  intro j
  rw [h, pack_bit _ _ fun i => v64 _]
  rfl
theorem Is.lsb {X : Nat} {x : Nat → V} (h : Is L X x) (j : Nat) : X.testBit j = (decide (j / 64 < L) && (x (j / 64)).getLsbD (j % 64)) := h.bit j
theorem lsb_out (x : V) (t : Nat) (h : 32 ≤ t) : x.getLsbD t = false := BitVec.getLsbD_of_ge x t h
def kAnd : Nat → Nat → Nat := Nat.land
def kDup (x : Nat) : Nat := Nat.lor x (Nat.shiftLeft x 32)
theorem dup_bit {X : Nat} {x : Nat → V} (h : Is L X x) (j : Nat) (hj : j / 64 < L) : (kDup X).testBit j = if j % 64 < 32 then (x (j / 64)).getLsbD (j % 64) else (x (j / 64)).getLsbD (j % 64 - 32) := by
  show (X ||| X <<< 32).testBit j = _
  rw [Nat.testBit_or, Nat.testBit_shiftLeft, h.lsb, h.lsb]
  by_cases hl : j % 64 < 32
  · rw [if_pos hl, decide_eq_true hj, Bool.true_and]
    by_cases h32 : j ≥ 32
    · have e : (x ((j - 32) / 64)).getLsbD ((j - 32) % 64) = false := lsb_out _ _ (by omega)
      rw [e]; simp
    · simp [h32]
  · rw [if_neg hl, decide_eq_true hj, Bool.true_and, lsb_out (x (j / 64)) (j % 64) (by omega), Bool.false_or]
    have e1 : (j - 32) / 64 = j / 64 := by omega
    have e2 : (j - 32) % 64 = j % 64 - 32 := by omega
    rw [e1, e2, decide_eq_true hj, decide_eq_true (show j ≥ 32 by omega)]
    simp
theorem rr_lsb (x : V) (n t : Nat) (hn : 0 < n) (hn2 : n < 32) (ht : t < 32) : (rr x n).getLsbD t = if n + t < 32 then x.getLsbD (n + t) else x.getLsbD (n + t - 32) := by
  unfold rr
  rw [BitVec.getLsbD_or, BitVec.getLsbD_shiftLeft, BitVec.getLsbD_ushiftRight]
  by_cases h : n + t < 32
  · rw [if_pos h, decide_eq_true ht, decide_eq_true (show t < 32 - n by omega)]; simp
  · rw [if_neg h, decide_eq_true ht, decide_eq_false (show ¬ t < 32 - n by omega), lsb_out x (n + t) (by omega), show t - (32 - n) = n + t - 32 by omega]; simp
/-- A bit of the doubled number, moved. -/
theorem dup_moved {X : Nat} {x : Nat → V} (h : Is L X x) (n j : Nat) (hn : 0 < n) (hn2 : n < 32) (hj : j / 64 < L) (hl : j % 64 < 32) : (kDup X).testBit (n + j) = (rr (x (j / 64)) n).getLsbD (j % 64) := by
  have e1 : (n + j) / 64 = j / 64 := by omega
  have e2 : (n + j) % 64 = n + j % 64 := by omega
  rw [dup_bit h _ (by rw [e1]; exact hj), e1, e2, rr_lsb _ _ _ hn hn2 hl]
def kBig (M x a b c : Nat) : Nat := (fun y => Nat.land (Nat.xor (Nat.xor (Nat.shiftRight y a) (Nat.shiftRight y b)) (Nat.shiftRight y c)) M) (kDup x)
def kSml (M x a b c : Nat) : Nat := (fun y => Nat.land (Nat.xor (Nat.xor (Nat.shiftRight y a) (Nat.shiftRight y b)) (Nat.shiftRight x c)) M) (kDup x)
def kCh (M e f g : Nat) : Nat := Nat.xor (Nat.land e f) (Nat.land (Nat.xor e M) g)
def kMj (a b c : Nat) : Nat := Nat.xor (Nat.xor (Nat.land a b) (Nat.land a c)) (Nat.land b c)
theorem big_is {X : Nat} {x : Nat → V} (h : Is L X x) (a b c : Nat) (ha : 0 < a ∧ a < 32) (hb : 0 < b ∧ b < 32) (hc : 0 < c ∧ c < 32) : Is L (kBig (mask L) X a b c) fun i => rr (x i) a ^^^ rr (x i) b ^^^ rr (x i) c := by
  apply Is.of_bit
  intro j
  show ((((kDup X >>> a) ^^^ (kDup X >>> b)) ^^^ (kDup X >>> c)) &&& (mask L)).testBit j = _
  rw [Nat.testBit_and, Nat.testBit_xor, Nat.testBit_xor, Nat.testBit_shiftRight, Nat.testBit_shiftRight, Nat.testBit_shiftRight, mask_bit]
  by_cases hj : j / 64 < L
  · by_cases hl : j % 64 < 32
    · rw [dup_moved h a j ha.1 ha.2 hj hl, dup_moved h b j hb.1 hb.2 hj hl, dup_moved h c j hc.1 hc.2 hj hl]
      simp [hj, hl, BitVec.getLsbD_xor]
    · rw [lsb_out _ (j % 64) (by omega)]
      simp [hl]
  · simp [hj]
theorem sml_is {X : Nat} {x : Nat → V} (h : Is L X x) (a b c : Nat) (ha : 0 < a ∧ a < 32) (hb : 0 < b ∧ b < 32) (hc : 0 < c ∧ c < 32) : Is L (kSml (mask L) X a b c) fun i => rr (x i) a ^^^ rr (x i) b ^^^ (x i >>> c) := by
  apply Is.of_bit
  intro j
  show ((((kDup X >>> a) ^^^ (kDup X >>> b)) ^^^ (X >>> c)) &&& (mask L)).testBit j = _
  rw [Nat.testBit_and, Nat.testBit_xor, Nat.testBit_xor, Nat.testBit_shiftRight, Nat.testBit_shiftRight, Nat.testBit_shiftRight, mask_bit]
  by_cases hj : j / 64 < L
  · by_cases hl : j % 64 < 32
    · rw [dup_moved h a j ha.1 ha.2 hj hl, dup_moved h b j hb.1 hb.2 hj hl, h.lsb]
      have e1 : (c + j) / 64 = j / 64 := by omega
      have e2 : (c + j) % 64 = c + j % 64 := by omega
      rw [e1, e2]
      simp [hj, hl, BitVec.getLsbD_xor, BitVec.getLsbD_ushiftRight]
    · rw [lsb_out _ (j % 64) (by omega)]
      simp [hl]
  · simp [hj]
theorem ch_is {E F G : Nat} {e f g : Nat → V} (he : Is L E e) (hf : Is L F f) (hg : Is L G g) : Is L (kCh (mask L) E F G) fun i => ch (e i) (f i) (g i) := by
  apply Is.of_bit
  intro j
  show ((E &&& F) ^^^ ((E ^^^ (mask L)) &&& G)).testBit j = _
  rw [Nat.testBit_xor, Nat.testBit_and, Nat.testBit_and, Nat.testBit_xor, mask_bit, he.lsb, hf.lsb, hg.lsb]
  unfold ch
  by_cases hj : j / 64 < L
  · by_cases hl : j % 64 < 32
    · simp [hj, hl, BitVec.getLsbD_xor, BitVec.getLsbD_and, BitVec.getLsbD_not]
    · rw [lsb_out _ (j % 64) (by omega), lsb_out _ (j % 64) (by omega), lsb_out _ (j % 64) (by omega), lsb_out _ (j % 64) (by omega)]
      simp [hl]
  · simp [hj]
theorem mj_is {E F G : Nat} {e f g : Nat → V} (he : Is L E e) (hf : Is L F f) (hg : Is L G g) : Is L (kMj E F G) fun i => mj (e i) (f i) (g i) := by
  apply Is.of_bit
  intro j
  show (((E &&& F) ^^^ (E &&& G)) ^^^ (F &&& G)).testBit j = _
  rw [Nat.testBit_xor, Nat.testBit_xor, Nat.testBit_and, Nat.testBit_and, Nat.testBit_and, he.lsb, hf.lsb, hg.lsb]
  unfold mj
  by_cases hj : j / 64 < L
  · simp [hj, BitVec.getLsbD_xor, BitVec.getLsbD_and]
  · simp [hj]
/-- A number that holds, in each lane, what is a word but for its upper bits. -/
def Up (L : Nat) (c : Nat) (X : Nat) (x : Nat → V) : Prop := ∃ f : Nat → Nat, X = pack L f ∧ ∀ i, f i % 4294967296 = (x i).toNat ∧ f i < c * 4294967296
theorem Is.up {X : Nat} {x : Nat → V} (h : Is L X x) : Up L 1 X x := ⟨_, h, fun i => by have := (x i).isLt; omega⟩
theorem Up.add {c d X Y : Nat} {x y : Nat → V} (h : Up L c X x) (k : Up L d Y y) : Up L (c + d) (Nat.add X Y) fun i => x i + y i := by
  obtain ⟨f, rfl, hf⟩ := h
  obtain ⟨g, rfl, hg⟩ := k
  refine ⟨fun i => f i + g i, pack_add _ _ _, fun i => ?_⟩
  have h1 := hf i
  have h2 := hg i
  rw [BitVec.toNat_add, Nat.add_mul]
  show (f i + g i) % 4294967296 = _ ∧ f i + g i < _
  omega
theorem Up.is {c X : Nat} {x : Nat → V} (h : Up L c X x) (hc : c ≤ 16) : Is L (Nat.land X (mask L)) x := by
  obtain ⟨f, rfl, hf⟩ := h
  have hb : ∀ i, f i < 2 ^ 64 := fun i => by
    have := (hf i).2
    have h2 : c * 4294967296 ≤ 16 * 4294967296 := Nat.mul_le_mul_right _ hc
    omega
  apply Nat.eq_of_testBit_eq
  intro j
  show (pack L f &&& (mask L)).testBit j = _
  rw [Nat.testBit_and, pack_bit _ _ hb, mask_bit, pack_bit _ _ fun i => v64 _, ← (hf _).1, show (4294967296 : Nat) = 2 ^ 32 from rfl, Nat.testBit_mod_two_pow]
  by_cases hj : j / 64 < L <;> by_cases hl : j % 64 < 32 <;> simp [hj, hl]
theorem const_is (k : V) : Is L (Nat.mul k.toNat (ones L)) fun _ => k := by
  show k.toNat * pack L (fun _ => 1) = _
  rw [pack_mul, Nat.mul_one]

/-! ### the same rounds in lanes, as the kernel may reckon them -/
noncomputable def force {α : Type} (n : Nat) (k : Nat → α) : α := Nat.rec (k 0) (fun m _ => k (Nat.succ m)) n
theorem force_eq {α : Type} (n : Nat) (k : Nat → α) : force n k = k n := by cases n <;> rfl
structure Q where
  a : Nat
  b : Nat
  c : Nat
  d : Nat
  e : Nat
  f : Nat
  g : Nat
  h : Nat
abbrev Fn := Nat → Nat → Nat → Nat → Nat → Nat → Nat → Nat → Nat → Nat → Nat → Nat → Nat → Nat → Nat → Nat → Nat → Nat → Nat → Nat → Nat → Nat → Nat → Nat → Q
noncomputable def kRounds (M O : Nat) (ks : List Nat) : Fn :=
  List.rec (motive := fun _ => Fn) (fun _ _ _ _ _ _ _ _ _ _ _ _ _ _ _ _ a b c d e f g h => ⟨a, b, c, d, e, f, g, h⟩)
    (fun k _ ih w0 w1 w2 w3 w4 w5 w6 w7 w8 w9 w10 w11 w12 w13 w14 w15 a b c d e f g h =>
      force (Nat.land (Nat.add (Nat.add (Nat.add (kSml M w14 17 19 10) w9) (kSml M w1 7 18 3)) w0) M) fun w16 =>
      force (Nat.add (Nat.add (Nat.add (Nat.add h (kBig M e 6 11 25)) (kCh M e f g)) (Nat.mul k O)) w0) fun one =>
      force (Nat.land (Nat.add d one) M) fun e' =>
      force (Nat.land (Nat.add one (Nat.add (kBig M a 2 13 22) (kMj a b c))) M) fun a' =>
      ih w1 w2 w3 w4 w5 w6 w7 w8 w9 w10 w11 w12 w13 w14 w15 w16 a' a b c e' e f g) ks
structure QIs (L : Nat) (q : Q) (s : Nat → St) : Prop where
  a : Is L q.a fun i => (s i).a
  b : Is L q.b fun i => (s i).b
  c : Is L q.c fun i => (s i).c
  d : Is L q.d fun i => (s i).d
  e : Is L q.e fun i => (s i).e
  f : Is L q.f fun i => (s i).f
  g : Is L q.g fun i => (s i).g
  h : Is L q.h fun i => (s i).h
theorem kRounds_next (M O k : Nat) (l : List Nat) (w0 w1 w2 w3 w4 w5 w6 w7 w8 w9 w10 w11 w12 w13 w14 w15 a b c d e f g h : Nat) :
    kRounds M O (k :: l) w0 w1 w2 w3 w4 w5 w6 w7 w8 w9 w10 w11 w12 w13 w14 w15 a b c d e f g h =
      force (Nat.land (Nat.add (Nat.add (Nat.add (kSml M w14 17 19 10) w9) (kSml M w1 7 18 3)) w0) M) fun w16 =>
      force (Nat.add (Nat.add (Nat.add (Nat.add h (kBig M e 6 11 25)) (kCh M e f g)) (Nat.mul k O)) w0) fun one =>
      force (Nat.land (Nat.add d one) M) fun e' =>
      force (Nat.land (Nat.add one (Nat.add (kBig M a 2 13 22) (kMj a b c))) M) fun a' =>
      kRounds M O l w1 w2 w3 w4 w5 w6 w7 w8 w9 w10 w11 w12 w13 w14 w15 w16 a' a b c e' e f g := rfl
theorem rounds_is (m : Nat → Nat → V) : ∀ (l : List V) (t : Nat) (w0 w1 w2 w3 w4 w5 w6 w7 w8 w9 w10 w11 w12 w13 w14 w15 : Nat) (q : Q) (s : Nat → St)
    (_ : Is L w0 fun i => wd (m i) t) (_ : Is L w1 fun i => wd (m i) (t + 1)) (_ : Is L w2 fun i => wd (m i) (t + 2)) (_ : Is L w3 fun i => wd (m i) (t + 3))
    (_ : Is L w4 fun i => wd (m i) (t + 4)) (_ : Is L w5 fun i => wd (m i) (t + 5)) (_ : Is L w6 fun i => wd (m i) (t + 6)) (_ : Is L w7 fun i => wd (m i) (t + 7))
    (_ : Is L w8 fun i => wd (m i) (t + 8)) (_ : Is L w9 fun i => wd (m i) (t + 9)) (_ : Is L w10 fun i => wd (m i) (t + 10)) (_ : Is L w11 fun i => wd (m i) (t + 11))
    (_ : Is L w12 fun i => wd (m i) (t + 12)) (_ : Is L w13 fun i => wd (m i) (t + 13)) (_ : Is L w14 fun i => wd (m i) (t + 14)) (_ : Is L w15 fun i => wd (m i) (t + 15))
    (_ : QIs L q s),
    QIs L (kRounds (mask L) (ones L) (l.map BitVec.toNat) w0 w1 w2 w3 w4 w5 w6 w7 w8 w9 w10 w11 w12 w13 w14 w15 q.a q.b q.c q.d q.e q.f q.g q.h) fun i => rounds (m i) l t (s i)
  | [], t, w0, w1, w2, w3, w4, w5, w6, w7, w8, w9, w10, w11, w12, w13, w14, w15, q, s, _, _, _, _, _, _, _, _, _, _, _, _, _, _, _, _, hq => hq
  | k :: l, t, w0, w1, w2, w3, w4, w5, w6, w7, w8, w9, w10, w11, w12, w13, w14, w15, q, s, h0, h1, h2, h3, h4, h5, h6, h7, h8, h9, h10, h11, h12, h13, h14, h15, hq => by
      have hw : Is L (Nat.land (Nat.add (Nat.add (Nat.add (kSml (mask L) w14 17 19 10) w9) (kSml (mask L) w1 7 18 3)) w0) (mask L)) fun i => wd (m i) (t + 1 + 15) := by
        have h := ((((sml_is h14 17 19 10 (by decide) (by decide) (by decide)).up.add h9.up).add (sml_is h1 7 18 3 (by decide) (by decide) (by decide)).up).add h0.up).is (by decide)
        have e : (fun i => wd (m i) (t + 1 + 15)) = fun i => s1 (wd (m i) (t + 14)) + wd (m i) (t + 9) + s0 (wd (m i) (t + 1)) + wd (m i) t := by
          funext i
          exact wd_next (m i) t
        rw [e]
        exact h
      have ho : Up L (1 + 1 + 1 + 1 + 1) (Nat.add (Nat.add (Nat.add (Nat.add q.h (kBig (mask L) q.e 6 11 25)) (kCh (mask L) q.e q.f q.g)) (Nat.mul k.toNat (ones L))) w0) fun i => one (s i) k (wd (m i) t) :=
        ((((hq.h.up.add (big_is hq.e 6 11 25 (by decide) (by decide) (by decide)).up).add (ch_is hq.e hq.f hq.g).up).add (const_is k).up).add h0.up)
      have hd : Is L (Nat.land (Nat.add q.d (Nat.add (Nat.add (Nat.add (Nat.add q.h (kBig (mask L) q.e 6 11 25)) (kCh (mask L) q.e q.f q.g)) (Nat.mul k.toNat (ones L))) w0)) (mask L)) fun i => (s i).d + one (s i) k (wd (m i) t) := (hq.d.up.add ho).is (by decide)
      have ha : Is L (Nat.land (Nat.add (Nat.add (Nat.add (Nat.add (Nat.add q.h (kBig (mask L) q.e 6 11 25)) (kCh (mask L) q.e q.f q.g)) (Nat.mul k.toNat (ones L))) w0) (Nat.add (kBig (mask L) q.a 2 13 22) (kMj q.a q.b q.c))) (mask L)) fun i => one (s i) k (wd (m i) t) + two (s i) :=
        (ho.add ((big_is hq.a 2 13 22 (by decide) (by decide) (by decide)).up.add (mj_is hq.a hq.b hq.c).up)).is (by decide)
      have ih := rounds_is m l (t + 1) w1 w2 w3 w4 w5 w6 w7 w8 w9 w10 w11 w12 w13 w14 w15 _ ⟨_, q.a, q.b, q.c, _, q.e, q.f, q.g⟩ (fun i => round (s i) k (wd (m i) t))
        h1 (by rw [show t + 1 + 1 = t + 2 from rfl]; exact h2) (by rw [show t + 1 + 2 = t + 3 by omega]; exact h3) (by rw [show t + 1 + 3 = t + 4 by omega]; exact h4) (by rw [show t + 1 + 4 = t + 5 by omega]; exact h5)
        (by rw [show t + 1 + 5 = t + 6 by omega]; exact h6) (by rw [show t + 1 + 6 = t + 7 by omega]; exact h7) (by rw [show t + 1 + 7 = t + 8 by omega]; exact h8) (by rw [show t + 1 + 8 = t + 9 by omega]; exact h9)
        (by rw [show t + 1 + 9 = t + 10 by omega]; exact h10) (by rw [show t + 1 + 10 = t + 11 by omega]; exact h11) (by rw [show t + 1 + 11 = t + 12 by omega]; exact h12) (by rw [show t + 1 + 12 = t + 13 by omega]; exact h13)
        (by rw [show t + 1 + 13 = t + 14 by omega]; exact h14) (by rw [show t + 1 + 14 = t + 15 by omega]; exact h15) hw
        { a := ha, b := hq.a, c := hq.b, d := hq.c, e := hd, f := hq.e, g := hq.f, h := hq.g }
      have e : kRounds (mask L) (ones L) ((k :: l).map BitVec.toNat) w0 w1 w2 w3 w4 w5 w6 w7 w8 w9 w10 w11 w12 w13 w14 w15 q.a q.b q.c q.d q.e q.f q.g q.h
        = kRounds (mask L) (ones L) (l.map BitVec.toNat) w1 w2 w3 w4 w5 w6 w7 w8 w9 w10 w11 w12 w13 w14 w15 (Nat.land (Nat.add (Nat.add (Nat.add (kSml (mask L) w14 17 19 10) w9) (kSml (mask L) w1 7 18 3)) w0) (mask L))
          (Nat.land (Nat.add (Nat.add (Nat.add (Nat.add (Nat.add q.h (kBig (mask L) q.e 6 11 25)) (kCh (mask L) q.e q.f q.g)) (Nat.mul k.toNat (ones L))) w0) (Nat.add (kBig (mask L) q.a 2 13 22) (kMj q.a q.b q.c))) (mask L)) q.a q.b q.c
          (Nat.land (Nat.add q.d (Nat.add (Nat.add (Nat.add (Nat.add q.h (kBig (mask L) q.e 6 11 25)) (kCh (mask L) q.e q.f q.g)) (Nat.mul k.toNat (ones L))) w0)) (mask L)) q.e q.f q.g := by
        rw [List.map_cons, kRounds_next]
        simp only [force_eq]
      rw [e]
      exact ih
theorem rounds_next (m : Nat → V) (k : V) (l : List V) (t : Nat) (s : St) : rounds m (k :: l) t s = rounds m l (t + 1) (round s k (wd m t)) := rfl
noncomputable def kPlus (M : Nat) (q r : Q) : Q :=
  Q.rec (fun a b c d e f g h => Q.rec (fun a' b' c' d' e' f' g' h' =>
    force (Nat.land (Nat.add a a') M) fun a => force (Nat.land (Nat.add b b') M) fun b => force (Nat.land (Nat.add c c') M) fun c => force (Nat.land (Nat.add d d') M) fun d =>
    force (Nat.land (Nat.add e e') M) fun e => force (Nat.land (Nat.add f f') M) fun f => force (Nat.land (Nat.add g g') M) fun g => force (Nat.land (Nat.add h h') M) fun h => ⟨a, b, c, d, e, f, g, h⟩) r) q
theorem kPlus_eq (M : Nat) (q r : Q) : kPlus M q r = ⟨Nat.land (Nat.add q.a r.a) M, Nat.land (Nat.add q.b r.b) M, Nat.land (Nat.add q.c r.c) M, Nat.land (Nat.add q.d r.d) M, Nat.land (Nat.add q.e r.e) M, Nat.land (Nat.add q.f r.f) M, Nat.land (Nat.add q.g r.g) M, Nat.land (Nat.add q.h r.h) M⟩ := by
  cases q; cases r
  unfold kPlus
  simp only [force_eq]
theorem plus_is {q r : Q} {s v : Nat → St} (h : QIs L q s) (k : QIs L r v) : QIs L (kPlus (mask L) q r) fun i => plus (s i) (v i) := by
  rw [kPlus_eq]
  exact { a := (h.a.up.add k.a.up).is (by decide), b := (h.b.up.add k.b.up).is (by decide), c := (h.c.up.add k.c.up).is (by decide), d := (h.d.up.add k.d.up).is (by decide), e := (h.e.up.add k.e.up).is (by decide), f := (h.f.up.add k.f.up).is (by decide), g := (h.g.up.add k.g.up).is (by decide), h := (h.h.up.add k.h.up).is (by decide) }
/-- A block of sixteen words, as a function. -/
def sixteen (w0 w1 w2 w3 w4 w5 w6 w7 w8 w9 w10 w11 w12 w13 w14 w15 : V) (j : Nat) : V :=
  match j with
  | 0 => w0 | 1 => w1 | 2 => w2 | 3 => w3 | 4 => w4 | 5 => w5 | 6 => w6 | 7 => w7 | 8 => w8 | 9 => w9 | 10 => w10 | 11 => w11 | 12 => w12 | 13 => w13 | 14 => w14 | 15 => w15
  | _ => 0
noncomputable def kRow (M O : Nat) (ks : List Nat) (q : Q) (w0 w1 w2 w3 w4 w5 w6 w7 w8 w9 w10 w11 w12 w13 w14 w15 : Nat) : Q :=
  Q.rec (fun a b c d e f g h => kPlus M ⟨a, b, c, d, e, f, g, h⟩ (kRounds M O ks w0 w1 w2 w3 w4 w5 w6 w7 w8 w9 w10 w11 w12 w13 w14 w15 a b c d e f g h)) q
theorem comp_is {q : Q} {s : Nat → St} {m : Nat → Nat → V} {w0 w1 w2 w3 w4 w5 w6 w7 w8 w9 w10 w11 w12 w13 w14 w15 : Nat} (hq : QIs L q s)
    (h0 : Is L w0 fun i => m i 0) (h1 : Is L w1 fun i => m i 1) (h2 : Is L w2 fun i => m i 2) (h3 : Is L w3 fun i => m i 3)
    (h4 : Is L w4 fun i => m i 4) (h5 : Is L w5 fun i => m i 5) (h6 : Is L w6 fun i => m i 6) (h7 : Is L w7 fun i => m i 7)
    (h8 : Is L w8 fun i => m i 8) (h9 : Is L w9 fun i => m i 9) (h10 : Is L w10 fun i => m i 10) (h11 : Is L w11 fun i => m i 11)
    (h12 : Is L w12 fun i => m i 12) (h13 : Is L w13 fun i => m i 13) (h14 : Is L w14 fun i => m i 14) (h15 : Is L w15 fun i => m i 15) :
    QIs L (kRow (mask L) (ones L) (ks.map BitVec.toNat) q w0 w1 w2 w3 w4 w5 w6 w7 w8 w9 w10 w11 w12 w13 w14 w15) fun i => comp (s i) (m i) := by
  have e : ∀ j, j < 16 → (fun i => m i j) = fun i => wd (m i) j := fun j hj => by funext i; exact (wd_low (m i) j hj).symm
  cases q
  unfold kRow
  refine plus_is hq (rounds_is m ks 0 _ _ _ _ _ _ _ _ _ _ _ _ _ _ _ _ _ s ?_ ?_ ?_ ?_ ?_ ?_ ?_ ?_ ?_ ?_ ?_ ?_ ?_ ?_ ?_ ?_ hq) <;>
    (try rw [Nat.zero_add]) <;> (rw [← e _ (by decide)]; assumption)
/-! ### all seeds' keys in 256 lanes -/
/-- The words of a secret's text, of a leaf's, of the last block of a key's. -/
def secW (s : V) (i b : Nat) : Nat → V := sixteen 0 1 (s <<< 24) 0 (BitVec.ofNat 32 (33554560 + 65536 * i + 256 * b)) 0 0 0 0 0 0 0 0 0 0 152
def leafW (s : St) : Nat → V := sixteen s.a s.b s.c s.d s.e s.f s.g s.h 2147483648 0 0 0 0 0 0 256
def lastW : Nat → V := sixteen 2147483648 0 0 0 0 0 0 0 0 0 0 0 0 0 0 16384
def twoW (s v : St) : Nat → V := sixteen s.a s.b s.c s.d s.e s.f s.g s.h v.a v.b v.c v.d v.e v.f v.g v.h
def sec (s : V) (i b : Nat) : St := comp begin (secW s i b)
def leaf (s : V) (i b : Nat) : St := comp begin (leafW (sec s i b))
def keyTo (s : V) : Nat → St
  | 0 => begin
  | i + 1 => comp (keyTo s i) (twoW (leaf s i 0) (leaf s i 1))
def key (s : V) : St := comp (keyTo s 32) lastW
noncomputable def kSec (M O S : Nat) (ks : List Nat) (B : Q) (i b : Nat) : Q :=
  force (Nat.mul (Nat.add 33554560 (Nat.add (Nat.mul 65536 i) (Nat.mul 256 b))) O) fun w4 => force (Nat.mul S 16777216) fun w2 => force (Nat.mul 152 O) fun w15 => kRow M O ks B 0 O w2 0 w4 0 0 0 0 0 0 0 0 0 0 w15
noncomputable def kLeaf (M O : Nat) (ks : List Nat) (B q : Q) : Q :=
  Q.rec (fun a b c d e f g h => force (Nat.mul 2147483648 O) fun w8 => force (Nat.mul 256 O) fun w15 => kRow M O ks B a b c d e f g h w8 0 0 0 0 0 0 w15) q
noncomputable def kTwo (M O : Nat) (ks : List Nat) (q r s : Q) : Q :=
  Q.rec (fun a b c d e f g h => Q.rec (fun a' b' c' d' e' f' g' h' => kRow M O ks q a b c d e f g h a' b' c' d' e' f' g' h') s) r
noncomputable def kKeyTo (M O S : Nat) (ks : List Nat) (B : Q) (n : Nat) : Q :=
  Nat.rec (motive := fun _ => Q) B (fun i q => kTwo M O ks q (kLeaf M O ks B (kSec M O S ks B i 0)) (kLeaf M O ks B (kSec M O S ks B i 1))) n
noncomputable def kKey (M O S : Nat) (ks : List Nat) (B : Q) : Q :=
  force (Nat.mul 2147483648 O) fun w0 => force (Nat.mul 16384 O) fun w15 => kRow M O ks (kKeyTo M O S ks B 32) w0 0 0 0 0 0 0 0 0 0 0 0 0 0 0 w15
noncomputable def kLanes (n : Nat) : Nat → List Nat :=
  Nat.rec (motive := fun _ => Nat → List Nat) (fun _ => []) (fun _ ih X => force (Nat.mod X 18446744073709551616) fun v => force (Nat.div X 18446744073709551616) fun Y => List.cons v (ih Y)) n
noncomputable def kNotin (x : Nat) (l : List Nat) : Bool := List.rec (motive := fun _ => Bool) true (fun y _ ih => Bool.rec ih false (Nat.beq x y)) l
noncomputable def kApart (l : List Nat) : Bool := List.rec (motive := fun _ => Bool) true (fun x l ih => Bool.rec false ih (kNotin x l)) l
noncomputable def kBegin (O : Nat) : Q :=
  force (Nat.mul 0x6a09e667 O) fun a => force (Nat.mul 0xbb67ae85 O) fun b => force (Nat.mul 0x3c6ef372 O) fun c => force (Nat.mul 0xa54ff53a O) fun d =>
  force (Nat.mul 0x510e527f O) fun e => force (Nat.mul 0x9b05688c O) fun f => force (Nat.mul 0x1f83d9ab O) fun g => force (Nat.mul 0x5be0cd19 O) fun h => ⟨a, b, c, d, e, f, g, h⟩
/-- The numbers 0, 1, .. in lanes. -/
noncomputable def kRamp (n : Nat) : Nat := Nat.rec (motive := fun _ => Nat) 0 (fun m r => Nat.add (Nat.mul m (Nat.shiftLeft 1 (Nat.mul 64 m))) r) n
noncomputable def kOnes (n : Nat) : Nat := Nat.rec (motive := fun _ => Nat) 0 (fun m r => Nat.add (Nat.shiftLeft 1 (Nat.mul 64 m)) r) n
def kKs : List Nat := [
  0x428a2f98, 0x71374491, 0xb5c0fbcf, 0xe9b5dba5, 0x3956c25b, 0x59f111f1, 0x923f82a4, 0xab1c5ed5,
  0xd807aa98, 0x12835b01, 0x243185be, 0x550c7dc3, 0x72be5d74, 0x80deb1fe, 0x9bdc06a7, 0xc19bf174,
  0xe49b69c1, 0xefbe4786, 0x0fc19dc6, 0x240ca1cc, 0x2de92c6f, 0x4a7484aa, 0x5cb0a9dc, 0x76f988da,
  0x983e5152, 0xa831c66d, 0xb00327c8, 0xbf597fc7, 0xc6e00bf3, 0xd5a79147, 0x06ca6351, 0x14292967,
  0x27b70a85, 0x2e1b2138, 0x4d2c6dfc, 0x53380d13, 0x650a7354, 0x766a0abb, 0x81c2c92e, 0x92722c85,
  0xa2bfe8a1, 0xa81a664b, 0xc24b8b70, 0xc76c51a3, 0xd192e819, 0xd6990624, 0xf40e3585, 0x106aa070,
  0x19a4c116, 0x1e376c08, 0x2748774c, 0x34b0bcb5, 0x391c0cb3, 0x4ed8aa4a, 0x5b9cca4f, 0x682e6ff3,
  0x748f82ee, 0x78a5636f, 0x84c87814, 0x8cc70208, 0x90befffa, 0xa4506ceb, 0xbef9a3f7, 0xc67178f2]
noncomputable def kAll (n : Nat) : Bool := force (kOnes n) fun O => force (Nat.mul 4294967295 O) fun M => force (kRamp n) fun S => Q.rec (fun a _ _ _ _ _ _ _ => force a fun a => kApart (kLanes n a)) (kKey M O S kKs (kBegin O))
theorem pack_snoc : ∀ (n : Nat) (f : Nat → Nat), pack (n + 1) f = f n * 2 ^ (64 * n) + pack n f
  | 0, f => by simp [pack]
  | n + 1, f => by
      have ih := pack_snoc n fun i => f (i + 1)
      show f 0 + 18446744073709551616 * pack (n + 1) (fun i => f (i + 1)) = f (n + 1) * 2 ^ (64 * (n + 1)) + (f 0 + 18446744073709551616 * pack n (fun i => f (i + 1)))
      rw [ih, show 64 * (n + 1) = 64 + 64 * n by omega, Nat.pow_add, Nat.mul_add, show (2 : Nat) ^ 64 = 18446744073709551616 from rfl, Nat.mul_left_comm]
      omega
theorem kOnes_eq : ∀ n, kOnes n = ones n
  | 0 => rfl
  | n + 1 => by
      show 1 <<< (64 * n) + kOnes n = pack (n + 1) _
      rw [pack_snoc, kOnes_eq n, Nat.shiftLeft_eq]
      rfl
theorem kRamp_eq : ∀ n, kRamp n = pack n fun i => i
  | 0 => rfl
  | n + 1 => by
      show n * (1 <<< (64 * n)) + kRamp n = pack (n + 1) _
      rw [pack_snoc, kRamp_eq n, Nat.shiftLeft_eq, Nat.one_mul]
theorem kMask_eq (n : Nat) : Nat.mul 4294967295 (ones n) = mask n := by
  show 4294967295 * pack n _ = _
  rw [pack_mul]
  rfl
theorem kKs_eq : kKs = ks.map BitVec.toNat := by decide
theorem zero_is : Is L 0 fun _ => (0 : V) := by
  have h := const_is (L := L) (0 : V)
  rw [show Nat.mul (0 : V).toNat (ones L) = 0 from Nat.zero_mul _] at h
  exact h
theorem one_is : Is L (ones L) fun _ => (1 : V) := rfl
theorem kBegin_is : QIs L (kBegin (ones L)) fun _ => begin := by
  unfold kBegin
  simp only [force_eq]
  exact { a := const_is begin.a, b := const_is begin.b, c := const_is begin.c, d := const_is begin.d, e := const_is begin.e, f := const_is begin.f, g := const_is begin.g, h := const_is begin.h }
theorem top_is {S : Nat} (hS : S = pack L fun i => i) (hL : L ≤ 256) : Is L (Nat.mul S 16777216) fun i => (BitVec.ofNat 32 i) <<< 24 := by
  rw [hS]
  show pack L _ * 16777216 = _
  rw [Nat.mul_comm, pack_mul]
  refine pack_congr L _ _ fun i hi => ?_
  rw [BitVec.toNat_shiftLeft, BitVec.toNat_ofNat, Nat.shiftLeft_eq]
  omega
theorem kSec_is {S i b : Nat} (hS : S = pack L fun i => i) (hL : L ≤ 256) (hi : i < 256) (hb : b < 256) : QIs L (kSec (mask L) (ones L) S kKs (kBegin (ones L)) i b) fun s => sec (BitVec.ofNat 32 s) i b := by
  unfold kSec
  simp only [force_eq, kKs_eq]
  have e : Nat.add 33554560 (Nat.add (Nat.mul 65536 i) (Nat.mul 256 b)) = (BitVec.ofNat 32 (33554560 + 65536 * i + 256 * b)).toNat := by
    show 33554560 + (65536 * i + 256 * b) = _
    rw [BitVec.toNat_ofNat]
    omega
  rw [e]
  exact comp_is (m := fun s => secW (BitVec.ofNat 32 s) i b) kBegin_is zero_is one_is (top_is hS hL) zero_is (const_is _) zero_is zero_is zero_is zero_is zero_is zero_is zero_is zero_is zero_is zero_is (const_is (152 : V))
theorem kLeaf_is {q : Q} {f : Nat → St} (h : QIs L q f) : QIs L (kLeaf (mask L) (ones L) kKs (kBegin (ones L)) q) fun s => comp begin (leafW (f s)) := by
  cases q
  unfold kLeaf
  simp only [force_eq, kKs_eq]
  exact comp_is (m := fun s => leafW (f s)) kBegin_is h.a h.b h.c h.d h.e h.f h.g h.h (const_is (2147483648 : V)) zero_is zero_is zero_is zero_is zero_is zero_is (const_is (256 : V))
theorem kTwo_is {q r s : Q} {f g k : Nat → St} (h : QIs L q f) (hr : QIs L r g) (hs : QIs L s k) : QIs L (kTwo (mask L) (ones L) kKs q r s) fun i => comp (f i) (twoW (g i) (k i)) := by
  cases r
  cases s
  unfold kTwo
  simp only [kKs_eq]
  exact comp_is (m := fun s => twoW (g s) (k s)) h hr.a hr.b hr.c hr.d hr.e hr.f hr.g hr.h hs.a hs.b hs.c hs.d hs.e hs.f hs.g hs.h
theorem kKeyTo_is {S : Nat} (hS : S = pack L fun i => i) (hL : L ≤ 256) : ∀ n, n ≤ 256 → QIs L (kKeyTo (mask L) (ones L) S kKs (kBegin (ones L)) n) fun s => keyTo (BitVec.ofNat 32 s) n
  | 0, _ => kBegin_is
  | n + 1, h => kTwo_is (kKeyTo_is hS hL n (by omega)) (kLeaf_is (kSec_is hS hL (by omega) (by omega))) (kLeaf_is (kSec_is hS hL (by omega) (by omega)))
theorem kKey_is {S : Nat} (hS : S = pack L fun i => i) (hL : L ≤ 256) : QIs L (kKey (mask L) (ones L) S kKs (kBegin (ones L))) fun s => key (BitVec.ofNat 32 s) := by
  unfold kKey
  simp only [force_eq]
  have h := kKeyTo_is hS hL 32 (by omega)
  generalize kKeyTo (mask L) (ones L) S kKs (kBegin (ones L)) 32 = q at h
  simp only [kKs_eq]
  exact comp_is (m := fun _ => lastW) h (const_is (2147483648 : V)) zero_is zero_is zero_is zero_is zero_is zero_is zero_is zero_is zero_is zero_is zero_is zero_is zero_is zero_is (const_is (16384 : V))
theorem kLanes_eq : ∀ (n : Nat) (f : Nat → Nat) (_ : ∀ i, f i < 2 ^ 64) (j : Nat) (_ : j < n), (kLanes n (pack n f))[j]? = some (f j)
  | 0, _, _, _, h => absurd h (Nat.not_lt_zero _)
  | n + 1, f, hf, j, h => by
      have e : kLanes (n + 1) (pack (n + 1) f) = f 0 :: kLanes n (pack n fun i => f (i + 1)) := by
        show force (pack (n + 1) f % 18446744073709551616) (fun v => force (pack (n + 1) f / 18446744073709551616) fun Y => v :: kLanes n Y) = _
        rw [force_eq, force_eq]
        have h0 := hf 0
        have e2 : pack (n + 1) f = f 0 + 18446744073709551616 * pack n fun i => f (i + 1) := rfl
        rw [e2]
        congr 1
        · omega
        · congr 1; omega
      rw [e]
      match j, h with
      | 0, _ => rfl
      | j + 1, h => rw [List.getElem?_cons_succ, kLanes_eq n (fun i => f (i + 1)) (fun i => hf (i + 1)) j (by omega)]
theorem kNotin_ne {x : Nat} : ∀ {l : List Nat} (_ : kNotin x l = true) (j y : Nat) (_ : l[j]? = some y), x ≠ y
  | [], _, j, y, h => by simp at h
  | z :: l, h, j, y, hj => by
      have e : kNotin x (z :: l) = Bool.rec (kNotin x l) false (Nat.beq x z) := rfl
      rw [e] at h
      cases hb : Nat.beq x z
      · rw [hb] at h
        match j, hj with
        | 0, hj =>
          obtain rfl := Option.some.inj hj
          exact Nat.ne_of_beq_eq_false hb
        | j + 1, hj => exact kNotin_ne h j y hj
      · rw [hb] at h; cases h
theorem kApart_ne : ∀ {l : List Nat} (_ : kApart l = true) (i j x y : Nat) (_ : i < j) (_ : l[i]? = some x) (_ : l[j]? = some y), x ≠ y
  | [], _, i, j, x, y, _, h, _ => by simp at h
  | z :: l, h, i, j, x, y, hij, hi, hj => by
      have e : kApart (z :: l) = Bool.rec false (kApart l) (kNotin z l) := rfl
      rw [e] at h
      cases hb : kNotin z l
      · rw [hb] at h; cases h
      · rw [hb] at h
        match i, j, hij, hi, hj with
        | 0, j + 1, _, hi, hj =>
          obtain rfl := Option.some.inj hi
          exact kNotin_ne hb j y hj
        | i + 1, j + 1, hij, hi, hj => exact kApart_ne h i j x y (by omega) hi hj
theorem kAll_256 : kAll 256 = true := by decide +kernel
theorem apart_lt {i j : Nat} (hij : i < j) (hj : j < 256) : (key (BitVec.ofNat 32 i)).a ≠ (key (BitVec.ofNat 32 j)).a := by
  intro he
  have h : kAll 256 = true := kAll_256
  generalize hL : (256 : Nat) = L at h hj
  unfold kAll at h
  rw [force_eq, force_eq, force_eq, kOnes_eq, kRamp_eq, kMask_eq] at h
  have hq := kKey_is (L := L) rfl (Nat.le_of_eq hL.symm)
  generalize kKey (mask L) (ones L) (pack L fun i => i) kKs (kBegin (ones L)) = q at h hq
  cases q with
  | mk a b c d e f g z =>
    have ha : a = pack L fun i => (key (BitVec.ofNat 32 i)).a.toNat := hq.a
    replace h : kApart (kLanes L a) = true := by
      have h1 : force a (fun a => kApart (kLanes L a)) = true := h
      rwa [force_eq] at h1
    rw [ha] at h
    exact kApart_ne h i j _ _ hij (kLanes_eq L _ (fun _ => v64 _) i (by omega)) (kLanes_eq L _ (fun _ => v64 _) j hj) (congrArg BitVec.toNat he)
/-- Two seeds' keys differ. -/
theorem keys_apart {i j : Nat} (hi : i < 256) (hj : j < 256) (h : i ≠ j) : key (BitVec.ofNat 32 i) ≠ key (BitVec.ofNat 32 j) := by
  intro he
  rcases Nat.lt_or_gt_of_ne h with h | h
  · exact apart_lt h hj (by rw [he])
  · exact apart_lt h hi (by rw [he])
end PlainSha
end Go.Proofs.YtmghpoagpiljhaaDoor
