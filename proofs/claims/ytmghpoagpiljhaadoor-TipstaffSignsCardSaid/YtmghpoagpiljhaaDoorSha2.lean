/- Plain law of digest: sums of texts of bytes; secrets, leaves and keys of seeds: no program in sight. -/
import Derived.Test.YtmghpoagpiljhaaDoorSha
set_option linter.unusedSimpArgs false
set_option linter.unusedVariables false
namespace Go.Proofs.YtmghpoagpiljhaaDoor
namespace PlainSha
abbrev B := BitVec 8
/-- Four bytes as a word, as they come in. -/
def into (w : V) (c : B) : V := (w <<< 8) ||| c.setWidth 32
def wordAt (l : List B) (j : Nat) : V := into (into (into (into 0 (l.getD (4 * j) 0)) (l.getD (4 * j + 1) 0)) (l.getD (4 * j + 2) 0)) (l.getD (4 * j + 3) 0)
def zeros (n : Nat) : Nat := (119 - n % 64) % 64
def len8 (n : Nat) : List B := [BitVec.ofNat 8 (n >>> 56), BitVec.ofNat 8 (n >>> 48), BitVec.ofNat 8 (n >>> 40), BitVec.ofNat 8 (n >>> 32), BitVec.ofNat 8 (n >>> 24), BitVec.ofNat 8 (n >>> 16), BitVec.ofNat 8 (n >>> 8), BitVec.ofNat 8 n]
def padded (l : List B) : List B := l ++ [128#8] ++ List.replicate (zeros l.length) 0#8 ++ len8 (8 * l.length)
def blocks : Nat → List B → St → St
  | 0, _, s => s
  | n + 1, l, s => blocks n (l.drop 64) (comp s (wordAt l))
def sum (l : List B) : St := blocks ((padded l).length / 64) (padded l) begin
def four (v : V) : List B := [(v >>> 24).setWidth 8, (v >>> 16).setWidth 8, (v >>> 8).setWidth 8, v.setWidth 8]
def out (s : St) : List B := four s.a ++ four s.b ++ four s.c ++ four s.d ++ four s.e ++ four s.f ++ four s.g ++ four s.h
def joined : List (List B) → List B
  | [] => []
  | p :: ps => len8 p.length ++ p ++ joined ps
theorem out_length (s : St) : (out s).length = 32 := rfl
theorem padded_length (l : List B) : (padded l).length % 64 = 0 := by
  unfold padded zeros
  simp only [List.length_append, List.length_replicate, List.length_cons, List.length_nil, len8]
  omega
theorem blocks_next (n : Nat) (l : List B) (s : St) : blocks (n + 1) l s = blocks n (l.drop 64) (comp s (wordAt l)) := by
  conv => lhs; unfold blocks
theorem blocks_zero (l : List B) (s : St) : blocks 0 l s = s := rfl
theorem blocks_one (l : List B) (s : St) : blocks 1 l s = comp s (wordAt l) := by rw [blocks_next, blocks_zero]
theorem blocks_app : ∀ (n m : Nat) (l : List B) (s : St), blocks (n + m) l s = blocks m (l.drop (64 * n)) (blocks n l s)
  | 0, m, l, s => by rw [Nat.zero_add, Nat.mul_zero, List.drop_zero, blocks_zero]
  | n + 1, m, l, s => by
      rw [show n + 1 + m = (n + m) + 1 by omega, blocks_next, blocks_next, blocks_app n m, List.drop_drop, show 64 + 64 * n = 64 * (n + 1) by omega]
/-- A block hangs on its sixteen words alone. -/
theorem win_congr {m k : Nat → V} (h : ∀ j, j < 16 → m j = k j) : ∀ t i, i < 16 → win m t i = win k t i
  | 0, i, hi => h i hi
  | t + 1, i, hi => by
      have ih := win_congr h t
      show (if i < 15 then win m t (i + 1) else new (win m t)) = if i < 15 then win k t (i + 1) else new (win k t)
      by_cases h15 : i < 15
      · rw [if_pos h15, if_pos h15, ih _ (by omega)]
      · rw [if_neg h15, if_neg h15]
        unfold new
        rw [ih 14 (by omega), ih 9 (by omega), ih 1 (by omega), ih 0 (by omega)]
theorem rounds_congr {m k : Nat → V} (h : ∀ j, j < 16 → m j = k j) : ∀ (l : List V) (t : Nat) (s : St), rounds m l t s = rounds k l t s
  | [], _, _ => rfl
  | c :: l, t, s => by
      rw [rounds_next, rounds_next, rounds_congr h l, show wd m t = wd k t from win_congr h t 0 (by omega)]
theorem comp_congr {m k : Nat → V} (s : St) (h : ∀ j, j < 16 → m j = k j) : comp s m = comp s k := by
  unfold comp
  rw [rounds_congr h]
theorem into_lsb (w : V) (c : B) (t : Nat) (ht : t < 32) : (into w c).getLsbD t = if t < 8 then c.getLsbD t else w.getLsbD (t - 8) := by
  unfold into
  rw [BitVec.getLsbD_or, BitVec.getLsbD_shiftLeft, BitVec.getLsbD_setWidth, decide_eq_true ht]
  by_cases h : t < 8
  · simp [h]
  · rw [BitVec.getLsbD_of_ge c t (by omega)]
    simp [h]
theorem into_four (v : V) : into (into (into (into 0 ((v >>> 24).setWidth 8)) ((v >>> 16).setWidth 8)) ((v >>> 8).setWidth 8)) (v.setWidth 8) = v := by
  apply BitVec.eq_of_getLsbD_eq
  intro t ht
  rw [into_lsb _ _ _ ht]
  by_cases h : t < 8
  · rw [if_pos h, BitVec.getLsbD_setWidth]; simp [h]
  · rw [if_neg h, into_lsb _ _ _ (by omega)]
    by_cases h2 : t - 8 < 8
    · rw [if_pos h2, BitVec.getLsbD_setWidth, BitVec.getLsbD_ushiftRight, show 8 + (t - 8) = t by omega]; simp [h2]
    · rw [if_neg h2, into_lsb _ _ _ (by omega)]
      by_cases h3 : t - 8 - 8 < 8
      · rw [if_pos h3, BitVec.getLsbD_setWidth, BitVec.getLsbD_ushiftRight, show 16 + (t - 8 - 8) = t by omega]; simp [h3]
      · rw [if_neg h3, into_lsb _ _ _ (by omega), if_pos (show t - 8 - 8 - 8 < 8 by omega), BitVec.getLsbD_setWidth, BitVec.getLsbD_ushiftRight, show 24 + (t - 8 - 8 - 8) = t by omega]; simp; omega
theorem into_toNat (w : V) (c : B) (h : w.toNat < 16777216) : (into w c).toNat = 256 * w.toNat + c.toNat := by
  unfold into
  have hc := c.isLt
  rw [BitVec.toNat_or, BitVec.toNat_shiftLeft, BitVec.toNat_setWidth, Nat.shiftLeft_eq, Nat.mod_eq_of_lt (show w.toNat * 2 ^ 8 < 2 ^ 32 by omega), Nat.mod_eq_of_lt (show c.toNat < 2 ^ 32 by omega), Nat.mul_comm]
  exact (Nat.two_pow_add_eq_or_of_lt hc _).symm
theorem into4_toNat (a b c d : B) : (into (into (into (into 0 a) b) c) d).toNat = 16777216 * a.toNat + 65536 * b.toNat + 256 * c.toNat + d.toNat := by
  have ha := a.isLt
  have hb := b.isLt
  have hc := c.isLt
  have e1 : (into 0 a).toNat = a.toNat := by rw [into_toNat _ _ (by decide)]; simp
  have e2 : (into (into 0 a) b).toNat = 256 * a.toNat + b.toNat := by rw [into_toNat _ _ (by omega), e1]
  have e3 : (into (into (into 0 a) b) c).toNat = 65536 * a.toNat + 256 * b.toNat + c.toNat := by rw [into_toNat _ _ (by omega), e2]; omega
  rw [into_toNat _ _ (by omega), e3]
  omega
theorem word_four (v : V) (l : List B) : wordAt (four v ++ l) 0 = v := into_four v
theorem word_drop (k : Nat) (l r : List B) (h : l.length = 4 * k) (j : Nat) : wordAt (l ++ r) (k + j) = wordAt r j := by
  have e : ∀ i, (l ++ r).getD (4 * (k + j) + i) 0 = r.getD (4 * j + i) 0 := fun i => by
    rw [List.getD_eq_getElem?_getD, List.getD_eq_getElem?_getD, List.getElem?_append_right (by omega), h, show 4 * (k + j) + i - 4 * k = 4 * j + i by omega]
  unfold wordAt
  rw [e 1, e 2, e 3]
  have e0 := e 0
  rw [Nat.add_zero, Nat.add_zero] at e0
  rw [e0]
/-- The words of a sum's bytes. -/
theorem word_out (s : St) (l : List B) : wordAt (out s ++ l) 0 = s.a ∧ wordAt (out s ++ l) 1 = s.b ∧ wordAt (out s ++ l) 2 = s.c ∧ wordAt (out s ++ l) 3 = s.d ∧ wordAt (out s ++ l) 4 = s.e ∧ wordAt (out s ++ l) 5 = s.f ∧ wordAt (out s ++ l) 6 = s.g ∧ wordAt (out s ++ l) 7 = s.h :=
  ⟨into_four _, into_four _, into_four _, into_four _, into_four _, into_four _, into_four _, into_four _⟩
theorem word_out2 (s v : St) (l : List B) (j : Nat) (hj : j < 16) : wordAt (out s ++ (out v ++ l)) j = twoW s v j := by
  obtain ⟨h0, h1, h2, h3, h4, h5, h6, h7⟩ := word_out s (out v ++ l)
  obtain ⟨k0, k1, k2, k3, k4, k5, k6, k7⟩ := word_out v l
  have e : ∀ i, wordAt (out s ++ (out v ++ l)) (8 + i) = wordAt (out v ++ l) i := fun i => word_drop 8 (out s) _ rfl i
  match j, hj with
  | 0, _ => exact h0
  | 1, _ => exact h1
  | 2, _ => exact h2
  | 3, _ => exact h3
  | 4, _ => exact h4
  | 5, _ => exact h5
  | 6, _ => exact h6
  | 7, _ => exact h7
  | 8, _ => exact (e 0).trans k0
  | 9, _ => exact (e 1).trans k1
  | 10, _ => exact (e 2).trans k2
  | 11, _ => exact (e 3).trans k3
  | 12, _ => exact (e 4).trans k4
  | 13, _ => exact (e 5).trans k5
  | 14, _ => exact (e 6).trans k6
  | 15, _ => exact (e 7).trans k7
  | n + 16, h => exact absurd h (by omega)
def tail32 : List B := [128#8, 0, 0, 0, 0, 0, 0, 0, 0, 0, 0, 0, 0, 0, 0, 0, 0, 0, 0, 0, 0, 0, 0, 0, 0, 0, 0, 0, 0, 0, 1, 0]
theorem tail32_words : wordAt tail32 0 = 2147483648 ∧ wordAt tail32 1 = 0 ∧ wordAt tail32 2 = 0 ∧ wordAt tail32 3 = 0 ∧ wordAt tail32 4 = 0 ∧ wordAt tail32 5 = 0 ∧ wordAt tail32 6 = 0 ∧ wordAt tail32 7 = 256 := by decide
theorem sum_out (s : St) : sum (out s) = comp begin (leafW s) := by
  have hp : padded (out s) = out s ++ tail32 := by
    unfold padded
    rw [out_length, List.append_assoc, List.append_assoc]
    rfl
  unfold sum
  rw [hp]
  have hl : (out s ++ tail32).length = 64 := by rw [List.length_append, out_length]; rfl
  rw [hl, show 64 / 64 = 1 from rfl, blocks_one]
  refine comp_congr _ fun j hj => ?_
  obtain ⟨h0, h1, h2, h3, h4, h5, h6, h7⟩ := word_out s tail32
  obtain ⟨k0, k1, k2, k3, k4, k5, k6, k7⟩ := tail32_words
  have e : ∀ i, wordAt (out s ++ tail32) (8 + i) = wordAt tail32 i := fun i => word_drop 8 (out s) _ rfl i
  match j, hj with
  | 0, _ => exact h0
  | 1, _ => exact h1
  | 2, _ => exact h2
  | 3, _ => exact h3
  | 4, _ => exact h4
  | 5, _ => exact h5
  | 6, _ => exact h6
  | 7, _ => exact h7
  | 8, _ => exact (e 0).trans k0
  | 9, _ => exact (e 1).trans k1
  | 10, _ => exact (e 2).trans k2
  | 11, _ => exact (e 3).trans k3
  | 12, _ => exact (e 4).trans k4
  | 13, _ => exact (e 5).trans k5
  | 14, _ => exact (e 6).trans k6
  | 15, _ => exact (e 7).trans k7
  | n + 16, h => exact absurd h (by omega)
/-- A secret's text. -/
def secret (s : B) (i b : Nat) : List B := out (sum (joined [[s], [BitVec.ofNat 8 i, BitVec.ofNat 8 b]]))
theorem sum_secret (s : B) (i b : Nat) (hi : i < 256) (hb : b < 256) : sum (joined [[s], [BitVec.ofNat 8 i, BitVec.ofNat 8 b]]) = sec (BitVec.ofNat 32 s.toNat) i b := by
  have hp : padded (joined [[s], [BitVec.ofNat 8 i, BitVec.ofNat 8 b]]) = [0#8, 0#8, 0#8, 0#8, 0#8, 0#8, 0#8, 1#8, s, 0#8, 0#8, 0#8, 0#8, 0#8, 0#8, 0#8, 2#8, BitVec.ofNat 8 i, BitVec.ofNat 8 b, 128#8] ++ List.replicate 36 0#8 ++ [0#8, 0#8, 0#8, 0#8, 0#8, 0#8, 0#8, 152#8] := by
    have hj : joined [[s], [BitVec.ofNat 8 i, BitVec.ofNat 8 b]] = [0#8, 0#8, 0#8, 0#8, 0#8, 0#8, 0#8, 1#8, s, 0#8, 0#8, 0#8, 0#8, 0#8, 0#8, 0#8, 2#8, BitVec.ofNat 8 i, BitVec.ofNat 8 b] := by
      unfold joined joined joined
      rw [show [s].length = 1 from rfl, show [BitVec.ofNat 8 i, BitVec.ofNat 8 b].length = 2 from rfl]
      rfl
    rw [hj]
    unfold padded
    rw [show ([0#8, 0#8, 0#8, 0#8, 0#8, 0#8, 0#8, 1#8, s, 0#8, 0#8, 0#8, 0#8, 0#8, 0#8, 0#8, 2#8, BitVec.ofNat 8 i, BitVec.ofNat 8 b]).length = 19 from rfl, show zeros 19 = 36 from rfl, show len8 (8 * 19) = [0#8, 0#8, 0#8, 0#8, 0#8, 0#8, 0#8, 152#8] by decide]
    rfl
  unfold sum
  rw [hp]
  have hl : ([0#8, 0#8, 0#8, 0#8, 0#8, 0#8, 0#8, 1#8, s, 0#8, 0#8, 0#8, 0#8, 0#8, 0#8, 0#8, 2#8, BitVec.ofNat 8 i, BitVec.ofNat 8 b, 128#8] ++ List.replicate 36 0#8 ++ [0#8, 0#8, 0#8, 0#8, 0#8, 0#8, 0#8, 152#8]).length = 64 := rfl
  rw [hl, show 64 / 64 = 1 from rfl, blocks_one]
  refine comp_congr _ fun j hj => ?_
  match j, hj with
  | 0, _ => exact (show into (into (into (into 0 0#8) 0#8) 0#8) 0#8 = 0 by decide)
  | 1, _ => exact (show into (into (into (into 0 0#8) 0#8) 0#8) 1#8 = 1 by decide)
  | 2, _ =>
    show into (into (into (into 0 s) 0#8) 0#8) 0#8 = (BitVec.ofNat 32 s.toNat) <<< 24
    apply BitVec.eq_of_toNat_eq
    have := s.isLt
    rw [into4_toNat, BitVec.toNat_shiftLeft, BitVec.toNat_ofNat, Nat.shiftLeft_eq, BitVec.toNat_ofNat]
    omega
  | 3, _ => exact (show into (into (into (into 0 0#8) 0#8) 0#8) 0#8 = 0 by decide)
  | 4, _ =>
    show into (into (into (into 0 2#8) (BitVec.ofNat 8 i)) (BitVec.ofNat 8 b)) 128#8 = BitVec.ofNat 32 (33554560 + 65536 * i + 256 * b)
    apply BitVec.eq_of_toNat_eq
    rw [into4_toNat]
    simp only [BitVec.toNat_ofNat]
    omega
  | 5, _ => exact (show into (into (into (into 0 0#8) 0#8) 0#8) 0#8 = 0 by decide)
  | 6, _ => exact (show into (into (into (into 0 0#8) 0#8) 0#8) 0#8 = 0 by decide)
  | 7, _ => exact (show into (into (into (into 0 0#8) 0#8) 0#8) 0#8 = 0 by decide)
  | 8, _ => exact (show into (into (into (into 0 0#8) 0#8) 0#8) 0#8 = 0 by decide)
  | 9, _ => exact (show into (into (into (into 0 0#8) 0#8) 0#8) 0#8 = 0 by decide)
  | 10, _ => exact (show into (into (into (into 0 0#8) 0#8) 0#8) 0#8 = 0 by decide)
  | 11, _ => exact (show into (into (into (into 0 0#8) 0#8) 0#8) 0#8 = 0 by decide)
  | 12, _ => exact (show into (into (into (into 0 0#8) 0#8) 0#8) 0#8 = 0 by decide)
  | 13, _ => exact (show into (into (into (into 0 0#8) 0#8) 0#8) 0#8 = 0 by decide)
  | 14, _ => exact (show into (into (into (into 0 0#8) 0#8) 0#8) 0#8 = 0 by decide)
  | 15, _ => exact (show into (into (into (into 0 0#8) 0#8) 0#8) 152#8 = 152 by decide)
  | n + 16, h => exact absurd h (by omega)
/-- A leaf's text. -/
def leafT (l : List B) : List B := out (sum l)
theorem leaf_is (s : B) (i b : Nat) (hi : i < 256) (hb : b < 256) : leafT (secret s i b) = out (leaf (BitVec.ofNat 32 s.toNat) i b) := by
  unfold leafT secret
  rw [sum_secret s i b hi hb, sum_out]
  rfl
/-- All leaves of a seed, so many pairs. -/
def allTo (s : B) : Nat → List B
  | 0 => []
  | i + 1 => allTo s i ++ leafT (secret s i 0) ++ leafT (secret s i 1)
def keyT (s : B) : List B := out (sum (allTo s 32))
theorem allTo_length (s : B) : ∀ n, (allTo s n).length = 64 * n
  | 0 => rfl
  | n + 1 => by
      show (allTo s n ++ leafT (secret s n 0) ++ leafT (secret s n 1)).length = _
      rw [List.length_append, List.length_append, allTo_length s n, show (leafT (secret s n 0)).length = 32 from rfl, show (leafT (secret s n 1)).length = 32 from rfl]
      omega
theorem blocks_all (s : B) : ∀ (n : Nat) (r : List B), n ≤ 256 → blocks n (allTo s n ++ r) begin = keyTo (BitVec.ofNat 32 s.toNat) n
  | 0, _, _ => rfl
  | n + 1, r, h => by
      have ih := blocks_all s n (leafT (secret s n 0) ++ (leafT (secret s n 1) ++ r)) (by omega)
      rw [blocks_app n 1]
      have e : allTo s (n + 1) ++ r = allTo s n ++ (leafT (secret s n 0) ++ (leafT (secret s n 1) ++ r)) := by
        show allTo s n ++ leafT (secret s n 0) ++ leafT (secret s n 1) ++ r = _
        rw [List.append_assoc, List.append_assoc]
      rw [e, ih, ← allTo_length s n, List.drop_left, leaf_is s n 0 (by omega) (by omega), leaf_is s n 1 (by omega) (by omega)]
      exact comp_congr _ fun j hj => word_out2 _ _ _ j hj
def tail64 : List B := [128#8] ++ List.replicate 55 0#8 ++ [0, 0, 0, 0, 0, 0, 64#8, 0]
theorem tail64_words (j : Nat) (h : j < 16) : wordAt tail64 j = lastW j :=
  match j, h with
  | 0, _ => (show wordAt tail64 0 = 2147483648 by decide)
  | 1, _ => (show wordAt tail64 1 = 0 by decide)
  | 2, _ => (show wordAt tail64 2 = 0 by decide)
  | 3, _ => (show wordAt tail64 3 = 0 by decide)
  | 4, _ => (show wordAt tail64 4 = 0 by decide)
  | 5, _ => (show wordAt tail64 5 = 0 by decide)
  | 6, _ => (show wordAt tail64 6 = 0 by decide)
  | 7, _ => (show wordAt tail64 7 = 0 by decide)
  | 8, _ => (show wordAt tail64 8 = 0 by decide)
  | 9, _ => (show wordAt tail64 9 = 0 by decide)
  | 10, _ => (show wordAt tail64 10 = 0 by decide)
  | 11, _ => (show wordAt tail64 11 = 0 by decide)
  | 12, _ => (show wordAt tail64 12 = 0 by decide)
  | 13, _ => (show wordAt tail64 13 = 0 by decide)
  | 14, _ => (show wordAt tail64 14 = 0 by decide)
  | 15, _ => (show wordAt tail64 15 = 16384 by decide)
  | n + 16, h => absurd h (by omega)
theorem key_is (s : B) : keyT s = out (key (BitVec.ofNat 32 s.toNat)) := by
  have e : padded (allTo s 32) = allTo s 32 ++ tail64 := by
    unfold padded
    rw [allTo_length, List.append_assoc, List.append_assoc, show zeros (64 * 32) = 55 from rfl, show len8 (8 * (64 * 32)) = [0, 0, 0, 0, 0, 0, 64#8, 0] by decide]
    rfl
  have hl : (allTo s 32 ++ tail64).length = 2112 := by rw [List.length_append, allTo_length]; rfl
  unfold keyT sum key
  rw [e, hl, show 2112 / 64 = 32 + 1 from rfl, blocks_app 32 1, blocks_all s 32 _ (by omega), ← allTo_length s 32, List.drop_left, blocks_one]
  exact congrArg out (comp_congr _ fun j hj => tail64_words j hj)
theorem out_inj {s v : St} (h : out s = out v) : s = v := by
  obtain ⟨h0, h1, h2, h3, h4, h5, h6, h7⟩ := word_out s []
  obtain ⟨k0, k1, k2, k3, k4, k5, k6, k7⟩ := word_out v []
  rw [h] at h0 h1 h2 h3 h4 h5 h6 h7
  cases s; cases v
  simp only [St.mk.injEq]
  exact ⟨h0.symm.trans k0, h1.symm.trans k1, h2.symm.trans k2, h3.symm.trans k3, h4.symm.trans k4, h5.symm.trans k5, h6.symm.trans k6, h7.symm.trans k7⟩
/-- Two seeds' keys have other bytes. -/
theorem keyT_apart {s v : B} (h : s ≠ v) : keyT s ≠ keyT v := by
  rw [key_is, key_is]
  intro he
  exact keys_apart s.isLt v.isLt (fun e => h (BitVec.eq_of_toNat_eq e)) (out_inj he)
end PlainSha
end Go.Proofs.YtmghpoagpiljhaaDoor
