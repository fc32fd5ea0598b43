/- Plain law of the reference's Eval: over BitVec 64: no program in sight. -/
import Derived.Test.YtmghpoagpiljhaaDoorScalar
set_option linter.unusedSimpArgs false
set_option linter.unusedVariables false
namespace Go.Proofs.YtmghpoagpiljhaaDoor
namespace PlainEval
open PlainTnum (W ext64)
open PlainScalar

/-- The bits of a sign, put in from above, one after another. -/
def fill (width : Nat) (z : W) : Nat → W
  | 0 => z
  | i + 1 => fill width z i ||| 1#64 <<< (width - 1 - i)
def rev (op : Int) (width : Nat) (x y : W) : W :=
  if op = 0 then x + y else if op = 1 then x - y else if op = 2 then x * y else if op = 3 then (if y = 0#64 then 0#64 else x / y) else
  if op = 4 then x ||| y else if op = 5 then x &&& y else if op = 6 then x <<< (y.toNat % width) else if op = 7 then x >>> (y.toNat % width) else
  if op = 8 then 0#64 - x else if op = 9 then (if y = 0#64 then x else x % y) else if op = 10 then x ^^^ y else if op = 11 then y else
  if op = 12 then (if x.getLsbD (width - 1) then fill width (x >>> (y.toNat % width)) (y.toNat % width) else x >>> (y.toNat % width)) else 0#64
def reval (op : Int) (wide : Bool) (x y : W) : W :=
  if wide then rev op 64 x y else low4 (rev op 32 (low4 x) (low4 y))
theorem fill_bit (width : Nat) (hw : width ≤ 64) (z : W) : ∀ (k : Nat), k ≤ width → ∀ i, i < 64 → (fill width z k).getLsbD i = (z.getLsbD i || (decide (width - k ≤ i) && decide (i < width)))
  | 0, _, i, _ => by
    have : (decide (width - 0 ≤ i) && decide (i < width)) = false := by
      by_cases h : i < width
      · have : ¬ width - 0 ≤ i := by omega
        simp [this]
      · simp [h]
    rw [this, Bool.or_false]; rfl
  | k + 1, hk, i, hi => by
    show (fill width z k ||| 1#64 <<< (width - 1 - k)).getLsbD i = _
    rw [BitVec.getLsbD_or, fill_bit width hw z k (by omega) i hi, BitVec.getLsbD_shiftLeft]
    by_cases e : i = width - 1 - k
    · subst e
      have h1 : width - (k + 1) ≤ width - 1 - k := by omega
      have h2 : width - 1 - k < width := by omega
      simp [hi, h1, h2]
    · have h3 : decide (width - k ≤ i) = decide (width - (k + 1) ≤ i) ∨ ¬ i < width := by
        by_cases hh : i < width
        · left
          by_cases h : width - k ≤ i
          · have : width - (k + 1) ≤ i := by omega
            simp [h, this]
          · have : ¬ width - (k + 1) ≤ i := by omega
            simp [h, this]
        · exact .inr hh
      have h4 : (decide (i < 64) && !decide (i < width - 1 - k) && (1#64).getLsbD (i - (width - 1 - k))) = false := by
        by_cases h : i < width - 1 - k
        · simp [h]
        · have : (1#64).getLsbD (i - (width - 1 - k)) = false := by
            have : i - (width - 1 - k) ≠ 0 := by omega
            rw [BitVec.getLsbD_one]
            simp [this]
          simp [this]
      rw [h4, Bool.or_false]
      rcases h3 with h3 | h3
      · rw [h3]
      · simp [h3]
theorem ars_64 (x : W) (k : Nat) (hk : k < 64) : (if x.getLsbD (64 - 1) then fill 64 (x >>> k) k else x >>> k) = x.sshiftRight k := by
  apply ext64
  intro i hi
  rw [BitVec.getLsbD_sshiftRight]
  have hm : x.msb = x.getLsbD 63 := by rw [BitVec.msb_eq_getLsbD_last]
  split
  · rename_i h
    rw [fill_bit 64 (by omega) _ k (by omega) i hi, BitVec.getLsbD_ushiftRight]
    by_cases c : k + i < 64
    · have : ¬ 64 - k ≤ i := by omega
      have h6 : ¬ 64 ≤ i := by omega
      simp [c, this, h6]
    · have h1 : 64 - k ≤ i := by omega
      have h6 : ¬ 64 ≤ i := by omega
      have h5 : x.getLsbD (k + i) = false := BitVec.getLsbD_of_ge x (k + i) (by omega)
      simp only [h1, hi, h6, c, h5, hm]
      simpa using h
  · rename_i h
    rw [BitVec.getLsbD_ushiftRight]
    by_cases c : k + i < 64
    · have h6 : ¬ 64 ≤ i := by omega
      simp [c, h6]
    · have h6 : ¬ 64 ≤ i := by omega
      have h5 : x.getLsbD (k + i) = false := BitVec.getLsbD_of_ge x (k + i) (by omega)
      simp only [h6, c, h5, hm]
      simpa using h
theorem low4_bit (x : W) (i : Nat) (hi : i < 64) : (low4 x).getLsbD i = (x.getLsbD i && decide (i < 32)) := by
  unfold low4
  rw [BitVec.getLsbD_and, show (4294967295#64 : W) = BitVec.ofNat 64 (2 ^ 32 - 1) from rfl, PlainTnum.keep_bit 32 i hi]
theorem ars_32 (x : W) (k : Nat) (hk : k < 32) : low4 (if (low4 x).getLsbD (32 - 1) then fill 32 (low4 x >>> k) k else low4 x >>> k) = low4 (sar32 (low4 x) k) := by
  apply ext64
  intro i hi
  rw [low4_bit _ i hi, low4_bit _ i hi]
  by_cases hi32 : i < 32
  · simp only [hi32, decide_true, Bool.and_true]
    have e31 : (low4 x).getLsbD 31 = x.getLsbD 31 := by rw [low4_bit x 31 (by omega)]; simp
    have hs : (sar32 (low4 x) k).getLsbD i = if k + i < 32 then x.getLsbD (k + i) else x.getLsbD 31 := by
      unfold sar32
      rw [BitVec.getLsbD_sshiftRight]
      have h6 : ¬ 64 ≤ i := by omega
      have h7 : k + i < 64 := by omega
      simp only [h6, h7, decide_false, Bool.not_false, Bool.true_and, if_true]
      rw [BitVec.getLsbD_signExtend]
      simp only [h7, decide_true, Bool.true_and]
      by_cases c : k + i < 32
      · simp only [c, if_true]
        rw [BitVec.getLsbD_setWidth, low4_bit x (k + i) h7]
        simp [c]
      · simp only [c, if_false]
        rw [BitVec.msb_eq_getLsbD_last, BitVec.getLsbD_setWidth]
        simpa using e31
    rw [hs]
    split
    · rename_i h
      have h' : x.getLsbD 31 = true := by rw [← e31]; exact h
      rw [fill_bit 32 (by omega) _ k (by omega) i hi, BitVec.getLsbD_ushiftRight]
      by_cases c : k + i < 32
      · have : ¬ 32 - k ≤ i := by omega
        rw [low4_bit x (k + i) (by omega)]
        simp [c, this]
      · have h1 : 32 - k ≤ i := by omega
        simp [c, h1, hi32, h']
    · rename_i h
      have h' : x.getLsbD 31 = false := by rw [← e31]; simpa using h
      rw [BitVec.getLsbD_ushiftRight, low4_bit x (k + i) (by omega)]
      by_cases c : k + i < 32
      · simp only [c, if_true, decide_true, Bool.and_true]
      · simp only [c, if_false, decide_false, Bool.and_false]; exact h'.symm
  · simp [hi32]
/-- The document's Eval is the program's. -/
theorem reval_eval (op : Int) (wide : Bool) (x y : W) : reval op wide x y = eval op wide x y := by
  have hsub : ∀ z : W, 0#64 - z = -z := fun z => by simp
  cases wide with
  | true =>
    unfold reval eval core
    simp only [if_true]
    by_cases h12 : op = 12
    · subst h12
      unfold rev shift
      simp only [show ¬ ((12 : Int) = 0) by decide, show ¬ ((12 : Int) = 1) by decide, show ¬ ((12 : Int) = 2) by decide, show ¬ ((12 : Int) = 3) by decide, show ¬ ((12 : Int) = 4) by decide, show ¬ ((12 : Int) = 5) by decide, show ¬ ((12 : Int) = 6) by decide, show ¬ ((12 : Int) = 7) by decide, show ¬ ((12 : Int) = 8) by decide, show ¬ ((12 : Int) = 9) by decide, show ¬ ((12 : Int) = 10) by decide, show ¬ ((12 : Int) = 11) by decide, if_false, if_true, or_true]
      exact ars_64 x _ (Nat.mod_lt _ (by decide))
    · by_cases h6 : op = 6
      · subst h6; rfl
      · by_cases h7 : op = 7
        · subst h7; rfl
        · rw [if_neg (by omega)]
          unfold rev plain
          simp only [h12, h6, h7, if_false, hsub]
          by_cases h0 : op = 0 <;> by_cases h1 : op = 1 <;> by_cases h2 : op = 2 <;> by_cases h3 : op = 3 <;> by_cases h4 : op = 4 <;> by_cases h5 : op = 5 <;> by_cases h8 : op = 8 <;> by_cases h9 : op = 9 <;> first | omega | simp [*]
  | false =>
    unfold reval eval core
    simp only [Bool.false_eq_true, if_false]
    by_cases h12 : op = 12
    · subst h12
      unfold rev shift
      simp only [show ¬ ((12 : Int) = 0) by decide, show ¬ ((12 : Int) = 1) by decide, show ¬ ((12 : Int) = 2) by decide, show ¬ ((12 : Int) = 3) by decide, show ¬ ((12 : Int) = 4) by decide, show ¬ ((12 : Int) = 5) by decide, show ¬ ((12 : Int) = 6) by decide, show ¬ ((12 : Int) = 7) by decide, show ¬ ((12 : Int) = 8) by decide, show ¬ ((12 : Int) = 9) by decide, show ¬ ((12 : Int) = 10) by decide, show ¬ ((12 : Int) = 11) by decide, if_false, if_true, or_true, Bool.false_eq_true]
      exact ars_32 x _ (Nat.mod_lt _ (by decide))
    · by_cases h6 : op = 6
      · subst h6; rfl
      · by_cases h7 : op = 7
        · subst h7; rfl
        · rw [if_neg (by omega)]
          unfold rev plain
          simp only [h12, h6, h7, if_false, hsub]
          by_cases h0 : op = 0 <;> by_cases h1 : op = 1 <;> by_cases h2 : op = 2 <;> by_cases h3 : op = 3 <;> by_cases h4 : op = 4 <;> by_cases h5 : op = 5 <;> by_cases h8 : op = 8 <;> by_cases h9 : op = 9 <;> first | omega | simp [*]
end PlainEval
end Go.Proofs.YtmghpoagpiljhaaDoor
