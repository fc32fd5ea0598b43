/- Plain law of branch: what a jump tells of numbers, over BitVec 64: no program in sight. -/
import Derived.Test.YtmghpoagpiljhaaDoorScalar
set_option linter.unusedSimpArgs false
set_option linter.unusedVariables false
namespace Go.Proofs.YtmghpoagpiljhaaDoor
namespace PlainBranch
open PlainTnum (W N)
open PlainScalar (Rng Has settle none_)

/-- The lower half as a number with a sign. -/
def s32 (x : W) : Int := (x.setWidth 32).toInt
def unsigned (op : Int) (x y : W) : Bool :=
  if op = 1 then x == y else if op = 2 then decide (y.toNat < x.toNat) else if op = 3 then decide (y.toNat ≤ x.toNat) else if op = 4 then (x &&& y) != 0#64 else
  if op = 5 then x != y else if op = 10 then decide (x.toNat < y.toNat) else if op = 11 then decide (x.toNat ≤ y.toNat) else false
def signedC (op : Int) (s t : Int) : Bool :=
  if op = 6 then decide (t < s) else if op = 7 then decide (t ≤ s) else if op = 12 then decide (s < t) else decide (s ≤ t)
def holds (op : Int) (long : Bool) (x y : W) : Bool :=
  if op = 6 ∨ op = 7 ∨ op = 12 ∨ op = 13 then (if long then signedC op x.toInt y.toInt else signedC op (s32 x) (s32 y))
  else if long then unsigned op x y else unsigned op (PlainScalar.low4 x) (PlainScalar.low4 y)
def opposite (op : Int) : Int :=
  if op = 1 then 5 else if op = 5 then 1 else if op = 2 then 11 else if op = 11 then 2 else if op = 10 then 3 else if op = 3 then 10 else
  if op = 6 then 13 else if op = 13 then 6 else if op = 12 then 7 else if op = 7 then 12 else 0
abbrev Pair := Rng × Rng
def zero : Pair := (none_, none_)
def settleP (p : Pair) : Pair × Bool := (((settle p.1).1, (settle p.2).1), (settle p.1).2 && (settle p.2).2)
def same (p : Pair) : Pair × Bool :=
  if (PlainTnum.meet p.1.b p.2.b).2 = true then
    settleP (⟨(PlainTnum.meet p.1.b p.2.b).1, PlainScalar.maxU p.1.lo p.2.lo, PlainScalar.minU p.1.hi p.2.hi, PlainScalar.maxS p.1.sl p.2.sl, PlainScalar.minS p.1.sh p.2.sh⟩,
      ⟨(PlainTnum.meet p.1.b p.2.b).1, PlainScalar.maxU p.1.lo p.2.lo, PlainScalar.minU p.1.hi p.2.hi, PlainScalar.maxS p.1.sl p.2.sl, PlainScalar.minS p.1.sh p.2.sh⟩)
  else (zero, false)
def without (a : Rng) (x : W) : Rng × Bool :=
  if a.lo = x then
    if x = BitVec.allOnes 64 then (none_, false) else
    if a.hi = x then
      if x = 0#64 then (none_, false) else
      if (x - 1#64).toNat < (x + 1#64).toNat then (none_, false) else ({ a with lo := x + 1#64, hi := x - 1#64 }, true)
    else if a.hi.toNat < (x + 1#64).toNat then (none_, false) else ({ a with lo := x + 1#64 }, true)
  else if a.hi = x then
    if x = 0#64 then (none_, false) else
    if (x - 1#64).toNat < a.lo.toNat then (none_, false) else ({ a with hi := x - 1#64 }, true)
  else if a.hi.toNat < a.lo.toNat then (none_, false) else (a, true)
def one (a : Rng) : Bool := a.lo == a.hi
/-- 'other', behind its first half. -/
def other2 (p : Pair) : Pair × Bool :=
  if one p.1 = true then (if (without p.2 p.1.lo).2 = true then settleP (p.1, (without p.2 p.1.lo).1) else (zero, false)) else settleP p
def other (p : Pair) : Pair × Bool :=
  if one p.2 = true then (if (without p.1 p.2.lo).2 = true then other2 ((without p.1 p.2.lo).1, p.2) else (zero, false)) else other2 p
def more (strictly : Bool) : W := if strictly then 1#64 else 0#64
def greater (p : Pair) (strictly : Bool) : Pair × Bool :=
  if strictly = true ∧ (p.2.lo = BitVec.allOnes 64 ∨ p.1.hi = 0#64) then (zero, false) else
  settleP ({ p.1 with lo := PlainScalar.maxU p.1.lo (p.2.lo + more strictly) }, { p.2 with hi := PlainScalar.minU p.2.hi (p.1.hi - more strictly) })
def sGreater (p : Pair) (strictly : Bool) : Pair × Bool :=
  if strictly = true ∧ (p.2.sl = PlainScalar.maxI ∨ p.1.sh = PlainScalar.minI) then (zero, false) else
  settleP ({ p.1 with sl := PlainScalar.maxS p.1.sl (p.2.sl + more strictly) }, { p.2 with sh := PlainScalar.minS p.2.sh (p.1.sh - more strictly) })
def swap (p : Pair) : Pair := (p.2, p.1)
def turned (p : Pair) (f : Pair → Bool → Pair × Bool) (strictly : Bool) : Pair × Bool := (swap (f (swap p) strictly).1, (f (swap p) strictly).2)
def whereF (op : Int) (p : Pair) : Pair × Bool :=
  if op = 1 then same p else if op = 5 then other p else if op = 2 ∨ op = 3 then greater p (op == 2) else if op = 10 ∨ op = 11 then turned p greater (op == 10) else
  if op = 6 ∨ op = 7 then sGreater p (op == 6) else if op = 12 ∨ op = 13 then turned p sGreater (op == 12) else settleP p
def noBits (p : Pair) : Pair × Bool :=
  if (PlainTnum.meet p.1.b ⟨0#64, ~~~p.2.b.v⟩).2 = true ∧ (PlainTnum.meet p.2.b ⟨0#64, ~~~p.1.b.v⟩).2 = true then
    settleP ({ p.1 with b := (PlainTnum.meet p.1.b ⟨0#64, ~~~p.2.b.v⟩).1 }, { p.2 with b := (PlainTnum.meet p.2.b ⟨0#64, ~~~p.1.b.v⟩).1 })
  else (zero, false)
def short (op : Int) (p : Pair) : Bool :=
  let most : Nat := if op = 6 ∨ op = 7 ∨ op = 12 ∨ op = 13 then 2147483647 else 4294967295
  decide (p.1.hi.toNat ≤ most) && decide (p.2.hi.toNat ≤ most)
def aloneP (p : Pair) : Bool := (p.1 == PlainScalar.const p.1.lo) && (p.2 == PlainScalar.const p.2.lo)
/-- 'refine', behind the settled bounds. -/
def refine2 (op : Int) (long : Bool) (q : Pair) (h : Bool) : Pair × Bool :=
  if aloneP q = true then (q, holds op long q.1.lo q.2.lo == h) else
  if long = false ∧ short op q = false then (q, true) else
  if op = 4 ∧ h = false then noBits q else if op = 4 then (q, true) else whereF (if h then op else opposite op) q
def refineP (op : Int) (long : Bool) (p : Pair) (h : Bool) : Pair × Bool :=
  if (settleP p).2 = true then refine2 op long (settleP p).1 h else (zero, false)
def refine (op : Int) (long : Bool) (a b : Rng) (h : Bool) : (Rng × Rng) × Bool :=
  if (refineP op long (a, b) h).2 = true then ((refineP op long (a, b) h).1, true) else (zero, false)

/-! ### within -/
theorem settle_within {a : Rng} (h : (settle a).2 = true) : PlainScalar.within (settle a).1 a = true := by
  obtain ⟨h1, h2, h3, h4, h5, _⟩ := PlainScalar.settle_in h
  unfold PlainScalar.within
  simp only [Bool.and_eq_true, decide_eq_true_eq]
  exact ⟨⟨⟨h1, h2⟩, h3, h4⟩, h5⟩
theorem settle_R {a : Rng} (h : (settle a).2 = true) : PlainTnum.R (settle a).1.b := by
  unfold settle at h ⊢
  split at h
  · simp at h
  · rename_i c1
    rw [if_neg c1]
    split at h
    · simp at h
    · rename_i c2
      rw [if_neg c2]
      split at h
      · simp at h
      · rename_i c3
        rw [if_neg c3]
        split at h
        · rename_i c4
          rw [if_pos c4]
          show PlainTnum.R (PlainTnum.meet _ _).1
          unfold PlainTnum.meet
          split
          · intro i hi; simp
          · exact PlainTnum.R_of _ _
        · simp at h
theorem within_trans {a b c : Rng} (h : PlainScalar.within a b = true) (h' : PlainScalar.within b c = true) : PlainScalar.within a c = true := by
  unfold PlainScalar.within at *
  simp only [Bool.and_eq_true, decide_eq_true_eq] at *
  obtain ⟨⟨⟨h1, h2⟩, h3, h4⟩, h5⟩ := h
  obtain ⟨⟨⟨k1, k2⟩, k3, k4⟩, k5⟩ := h'
  exact ⟨⟨⟨by omega, by omega⟩, by omega, by omega⟩, PlainTnum.within_trans h5 k5⟩
theorem within_mk {a b : Rng} (h1 : b.lo.toNat ≤ a.lo.toNat) (h2 : a.hi.toNat ≤ b.hi.toNat) (h3 : b.sl.toInt ≤ a.sl.toInt) (h4 : a.sh.toInt ≤ b.sh.toInt) (h5 : PlainTnum.within a.b b.b = true) : PlainScalar.within a b = true := by
  unfold PlainScalar.within
  simp only [Bool.and_eq_true, decide_eq_true_eq]
  exact ⟨⟨⟨h1, h2⟩, h3, h4⟩, h5⟩
/-- Both are right, and within. -/
structure In (r p : Pair) : Prop where
  l : PlainScalar.within r.1 p.1 = true
  r : PlainScalar.within r.2 p.2 = true
theorem In.trans {a b c : Pair} (h : In a b) (h' : In b c) : In a c := ⟨within_trans h.l h'.l, within_trans h.r h'.r⟩
def RR (p : Pair) : Prop := PlainTnum.R p.1.b ∧ PlainTnum.R p.2.b
theorem within_refl {a : Rng} (h : PlainTnum.R a.b) : PlainScalar.within a a = true := within_mk (Nat.le_refl _) (Nat.le_refl _) (Int.le_refl _) (Int.le_refl _) (PlainTnum.within_refl h)
theorem In.refl {p : Pair} (h : RR p) : In p p := ⟨within_refl h.1, within_refl h.2⟩
theorem settleP_in {p : Pair} (h : (settleP p).2 = true) : In (settleP p).1 p ∧ RR (settleP p).1 := by
  unfold settleP at h ⊢
  simp only [Bool.and_eq_true] at h
  exact ⟨⟨settle_within h.1, settle_within h.2⟩, settle_R h.1, settle_R h.2⟩
theorem settleP_of {p q : Pair} (h : (settleP p).2 = true) (hq : In p q) : In (settleP p).1 q := (settleP_in h).1.trans hq
theorem same_in {p : Pair} (hp : RR p) (h : (same p).2 = true) : In (same p).1 p := by
  unfold same at h ⊢
  split at h
  · rename_i c
    rw [if_pos c]
    apply settleP_of h
    have hm := PlainTnum.meet_within (m := (PlainTnum.meet p.1.b p.2.b).1) hp.1 hp.2 (by rw [← c])
    constructor
    · apply within_mk
      · show _ ≤ (PlainScalar.maxU _ _).toNat; rw [PlainScalar.maxU_nat]; omega
      · show (PlainScalar.minU _ _).toNat ≤ _; rw [PlainScalar.minU_nat]; omega
      · show _ ≤ (PlainScalar.maxS _ _).toInt; rw [PlainScalar.maxS_int]; omega
      · show (PlainScalar.minS _ _).toInt ≤ _; rw [PlainScalar.minS_int]; omega
      · exact hm.1
    · apply within_mk
      · show _ ≤ (PlainScalar.maxU _ _).toNat; rw [PlainScalar.maxU_nat]; omega
      · show (PlainScalar.minU _ _).toNat ≤ _; rw [PlainScalar.minU_nat]; omega
      · show _ ≤ (PlainScalar.maxS _ _).toInt; rw [PlainScalar.maxS_int]; omega
      · show (PlainScalar.minS _ _).toInt ≤ _; rw [PlainScalar.minS_int]; omega
      · exact hm.2
  · simp at h
theorem up_nat {x : W} (h : x ≠ BitVec.allOnes 64) : (x + 1#64).toNat = x.toNat + 1 := by
  have hl := PlainScalar.lt64 x
  have : x.toNat ≠ 18446744073709551615 := fun e => h (BitVec.eq_of_toNat_eq (by rw [e]; decide))
  rw [BitVec.toNat_add, show (1#64).toNat = 1 from rfl]
  omega
theorem down_nat {x : W} (h : x ≠ 0#64) : (x - 1#64).toNat = x.toNat - 1 := by
  have hl := PlainScalar.lt64 x
  have : x.toNat ≠ 0 := fun e => h (BitVec.eq_of_toNat_eq (by rw [e]; rfl))
  rw [BitVec.toNat_sub, show (1#64).toNat = 1 from rfl]
  omega
theorem without_in {a : Rng} {x : W} (hR : PlainTnum.R a.b) (h : (without a x).2 = true) : PlainScalar.within (without a x).1 a = true ∧ PlainTnum.R (without a x).1.b := by
  unfold without at h ⊢
  by_cases c1 : a.lo = x
  · rw [if_pos c1] at h ⊢
    by_cases c2 : x = BitVec.allOnes 64
    · rw [if_pos c2] at h; simp at h
    rw [if_neg c2] at h ⊢
    by_cases c3 : a.hi = x
    · rw [if_pos c3] at h ⊢
      by_cases c4 : x = 0#64
      · rw [if_pos c4] at h; simp at h
      rw [if_neg c4] at h ⊢
      by_cases c5 : (x - 1#64).toNat < (x + 1#64).toNat
      · rw [if_pos c5] at h; simp at h
      · rw [up_nat c2, down_nat c4] at c5; omega
    · rw [if_neg c3] at h ⊢
      by_cases c5 : a.hi.toNat < (x + 1#64).toNat
      · rw [if_pos c5] at h; simp at h
      · rw [if_neg c5]
        refine ⟨within_mk ?_ (Nat.le_refl _) (Int.le_refl _) (Int.le_refl _) (PlainTnum.within_refl hR), hR⟩
        show _ ≤ (x + 1#64).toNat
        rw [up_nat c2, c1]; omega
  · rw [if_neg c1] at h ⊢
    by_cases c3 : a.hi = x
    · rw [if_pos c3] at h ⊢
      by_cases c4 : x = 0#64
      · rw [if_pos c4] at h; simp at h
      rw [if_neg c4] at h ⊢
      by_cases c5 : (x - 1#64).toNat < a.lo.toNat
      · rw [if_pos c5] at h; simp at h
      · rw [if_neg c5]
        refine ⟨within_mk (Nat.le_refl _) ?_ (Int.le_refl _) (Int.le_refl _) (PlainTnum.within_refl hR), hR⟩
        show (x - 1#64).toNat ≤ _
        rw [down_nat c4, c3]; omega
    · rw [if_neg c3] at h ⊢
      by_cases c5 : a.hi.toNat < a.lo.toNat
      · rw [if_pos c5] at h; simp at h
      · rw [if_neg c5]
        exact ⟨within_refl hR, hR⟩
theorem without_has {a : Rng} {x z : W} (hz : Has a z) (hne : z ≠ x) : (without a x).2 = true ∧ Has (without a x).1 z := by
  have h1 := hz.lo; have h2 := hz.hi
  have hn : z.toNat ≠ x.toNat := fun e => hne (BitVec.eq_of_toNat_eq e)
  have lz := PlainScalar.lt64 z
  unfold without
  by_cases c1 : a.lo = x
  · rw [if_pos c1]
    subst c1
    have c2 : ¬ a.lo = BitVec.allOnes 64 := by
      intro e
      rw [e, BitVec.toNat_allOnes] at h1 hn
      omega
    rw [if_neg c2]
    by_cases c3 : a.hi = a.lo
    · rw [c3] at h2; omega
    · rw [if_neg c3]
      have := up_nat c2
      rw [if_neg (by omega)]
      exact ⟨rfl, hz.b, by show (a.lo + 1#64).toNat ≤ _; omega, hz.hi, hz.sl, hz.sh⟩
  · rw [if_neg c1]
    by_cases c3 : a.hi = x
    · rw [if_pos c3]
      subst c3
      have c4 : ¬ a.hi = 0#64 := by
        intro e
        rw [e] at h2 hn
        simp at h2 hn
        omega
      rw [if_neg c4]
      have := down_nat c4
      rw [if_neg (by omega)]
      exact ⟨rfl, hz.b, hz.lo, by show _ ≤ (a.hi - 1#64).toNat; omega, hz.sl, hz.sh⟩
    · rw [if_neg c3, if_neg (by omega)]
      exact ⟨rfl, hz⟩
theorem other2_in {p : Pair} (hp : RR p) (h : (other2 p).2 = true) : In (other2 p).1 p := by
  unfold other2 at h ⊢
  split at h
  · rename_i c
    rw [if_pos c]
    split at h
    · rename_i c2
      rw [if_pos c2]
      exact settleP_of h ⟨within_refl hp.1, (without_in hp.2 c2).1⟩
    · simp at h
  · rename_i c
    rw [if_neg c]
    exact (settleP_in h).1
theorem other_in {p : Pair} (hp : RR p) (h : (other p).2 = true) : In (other p).1 p := by
  unfold other at h ⊢
  split at h
  · rename_i c
    rw [if_pos c]
    split at h
    · rename_i c2
      rw [if_pos c2]
      have hw := without_in hp.1 c2
      exact (other2_in (p := ((without p.1 p.2.lo).1, p.2)) ⟨hw.2, hp.2⟩ h).trans ⟨hw.1, within_refl hp.2⟩
    · simp at h
  · rename_i c
    rw [if_neg c]
    exact other2_in hp h
theorem greater_in {p : Pair} {s : Bool} (hp : RR p) (h : (greater p s).2 = true) : In (greater p s).1 p := by
  unfold greater at h ⊢
  split at h
  · simp at h
  · rename_i c
    rw [if_neg c]
    apply settleP_of h
    constructor
    · refine within_mk ?_ (Nat.le_refl _) (Int.le_refl _) (Int.le_refl _) (PlainTnum.within_refl hp.1)
      show _ ≤ (PlainScalar.maxU _ _).toNat; rw [PlainScalar.maxU_nat]; omega
    · refine within_mk (Nat.le_refl _) ?_ (Int.le_refl _) (Int.le_refl _) (PlainTnum.within_refl hp.2)
      show (PlainScalar.minU _ _).toNat ≤ _; rw [PlainScalar.minU_nat]; omega
theorem sGreater_in {p : Pair} {s : Bool} (hp : RR p) (h : (sGreater p s).2 = true) : In (sGreater p s).1 p := by
  unfold sGreater at h ⊢
  split at h
  · simp at h
  · rename_i c
    rw [if_neg c]
    apply settleP_of h
    constructor
    · refine within_mk (Nat.le_refl _) (Nat.le_refl _) ?_ (Int.le_refl _) (PlainTnum.within_refl hp.1)
      show _ ≤ (PlainScalar.maxS _ _).toInt; rw [PlainScalar.maxS_int]; omega
    · refine within_mk (Nat.le_refl _) (Nat.le_refl _) (Int.le_refl _) ?_ (PlainTnum.within_refl hp.2)
      show (PlainScalar.minS _ _).toInt ≤ _; rw [PlainScalar.minS_int]; omega
theorem turned_in {p : Pair} {f : Pair → Bool → Pair × Bool} {s : Bool} (hf : ∀ {p}, RR p → (f p s).2 = true → In (f p s).1 p) (hp : RR p) (h : (turned p f s).2 = true) : In (turned p f s).1 p := by
  have := hf (p := swap p) ⟨hp.2, hp.1⟩ h
  exact ⟨this.r, this.l⟩
theorem where_in {op : Int} {p : Pair} (hp : RR p) (h : (whereF op p).2 = true) : In (whereF op p).1 p := by
  unfold whereF at h ⊢
  split at h
  · rename_i c; rw [if_pos c]; exact same_in hp h
  rename_i c; rw [if_neg c]
  split at h
  · rename_i c; rw [if_pos c]; exact other_in hp h
  rename_i c; rw [if_neg c]
  split at h
  · rename_i c; rw [if_pos c]; exact greater_in hp h
  rename_i c; rw [if_neg c]
  split at h
  · rename_i c; rw [if_pos c]; exact turned_in greater_in hp h
  rename_i c; rw [if_neg c]
  split at h
  · rename_i c; rw [if_pos c]; exact sGreater_in hp h
  rename_i c; rw [if_neg c]
  split at h
  · rename_i c; rw [if_pos c]; exact turned_in sGreater_in hp h
  rename_i c; rw [if_neg c]
  exact (settleP_in h).1
theorem noBits_in {p : Pair} (hp : RR p) (h : (noBits p).2 = true) : In (noBits p).1 p := by
  unfold noBits at h ⊢
  split at h
  · rename_i c
    rw [if_pos c]
    apply settleP_of h
    have hm : ∀ v : W, PlainTnum.R ⟨0#64, v⟩ := by intro v i hi; simp
    have h1 := PlainTnum.meet_within (m := (PlainTnum.meet p.1.b ⟨0#64, ~~~p.2.b.v⟩).1) hp.1 (hm _) (by rw [← c.1])
    have h2 := PlainTnum.meet_within (m := (PlainTnum.meet p.2.b ⟨0#64, ~~~p.1.b.v⟩).1) hp.2 (hm _) (by rw [← c.2])
    exact ⟨within_mk (Nat.le_refl _) (Nat.le_refl _) (Int.le_refl _) (Int.le_refl _) h1.1, within_mk (Nat.le_refl _) (Nat.le_refl _) (Int.le_refl _) (Int.le_refl _) h2.1⟩
  · simp at h
theorem refine2_in {op : Int} {long : Bool} {q : Pair} {h : Bool} (hq : RR q) (ok : (refine2 op long q h).2 = true) : In (refine2 op long q h).1 q := by
  unfold refine2 at ok ⊢
  split at ok
  · rename_i c; rw [if_pos c]; exact In.refl hq
  rename_i c; rw [if_neg c]
  split at ok
  · rename_i c; rw [if_pos c]; exact In.refl hq
  rename_i c; rw [if_neg c]
  split at ok
  · rename_i c; rw [if_pos c]; exact noBits_in hq ok
  rename_i c; rw [if_neg c]
  split at ok
  · rename_i c; rw [if_pos c]; exact In.refl hq
  rename_i c; rw [if_neg c]
  exact where_in hq ok
/-- Nothing else comes in. -/
theorem refine_in {op : Int} {long : Bool} {a b : Rng} {h : Bool} (ok : (refine op long a b h).2 = true) :
    PlainScalar.within (refine op long a b h).1.1 a = true ∧ PlainScalar.within (refine op long a b h).1.2 b = true := by
  unfold refine at ok ⊢
  split at ok
  · rename_i c
    rw [if_pos c]
    unfold refineP at c ⊢
    split at c
    · rename_i c2
      rw [if_pos c2]
      have hs := settleP_in c2
      have := (refine2_in hs.2 c).trans hs.1
      exact ⟨this.l, this.r⟩
    · simp at c
  · simp at ok
theorem refine_no {op : Int} {long : Bool} {a b : Rng} {h : Bool} (ok : (refine op long a b h).2 = false) : (refine op long a b h).1 = zero := by
  unfold refine at ok ⊢
  split
  · rename_i c; rw [if_pos c] at ok; simp at ok
  · rfl

/-! ### numbers that hold stay -/
structure Has2 (p : Pair) (x y : W) : Prop where
  l : Has p.1 x
  r : Has p.2 y
theorem settleP_has {p : Pair} {x y : W} (h : Has2 p x y) : (settleP p).2 = true ∧ Has2 (settleP p).1 x y := by
  have h1 := PlainScalar.settle_has h.l
  have h2 := PlainScalar.settle_has h.r
  unfold settleP
  simp only [Bool.and_eq_true]
  exact ⟨⟨h1.1, h2.1⟩, h1.2, h2.2⟩
theorem same_has {p : Pair} {x : W} (h : Has2 p x x) : (same p).2 = true ∧ Has2 (same p).1 x x := by
  have hm := PlainScalar.has_meet h.l.b h.r.b
  unfold same
  rw [if_pos hm.1]
  apply settleP_has
  have l := h.l; have r := h.r
  have key : Has ⟨(PlainTnum.meet p.1.b p.2.b).1, PlainScalar.maxU p.1.lo p.2.lo, PlainScalar.minU p.1.hi p.2.hi, PlainScalar.maxS p.1.sl p.2.sl, PlainScalar.minS p.1.sh p.2.sh⟩ x := by
    have := l.lo; have := l.hi; have := l.sl; have := l.sh; have := r.lo; have := r.hi; have := r.sl; have := r.sh
    refine ⟨hm.2, ?_, ?_, ?_, ?_⟩
    · show (PlainScalar.maxU _ _).toNat ≤ _; rw [PlainScalar.maxU_nat]; omega
    · show _ ≤ (PlainScalar.minU _ _).toNat; rw [PlainScalar.minU_nat]; omega
    · show (PlainScalar.maxS _ _).toInt ≤ _; rw [PlainScalar.maxS_int]; omega
    · show _ ≤ (PlainScalar.minS _ _).toInt; rw [PlainScalar.minS_int]; omega
  exact ⟨key, key⟩
theorem one_is {a : Rng} {x : W} (h : one a = true) (hx : Has a x) : x = a.lo := by
  unfold one at h
  have h := beq_iff_eq.1 h
  apply BitVec.eq_of_toNat_eq
  have := hx.lo; have := hx.hi
  rw [← h] at this
  omega
theorem other2_has {p : Pair} {x y : W} (h : Has2 p x y) (hne : x ≠ y) : (other2 p).2 = true ∧ Has2 (other2 p).1 x y := by
  unfold other2
  split
  · rename_i c
    have e := one_is c h.l
    have hw := without_has (x := p.1.lo) h.r (by rw [← e]; exact fun k => hne k.symm)
    rw [if_pos hw.1]
    exact settleP_has ⟨h.l, hw.2⟩
  · exact settleP_has h
theorem other_has {p : Pair} {x y : W} (h : Has2 p x y) (hne : x ≠ y) : (other p).2 = true ∧ Has2 (other p).1 x y := by
  unfold other
  split
  · rename_i c
    have e := one_is c h.r
    have hw := without_has (x := p.2.lo) h.l (by rw [← e]; exact hne)
    rw [if_pos hw.1]
    exact other2_has ⟨hw.2, h.r⟩ hne
  · exact other2_has h hne
theorem greater_has {p : Pair} {s : Bool} {x y : W} (h : Has2 p x y) (hc : if s then y.toNat < x.toNat else y.toNat ≤ x.toNat) : (greater p s).2 = true ∧ Has2 (greater p s).1 x y := by
  have l := h.l; have r := h.r
  have k1 := l.lo; have k2 := l.hi; have k3 := r.lo; have k4 := r.hi
  have lx := PlainScalar.lt64 x
  unfold greater
  cases s with
  | true =>
    simp only [if_true] at hc
    have c1 : ¬ p.2.lo = BitVec.allOnes 64 := by
      intro e; rw [e, BitVec.toNat_allOnes] at k3; omega
    have c2 : ¬ p.1.hi = 0#64 := by
      intro e; rw [e] at k2; simp at k2; omega
    rw [if_neg (fun k => k.2.elim c1 c2)]
    apply settleP_has
    have e1 := up_nat c1
    have e2 := down_nat c2
    constructor
    · refine ⟨l.b, ?_, l.hi, l.sl, l.sh⟩
      show (PlainScalar.maxU _ (p.2.lo + 1#64)).toNat ≤ _; rw [PlainScalar.maxU_nat]; omega
    · refine ⟨r.b, r.lo, ?_, r.sl, r.sh⟩
      show _ ≤ (PlainScalar.minU _ (p.1.hi - 1#64)).toNat; rw [PlainScalar.minU_nat]; omega
  | false =>
    simp only [Bool.false_eq_true, if_false] at hc
    rw [if_neg (by simp)]
    apply settleP_has
    constructor
    · refine ⟨l.b, ?_, l.hi, l.sl, l.sh⟩
      show (PlainScalar.maxU _ (p.2.lo + 0#64)).toNat ≤ _; rw [PlainScalar.maxU_nat, BitVec.add_zero]; omega
    · refine ⟨r.b, r.lo, ?_, r.sl, r.sh⟩
      show _ ≤ (PlainScalar.minU _ (p.1.hi - 0#64)).toNat; rw [PlainScalar.minU_nat, BitVec.sub_zero]; omega
theorem up_int {x : W} (h : x ≠ PlainScalar.maxI) : (x + 1#64).toInt = x.toInt + 1 := by
  have hl := PlainScalar.lt64 x
  have : x.toNat ≠ 9223372036854775807 := fun e => h (BitVec.eq_of_toNat_eq (by rw [e]; decide))
  rw [PlainScalar.toInt_cond, PlainScalar.toInt_cond x, BitVec.toNat_add, show (1#64).toNat = 1 from rfl]
  split <;> split <;> omega
theorem down_int {x : W} (h : x ≠ PlainScalar.minI) : (x - 1#64).toInt = x.toInt - 1 := by
  have hl := PlainScalar.lt64 x
  have : x.toNat ≠ 9223372036854775808 := fun e => h (BitVec.eq_of_toNat_eq (by rw [e]; decide))
  rw [PlainScalar.toInt_cond, PlainScalar.toInt_cond x, BitVec.toNat_sub, show (1#64).toNat = 1 from rfl]
  split <;> split <;> omega
theorem sGreater_has {p : Pair} {s : Bool} {x y : W} (h : Has2 p x y) (hc : if s then y.toInt < x.toInt else y.toInt ≤ x.toInt) : (sGreater p s).2 = true ∧ Has2 (sGreater p s).1 x y := by
  have l := h.l; have r := h.r
  have k1 := l.sl; have k2 := l.sh; have k3 := r.sl; have k4 := r.sh
  have lx := PlainScalar.toInt_hi x
  have ly := PlainScalar.toInt_lo y
  unfold sGreater
  cases s with
  | true =>
    simp only [if_true] at hc
    have c1 : ¬ p.2.sl = PlainScalar.maxI := by
      intro e
      have e2 : PlainScalar.maxI.toInt = 9223372036854775807 := by decide
      rw [e, e2] at k3; omega
    have c2 : ¬ p.1.sh = PlainScalar.minI := by
      intro e
      have e2 : PlainScalar.minI.toInt = -9223372036854775808 := by decide
      rw [e, e2] at k2; omega
    rw [if_neg (fun k => k.2.elim c1 c2)]
    apply settleP_has
    have e1 := up_int c1
    have e2 := down_int c2
    constructor
    · refine ⟨l.b, l.lo, l.hi, ?_, l.sh⟩
      show (PlainScalar.maxS _ (p.2.sl + 1#64)).toInt ≤ _; rw [PlainScalar.maxS_int]; omega
    · refine ⟨r.b, r.lo, r.hi, r.sl, ?_⟩
      show _ ≤ (PlainScalar.minS _ (p.1.sh - 1#64)).toInt; rw [PlainScalar.minS_int]; omega
  | false =>
    simp only [Bool.false_eq_true, if_false] at hc
    rw [if_neg (by simp)]
    apply settleP_has
    constructor
    · refine ⟨l.b, l.lo, l.hi, ?_, l.sh⟩
      show (PlainScalar.maxS _ (p.2.sl + 0#64)).toInt ≤ _; rw [PlainScalar.maxS_int, BitVec.add_zero]; omega
    · refine ⟨r.b, r.lo, r.hi, r.sl, ?_⟩
      show _ ≤ (PlainScalar.minS _ (p.1.sh - 0#64)).toInt; rw [PlainScalar.minS_int, BitVec.sub_zero]; omega
theorem noBits_has {p : Pair} {x y : W} (h : Has2 p x y) (hc : x &&& y = 0#64) : (noBits p).2 = true ∧ Has2 (noBits p).1 x y := by
  have key : ∀ {a b : Rng} {u v : W}, Has a u → Has b v → u &&& v = 0#64 → PlainTnum.has ⟨0#64, ~~~b.b.v⟩ u = true := by
    intro a b u v hu hv e
    rw [PlainTnum.has_iff]
    intro i hi
    have k := PlainTnum.has_iff.1 hv.b i hi
    have e := PlainTnum.bit_of e i
    simp only [BitVec.getLsbD_and, BitVec.getLsbD_not, BitVec.getLsbD_zero, hi, decide_true, Bool.true_and] at e ⊢
    rw [← k]
    revert e
    cases u.getLsbD i <;> cases v.getLsbD i <;> cases b.b.m.getLsbD i <;> simp
  have h1 := PlainScalar.has_meet h.l.b (key h.l h.r hc)
  have h2 := PlainScalar.has_meet h.r.b (key h.r h.l (by rw [BitVec.and_comm]; exact hc))
  unfold noBits
  rw [if_pos ⟨h1.1, h2.1⟩]
  apply settleP_has
  have l := h.l; have r := h.r
  exact ⟨⟨h1.2, l.lo, l.hi, l.sl, l.sh⟩, ⟨h2.2, r.lo, r.hi, r.sl, r.sh⟩⟩

/-- A comparison of 64 bits, as the table has it. -/
def isOp (op : Int) : Prop := op = 1 ∨ op = 2 ∨ op = 3 ∨ op = 4 ∨ op = 5 ∨ op = 6 ∨ op = 7 ∨ op = 10 ∨ op = 11 ∨ op = 12 ∨ op = 13
theorem holds_opposite {op : Int} (ho : isOp op) (h4 : op ≠ 4) (long : Bool) (x y : W) : holds (opposite op) long x y = !holds op long x y := by
  unfold isOp at ho
  rcases ho with rfl | rfl | rfl | rfl | rfl | rfl | rfl | rfl | rfl | rfl | rfl
  case inr.inr.inr.inl => exact absurd rfl h4
  all_goals
    cases long <;> simp [holds, opposite, signedC, unsigned, Int.not_lt, Int.not_le, Nat.not_lt, Nat.not_le, ← decide_not, bne]
theorem where_has {op : Int} {p : Pair} {x y : W} (h : Has2 p x y) (hc : holds op true x y = true) : (whereF op p).2 = true ∧ Has2 (whereF op p).1 x y := by
  unfold whereF
  by_cases c : op = 1
  · subst c; rw [if_pos rfl]
    have e : x = y := by simpa [holds, unsigned] using hc
    subst e
    exact same_has h
  rw [if_neg c]; clear c
  by_cases c : op = 5
  · subst c; rw [if_pos rfl]
    have e : x ≠ y := by simpa [holds, unsigned] using hc
    exact other_has h e
  rw [if_neg c]; clear c
  by_cases c : op = 2 ∨ op = 3
  · rw [if_pos c]
    apply greater_has h
    rcases c with rfl | rfl
    · simpa [holds, unsigned] using hc
    · simpa [holds, unsigned] using hc
  rw [if_neg c]; clear c
  by_cases c : op = 10 ∨ op = 11
  · rw [if_pos c]
    have := greater_has (p := swap p) (s := (op == 10)) (x := y) (y := x) ⟨h.r, h.l⟩ (by
      rcases c with rfl | rfl
      · simpa [holds, unsigned] using hc
      · simpa [holds, unsigned] using hc)
    exact ⟨this.1, this.2.r, this.2.l⟩
  rw [if_neg c]; clear c
  by_cases c : op = 6 ∨ op = 7
  · rw [if_pos c]
    apply sGreater_has h
    rcases c with rfl | rfl
    · simpa [holds, signedC] using hc
    · simpa [holds, signedC] using hc
  rw [if_neg c]; clear c
  by_cases c : op = 12 ∨ op = 13
  · rw [if_pos c]
    have := sGreater_has (p := swap p) (s := (op == 12)) (x := y) (y := x) ⟨h.r, h.l⟩ (by
      rcases c with rfl | rfl
      · simpa [holds, signedC] using hc
      · simpa [holds, signedC] using hc)
    exact ⟨this.1, this.2.r, this.2.l⟩
  rw [if_neg c]; clear c
  exact settleP_has h
theorem s32_small {x : W} (h : x.toNat ≤ 2147483647) : s32 x = x.toInt := by
  unfold s32
  rw [PlainScalar.toInt_cond, if_pos (by omega), BitVec.toInt_eq_toNat_cond, BitVec.toNat_setWidth, if_pos (by omega)]
  omega
theorem low4_small {x : W} (h : x.toNat ≤ 4294967295) : PlainScalar.low4 x = x := by
  apply BitVec.eq_of_toNat_eq
  rw [PlainScalar.low4_nat]; omega
/-- Of small numbers a comparison of 32 bits is that of 64 bits. -/
theorem short_holds {op : Int} {q : Pair} {x y : W} (hs : short op q = true) (h : Has2 q x y) : holds op false x y = holds op true x y := by
  unfold short at hs
  have hx := h.l.hi; have hy := h.r.hi
  unfold holds
  by_cases c : op = 6 ∨ op = 7 ∨ op = 12 ∨ op = 13
  · simp only [c, if_true, Bool.and_eq_true, decide_eq_true_eq] at hs
    rw [if_pos c, if_pos c, s32_small (by omega), s32_small (by omega)]
    simp
  · simp only [c, if_false, Bool.and_eq_true, decide_eq_true_eq] at hs
    rw [if_neg c, if_neg c, low4_small (by omega), low4_small (by omega)]
    simp
theorem const_is {a : Rng} {x : W} (h : (a == PlainScalar.const a.lo) = true) (hx : Has a x) : x = a.lo := by
  have h := beq_iff_eq.1 h
  apply BitVec.eq_of_toNat_eq
  have h1 := hx.lo; have h2 := hx.hi
  rw [h] at h2
  have : (PlainScalar.const a.lo).hi = a.lo := rfl
  rw [this] at h2
  omega
theorem refine2_has {op : Int} {long : Bool} {q : Pair} {x y : W} (ho : isOp op) (h : Has2 q x y) : (refine2 op long q (holds op long x y)).2 = true ∧ Has2 (refine2 op long q (holds op long x y)).1 x y := by
  unfold refine2
  by_cases c : aloneP q = true
  · rw [if_pos c]
    unfold aloneP at c
    simp only [Bool.and_eq_true] at c
    rw [← const_is c.1 h.l, ← const_is c.2 h.r]
    exact ⟨by simp, h⟩
  rw [if_neg c]
  by_cases c : long = false ∧ short op q = false
  · rw [if_pos c]; exact ⟨rfl, h⟩
  rw [if_neg c]
  have hlong : holds op long x y = holds op true x y := by
    cases long with
    | true => rfl
    | false => exact short_holds (by simpa using c) h
  by_cases c : op = 4 ∧ holds op long x y = false
  · rw [if_pos c]
    rw [hlong, c.1] at c
    apply noBits_has h
    have := c.2
    simpa [holds, unsigned] using this
  rw [if_neg c]
  by_cases c4 : op = 4
  · rw [if_pos c4]; exact ⟨rfl, h⟩
  rw [if_neg c4]
  by_cases hh : holds op long x y = true
  · rw [hh, if_pos rfl]
    exact where_has h (by rw [← hlong]; exact hh)
  · have hf : holds op long x y = false := by simpa using hh
    rw [hf, if_neg (by decide)]
    apply where_has h
    rw [holds_opposite ho c4, ← hlong, hf]; rfl
theorem refine_has {op : Int} {long : Bool} {a b : Rng} {x y : W} (ho : isOp op) (hx : Has a x) (hy : Has b y) :
    (refine op long a b (holds op long x y)).2 = true ∧ Has (refine op long a b (holds op long x y)).1.1 x ∧ Has (refine op long a b (holds op long x y)).1.2 y := by
  have hs := settleP_has (p := (a, b)) ⟨hx, hy⟩
  have h2 := refine2_has (op := op) (long := long) ho hs.2
  have hp : refineP op long (a, b) (holds op long x y) = refine2 op long (settleP (a, b)).1 (holds op long x y) := by
    unfold refineP; rw [if_pos hs.1]
  unfold refine
  rw [hp, if_pos h2.1]
  exact ⟨rfl, h2.2.l, h2.2.r⟩

/-! ### two numbers alone -/
theorem settle_const (x : W) : settle (PlainScalar.const x) = (PlainScalar.const x, true) := by
  have h := PlainScalar.settle_has (PlainScalar.const_has x)
  have hi := PlainScalar.settle_in h.1
  obtain ⟨h1, h2⟩ := h
  generalize settle (PlainScalar.const x) = s at *
  obtain ⟨r, ok⟩ := s
  simp only at h1 h2 hi
  subst h1
  congr 1
  obtain ⟨i1, i2, i3, i4, i5, i6⟩ := hi
  have k1 := h2.lo; have k2 := h2.hi; have k3 := h2.sl; have k4 := h2.sh
  have e1 : (PlainScalar.const x).lo = x := rfl
  have e2 : (PlainScalar.const x).hi = x := rfl
  have e3 : (PlainScalar.const x).sl = x := rfl
  have e4 : (PlainScalar.const x).sh = x := rfl
  rw [e1] at i1; rw [e2] at i2; rw [e3] at i3; rw [e4] at i4
  have em : r.b.m = 0#64 := by
    have : (PlainScalar.const x).b.m = 0#64 := rfl
    rw [this] at i6
    simpa [PlainTnum.and_all] using i6
  refine PlainScalar.Rng.ext' ?_ (BitVec.eq_of_toNat_eq (by rw [e1]; omega)) (BitVec.eq_of_toNat_eq (by rw [e2]; omega)) (BitVec.eq_of_toInt_eq (by rw [e3]; omega)) (BitVec.eq_of_toInt_eq (by rw [e4]; omega))
  have hb := h2.b
  unfold PlainTnum.has at hb
  have hb := beq_iff_eq.1 hb
  rw [em] at hb
  refine PlainTnum.N.ext' ?_ em
  show r.b.v = x
  rw [← hb]
  simp [PlainTnum.and_all]
theorem refine_const (op : Int) (long : Bool) (x y : W) (h : Bool) :
    refine op long (PlainScalar.const x) (PlainScalar.const y) h = if (holds op long x y == h) = true then ((PlainScalar.const x, PlainScalar.const y), true) else (zero, false) := by
  have hs : settleP (PlainScalar.const x, PlainScalar.const y) = ((PlainScalar.const x, PlainScalar.const y), true) := by
    unfold settleP; rw [settle_const, settle_const]; rfl
  have ha : aloneP (PlainScalar.const x, PlainScalar.const y) = true := by
    unfold aloneP
    simp [PlainScalar.const]
  have hp : refineP op long (PlainScalar.const x, PlainScalar.const y) h = ((PlainScalar.const x, PlainScalar.const y), holds op long x y == h) := by
    unfold refineP
    rw [hs, if_pos rfl]
    unfold refine2
    rw [if_pos ha]
    rfl
  unfold refine
  rw [hp]
end PlainBranch
end Go.Proofs.YtmghpoagpiljhaaDoor
