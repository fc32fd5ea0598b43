/- What Save, Load and Ready say of the state that a stack tells of; the contract of the stack's own Save. -/
import Derived.Test.YtmghpoagpiljhaaStk
set_option linter.unusedSimpArgs false
set_option linter.unusedVariables false
namespace Go.Proofs.Ytmghpoagpiljhaa
namespace PlainAbs
open PlainScalar (Rng)
def saveOkN (z : Int) (n v : Nat) : Bool := decide (-64 ≤ z) && decide (z < 0) && decide (z + 64 + n ≤ 64) && (decide (v = 0) || (decide (n = 8) && decide ((z + 64) % 8 = 0)))
def rsave (q : Sk) (z : Int) (n v : Nat) : Sk × Bool := if saveOkN z n v = true then (rsaved q (z + 64).toNat n v, true) else (q, false)
def atz (z : Int) : Int := if -64 ≤ z ∧ z < 0 then z + 64 else -1
def xact (b : Bool) (i : Nat) (r : Rng) : Rg := if b = true then kreg (i + 1) else number r
def vact (b : Bool) (i : Nat) : Nat := if b = true then i + 1 else 0
theorem xact_kind (b : Bool) (i : Nat) (r : Rng) : (xact b i r).kind = if b = true then 5 else 1 := by
  unfold xact kreg number; cases b <;> simp
theorem sized_of {n : Nat} (hn : n = 1 ∨ n = 2 ∨ n = 4 ∨ n = 8) : sized (n : Int) = true := by
  rcases hn with rfl | rfl | rfl | rfl <;> rfl
theorem saveOk_is (z : Int) (n : Nat) (b : Bool) (i : Nat) (r : Rng) (hn : n = 1 ∨ n = 2 ∨ n = 4 ∨ n = 8) : saveOk z (n : Int) (xact b i r) = saveOkN z n (vact b i) := by
  unfold saveOk saveOkN
  rw [sized_of hn, xact_kind]
  rw [Bool.eq_iff_iff]
  unfold firstOk vact
  cases b
  · simp
    omega
  · simp
    omega
theorem save_is (q : Sk) (z : Int) (n : Nat) (b : Bool) (i : Nat) (r : Rng) (hn : n = 1 ∨ n = 2 ∨ n = 4 ∨ n = 8) : save (ofS q) z (n : Int) (xact b i r) = (ofS (rsave q z n (vact b i)).1, (rsave q z n (vact b i)).2) := by
  unfold save rsave
  rw [saveOk_is z n b i r hn]
  cases h : saveOkN z n (vact b i)
  · rfl
  · rw [if_pos rfl, if_pos rfl]
    show (saved (ofS q) z n (xact b i r), true) = (ofS (rsaved q (z + 64).toNat n (vact b i)), true)
    congr 1
    unfold saved rsaved
    simp only [Int.toNat_natCast]
    rw [xact_kind]
    cases b
    · rw [if_pos (by simp), if_pos (show vact false i = 0 from rfl), ofS_mark, ofS_clrN]; rfl
    · rw [if_neg (by simp), if_neg (show ¬ vact true i = 0 by unfold vact; simp)]
      show ({ mark (clrN (ofS q) (z + 64).toNat n) (z + 64).toNat false n with kept := upd (mark (clrN (ofS q) (z + 64).toNat n) (z + 64).toNat false n).kept ((z + 64).toNat / 8) (kreg (i + 1)) } : St) = _
      rw [← ofS_clrN, ← ofS_mark]
      show (⟨_, _, _⟩ : St) = ⟨_, _, _⟩
      congr 1
      exact (kreg_upd _ _ _).symm
/-- Every word has at most so much. -/
def Top (q : Sk) (m : Nat) : Prop := ∀ k, q.kept k ≤ m
theorem Top.up {q : Sk} {m n : Nat} (h : Top q m) (hm : m ≤ n) : Top q n := fun k => Nat.le_trans (h k) hm
theorem top_0 (m : Nat) : Top sk0 m := fun k => Nat.zero_le _
theorem top_clr {q : Sk} {m : Nat} (h : Top q m) (k : Nat) : Top (rclr q k) m := by
  intro j
  unfold rclr
  by_cases h0 : q.kept k = 0
  · rw [if_pos h0]; exact h j
  · rw [if_neg h0, rmark_kept]
    show upd q.kept k 0 j ≤ m
    unfold upd; split
    · exact Nat.zero_le _
    · exact h j
theorem top_clrN {q : Sk} {m : Nat} (h : Top q m) (f : Nat) : ∀ n, Top (rclrN q f n) m
  | 0 => h
  | n + 1 => top_clr (top_clrN h f n) _
theorem top_save {q : Sk} {m : Nat} (h : Top q m) (z : Int) (n : Nat) (b : Bool) (i : Nat) (hi : i + 1 ≤ m) : Top (rsave q z n (vact b i)).1 m := by
  intro j
  unfold rsave
  split
  · show (rsaved q (z + 64).toNat n (vact b i)).kept j ≤ m
    unfold rsaved
    split
    · rw [rmark_kept]; exact top_clrN h _ _ j
    · show upd (rmark _ _ false n).kept _ _ j ≤ m
      unfold upd; split
      · unfold vact; split <;> omega
      · rw [rmark_kept]; exact top_clrN h _ _ j
  · exact h j
/-- The word k is ready up to its byte j. -/
def rdy (q : Sk) (k : Nat) : Nat → Bool := readyN (ofS q) (8 * k)
theorem rdy_0 (q : Sk) (k : Nat) : rdy q k 0 = true := rfl
theorem rdy_s (q : Sk) (k j : Nat) : rdy q k (j + 1) = (rdy q k j && q.what (8 * k + j)) := rfl
theorem ready_is (q : Sk) {j : Nat} (hj : j < 64) : ready (ofS q) ((j : Int) - 64) 1 = q.what j := by
  unfold ready
  rw [show firstOk ((j : Int) - 64) 1 = true by unfold firstOk; simp; omega, show ((j : Int) - 64 + 64).toNat = j by omega]
  show (true && (readyN (ofS q) j 0 && q.what (j + 0))) = _
  simp [readyN]
theorem load_is (q : Sk) {k : Nat} (hk : k < 8) : load (ofS q) (((8 * k : Nat) : Int) - 64) 8 = if q.kept k = 0 then (if rdy q k 8 = true then (number (PlainScalar.low PlainScalar.any 8), true) else (zr, false)) else (kreg (q.kept k), true) := by
  have hf : firstOk (((8 * k : Nat) : Int) - 64) 8 = true := by unfold firstOk; simp; omega
  unfold load
  rw [hf, show (sized 8 && true) = true from rfl, if_neg (by decide)]
  have e1 : (((8 * k : Nat) : Int) - 64 + 64).toNat = 8 * k := by omega
  rw [e1, show 8 * k / 8 = k by omega]
  have e2 : (((8 * k : Nat) : Int) - 64 + 64) % 8 = 0 := by omega
  by_cases h0 : q.kept k = 0
  · rw [if_neg (fun g => g.2.2 ((kreg_kind _).2 h0)), if_pos h0]
    have e3 : ready (ofS q) (((8 * k : Nat) : Int) - 64) 8 = rdy q k 8 := by
      unfold ready; rw [hf, e1]; rfl
    rw [e3]
    cases rdy q k 8 <;> rfl
  · rw [if_pos ⟨rfl, e2, fun g => h0 ((kreg_kind _).1 g)⟩, if_neg h0]
    rfl
end PlainAbs
open Go.RowKit
open PlainTnum (N)
open PlainScalar (Rng)
open PlainAbs (Rg St zr zs upd Sk)
theorem rsave_c (q : Sk) (g : Nat) (z : Int) (n v : Nat) (hn : n = 1 ∨ n = 2 ∨ n = 4 ∨ n = 8) (w : World) (Bq : Blk w g 74 (skv q)) : Calls Try.prog 49 #[.pointer (some ⟨g, 0, none⟩), .int .i64 (PlainAbs.atz z), .int .i64 (n : Int), .int .i64 (v : Int)] w fun e w' => e = .returned (.bool (PlainAbs.rsave q z n v).2) ∧ Blk w' g 74 (skv (PlainAbs.rsave q z n v).1) ∧ Over g w w' := by
  have no : PlainAbs.saveOkN z n v = false → PlainAbs.rsave q z n v = (q, false) := fun h => by unfold PlainAbs.rsave; rw [h]; rfl
  have yes : PlainAbs.saveOkN z n v = true → PlainAbs.rsave q z n v = (PlainAbs.rsaved q (z + 64).toNat n v, true) := fun h => by unfold PlainAbs.rsave; rw [h]; rfl
  have h8 : n ≤ 8 := by omega
  by_cases hz : -64 ≤ z ∧ z < 0
  rotate_left
  · rw [no (by unfold PlainAbs.saveOkN; simp; omega), show PlainAbs.atz z = -1 by unfold PlainAbs.atz; rw [if_neg hz]]
    exact rs_no_a q g n v w Bq
  obtain ⟨f, hf⟩ : ∃ f : Nat, z + 64 = (f : Int) := ⟨(z + 64).toNat, by omega⟩
  rw [show PlainAbs.atz z = (f : Int) by unfold PlainAbs.atz; rw [if_pos hz, hf]]
  have ef : (z + 64).toNat = f := by omega
  have hf8 : (z + 64) % 8 = ((f % 8 : Nat) : Int) := by omega
  by_cases hs : f + n ≤ 64
  rotate_left
  · rw [no (by unfold PlainAbs.saveOkN; simp; omega)]
    exact rs_no_b q g f n v (by omega) h8 (by omega) w Bq
  by_cases hv : v = 0
  · subst hv
    rw [yes (by unfold PlainAbs.saveOkN; simp; omega), ef]
    unfold PlainAbs.rsaved
    rw [if_pos rfl]
    exact rs_y0 q g f n h8 hs w Bq
  by_cases hn8 : n = 8
  rotate_left
  · rw [no (by unfold PlainAbs.saveOkN; simp [hv, hn8])]
    exact rs_no_c q g f n v h8 hs (by omega) hn8 w Bq
  subst hn8
  by_cases hm : f % 8 = 0
  · obtain ⟨k, hk⟩ : ∃ k, f = 8 * k := ⟨f / 8, by omega⟩
    rw [yes (by unfold PlainAbs.saveOkN; simp; omega), ef]
    unfold PlainAbs.rsaved
    rw [if_neg hv, show f / 8 = k by omega]
    exact rs_y1 q g f k v hs (by omega) hk (by omega) w Bq
  · rw [no (by unfold PlainAbs.saveOkN; simp [hv]; omega)]
    exact rs_no_d q g f v hs (by omega) hm w Bq
end Go.Proofs.Ytmghpoagpiljhaa
