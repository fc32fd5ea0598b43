/- AbsregMaybes in plain words: what covers, and what is settled. -/
import Derived.Test.YtmghpoagpiljhabSet2
set_option linter.unusedSimpArgs false
namespace Go.Proofs.Ytmghpoagpiljhab
namespace PlainAbs
def mreg (slot id : Int) : Rg := { zr with kind := 6, slot := slot, id := id }
def two (sl x y : Int) : St := { { start with r := upd start.r 0 (mreg sl x) } with r := upd (upd start.r 0 (mreg sl x)) 6 (mreg sl y) }
def three (sl x y : Int) : St := { two sl x y with kept := upd (two sl x y).kept 2 (mreg sl x) }
theorem whatN_all (s t : St) (h : ∀ i, s.what i = false) : ∀ n, whatN s t n = true
  | 0 => rfl
  | n + 1 => by show (whatN s t n && (!s.what n || t.what n)) = true; rw [whatN_all s t h n, h n]; rfl
theorem covN_none (M : Im) (f g : Nat → Rg) (h : ∀ i, (f i).kind = 0) : ∀ n, covN M f g n = (true, M)
  | 0 => rfl
  | n + 1 => by
    show (if (covN M f g n).1 = true then cov (covN M f g n).2 (f n) (g n) else _) = _
    rw [covN_none M f g h n, if_pos rfl]; unfold cov; rw [if_pos (h n)]
theorem cov_start (M : Im) (k : Int) (h6 : k ≠ 6) (h1 : k ≠ 1) : cov M { zr with kind := k } { zr with kind := k } = (true, M) := by
  unfold cov
  by_cases h0 : k = 0
  · rw [if_pos h0]
  · rw [if_neg h0, if_neg (by simp), if_neg h1]
    by_cases h4 : k = 4
    · rw [if_pos h4]; simp
    · rw [if_neg h4, if_neg h6]; simp
theorem two_covers (sl x y z : Int) : covers (two sl x y) (two sl y z) = (!(x == y) || (y == z)) := by
  have hc : (covN (fun _ => none) (two sl x y).r (two sl y z).r 11).1 = (!(x == y) || (y == z)) := by
    by_cases h : y = x
    · subst h
      by_cases h2 : y = z
      · subst h2; simp [covN, cov, may, two, start, mreg, upd, zr]
      · simp [covN, cov, may, two, start, mreg, upd, zr, h2]
    · have h' : ¬ x = y := fun e => h e.symm
      simp [covN, cov, may, two, start, mreg, upd, zr, h, h']
  unfold covers
  rw [hc, covN_none _ _ _ (fun i => rfl), whatN_all _ _ (fun i => rfl)]
  simp
theorem stR_r (s : St) (id : Int) (c : Bool) (i : Nat) : ∀ j, (stR s id c j).r i = if i < j then setl (s.r i) id c else s.r i
  | 0 => by rw [if_neg (by omega)]; rfl
  | j + 1 => by
    show upd (stR s id c j).r j (setl (s.r j) id c) i = _
    unfold upd
    by_cases e : i = j
    · subst e; rw [if_pos rfl, if_pos (by omega)]
    · rw [if_neg e, stR_r s id c i j]
      by_cases h : i < j
      · rw [if_pos h, if_pos (by omega)]
      · rw [if_neg h, if_neg (by omega)]
theorem mark_parts (s : St) (f : Nat) (b : Bool) : ∀ n, (∀ i, (mark s f b n).what i = if f ≤ i ∧ i < f + n then b else s.what i) ∧ (mark s f b n).kept = s.kept ∧ (mark s f b n).r = s.r
  | 0 => ⟨fun i => by rw [if_neg (by omega)]; rfl, rfl, rfl⟩
  | n + 1 => by
    obtain ⟨h1, h2, h3⟩ := mark_parts s f b n
    refine ⟨fun i => ?_, h2, h3⟩
    show upd (mark s f b n).what (f + n) b i = _
    unfold upd
    by_cases e : i = f + n
    · rw [if_pos e, if_pos (by omega)]
    · rw [if_neg e, h1]
      by_cases h : f ≤ i ∧ i < f + n
      · rw [if_pos h, if_pos (by omega)]
      · rw [if_neg h, if_neg (by omega)]
theorem stR_what (s : St) (id : Int) (c : Bool) : ∀ j, (stR s id c j).what = s.what
  | 0 => rfl
  | j + 1 => stR_what s id c j
theorem stK_r (s : St) (id : Int) (c : Bool) : ∀ j, (stK s id c j).r = (stR s id c 11).r
  | 0 => rfl
  | j + 1 => by
    show (if _ then _ else _ : St).r = _
    split
    · rw [(mark_parts _ _ _ _).2.2]; exact stK_r s id c j
    · exact stK_r s id c j
theorem stK_kept (s : St) (id : Int) (c : Bool) (i : Nat) : ∀ j, (stK s id c j).kept i = if i < j then (if ((setl (s.kept i) id c).kind == 1) = true then zr else setl (s.kept i) id c) else s.kept i
  | 0 => by rw [if_neg (by omega)]; show (stR s id c 11).kept i = _; rw [stR_kept]
  | j + 1 => by
    have ih := stK_kept s id c i j
    by_cases e : i = j
    · subst e
      rw [if_pos (show i < i + 1 by omega)]
      show (if ((setl (s.kept i) id c).kind == 1) = true then _ else _ : St).kept i = _
      by_cases hh : ((setl (s.kept i) id c).kind == 1) = true
      · rw [if_pos hh, if_pos hh, (mark_parts _ _ _ _).2.1]; simp [upd]
      · rw [if_neg hh, if_neg hh]; simp [upd]
    · have hk : (stK s id c (j + 1)).kept i = (stK s id c j).kept i := by
        show (if _ then _ else _ : St).kept i = _
        split
        · rw [(mark_parts _ _ _ _).2.1]; simp [upd, e]
        · simp [upd, e]
      rw [hk, ih]
      by_cases h : i < j
      · rw [if_pos h, if_pos (show i < j + 1 by omega)]
      · rw [if_neg h, if_neg (show ¬ i < j + 1 by omega)]
theorem stK_what (s : St) (id : Int) (c : Bool) (i : Nat) (k : Nat) (hk : ((setl (s.kept k) id c).kind == 1) = true) (hi : 8 * k ≤ i ∧ i < 8 * k + 8) : ∀ j, k < j → (stK s id c j).what i = true
  | 0, h => absurd h (by omega)
  | j + 1, h => by
    show (if _ then _ else _ : St).what i = true
    by_cases e : k = j
    · subst e
      rw [if_pos hk, (mark_parts _ _ _ _).1, if_pos hi]
    · have ih := stK_what s id c i k hk hi j (by omega)
      split
      · rw [(mark_parts _ _ _ _).1]
        split
        · rfl
        · exact ih
      · exact ih
theorem set_c (sl x y : Int) : let u := settleS (three sl x y) x true
    u.r 0 = { zr with kind := 5, slot := sl } ∧ (u.r 6).kind = (if x = y then 5 else 6) ∧ u.r 1 = { zr with kind := 2 } ∧ load u (-48) 8 = ({ zr with kind := 5, slot := sl }, true) := by
  intro u
  have hr : ∀ i, u.r i = if i < 11 then setl ((two sl x y).r i) x true else (two sl x y).r i := fun i => by show (stK _ _ _ 8).r i = _; rw [stK_r, stR_r]; rfl
  have hk : u.kept 2 = { zr with kind := 5, slot := sl } := by show (stK _ _ _ 8).kept 2 = _; rw [stK_kept]; simp [three, two, upd, mreg, setl, zr]
  refine ⟨?_, ?_, ?_, ?_⟩
  · rw [hr]; simp [two, upd, mreg, setl, zr]
  · rw [hr]
    by_cases e : x = y
    · simp [two, upd, mreg, setl, zr, e]
    · have e' : ¬ y = x := fun h => e h.symm
      simp [two, upd, mreg, setl, zr, e, e']
  · rw [hr]; simp [two, start, upd, mreg, setl, zr]
  · unfold load
    rw [if_neg (by decide), show ((-48 : Int) + 64).toNat / 8 = 2 from rfl, hk, if_pos ⟨rfl, by decide, show (5 : Int) ≠ 0 by decide⟩]
theorem set_n (sl x y : Int) : let u := settleS (three sl x y) x false
    u.r 0 = number (PlainScalar.const 0#64) ∧ (u.r 6).kind = (if x = y then 1 else 6) ∧ u.r 1 = { zr with kind := 2 } ∧ load u (-48) 8 = (number (PlainScalar.low PlainScalar.any 8), true) := by
  intro u
  have hr : ∀ i, u.r i = if i < 11 then setl ((two sl x y).r i) x false else (two sl x y).r i := fun i => by show (stK _ _ _ 8).r i = _; rw [stK_r, stR_r]; rfl
  have h1 : ((setl ((three sl x y).kept 2) x false).kind == 1) = true := by simp [three, two, upd, mreg, setl, zr, number]
  have hk : u.kept 2 = zr := by show (stK _ _ _ 8).kept 2 = _; rw [stK_kept, if_pos (by omega), if_pos h1]
  refine ⟨?_, ?_, ?_, ?_⟩
  · rw [hr]; simp [two, upd, mreg, setl, zr]
  · rw [hr]
    by_cases e : x = y
    · simp [two, upd, mreg, setl, zr, number, e]
    · have e' : ¬ y = x := fun h => e h.symm
      simp [two, upd, mreg, setl, zr, e, e']
  · rw [hr]; simp [two, start, upd, mreg, setl, zr]
  · unfold load
    have hrd : ready u (-48) 8 = true := by
      unfold ready
      rw [Bool.and_eq_true, readyN_iff]
      exact ⟨by decide, fun j hj => stK_what _ _ _ _ 2 h1 (by have : j < 8 := hj; show 8 * 2 ≤ 16 + j ∧ 16 + j < 8 * 2 + 8; omega) 8 (by omega)⟩
    rw [if_neg (by decide), show ((-48 : Int) + 64).toNat / 8 = 2 from rfl, hk, if_neg (fun g => g.2.2 rfl), hrd, if_neg (by decide)]
end PlainAbs
end Go.Proofs.Ytmghpoagpiljhab
