/- AbsregWords: for all places and sizes the law returns true, and its arguments read as before. No condition. -/
import Derived.Test.YtmghpoagpiljhabOpen
import Derived.Test.YtmghpoagpiljhabAbs7
import Derived.Test.YtmghpoagpiljhabMixR
set_option linter.unusedSimpArgs false
namespace Go.Proofs.Ytmghpoagpiljhab
open Go.ChangeShapes Go.WideShapes Go.ChangeAt Go.RowKit
open PlainTnum (N)
open PlainScalar (Rng)
open PlainAbs (Rg St zr zs upd)
set_option linter.unusedVariables false
theorem rem2_is (m : Nat) (h0 : 0 < m) (hm : m < 100) (k : Int) : ∃ n : Nat, n < m ∧ wrap64 ((IntKind.u64.wrap k).tmod m) = (n : Int) ∧ IntKind.i64.wrap ((IntKind.u64.wrap k).tmod m) = (n : Int) := by
  have h : 0 ≤ IntKind.u64.wrap k := by rw [wrap_u]; exact T_lo _
  obtain ⟨x, hx⟩ : ∃ x : Nat, IntKind.u64.wrap k = (x : Int) := ⟨_, (Int.toNat_of_nonneg h).symm⟩
  have hl := Nat.mod_lt x h0
  have e : (IntKind.u64.wrap k).tmod (m : Int) = ((x % m : Nat) : Int) := by rw [hx, Int.tmod_eq_emod_of_nonneg (by omega)]; exact (Int.natCast_emod _ _).symm
  refine ⟨x % m, hl, ?_, ?_⟩
  · rw [e]; exact IntWalk.wrap64_in _ (by constructor <;> omega)
  · rw [e]; exact IntWalk.i64_in _ (by constructor <;> omega)
namespace PlainAbs
def vreg : Rg := { zr with kind := 2, low := 3, high := 3 }
theorem mark_is (s : St) (f : Nat) (b : Bool) : ∀ j, (∀ i, (mark s f b j).what i = if f ≤ i ∧ i < f + j then b else s.what i) ∧ (mark s f b j).kept = s.kept ∧ (mark s f b j).r = s.r
  | 0 => ⟨fun i => by rw [if_neg (by omega)]; rfl, rfl, rfl⟩
  | j + 1 => by
    obtain ⟨h1, h2, h3⟩ := mark_is s f b j
    refine ⟨fun i => ?_, h2, h3⟩
    show upd (mark s f b j).what (f + j) b i = _
    unfold upd
    by_cases e : i = f + j
    · rw [if_pos e, if_pos (by omega)]
    · rw [if_neg e, h1]
      by_cases h : f ≤ i ∧ i < f + j
      · rw [if_pos h, if_pos (by omega)]
      · rw [if_neg h, if_neg (by omega)]
theorem clr_off {s : St} {k : Nat} (h : (s.kept k).kind = 0) : clr s k = s := by unfold clr; rw [if_pos h]
theorem clr_on {s : St} {k : Nat} (h : (s.kept k).kind ≠ 0) : clr s k = { s with kept := upd s.kept k zr, what := fun j => if j / 8 = k then false else s.what j } := by unfold clr; rw [if_neg h]
theorem clrN_off (s : St) (k : Nat) (h0 : ∀ i, i ≠ k → (s.kept i).kind = 0) (f : Nat) : ∀ n, (∀ i, i < n → (f + i) / 8 ≠ k) → clrN s f n = s
  | 0, _ => rfl
  | n + 1, h => by
    show clr (clrN s f n) ((f + n) / 8) = s
    rw [clrN_off s k h0 f n (fun i hi => h i (by omega))]
    exact clr_off (h0 _ (h n (by omega)))
theorem clrN_on (s : St) (k : Nat) (h0 : ∀ i, i ≠ k → (s.kept i).kind = 0) (hk : (s.kept k).kind ≠ 0) (f : Nat) : ∀ n, (∃ i, i < n ∧ (f + i) / 8 = k) → clrN s f n = { s with kept := upd s.kept k zr, what := fun j => if j / 8 = k then false else s.what j }
  | 0, ⟨i, hi, _⟩ => absurd hi (by omega)
  | n + 1, ⟨i, hi, e⟩ => by
    show clr (clrN s f n) ((f + n) / 8) = _
    by_cases hh : ∃ i, i < n ∧ (f + i) / 8 = k
    · rw [clrN_on s k h0 hk f n hh]
      refine clr_off ?_
      show (upd s.kept k zr ((f + n) / 8)).kind = 0
      unfold upd
      by_cases e2 : (f + n) / 8 = k
      · rw [if_pos e2]; rfl
      · rw [if_neg e2]; exact h0 _ e2
    · have e3 : (f + n) / 8 = k := by
        by_cases e4 : i = n
        · rw [← e4]; exact e
        · exact absurd ⟨i, by omega, e⟩ hh
      rw [clrN_off s k h0 f n (fun i hi e5 => hh ⟨i, hi, e5⟩), e3]
      exact clr_on hk
/-- The state in which a value was saved in word k. -/
def wst (k : Nat) : St := (save start ((8 * k : Nat) - 64 : Int) 8 vreg).1
theorem wst_ok {k : Nat} (hk : k < 8) : (save start ((8 * k : Nat) - 64 : Int) 8 vreg).2 = true := by
  unfold save; rw [if_pos (by unfold saveOk sized firstOk vreg; simp; omega)]
theorem wst_is {k : Nat} (hk : k < 8) : (∀ i, (wst k).what i = false) ∧ (∀ i, i ≠ k → ((wst k).kept i) = zr) ∧ (wst k).kept k = vreg := by
  have e : wst k = { mark start (8 * k) false 8 with kept := upd (mark start (8 * k) false 8).kept k vreg } := by
    unfold wst save; rw [if_pos (by unfold saveOk sized firstOk vreg; simp; omega)]
    unfold saved
    rw [show (((8 * k : Nat) : Int) - 64 + 64).toNat = 8 * k by omega, show (8 : Int).toNat = 8 from rfl, clrN_off start 9 (fun _ _ => rfl) (8 * k) 8 (fun i hi => by omega), show decide (vreg.kind = 1) = false from rfl]
    simp only []
    rw [if_neg (show ¬ vreg.kind = 1 from by decide), show 8 * k / 8 = k by omega]
  obtain ⟨h1, h2, _⟩ := mark_is start (8 * k) false 8
  rw [e]
  refine ⟨fun i => ?_, fun i hi => ?_, ?_⟩
  · show (mark start (8 * k) false 8).what i = false
    rw [h1]; split <;> rfl
  · show upd (mark start (8 * k) false 8).kept k vreg i = zr
    unfold upd; rw [if_neg hi, h2]; rfl
  · show upd (mark start (8 * k) false 8).kept k vreg k = vreg
    unfold upd; rw [if_pos rfl]
/-- The state behind a number's writing. -/
def wst2 (k b n : Nat) : St := (save (wst k) ((b : Int) - 64) (n : Int) (number (PlainScalar.const 1#64))).1
theorem wst2_ok {k b n : Nat} (hb : b < 64) (hn : n = 1 ∨ n = 2 ∨ n = 4 ∨ n = 8) : (save (wst k) ((b : Int) - 64) (n : Int) (number (PlainScalar.const 1#64))).2 = decide (b + n ≤ 64) := by
  have e : saveOk ((b : Int) - 64) (n : Int) (number (PlainScalar.const 1#64)) = decide (b + n ≤ 64) := by
    unfold saveOk sized firstOk number; simp; rw [Bool.eq_iff_iff]; simp; omega
  unfold save; rw [e]
  cases h : decide (b + n ≤ 64) <;> simp
theorem wst2_no {k b n : Nat} (h : ¬ b + n ≤ 64) : wst2 k b n = wst k := by
  unfold wst2 save
  rw [if_neg (by unfold saveOk sized firstOk number; simp; omega)]
theorem wst2_off {k b n : Nat} (hk : k < 8) (hn : n = 1 ∨ n = 2 ∨ n = 4 ∨ n = 8) (h : b + n ≤ 64) (ho : 8 * k + 8 ≤ b ∨ b + n ≤ 8 * k) : (wst2 k b n).kept k = vreg := by
  obtain ⟨h1, h2, h3⟩ := wst_is hk
  unfold wst2 save
  rw [if_pos (by unfold saveOk sized firstOk number; simp; omega)]
  unfold saved
  simp only []
  rw [if_pos (show (number (PlainScalar.const 1#64)).kind = 1 from rfl), (mark_is _ _ _ _).2.1, show ((b : Int) - 64 + 64).toNat = b by omega, show ((n : Int)).toNat = n by omega, clrN_off (wst k) k (fun i hi => by rw [h2 i hi]; rfl) b n (fun i hi => by omega)]
  exact h3
theorem wst2_on {k b n : Nat} (hk : k < 8) (hn : n = 1 ∨ n = 2 ∨ n = 4 ∨ n = 8) (h : b + n ≤ 64) (ho : b < 8 * k + 8) (ho2 : 8 * k < b + n) : (wst2 k b n).kept k = zr ∧ ∀ i, i / 8 = k → (wst2 k b n).what i = (decide (b ≤ i) && decide (i < b + n)) := by
  obtain ⟨h1, h2, h3⟩ := wst_is hk
  unfold wst2 save
  rw [if_pos (by unfold saveOk sized firstOk number; simp; omega)]
  unfold saved
  simp only []
  rw [if_pos (show (number (PlainScalar.const 1#64)).kind = 1 from rfl), (mark_is _ _ _ _).2.1, show ((b : Int) - 64 + 64).toNat = b by omega, show ((n : Int)).toNat = n by omega, clrN_on (wst k) k (fun i hi => by rw [h2 i hi]; rfl) (by rw [h3]; decide) b n (by
    by_cases g : 8 * k ≤ b
    · exact ⟨0, by omega, by omega⟩
    · exact ⟨8 * k - b, by omega, by omega⟩)]
  refine ⟨by show upd _ k zr k = zr; unfold upd; rw [if_pos rfl], fun i hi => ?_⟩
  rw [(mark_is _ _ _ _).1]
  show (if b ≤ i ∧ i < b + n then decide ((number (PlainScalar.const 1#64)).kind = 1) else (if i / 8 = k then false else _)) = _
  rw [if_pos hi]
  by_cases g : b ≤ i ∧ i < b + n
  · rw [if_pos g]; simp [g.1, g.2, number]
  · rw [if_neg g, eq_comm, ← Bool.not_eq_true]; simp; omega
theorem wload_keep (s : St) {k : Nat} (hk : k < 8) (h : s.kept k = vreg) : load s ((8 * k : Nat) - 64 : Int) 8 = (vreg, true) := by
  unfold load
  rw [if_neg (by unfold sized firstOk; simp; omega), show (((8 * k : Nat) : Int) - 64 + 64).toNat / 8 = k by omega, if_pos ⟨rfl, by omega, by rw [h]; decide⟩, h]
theorem wload_on {k b n : Nat} (hk : k < 8) (hn : n = 1 ∨ n = 2 ∨ n = 4 ∨ n = 8) (h : b + n ≤ 64) (ho : b < 8 * k + 8) (ho2 : 8 * k < b + n) : load (wst2 k b n) ((8 * k : Nat) - 64 : Int) 8 = if n = 8 ∧ b = 8 * k then (number (PlainScalar.low PlainScalar.any 8), true) else (zr, false) := by
  obtain ⟨h1, h2⟩ := wst2_on hk hn h ho ho2
  unfold load
  rw [if_neg (by unfold sized firstOk; simp; omega), show (((8 * k : Nat) : Int) - 64 + 64).toNat / 8 = k by omega, if_neg (by rw [h1]; intro g; exact g.2.2 rfl)]
  have e : ready (wst2 k b n) ((8 * k : Nat) - 64 : Int) 8 = decide (n = 8 ∧ b = 8 * k) := by
    rw [Bool.eq_iff_iff]
    unfold ready
    rw [show (((8 * k : Nat) : Int) - 64 + 64).toNat = 8 * k by omega, show (8 : Int).toNat = 8 from rfl, Bool.and_eq_true, readyN_iff, decide_eq_true_iff]
    constructor
    · rintro ⟨_, g⟩
      have a1 := g 0 (by omega); have a2 := g 7 (by omega)
      rw [h2 _ (by omega)] at a1 a2
      simp at a1 a2; omega
    · rintro ⟨rfl, rfl⟩
      refine ⟨by unfold firstOk; simp; omega, fun j hj => ?_⟩
      rw [h2 _ (by omega)]; simp; omega
  rw [e]
  by_cases g : n = 8 ∧ b = 8 * k
  · rw [if_pos g, if_neg (by simp [g])]
  · rw [if_neg g, if_pos (by simpa using g)]
end PlainAbs
open PlainAbs (vreg wst wst2)
theorem words_n_f (k b n q e : Nat) (hk : k < 8) (hb : b < 64) (hn : n = 1 ∨ n = 2 ∨ n = 4 ∨ n = 8) (hbn : ¬ b + n ≤ 64) (he : e = b + n) (hq : q = 8 * k) : (decide (e ≤ 64) = false) ∧ (decide ((e : Int) ≤ 64) = false) ∧ (IntKind.i64.wrap (8 * (k : Int)) = (q : Int)) ∧ (IntKind.i64.wrap ((q : Int) - 64) = (q : Int) - 64) ∧ (IntKind.i64.wrap ((b : Int) - 64) = (b : Int) - 64) ∧ (IntKind.i64.wrap ((b : Int) + (n : Int)) = (e : Int)) ∧ (wrap64 (8 * (k : Int)) = (q : Int)) ∧ (wrap64 ((q : Int) - 64) = (q : Int) - 64) ∧ (wrap64 ((b : Int) - 64) = (b : Int) - 64) ∧ (wrap64 ((b : Int) + (n : Int)) = (e : Int)) := by
  refine ⟨?_, ?_, ?_, ?_, ?_, ?_, ?_, ?_, ?_, ?_⟩ <;> first | omega | (rw [IntWalk.i64_in _ (by constructor <;> omega)]; omega) | (rw [IntWalk.wrap64_in _ (by constructor <;> omega)]; omega) | (rw [IntWalk.i64_in _ (by constructor <;> omega)]) | (rw [IntWalk.wrap64_in _ (by constructor <;> omega)]) | (simp <;> omega)
theorem words_a_f (k b n q e : Nat) (hk : k < 8) (hb : b < 64) (hn : n = 1 ∨ n = 2 ∨ n = 4 ∨ n = 8) (hbn : b + n ≤ 64) (hov : 8 * k + 8 ≤ b) (he : e = b + n) (hq : q = 8 * k) : (decide (e ≤ 64) = true) ∧ (decide ((e : Int) ≤ 64) = true) ∧ (wrap64 ((q : Int) + 8) = (q : Int) + 8) ∧ (decide (b < q + 8) = false) ∧ (decide ((b : Int) < (q : Int) + 8) = false) ∧ (IntKind.i64.wrap (8 * (k : Int)) = (q : Int)) ∧ (IntKind.i64.wrap ((q : Int) - 64) = (q : Int) - 64) ∧ (IntKind.i64.wrap ((b : Int) - 64) = (b : Int) - 64) ∧ (IntKind.i64.wrap ((b : Int) + (n : Int)) = (e : Int)) ∧ (wrap64 (8 * (k : Int)) = (q : Int)) ∧ (wrap64 ((q : Int) - 64) = (q : Int) - 64) ∧ (wrap64 ((b : Int) - 64) = (b : Int) - 64) ∧ (wrap64 ((b : Int) + (n : Int)) = (e : Int)) := by
  refine ⟨?_, ?_, ?_, ?_, ?_, ?_, ?_, ?_, ?_, ?_, ?_, ?_, ?_⟩ <;> first | omega | (rw [IntWalk.i64_in _ (by constructor <;> omega)]; omega) | (rw [IntWalk.wrap64_in _ (by constructor <;> omega)]; omega) | (rw [IntWalk.i64_in _ (by constructor <;> omega)]) | (rw [IntWalk.wrap64_in _ (by constructor <;> omega)]) | (simp <;> omega)
theorem words_b_f (k b n q e : Nat) (hk : k < 8) (hb : b < 64) (hn : n = 1 ∨ n = 2 ∨ n = 4 ∨ n = 8) (hbn : b + n ≤ 64) (hov : b < 8 * k + 8) (ho2 : b + n ≤ 8 * k) (he : e = b + n) (hq : q = 8 * k) : (decide (e ≤ 64) = true) ∧ (decide ((e : Int) ≤ 64) = true) ∧ (wrap64 ((q : Int) + 8) = (q : Int) + 8) ∧ (decide (b < q + 8) = true) ∧ (decide ((b : Int) < (q : Int) + 8) = true) ∧ (decide (q < e) = false) ∧ (decide ((q : Int) < (e : Int)) = false) ∧ (IntKind.i64.wrap (8 * (k : Int)) = (q : Int)) ∧ (IntKind.i64.wrap ((q : Int) - 64) = (q : Int) - 64) ∧ (IntKind.i64.wrap ((b : Int) - 64) = (b : Int) - 64) ∧ (IntKind.i64.wrap ((b : Int) + (n : Int)) = (e : Int)) ∧ (wrap64 (8 * (k : Int)) = (q : Int)) ∧ (wrap64 ((q : Int) - 64) = (q : Int) - 64) ∧ (wrap64 ((b : Int) - 64) = (b : Int) - 64) ∧ (wrap64 ((b : Int) + (n : Int)) = (e : Int)) := by
  refine ⟨?_, ?_, ?_, ?_, ?_, ?_, ?_, ?_, ?_, ?_, ?_, ?_, ?_, ?_, ?_⟩ <;> first | omega | (rw [IntWalk.i64_in _ (by constructor <;> omega)]; omega) | (rw [IntWalk.wrap64_in _ (by constructor <;> omega)]; omega) | (rw [IntWalk.i64_in _ (by constructor <;> omega)]) | (rw [IntWalk.wrap64_in _ (by constructor <;> omega)]) | (simp <;> omega)
theorem words_c_f (k b n q e : Nat) (hk : k < 8) (hb : b < 64) (hn : n = 1 ∨ n = 2 ∨ n = 4 ∨ n = 8) (hbn : b + n ≤ 64) (hov : b < 8 * k + 8) (ho2 : 8 * k < b + n) (h8 : n = 8) (hbk : b = 8 * k) (he : e = b + n) (hq : q = 8 * k) : (decide (e ≤ 64) = true) ∧ (decide ((e : Int) ≤ 64) = true) ∧ (wrap64 ((b : Int) + 8) = (b : Int) + 8) ∧ (decide (b < b + 8) = true) ∧ (decide ((b : Int) < (b : Int) + 8) = true) ∧ (decide (b < e) = true) ∧ (decide ((b : Int) < (e : Int)) = true) ∧ (((n : Int) == 8) = true) ∧ (IntKind.i64.wrap (8 * (k : Int)) = (b : Int)) ∧ (IntKind.i64.wrap ((b : Int) - 64) = (b : Int) - 64) ∧ (IntKind.i64.wrap ((b : Int) - 64) = (b : Int) - 64) ∧ (IntKind.i64.wrap ((b : Int) + (n : Int)) = (e : Int)) ∧ (wrap64 (8 * (k : Int)) = (b : Int)) ∧ (wrap64 ((b : Int) - 64) = (b : Int) - 64) ∧ (wrap64 ((b : Int) - 64) = (b : Int) - 64) ∧ (wrap64 ((b : Int) + (n : Int)) = (e : Int)) := by
  refine ⟨?_, ?_, ?_, ?_, ?_, ?_, ?_, ?_, ?_, ?_, ?_, ?_, ?_, ?_, ?_, ?_⟩ <;> first | omega | (rw [IntWalk.i64_in _ (by constructor <;> omega)]; omega) | (rw [IntWalk.wrap64_in _ (by constructor <;> omega)]; omega) | (rw [IntWalk.i64_in _ (by constructor <;> omega)]) | (rw [IntWalk.wrap64_in _ (by constructor <;> omega)]) | (simp <;> omega)
theorem words_d_f (k b n q e : Nat) (hk : k < 8) (hb : b < 64) (hn : n = 1 ∨ n = 2 ∨ n = 4 ∨ n = 8) (hbn : b + n ≤ 64) (hov : b < 8 * k + 8) (ho2 : 8 * k < b + n) (h8 : ¬ n = 8) (he : e = b + n) (hq : q = 8 * k) : (decide (e ≤ 64) = true) ∧ (decide ((e : Int) ≤ 64) = true) ∧ (wrap64 ((q : Int) + 8) = (q : Int) + 8) ∧ (decide (b < q + 8) = true) ∧ (decide ((b : Int) < (q : Int) + 8) = true) ∧ (decide (q < e) = true) ∧ (decide ((q : Int) < (e : Int)) = true) ∧ (((n : Int) == 8) = false) ∧ (IntKind.i64.wrap (8 * (k : Int)) = (q : Int)) ∧ (IntKind.i64.wrap ((q : Int) - 64) = (q : Int) - 64) ∧ (IntKind.i64.wrap ((b : Int) - 64) = (b : Int) - 64) ∧ (IntKind.i64.wrap ((b : Int) + (n : Int)) = (e : Int)) ∧ (wrap64 (8 * (k : Int)) = (q : Int)) ∧ (wrap64 ((q : Int) - 64) = (q : Int) - 64) ∧ (wrap64 ((b : Int) - 64) = (b : Int) - 64) ∧ (wrap64 ((b : Int) + (n : Int)) = (e : Int)) := by
  refine ⟨?_, ?_, ?_, ?_, ?_, ?_, ?_, ?_, ?_, ?_, ?_, ?_, ?_, ?_, ?_, ?_⟩ <;> first | omega | (rw [IntWalk.i64_in _ (by constructor <;> omega)]; omega) | (rw [IntWalk.wrap64_in _ (by constructor <;> omega)]; omega) | (rw [IntWalk.i64_in _ (by constructor <;> omega)]) | (rw [IntWalk.wrap64_in _ (by constructor <;> omega)]) | (simp <;> omega)
theorem words_e_f (k b n q e : Nat) (hk : k < 8) (hb : b < 64) (hn : n = 1 ∨ n = 2 ∨ n = 4 ∨ n = 8) (hbn : b + n ≤ 64) (hov : b < 8 * k + 8) (ho2 : 8 * k < b + n) (h8 : n = 8) (hbk : ¬ b = 8 * k) (he : e = b + n) (hq : q = 8 * k) : (decide (e ≤ 64) = true) ∧ (decide ((e : Int) ≤ 64) = true) ∧ (wrap64 ((q : Int) + 8) = (q : Int) + 8) ∧ (decide (b < q + 8) = true) ∧ (decide ((b : Int) < (q : Int) + 8) = true) ∧ (decide (q < e) = true) ∧ (decide ((q : Int) < (e : Int)) = true) ∧ (((n : Int) == 8) = true) ∧ (((b : Int) == (q : Int)) = false) ∧ ((b == q) = false) ∧ (IntKind.i64.wrap (8 * (k : Int)) = (q : Int)) ∧ (IntKind.i64.wrap ((q : Int) - 64) = (q : Int) - 64) ∧ (IntKind.i64.wrap ((b : Int) - 64) = (b : Int) - 64) ∧ (IntKind.i64.wrap ((b : Int) + (n : Int)) = (e : Int)) ∧ (wrap64 (8 * (k : Int)) = (q : Int)) ∧ (wrap64 ((q : Int) - 64) = (q : Int) - 64) ∧ (wrap64 ((b : Int) - 64) = (b : Int) - 64) ∧ (wrap64 ((b : Int) + (n : Int)) = (e : Int)) := by
  refine ⟨?_, ?_, ?_, ?_, ?_, ?_, ?_, ?_, ?_, ?_, ?_, ?_, ?_, ?_, ?_, ?_, ?_, ?_⟩ <;> first | omega | (rw [IntWalk.i64_in _ (by constructor <;> omega)]; omega) | (rw [IntWalk.wrap64_in _ (by constructor <;> omega)]; omega) | (rw [IntWalk.i64_in _ (by constructor <;> omega)]) | (rw [IntWalk.wrap64_in _ (by constructor <;> omega)]) | (simp <;> omega)
set_option maxRecDepth 100000 in
set_option maxHeartbeats 3200000 in
theorem words_n (x y z : Int) (k b n m : Nat) (hk : k < 8) (hb : b < 64) (hm : m < 4) (hn : n = 1 ∨ n = 2 ∨ n = 4 ∨ n = 8) (hnv : (#[.int .i64 1, .int .i64 2, .int .i64 4, .int .i64 8] : Array Value)[m]? = some (.int .i64 (n : Int))) (rx : wrap64 ((IntKind.u64.wrap x).tmod 8) = (k : Int)) (ry : wrap64 ((IntKind.u64.wrap y).tmod 64) = (b : Int)) (rz : wrap64 ((IntKind.u64.wrap z).tmod 4) = (m : Int)) (hbn : ¬ b + n ≤ 64) (w : World) : Calls Try.prog 3 #[.int .i64 x, .int .i64 y, .int .i64 z] w fun e w' => e = .returned (.bool true) ∧ Below w.heap.size w w' := by
  have hok1 := PlainAbs.wst_ok hk
  have k_s1 : ∀ w : World, Calls Try.prog 15 #[.agg (stv PlainAbs.start), .int .i64 (((8 * k : Nat) : Int) - 64), .int .i64 8, .agg #[.int .i64 2, .int .u64 0, .int .u64 0, .int .u64 0, .int .u64 0, .int .i64 0, .int .i64 0, .int .i64 0, .int .i64 0, .int .i64 3, .int .i64 3]] w fun e w' => e = .returned (.tuple #[.agg (stv (wst k)), .bool true]) ∧ Below w.heap.size w w' := fun w => by have h := save_c PlainAbs.start (((8 * k : Nat) : Int) - 64) 8 vreg w; rw [hok1] at h; exact h
  have hok2 := PlainAbs.wst2_ok (k := k) hb hn
  rw [show decide (b + n ≤ 64) = false by simpa using hbn] at hok2
  have k_s2 : ∀ w : World, Calls Try.prog 15 #[.agg (stv (wst k)), .int .i64 ((b : Int) - 64), .int .i64 (n : Int), gv (PlainAbs.number (PlainScalar.const 1#64))] w fun e w' => e = .returned (.tuple #[.agg (stv (wst2 k b n)), .bool false]) ∧ Below w.heap.size w w' := fun w => by have h := save_c (wst k) ((b : Int) - 64) (n : Int) (PlainAbs.number (PlainScalar.const 1#64)) w; rw [hok2] at h; exact h
  have k_n : ∀ w : World, Calls Try.prog 17 #[.int .u64 1] w fun e w' => e = .returned (gv (PlainAbs.number (PlainScalar.const 1#64))) ∧ Below w.heap.size w w' := number_c 1#64
  have hld : PlainAbs.load (wst2 k b n) (((8 * k : Nat) : Int) - 64) 8 = (vreg, true) := by rw [PlainAbs.wst2_no hbn]; exact PlainAbs.wload_keep _ hk (PlainAbs.wst_is hk).2.2
  have k_l : ∀ w : World, Calls Try.prog 19 #[.agg (stv (wst2 k b n)), .int .i64 (((8 * k : Nat) : Int) - 64), .int .i64 8] w fun e w' => e = .returned (.tuple #[.agg #[.int .i64 2, .int .u64 0, .int .u64 0, .int .u64 0, .int .u64 0, .int .i64 0, .int .i64 0, .int .i64 0, .int .i64 0, .int .i64 3, .int .i64 3], .bool true]) ∧ Below w.heap.size w w' := fun w => by have h := load_c (wst2 k b n) (((8 * k : Nat) : Int) - 64) 8 w; rw [hld] at h; exact h
  generalize PlainAbs.number (PlainScalar.const 1#64) = n1 at k_n k_s2
  have hst := start_c
  obtain ⟨q, hq⟩ : ∃ q, q = 8 * k := ⟨_, rfl⟩
  rw [← hq] at k_s1 k_l
  obtain ⟨e, he⟩ : ∃ e, e = b + n := ⟨_, rfl⟩
  have hmi : (m : Int) < 4 := Int.ofNat_lt.2 hm
  have hnl : ([.int .i64 1, .int .i64 2, .int .i64 4, .int .i64 8] : List Value)[m]'(by simpa using hm) = .int .i64 (n : Int) := (Array.getElem?_eq_some_iff.1 hnv).2
  clear hok1 hok2 hld
  generalize wst2 k b n = T2 at k_s2 k_l; generalize wst k = T1 at k_s1 k_s2; generalize PlainAbs.start = S0 at hst k_s1
  have Xhbn := Lib.hid hbn
  have Xhk := Lib.hid hk
  have Xhb := Lib.hid hb
  obtain ⟨ye1, ye1i, yh8kw, yh8k2w, yhb2w, yhbn2w, yh8kv, yh8k2v, yhb2v, yhbn2v⟩ := words_n_f k b n q e hk hb hn hbn he hq
  have Ze1 := Lib.hid ye1; clear ye1
  have Ze1i := Lib.hid ye1i; clear ye1i
  have Zh8kw := Lib.hid yh8kw; clear yh8kw
  have Zh8k2w := Lib.hid yh8k2w; clear yh8k2w
  have Zhb2w := Lib.hid yhb2w; clear yhb2w
  have Zhbn2w := Lib.hid yhbn2w; clear yhbn2w
  have Zh8kv := Lib.hid yh8kv; clear yh8kv
  have Zh8k2v := Lib.hid yh8k2v; clear yh8k2v
  have Zhb2v := Lib.hid yhb2v; clear yhb2v
  have Zhbn2v := Lib.hid yhbn2v; clear yhbn2v
  have h8k := Zh8kv.out; have h8k2 := Zh8k2v.out; have hb2 := Zhb2v.out; have hbn2 := Zhbn2v.out
  have HN := Lib.hid hn; have HE := Lib.hid he; have HQ := Lib.hid hq; have HL := Lib.hid hnl; clear hn he hq hnl hnv
  clear hbn hk hb
  go_enter Try.func3, Try.ntmps3
  go_upto_region 3 with fail
  have hB : Below w.heap.size w w := (Bl_refl w)
  have hnl := HL.out; rw [hnl]; clear hnl
  have Bl := Blk.new w 3 #[.int .i64 1, .int .i64 2, .int .i64 4, .int .i64 8]
  have hgl := hB.size
  replace hB : Below w.heap.size w (w.alloc (.cells #[.int .i64 1, .int .i64 2, .int .i64 4, .int .i64 8] 3)) := Bl_alloc hB _
  generalize (w.alloc (.cells #[.int .i64 1, .int .i64 2, .int .i64 4, .int .i64 8] 3)) = w2 at *
  have cl0 : w2.cell? ⟨w.heap.size, 0, none⟩ = some (.int .i64 1) := Bl.cell 0
  have cl1 : w2.cell? ⟨w.heap.size, 1, none⟩ = some (.int .i64 2) := Bl.cell 1
  have cl2 : w2.cell? ⟨w.heap.size, 2, none⟩ = some (.int .i64 4) := Bl.cell 2
  have cl3 : w2.cell? ⟨w.heap.size, 3, none⟩ = some (.int .i64 8) := Bl.cell 3
  have fl := Bl.frozen; have ll := Bl.lt
  clear cl0 cl1 cl2 cl3 fl ll
  clear Bl
  go_wp2_with fail
  have Bv := Blk.new w2 29 #[.int .i64 2, .int .u64 0, .int .u64 0, .int .u64 0, .int .u64 0, .int .i64 0, .int .i64 0, .int .i64 0, .int .i64 0, .int .i64 3, .int .i64 3]
  have hgv := hB.size
  replace hB : Below w.heap.size w (w2.alloc (.cells #[.int .i64 2, .int .u64 0, .int .u64 0, .int .u64 0, .int .u64 0, .int .i64 0, .int .i64 0, .int .i64 0, .int .i64 0, .int .i64 3, .int .i64 3] 29)) := Bl_alloc hB _
  generalize (w2.alloc (.cells #[.int .i64 2, .int .u64 0, .int .u64 0, .int .u64 0, .int .u64 0, .int .i64 0, .int .i64 0, .int .i64 0, .int .i64 0, .int .i64 3, .int .i64 3] 29)) = w3 at *
  generalize w2.heap.size = gv at *
  have cv0 : w3.cell? ⟨gv, 0, none⟩ = some (.int .i64 2) := Bv.cell 0
  have cv1 : w3.cell? ⟨gv, 1, none⟩ = some (.int .u64 0) := Bv.cell 1
  have cv2 : w3.cell? ⟨gv, 2, none⟩ = some (.int .u64 0) := Bv.cell 2
  have cv3 : w3.cell? ⟨gv, 3, none⟩ = some (.int .u64 0) := Bv.cell 3
  have cv4 : w3.cell? ⟨gv, 4, none⟩ = some (.int .u64 0) := Bv.cell 4
  have cv5 : w3.cell? ⟨gv, 5, none⟩ = some (.int .i64 0) := Bv.cell 5
  have cv6 : w3.cell? ⟨gv, 6, none⟩ = some (.int .i64 0) := Bv.cell 6
  have cv7 : w3.cell? ⟨gv, 7, none⟩ = some (.int .i64 0) := Bv.cell 7
  have cv8 : w3.cell? ⟨gv, 8, none⟩ = some (.int .i64 0) := Bv.cell 8
  have cv9 : w3.cell? ⟨gv, 9, none⟩ = some (.int .i64 3) := Bv.cell 9
  have cv10 : w3.cell? ⟨gv, 10, none⟩ = some (.int .i64 3) := Bv.cell 10
  have fv := Bv.frozen; have lv := Bv.lt
  have h8k' := Zh8kw.out; have h8k2' := Zh8k2w.out; have hb2' := Zhb2w.out; have hbn2' := Zhbn2w.out
  go_wp2_with fail
  replace cv0 : ∀ g : Later w3, g.w.cell? ⟨gv, 0, none⟩ = some (.int .i64 2) := fun g => g.cell (Bv.cell 0)
  replace cv1 : ∀ g : Later w3, g.w.cell? ⟨gv, 1, none⟩ = some (.int .u64 0) := fun g => g.cell (Bv.cell 1)
  replace cv2 : ∀ g : Later w3, g.w.cell? ⟨gv, 2, none⟩ = some (.int .u64 0) := fun g => g.cell (Bv.cell 2)
  replace cv3 : ∀ g : Later w3, g.w.cell? ⟨gv, 3, none⟩ = some (.int .u64 0) := fun g => g.cell (Bv.cell 3)
  replace cv4 : ∀ g : Later w3, g.w.cell? ⟨gv, 4, none⟩ = some (.int .u64 0) := fun g => g.cell (Bv.cell 4)
  replace cv5 : ∀ g : Later w3, g.w.cell? ⟨gv, 5, none⟩ = some (.int .i64 0) := fun g => g.cell (Bv.cell 5)
  replace cv6 : ∀ g : Later w3, g.w.cell? ⟨gv, 6, none⟩ = some (.int .i64 0) := fun g => g.cell (Bv.cell 6)
  replace cv7 : ∀ g : Later w3, g.w.cell? ⟨gv, 7, none⟩ = some (.int .i64 0) := fun g => g.cell (Bv.cell 7)
  replace cv8 : ∀ g : Later w3, g.w.cell? ⟨gv, 8, none⟩ = some (.int .i64 0) := fun g => g.cell (Bv.cell 8)
  replace cv9 : ∀ g : Later w3, g.w.cell? ⟨gv, 9, none⟩ = some (.int .i64 3) := fun g => g.cell (Bv.cell 9)
  replace cv10 : ∀ g : Later w3, g.w.cell? ⟨gv, 10, none⟩ = some (.int .i64 3) := fun g => g.cell (Bv.cell 10)
  refine wp_region_mixL 10 (fun k => k == 8) (fun _ => stv zs) (by kernel_rfl) (by kernel_rfl) (fun d _ _ _ _ h => by cases d <;> exact h) (fun o t ho ht => by
    simp at ho
    rcases ho with rfl | rfl | rfl | rfl | rfl | rfl | rfl | rfl | rfl | rfl <;> first | (cases ht; done) | (obtain rfl := Option.some.inj ht; exact fun ρ w => new_st ht ρ w)) ?_
  simp only [List.take_succ_cons, List.take_zero, List.drop_succ_cons, List.drop_zero]
  repeat (first | (refine wpMixL_row rfl 29 (.tmp 10) rfl (gv) rfl 29 #[.int .i64 2, .int .u64 0, .int .u64 0, .int .u64 0, .int .u64 0, .int .i64 0, .int .i64 0, .int .i64 0, .int .i64 0, .int .i64 3, .int .i64 3] _ Bv Try.underlying29 rfl (size_re _ _ _ _ _ _ _ _ _ _ _) rfl ?_) | ((with_reducible refine wpMixL_step (fun K hK => ?_)); go_simp; first | ((with_reducible refine hK _ ?_); clear hK K) | (rw [if_neg (by decide)]; (with_reducible refine hK _ ?_); clear hK K) | (apply Exists.intro; refine ⟨fun g => ?_, hK _ ?_⟩; ((with_reducible refine Calls.mono (hst g.w) ?_); exact fun _ _ h => h); clear hK K) | (apply Exists.intro; refine ⟨fun g => ?_, hK _ ?_⟩; ((with_reducible refine Calls.mono (k_s1 g.w) ?_); exact fun _ _ h => h); clear hK K)))
  refine wpMixL_nil ?_
  intro G w4 hgr hblk hdist
  have hb : Below w3.heap.size w3 w4 := hgr
  replace Bv := Bv.next hb
  obtain ⟨Bs, hls⟩ := hblk 9 _ rfl
  have hgs : w.heap.size ≤ G 9 := Nat.le_trans hB.size hls
  have hnvs : gv ≠ G 9 := Nat.ne_of_lt (Nat.lt_of_lt_of_le lv hls)
  clear hls
  clear cv0 cv1 cv2 cv3 cv4 cv5 cv6 cv7 cv8 cv9 cv10 fv lv
  replace hB : Below w.heap.size w w4 := Bl_trans hB hb
  simp only [putAll, isAlloc, Act.put]
  generalize G 9 = gs at *
  clear hb hgr hblk hdist
  have cv0 : w4.cell? ⟨gv, 0, none⟩ = some (.int .i64 2) := Bv.cell 0
  have cv1 : w4.cell? ⟨gv, 1, none⟩ = some (.int .u64 0) := Bv.cell 1
  have cv2 : w4.cell? ⟨gv, 2, none⟩ = some (.int .u64 0) := Bv.cell 2
  have cv3 : w4.cell? ⟨gv, 3, none⟩ = some (.int .u64 0) := Bv.cell 3
  have cv4 : w4.cell? ⟨gv, 4, none⟩ = some (.int .u64 0) := Bv.cell 4
  have cv5 : w4.cell? ⟨gv, 5, none⟩ = some (.int .i64 0) := Bv.cell 5
  have cv6 : w4.cell? ⟨gv, 6, none⟩ = some (.int .i64 0) := Bv.cell 6
  have cv7 : w4.cell? ⟨gv, 7, none⟩ = some (.int .i64 0) := Bv.cell 7
  have cv8 : w4.cell? ⟨gv, 8, none⟩ = some (.int .i64 0) := Bv.cell 8
  have cv9 : w4.cell? ⟨gv, 9, none⟩ = some (.int .i64 3) := Bv.cell 9
  have cv10 : w4.cell? ⟨gv, 10, none⟩ = some (.int .i64 3) := Bv.cell 10
  have fv := Bv.frozen; have lv := Bv.lt
  have fs := Bs.frozen; have ls := Bs.lt
  go_wp2_with (refine wpList_store_whole rfl 34 (.tmp 11) (.tmp 41) rfl (gs) (stv T1) rfl rfl 34 (stv zs) Bs (size_st T1) (by rw [stv_size, stv_size]) (stv_one T1) ?_)
  intro w5 hS
  clear cv0 cv1 cv2 cv3 cv4 cv5 cv6 cv7 cv8 cv9 cv10 fv lv
  clear  fs ls
  replace Bv := hS.far (by first | (simp; done) | (simp; omega) | (simp [*]; done) | (simp only [ne_eq]; constructor <;> omega)) Bv
  replace Bs : Blk w5 (gs) 34 (stv T1) := hS.blk
  replace hB := hS.bel hB (by first | omega | (simp; omega))
  clear hS
  have cv0 : w5.cell? ⟨gv, 0, none⟩ = some (.int .i64 2) := Bv.cell 0
  have cv1 : w5.cell? ⟨gv, 1, none⟩ = some (.int .u64 0) := Bv.cell 1
  have cv2 : w5.cell? ⟨gv, 2, none⟩ = some (.int .u64 0) := Bv.cell 2
  have cv3 : w5.cell? ⟨gv, 3, none⟩ = some (.int .u64 0) := Bv.cell 3
  have cv4 : w5.cell? ⟨gv, 4, none⟩ = some (.int .u64 0) := Bv.cell 4
  have cv5 : w5.cell? ⟨gv, 5, none⟩ = some (.int .i64 0) := Bv.cell 5
  have cv6 : w5.cell? ⟨gv, 6, none⟩ = some (.int .i64 0) := Bv.cell 6
  have cv7 : w5.cell? ⟨gv, 7, none⟩ = some (.int .i64 0) := Bv.cell 7
  have cv8 : w5.cell? ⟨gv, 8, none⟩ = some (.int .i64 0) := Bv.cell 8
  have cv9 : w5.cell? ⟨gv, 9, none⟩ = some (.int .i64 3) := Bv.cell 9
  have cv10 : w5.cell? ⟨gv, 10, none⟩ = some (.int .i64 3) := Bv.cell 10
  have fv := Bv.frozen; have lv := Bv.lt
  have fs := Bs.frozen; have ls := Bs.lt
  go_wp2_with fail
  replace cv0 : ∀ g : Later w5, g.w.cell? ⟨gv, 0, none⟩ = some (.int .i64 2) := fun g => g.cell (Bv.cell 0)
  replace cv1 : ∀ g : Later w5, g.w.cell? ⟨gv, 1, none⟩ = some (.int .u64 0) := fun g => g.cell (Bv.cell 1)
  replace cv2 : ∀ g : Later w5, g.w.cell? ⟨gv, 2, none⟩ = some (.int .u64 0) := fun g => g.cell (Bv.cell 2)
  replace cv3 : ∀ g : Later w5, g.w.cell? ⟨gv, 3, none⟩ = some (.int .u64 0) := fun g => g.cell (Bv.cell 3)
  replace cv4 : ∀ g : Later w5, g.w.cell? ⟨gv, 4, none⟩ = some (.int .u64 0) := fun g => g.cell (Bv.cell 4)
  replace cv5 : ∀ g : Later w5, g.w.cell? ⟨gv, 5, none⟩ = some (.int .i64 0) := fun g => g.cell (Bv.cell 5)
  replace cv6 : ∀ g : Later w5, g.w.cell? ⟨gv, 6, none⟩ = some (.int .i64 0) := fun g => g.cell (Bv.cell 6)
  replace cv7 : ∀ g : Later w5, g.w.cell? ⟨gv, 7, none⟩ = some (.int .i64 0) := fun g => g.cell (Bv.cell 7)
  replace cv8 : ∀ g : Later w5, g.w.cell? ⟨gv, 8, none⟩ = some (.int .i64 0) := fun g => g.cell (Bv.cell 8)
  replace cv9 : ∀ g : Later w5, g.w.cell? ⟨gv, 9, none⟩ = some (.int .i64 3) := fun g => g.cell (Bv.cell 9)
  replace cv10 : ∀ g : Later w5, g.w.cell? ⟨gv, 10, none⟩ = some (.int .i64 3) := fun g => g.cell (Bv.cell 10)
  refine wp_region_mixL 10 (fun k => k == 8) (fun _ => stv zs) (by kernel_rfl) (by kernel_rfl) (fun d _ _ _ _ h => by cases d <;> exact h) (fun o t ho ht => by
    simp at ho
    rcases ho with rfl | rfl | rfl | rfl | rfl | rfl | rfl | rfl | rfl | rfl <;> first | (cases ht; done) | (obtain rfl := Option.some.inj ht; exact fun ρ w => new_st ht ρ w)) ?_
  simp only [List.take_succ_cons, List.take_zero, List.drop_succ_cons, List.drop_zero]
  repeat (first | (refine wpMixL_row rfl 34 (.tmp 11) rfl (gs) rfl 34 (stv T1) _ Bs Try.underlying34 rfl (size_st _) rfl ?_) | ((with_reducible refine wpMixL_step (fun K hK => ?_)); go_simp; first | ((with_reducible refine hK _ ?_); clear hK K) | (rw [if_neg (by decide)]; (with_reducible refine hK _ ?_); clear hK K) | (apply Exists.intro; refine ⟨fun g => ?_, hK _ ?_⟩; ((with_reducible refine Calls.mono (k_n g.w) ?_); exact fun _ _ h => h); clear hK K) | (apply Exists.intro; refine ⟨fun g => ?_, hK _ ?_⟩; ((with_reducible refine Calls.mono (k_s2 g.w) ?_); exact fun _ _ h => h); clear hK K)))
  refine wpMixL_nil ?_
  intro G w6 hgr hblk hdist
  have hb : Below w5.heap.size w5 w6 := hgr
  replace Bv := Bv.next hb
  replace Bs := Bs.next hb
  obtain ⟨Bt, hlt⟩ := hblk 9 _ rfl
  have hgt : w.heap.size ≤ G 9 := Nat.le_trans hB.size hlt
  have hnvt : gv ≠ G 9 := Nat.ne_of_lt (Nat.lt_of_lt_of_le lv hlt)
  have hnst : gs ≠ G 9 := Nat.ne_of_lt (Nat.lt_of_lt_of_le ls hlt)
  clear hlt
  clear cv0 cv1 cv2 cv3 cv4 cv5 cv6 cv7 cv8 cv9 cv10 fv lv
  clear  fs ls
  replace hB : Below w.heap.size w w6 := Bl_trans hB hb
  simp only [putAll, isAlloc, Act.put]
  generalize G 9 = gt at *
  clear hb hgr hblk hdist
  have cv0 : w6.cell? ⟨gv, 0, none⟩ = some (.int .i64 2) := Bv.cell 0
  have cv1 : w6.cell? ⟨gv, 1, none⟩ = some (.int .u64 0) := Bv.cell 1
  have cv2 : w6.cell? ⟨gv, 2, none⟩ = some (.int .u64 0) := Bv.cell 2
  have cv3 : w6.cell? ⟨gv, 3, none⟩ = some (.int .u64 0) := Bv.cell 3
  have cv4 : w6.cell? ⟨gv, 4, none⟩ = some (.int .u64 0) := Bv.cell 4
  have cv5 : w6.cell? ⟨gv, 5, none⟩ = some (.int .i64 0) := Bv.cell 5
  have cv6 : w6.cell? ⟨gv, 6, none⟩ = some (.int .i64 0) := Bv.cell 6
  have cv7 : w6.cell? ⟨gv, 7, none⟩ = some (.int .i64 0) := Bv.cell 7
  have cv8 : w6.cell? ⟨gv, 8, none⟩ = some (.int .i64 0) := Bv.cell 8
  have cv9 : w6.cell? ⟨gv, 9, none⟩ = some (.int .i64 3) := Bv.cell 9
  have cv10 : w6.cell? ⟨gv, 10, none⟩ = some (.int .i64 3) := Bv.cell 10
  have fv := Bv.frozen; have lv := Bv.lt
  have fs := Bs.frozen; have ls := Bs.lt
  have ft := Bt.frozen; have lt := Bt.lt
  go_wp2_with (refine wpList_store_whole rfl 34 (.tmp 13) (.tmp 50) rfl (gt) (stv T2) rfl rfl 34 (stv zs) Bt (size_st T2) (by rw [stv_size, stv_size]) (stv_one T2) ?_)
  intro w7 hS
  clear cv0 cv1 cv2 cv3 cv4 cv5 cv6 cv7 cv8 cv9 cv10 fv lv
  clear  fs ls
  clear  ft lt
  replace Bv := hS.far (by first | (simp; done) | (simp; omega) | (simp [*]; done) | (simp only [ne_eq]; constructor <;> omega)) Bv
  replace Bs := hS.far (by first | (simp; done) | (simp; omega) | (simp [*]; done) | (simp only [ne_eq]; constructor <;> omega)) Bs
  replace Bt : Blk w7 (gt) 34 (stv T2) := hS.blk
  replace hB := hS.bel hB (by first | omega | (simp; omega))
  clear hS
  have cv0 : w7.cell? ⟨gv, 0, none⟩ = some (.int .i64 2) := Bv.cell 0
  have cv1 : w7.cell? ⟨gv, 1, none⟩ = some (.int .u64 0) := Bv.cell 1
  have cv2 : w7.cell? ⟨gv, 2, none⟩ = some (.int .u64 0) := Bv.cell 2
  have cv3 : w7.cell? ⟨gv, 3, none⟩ = some (.int .u64 0) := Bv.cell 3
  have cv4 : w7.cell? ⟨gv, 4, none⟩ = some (.int .u64 0) := Bv.cell 4
  have cv5 : w7.cell? ⟨gv, 5, none⟩ = some (.int .i64 0) := Bv.cell 5
  have cv6 : w7.cell? ⟨gv, 6, none⟩ = some (.int .i64 0) := Bv.cell 6
  have cv7 : w7.cell? ⟨gv, 7, none⟩ = some (.int .i64 0) := Bv.cell 7
  have cv8 : w7.cell? ⟨gv, 8, none⟩ = some (.int .i64 0) := Bv.cell 8
  have cv9 : w7.cell? ⟨gv, 9, none⟩ = some (.int .i64 3) := Bv.cell 9
  have cv10 : w7.cell? ⟨gv, 10, none⟩ = some (.int .i64 3) := Bv.cell 10
  have fv := Bv.frozen; have lv := Bv.lt
  have fs := Bs.frozen; have ls := Bs.lt
  have ft := Bt.frozen; have lt := Bt.lt
  have e1 := Ze1.out; have e1i := Ze1i.out
  go_wp2_with fail
  refine (saves_c _).mono ?_
  rintro e w8 ⟨rfl, hb⟩
  clear cv0 cv1 cv2 cv3 cv4 cv5 cv6 cv7 cv8 cv9 cv10 fv lv
  clear  fs ls
  clear  ft lt
  replace Bv := (Bv).next hb
  replace Bs := (Bs).next hb
  replace Bt := (Bt).next hb
  replace hB : Below w.heap.size w w8 := by repeat (first | exact hB | (refine Bl_set ?_ (by first | omega | (simp; omega)) _) | apply Bl_alloc | (refine Bl_trans ?_ hb))
  clear hb
  have cv0 : w8.cell? ⟨gv, 0, none⟩ = some (.int .i64 2) := Bv.cell 0
  have cv1 : w8.cell? ⟨gv, 1, none⟩ = some (.int .u64 0) := Bv.cell 1
  have cv2 : w8.cell? ⟨gv, 2, none⟩ = some (.int .u64 0) := Bv.cell 2
  have cv3 : w8.cell? ⟨gv, 3, none⟩ = some (.int .u64 0) := Bv.cell 3
  have cv4 : w8.cell? ⟨gv, 4, none⟩ = some (.int .u64 0) := Bv.cell 4
  have cv5 : w8.cell? ⟨gv, 5, none⟩ = some (.int .i64 0) := Bv.cell 5
  have cv6 : w8.cell? ⟨gv, 6, none⟩ = some (.int .i64 0) := Bv.cell 6
  have cv7 : w8.cell? ⟨gv, 7, none⟩ = some (.int .i64 0) := Bv.cell 7
  have cv8 : w8.cell? ⟨gv, 8, none⟩ = some (.int .i64 0) := Bv.cell 8
  have cv9 : w8.cell? ⟨gv, 9, none⟩ = some (.int .i64 3) := Bv.cell 9
  have cv10 : w8.cell? ⟨gv, 10, none⟩ = some (.int .i64 3) := Bv.cell 10
  have fv := Bv.frozen; have lv := Bv.lt
  have fs := Bs.frozen; have ls := Bs.lt
  have ft := Bt.frozen; have lt := Bt.lt
  go_wp2_with (refine wpList_load_whole rfl 34 (.tmp 13) rfl (gt) rfl 34 (stv T2) _ Bt Try.underlying34 rfl (size_st T2) ?_)
  refine (k_l _).mono ?_
  rintro e w9 ⟨rfl, hb⟩
  clear cv0 cv1 cv2 cv3 cv4 cv5 cv6 cv7 cv8 cv9 cv10 fv lv
  clear  fs ls
  clear  ft lt
  replace Bv := (Bv).next hb
  replace Bs := (Bs).next hb
  replace Bt := (Bt).next hb
  replace hB : Below w.heap.size w w9 := by repeat (first | exact hB | (refine Bl_set ?_ (by first | omega | (simp; omega)) _) | apply Bl_alloc | (refine Bl_trans ?_ hb))
  clear hb
  have cv0 : w9.cell? ⟨gv, 0, none⟩ = some (.int .i64 2) := Bv.cell 0
  have cv1 : w9.cell? ⟨gv, 1, none⟩ = some (.int .u64 0) := Bv.cell 1
  have cv2 : w9.cell? ⟨gv, 2, none⟩ = some (.int .u64 0) := Bv.cell 2
  have cv3 : w9.cell? ⟨gv, 3, none⟩ = some (.int .u64 0) := Bv.cell 3
  have cv4 : w9.cell? ⟨gv, 4, none⟩ = some (.int .u64 0) := Bv.cell 4
  have cv5 : w9.cell? ⟨gv, 5, none⟩ = some (.int .i64 0) := Bv.cell 5
  have cv6 : w9.cell? ⟨gv, 6, none⟩ = some (.int .i64 0) := Bv.cell 6
  have cv7 : w9.cell? ⟨gv, 7, none⟩ = some (.int .i64 0) := Bv.cell 7
  have cv8 : w9.cell? ⟨gv, 8, none⟩ = some (.int .i64 0) := Bv.cell 8
  have cv9 : w9.cell? ⟨gv, 9, none⟩ = some (.int .i64 3) := Bv.cell 9
  have cv10 : w9.cell? ⟨gv, 10, none⟩ = some (.int .i64 3) := Bv.cell 10
  have fv := Bv.frozen; have lv := Bv.lt
  have fs := Bs.frozen; have ls := Bs.lt
  have ft := Bt.frozen; have lt := Bt.lt
  go_upto_region 9 with fail
  clear cv0 cv1 cv2 cv3 cv4 cv5 cv6 cv7 cv8 cv9 cv10 fv lv
  clear  fs ls
  clear  ft lt
  have Br := Blk.new w9 29 #[.int .i64 2, .int .u64 0, .int .u64 0, .int .u64 0, .int .u64 0, .int .i64 0, .int .i64 0, .int .i64 0, .int .i64 0, .int .i64 3, .int .i64 3]
  have hgr := hB.size
  have hnvr := Nat.ne_of_lt Bv.lt; have hltvr := Bv.lt
  have hnsr := Nat.ne_of_lt Bs.lt; have hltsr := Bs.lt
  have hntr := Nat.ne_of_lt Bt.lt; have hlttr := Bt.lt
  replace Bv : Blk (w9.alloc (.cells #[.int .i64 2, .int .u64 0, .int .u64 0, .int .u64 0, .int .u64 0, .int .i64 0, .int .i64 0, .int .i64 0, .int .i64 0, .int .i64 3, .int .i64 3] 29)) (gv) 29 #[.int .i64 2, .int .u64 0, .int .u64 0, .int .u64 0, .int .u64 0, .int .i64 0, .int .i64 0, .int .i64 0, .int .i64 0, .int .i64 3, .int .i64 3] := Bv.alloc _
  replace Bs : Blk (w9.alloc (.cells #[.int .i64 2, .int .u64 0, .int .u64 0, .int .u64 0, .int .u64 0, .int .i64 0, .int .i64 0, .int .i64 0, .int .i64 0, .int .i64 3, .int .i64 3] 29)) (gs) 34 (stv T1) := Bs.alloc _
  replace Bt : Blk (w9.alloc (.cells #[.int .i64 2, .int .u64 0, .int .u64 0, .int .u64 0, .int .u64 0, .int .i64 0, .int .i64 0, .int .i64 0, .int .i64 0, .int .i64 3, .int .i64 3] 29)) (gt) 34 (stv T2) := Bt.alloc _
  replace hB : Below w.heap.size w (w9.alloc (.cells #[.int .i64 2, .int .u64 0, .int .u64 0, .int .u64 0, .int .u64 0, .int .i64 0, .int .i64 0, .int .i64 0, .int .i64 0, .int .i64 3, .int .i64 3] 29)) := Bl_alloc hB _
  generalize (w9.alloc (.cells #[.int .i64 2, .int .u64 0, .int .u64 0, .int .u64 0, .int .u64 0, .int .i64 0, .int .i64 0, .int .i64 0, .int .i64 0, .int .i64 3, .int .i64 3] 29)) = w10 at *
  generalize w9.heap.size = gr at *
  have cv0 : w10.cell? ⟨gv, 0, none⟩ = some (.int .i64 2) := Bv.cell 0
  have cv1 : w10.cell? ⟨gv, 1, none⟩ = some (.int .u64 0) := Bv.cell 1
  have cv2 : w10.cell? ⟨gv, 2, none⟩ = some (.int .u64 0) := Bv.cell 2
  have cv3 : w10.cell? ⟨gv, 3, none⟩ = some (.int .u64 0) := Bv.cell 3
  have cv4 : w10.cell? ⟨gv, 4, none⟩ = some (.int .u64 0) := Bv.cell 4
  have cv5 : w10.cell? ⟨gv, 5, none⟩ = some (.int .i64 0) := Bv.cell 5
  have cv6 : w10.cell? ⟨gv, 6, none⟩ = some (.int .i64 0) := Bv.cell 6
  have cv7 : w10.cell? ⟨gv, 7, none⟩ = some (.int .i64 0) := Bv.cell 7
  have cv8 : w10.cell? ⟨gv, 8, none⟩ = some (.int .i64 0) := Bv.cell 8
  have cv9 : w10.cell? ⟨gv, 9, none⟩ = some (.int .i64 3) := Bv.cell 9
  have cv10 : w10.cell? ⟨gv, 10, none⟩ = some (.int .i64 3) := Bv.cell 10
  have fv := Bv.frozen; have lv := Bv.lt
  have fs := Bs.frozen; have ls := Bs.lt
  have ft := Bt.frozen; have lt := Bt.lt
  have cr0 : w10.cell? ⟨gr, 0, none⟩ = some (.int .i64 2) := Br.cell 0
  have cr1 : w10.cell? ⟨gr, 1, none⟩ = some (.int .u64 0) := Br.cell 1
  have cr2 : w10.cell? ⟨gr, 2, none⟩ = some (.int .u64 0) := Br.cell 2
  have cr3 : w10.cell? ⟨gr, 3, none⟩ = some (.int .u64 0) := Br.cell 3
  have cr4 : w10.cell? ⟨gr, 4, none⟩ = some (.int .u64 0) := Br.cell 4
  have cr5 : w10.cell? ⟨gr, 5, none⟩ = some (.int .i64 0) := Br.cell 5
  have cr6 : w10.cell? ⟨gr, 6, none⟩ = some (.int .i64 0) := Br.cell 6
  have cr7 : w10.cell? ⟨gr, 7, none⟩ = some (.int .i64 0) := Br.cell 7
  have cr8 : w10.cell? ⟨gr, 8, none⟩ = some (.int .i64 0) := Br.cell 8
  have cr9 : w10.cell? ⟨gr, 9, none⟩ = some (.int .i64 3) := Br.cell 9
  have cr10 : w10.cell? ⟨gr, 10, none⟩ = some (.int .i64 3) := Br.cell 10
  have fr := Br.frozen; have lr := Br.lt
  go_wp2
  go_ret
  exact ⟨rfl, by repeat (first | exact hB | (refine Bl_set ?_ (by first | omega | (simp; omega)) _) | apply Bl_alloc)⟩
set_option maxRecDepth 100000 in
set_option maxHeartbeats 3200000 in
theorem words_a (x y z : Int) (k b n m : Nat) (hk : k < 8) (hb : b < 64) (hm : m < 4) (hn : n = 1 ∨ n = 2 ∨ n = 4 ∨ n = 8) (hnv : (#[.int .i64 1, .int .i64 2, .int .i64 4, .int .i64 8] : Array Value)[m]? = some (.int .i64 (n : Int))) (rx : wrap64 ((IntKind.u64.wrap x).tmod 8) = (k : Int)) (ry : wrap64 ((IntKind.u64.wrap y).tmod 64) = (b : Int)) (rz : wrap64 ((IntKind.u64.wrap z).tmod 4) = (m : Int)) (hbn : b + n ≤ 64) (hov : 8 * k + 8 ≤ b) (w : World) : Calls Try.prog 3 #[.int .i64 x, .int .i64 y, .int .i64 z] w fun e w' => e = .returned (.bool true) ∧ Below w.heap.size w w' := by
  have hok1 := PlainAbs.wst_ok hk
  have k_s1 : ∀ w : World, Calls Try.prog 15 #[.agg (stv PlainAbs.start), .int .i64 (((8 * k : Nat) : Int) - 64), .int .i64 8, .agg #[.int .i64 2, .int .u64 0, .int .u64 0, .int .u64 0, .int .u64 0, .int .i64 0, .int .i64 0, .int .i64 0, .int .i64 0, .int .i64 3, .int .i64 3]] w fun e w' => e = .returned (.tuple #[.agg (stv (wst k)), .bool true]) ∧ Below w.heap.size w w' := fun w => by have h := save_c PlainAbs.start (((8 * k : Nat) : Int) - 64) 8 vreg w; rw [hok1] at h; exact h
  have hok2 := PlainAbs.wst2_ok (k := k) hb hn
  rw [show decide (b + n ≤ 64) = true by simpa using hbn] at hok2
  have k_s2 : ∀ w : World, Calls Try.prog 15 #[.agg (stv (wst k)), .int .i64 ((b : Int) - 64), .int .i64 (n : Int), gv (PlainAbs.number (PlainScalar.const 1#64))] w fun e w' => e = .returned (.tuple #[.agg (stv (wst2 k b n)), .bool true]) ∧ Below w.heap.size w w' := fun w => by have h := save_c (wst k) ((b : Int) - 64) (n : Int) (PlainAbs.number (PlainScalar.const 1#64)) w; rw [hok2] at h; exact h
  have k_n : ∀ w : World, Calls Try.prog 17 #[.int .u64 1] w fun e w' => e = .returned (gv (PlainAbs.number (PlainScalar.const 1#64))) ∧ Below w.heap.size w w' := number_c 1#64
  have hld : PlainAbs.load (wst2 k b n) (((8 * k : Nat) : Int) - 64) 8 = (vreg, true) := PlainAbs.wload_keep _ hk (PlainAbs.wst2_off hk hn hbn (.inl hov))
  have k_l : ∀ w : World, Calls Try.prog 19 #[.agg (stv (wst2 k b n)), .int .i64 (((8 * k : Nat) : Int) - 64), .int .i64 8] w fun e w' => e = .returned (.tuple #[.agg #[.int .i64 2, .int .u64 0, .int .u64 0, .int .u64 0, .int .u64 0, .int .i64 0, .int .i64 0, .int .i64 0, .int .i64 0, .int .i64 3, .int .i64 3], .bool true]) ∧ Below w.heap.size w w' := fun w => by have h := load_c (wst2 k b n) (((8 * k : Nat) : Int) - 64) 8 w; rw [hld] at h; exact h
  generalize PlainAbs.number (PlainScalar.const 1#64) = n1 at k_n k_s2
  have hst := start_c
  obtain ⟨q, hq⟩ : ∃ q, q = 8 * k := ⟨_, rfl⟩
  rw [← hq] at k_s1 k_l
  obtain ⟨e, he⟩ : ∃ e, e = b + n := ⟨_, rfl⟩
  have hmi : (m : Int) < 4 := Int.ofNat_lt.2 hm
  have hnl : ([.int .i64 1, .int .i64 2, .int .i64 4, .int .i64 8] : List Value)[m]'(by simpa using hm) = .int .i64 (n : Int) := (Array.getElem?_eq_some_iff.1 hnv).2
  clear hok1 hok2 hld
  generalize wst2 k b n = T2 at k_s2 k_l; generalize wst k = T1 at k_s1 k_s2; generalize PlainAbs.start = S0 at hst k_s1
  have Xhbn := Lib.hid hbn
  have Xhov := Lib.hid hov
  have Xhk := Lib.hid hk
  have Xhb := Lib.hid hb
  obtain ⟨ye1, ye1i, yhq8, yt1, yt1i, yh8kw, yh8k2w, yhb2w, yhbn2w, yh8kv, yh8k2v, yhb2v, yhbn2v⟩ := words_a_f k b n q e hk hb hn hbn hov he hq
  have Ze1 := Lib.hid ye1; clear ye1
  have Ze1i := Lib.hid ye1i; clear ye1i
  have Zhq8 := Lib.hid yhq8; clear yhq8
  have Zt1 := Lib.hid yt1; clear yt1
  have Zt1i := Lib.hid yt1i; clear yt1i
  have Zh8kw := Lib.hid yh8kw; clear yh8kw
  have Zh8k2w := Lib.hid yh8k2w; clear yh8k2w
  have Zhb2w := Lib.hid yhb2w; clear yhb2w
  have Zhbn2w := Lib.hid yhbn2w; clear yhbn2w
  have Zh8kv := Lib.hid yh8kv; clear yh8kv
  have Zh8k2v := Lib.hid yh8k2v; clear yh8k2v
  have Zhb2v := Lib.hid yhb2v; clear yhb2v
  have Zhbn2v := Lib.hid yhbn2v; clear yhbn2v
  have h8k := Zh8kv.out; have h8k2 := Zh8k2v.out; have hb2 := Zhb2v.out; have hbn2 := Zhbn2v.out
  have HN := Lib.hid hn; have HE := Lib.hid he; have HQ := Lib.hid hq; have HL := Lib.hid hnl; clear hn he hq hnl hnv
  clear hbn hov hk hb
  go_enter Try.func3, Try.ntmps3
  go_upto_region 3 with fail
  have hB : Below w.heap.size w w := (Bl_refl w)
  have hnl := HL.out; rw [hnl]; clear hnl
  have Bl := Blk.new w 3 #[.int .i64 1, .int .i64 2, .int .i64 4, .int .i64 8]
  have hgl := hB.size
  replace hB : Below w.heap.size w (w.alloc (.cells #[.int .i64 1, .int .i64 2, .int .i64 4, .int .i64 8] 3)) := Bl_alloc hB _
  generalize (w.alloc (.cells #[.int .i64 1, .int .i64 2, .int .i64 4, .int .i64 8] 3)) = w2 at *
  have cl0 : w2.cell? ⟨w.heap.size, 0, none⟩ = some (.int .i64 1) := Bl.cell 0
  have cl1 : w2.cell? ⟨w.heap.size, 1, none⟩ = some (.int .i64 2) := Bl.cell 1
  have cl2 : w2.cell? ⟨w.heap.size, 2, none⟩ = some (.int .i64 4) := Bl.cell 2
  have cl3 : w2.cell? ⟨w.heap.size, 3, none⟩ = some (.int .i64 8) := Bl.cell 3
  have fl := Bl.frozen; have ll := Bl.lt
  clear cl0 cl1 cl2 cl3 fl ll
  clear Bl
  go_wp2_with fail
  have Bv := Blk.new w2 29 #[.int .i64 2, .int .u64 0, .int .u64 0, .int .u64 0, .int .u64 0, .int .i64 0, .int .i64 0, .int .i64 0, .int .i64 0, .int .i64 3, .int .i64 3]
  have hgv := hB.size
  replace hB : Below w.heap.size w (w2.alloc (.cells #[.int .i64 2, .int .u64 0, .int .u64 0, .int .u64 0, .int .u64 0, .int .i64 0, .int .i64 0, .int .i64 0, .int .i64 0, .int .i64 3, .int .i64 3] 29)) := Bl_alloc hB _
  generalize (w2.alloc (.cells #[.int .i64 2, .int .u64 0, .int .u64 0, .int .u64 0, .int .u64 0, .int .i64 0, .int .i64 0, .int .i64 0, .int .i64 0, .int .i64 3, .int .i64 3] 29)) = w3 at *
  generalize w2.heap.size = gv at *
  have cv0 : w3.cell? ⟨gv, 0, none⟩ = some (.int .i64 2) := Bv.cell 0
  have cv1 : w3.cell? ⟨gv, 1, none⟩ = some (.int .u64 0) := Bv.cell 1
  have cv2 : w3.cell? ⟨gv, 2, none⟩ = some (.int .u64 0) := Bv.cell 2
  have cv3 : w3.cell? ⟨gv, 3, none⟩ = some (.int .u64 0) := Bv.cell 3
  have cv4 : w3.cell? ⟨gv, 4, none⟩ = some (.int .u64 0) := Bv.cell 4
  have cv5 : w3.cell? ⟨gv, 5, none⟩ = some (.int .i64 0) := Bv.cell 5
  have cv6 : w3.cell? ⟨gv, 6, none⟩ = some (.int .i64 0) := Bv.cell 6
  have cv7 : w3.cell? ⟨gv, 7, none⟩ = some (.int .i64 0) := Bv.cell 7
  have cv8 : w3.cell? ⟨gv, 8, none⟩ = some (.int .i64 0) := Bv.cell 8
  have cv9 : w3.cell? ⟨gv, 9, none⟩ = some (.int .i64 3) := Bv.cell 9
  have cv10 : w3.cell? ⟨gv, 10, none⟩ = some (.int .i64 3) := Bv.cell 10
  have fv := Bv.frozen; have lv := Bv.lt
  have h8k' := Zh8kw.out; have h8k2' := Zh8k2w.out; have hb2' := Zhb2w.out; have hbn2' := Zhbn2w.out
  go_wp2_with fail
  replace cv0 : ∀ g : Later w3, g.w.cell? ⟨gv, 0, none⟩ = some (.int .i64 2) := fun g => g.cell (Bv.cell 0)
  replace cv1 : ∀ g : Later w3, g.w.cell? ⟨gv, 1, none⟩ = some (.int .u64 0) := fun g => g.cell (Bv.cell 1)
  replace cv2 : ∀ g : Later w3, g.w.cell? ⟨gv, 2, none⟩ = some (.int .u64 0) := fun g => g.cell (Bv.cell 2)
  replace cv3 : ∀ g : Later w3, g.w.cell? ⟨gv, 3, none⟩ = some (.int .u64 0) := fun g => g.cell (Bv.cell 3)
  replace cv4 : ∀ g : Later w3, g.w.cell? ⟨gv, 4, none⟩ = some (.int .u64 0) := fun g => g.cell (Bv.cell 4)
  replace cv5 : ∀ g : Later w3, g.w.cell? ⟨gv, 5, none⟩ = some (.int .i64 0) := fun g => g.cell (Bv.cell 5)
  replace cv6 : ∀ g : Later w3, g.w.cell? ⟨gv, 6, none⟩ = some (.int .i64 0) := fun g => g.cell (Bv.cell 6)
  replace cv7 : ∀ g : Later w3, g.w.cell? ⟨gv, 7, none⟩ = some (.int .i64 0) := fun g => g.cell (Bv.cell 7)
  replace cv8 : ∀ g : Later w3, g.w.cell? ⟨gv, 8, none⟩ = some (.int .i64 0) := fun g => g.cell (Bv.cell 8)
  replace cv9 : ∀ g : Later w3, g.w.cell? ⟨gv, 9, none⟩ = some (.int .i64 3) := fun g => g.cell (Bv.cell 9)
  replace cv10 : ∀ g : Later w3, g.w.cell? ⟨gv, 10, none⟩ = some (.int .i64 3) := fun g => g.cell (Bv.cell 10)
  refine wp_region_mixL 10 (fun k => k == 8) (fun _ => stv zs) (by kernel_rfl) (by kernel_rfl) (fun d _ _ _ _ h => by cases d <;> exact h) (fun o t ho ht => by
    simp at ho
    rcases ho with rfl | rfl | rfl | rfl | rfl | rfl | rfl | rfl | rfl | rfl <;> first | (cases ht; done) | (obtain rfl := Option.some.inj ht; exact fun ρ w => new_st ht ρ w)) ?_
  simp only [List.take_succ_cons, List.take_zero, List.drop_succ_cons, List.drop_zero]
  repeat (first | (refine wpMixL_row rfl 29 (.tmp 10) rfl (gv) rfl 29 #[.int .i64 2, .int .u64 0, .int .u64 0, .int .u64 0, .int .u64 0, .int .i64 0, .int .i64 0, .int .i64 0, .int .i64 0, .int .i64 3, .int .i64 3] _ Bv Try.underlying29 rfl (size_re _ _ _ _ _ _ _ _ _ _ _) rfl ?_) | ((with_reducible refine wpMixL_step (fun K hK => ?_)); go_simp; first | ((with_reducible refine hK _ ?_); clear hK K) | (rw [if_neg (by decide)]; (with_reducible refine hK _ ?_); clear hK K) | (apply Exists.intro; refine ⟨fun g => ?_, hK _ ?_⟩; ((with_reducible refine Calls.mono (hst g.w) ?_); exact fun _ _ h => h); clear hK K) | (apply Exists.intro; refine ⟨fun g => ?_, hK _ ?_⟩; ((with_reducible refine Calls.mono (k_s1 g.w) ?_); exact fun _ _ h => h); clear hK K)))
  refine wpMixL_nil ?_
  intro G w4 hgr hblk hdist
  have hb : Below w3.heap.size w3 w4 := hgr
  replace Bv := Bv.next hb
  obtain ⟨Bs, hls⟩ := hblk 9 _ rfl
  have hgs : w.heap.size ≤ G 9 := Nat.le_trans hB.size hls
  have hnvs : gv ≠ G 9 := Nat.ne_of_lt (Nat.lt_of_lt_of_le lv hls)
  clear hls
  clear cv0 cv1 cv2 cv3 cv4 cv5 cv6 cv7 cv8 cv9 cv10 fv lv
  replace hB : Below w.heap.size w w4 := Bl_trans hB hb
  simp only [putAll, isAlloc, Act.put]
  generalize G 9 = gs at *
  clear hb hgr hblk hdist
  have cv0 : w4.cell? ⟨gv, 0, none⟩ = some (.int .i64 2) := Bv.cell 0
  have cv1 : w4.cell? ⟨gv, 1, none⟩ = some (.int .u64 0) := Bv.cell 1
  have cv2 : w4.cell? ⟨gv, 2, none⟩ = some (.int .u64 0) := Bv.cell 2
  have cv3 : w4.cell? ⟨gv, 3, none⟩ = some (.int .u64 0) := Bv.cell 3
  have cv4 : w4.cell? ⟨gv, 4, none⟩ = some (.int .u64 0) := Bv.cell 4
  have cv5 : w4.cell? ⟨gv, 5, none⟩ = some (.int .i64 0) := Bv.cell 5
  have cv6 : w4.cell? ⟨gv, 6, none⟩ = some (.int .i64 0) := Bv.cell 6
  have cv7 : w4.cell? ⟨gv, 7, none⟩ = some (.int .i64 0) := Bv.cell 7
  have cv8 : w4.cell? ⟨gv, 8, none⟩ = some (.int .i64 0) := Bv.cell 8
  have cv9 : w4.cell? ⟨gv, 9, none⟩ = some (.int .i64 3) := Bv.cell 9
  have cv10 : w4.cell? ⟨gv, 10, none⟩ = some (.int .i64 3) := Bv.cell 10
  have fv := Bv.frozen; have lv := Bv.lt
  have fs := Bs.frozen; have ls := Bs.lt
  go_wp2_with (refine wpList_store_whole rfl 34 (.tmp 11) (.tmp 41) rfl (gs) (stv T1) rfl rfl 34 (stv zs) Bs (size_st T1) (by rw [stv_size, stv_size]) (stv_one T1) ?_)
  intro w5 hS
  clear cv0 cv1 cv2 cv3 cv4 cv5 cv6 cv7 cv8 cv9 cv10 fv lv
  clear  fs ls
  replace Bv := hS.far (by first | (simp; done) | (simp; omega) | (simp [*]; done) | (simp only [ne_eq]; constructor <;> omega)) Bv
  replace Bs : Blk w5 (gs) 34 (stv T1) := hS.blk
  replace hB := hS.bel hB (by first | omega | (simp; omega))
  clear hS
  have cv0 : w5.cell? ⟨gv, 0, none⟩ = some (.int .i64 2) := Bv.cell 0
  have cv1 : w5.cell? ⟨gv, 1, none⟩ = some (.int .u64 0) := Bv.cell 1
  have cv2 : w5.cell? ⟨gv, 2, none⟩ = some (.int .u64 0) := Bv.cell 2
  have cv3 : w5.cell? ⟨gv, 3, none⟩ = some (.int .u64 0) := Bv.cell 3
  have cv4 : w5.cell? ⟨gv, 4, none⟩ = some (.int .u64 0) := Bv.cell 4
  have cv5 : w5.cell? ⟨gv, 5, none⟩ = some (.int .i64 0) := Bv.cell 5
  have cv6 : w5.cell? ⟨gv, 6, none⟩ = some (.int .i64 0) := Bv.cell 6
  have cv7 : w5.cell? ⟨gv, 7, none⟩ = some (.int .i64 0) := Bv.cell 7
  have cv8 : w5.cell? ⟨gv, 8, none⟩ = some (.int .i64 0) := Bv.cell 8
  have cv9 : w5.cell? ⟨gv, 9, none⟩ = some (.int .i64 3) := Bv.cell 9
  have cv10 : w5.cell? ⟨gv, 10, none⟩ = some (.int .i64 3) := Bv.cell 10
  have fv := Bv.frozen; have lv := Bv.lt
  have fs := Bs.frozen; have ls := Bs.lt
  go_wp2_with fail
  replace cv0 : ∀ g : Later w5, g.w.cell? ⟨gv, 0, none⟩ = some (.int .i64 2) := fun g => g.cell (Bv.cell 0)
  replace cv1 : ∀ g : Later w5, g.w.cell? ⟨gv, 1, none⟩ = some (.int .u64 0) := fun g => g.cell (Bv.cell 1)
  replace cv2 : ∀ g : Later w5, g.w.cell? ⟨gv, 2, none⟩ = some (.int .u64 0) := fun g => g.cell (Bv.cell 2)
  replace cv3 : ∀ g : Later w5, g.w.cell? ⟨gv, 3, none⟩ = some (.int .u64 0) := fun g => g.cell (Bv.cell 3)
  replace cv4 : ∀ g : Later w5, g.w.cell? ⟨gv, 4, none⟩ = some (.int .u64 0) := fun g => g.cell (Bv.cell 4)
  replace cv5 : ∀ g : Later w5, g.w.cell? ⟨gv, 5, none⟩ = some (.int .i64 0) := fun g => g.cell (Bv.cell 5)
  replace cv6 : ∀ g : Later w5, g.w.cell? ⟨gv, 6, none⟩ = some (.int .i64 0) := fun g => g.cell (Bv.cell 6)
  replace cv7 : ∀ g : Later w5, g.w.cell? ⟨gv, 7, none⟩ = some (.int .i64 0) := fun g => g.cell (Bv.cell 7)
  replace cv8 : ∀ g : Later w5, g.w.cell? ⟨gv, 8, none⟩ = some (.int .i64 0) := fun g => g.cell (Bv.cell 8)
  replace cv9 : ∀ g : Later w5, g.w.cell? ⟨gv, 9, none⟩ = some (.int .i64 3) := fun g => g.cell (Bv.cell 9)
  replace cv10 : ∀ g : Later w5, g.w.cell? ⟨gv, 10, none⟩ = some (.int .i64 3) := fun g => g.cell (Bv.cell 10)
  refine wp_region_mixL 10 (fun k => k == 8) (fun _ => stv zs) (by kernel_rfl) (by kernel_rfl) (fun d _ _ _ _ h => by cases d <;> exact h) (fun o t ho ht => by
    simp at ho
    rcases ho with rfl | rfl | rfl | rfl | rfl | rfl | rfl | rfl | rfl | rfl <;> first | (cases ht; done) | (obtain rfl := Option.some.inj ht; exact fun ρ w => new_st ht ρ w)) ?_
  simp only [List.take_succ_cons, List.take_zero, List.drop_succ_cons, List.drop_zero]
  repeat (first | (refine wpMixL_row rfl 34 (.tmp 11) rfl (gs) rfl 34 (stv T1) _ Bs Try.underlying34 rfl (size_st _) rfl ?_) | ((with_reducible refine wpMixL_step (fun K hK => ?_)); go_simp; first | ((with_reducible refine hK _ ?_); clear hK K) | (rw [if_neg (by decide)]; (with_reducible refine hK _ ?_); clear hK K) | (apply Exists.intro; refine ⟨fun g => ?_, hK _ ?_⟩; ((with_reducible refine Calls.mono (k_n g.w) ?_); exact fun _ _ h => h); clear hK K) | (apply Exists.intro; refine ⟨fun g => ?_, hK _ ?_⟩; ((with_reducible refine Calls.mono (k_s2 g.w) ?_); exact fun _ _ h => h); clear hK K)))
  refine wpMixL_nil ?_
  intro G w6 hgr hblk hdist
  have hb : Below w5.heap.size w5 w6 := hgr
  replace Bv := Bv.next hb
  replace Bs := Bs.next hb
  obtain ⟨Bt, hlt⟩ := hblk 9 _ rfl
  have hgt : w.heap.size ≤ G 9 := Nat.le_trans hB.size hlt
  have hnvt : gv ≠ G 9 := Nat.ne_of_lt (Nat.lt_of_lt_of_le lv hlt)
  have hnst : gs ≠ G 9 := Nat.ne_of_lt (Nat.lt_of_lt_of_le ls hlt)
  clear hlt
  clear cv0 cv1 cv2 cv3 cv4 cv5 cv6 cv7 cv8 cv9 cv10 fv lv
  clear  fs ls
  replace hB : Below w.heap.size w w6 := Bl_trans hB hb
  simp only [putAll, isAlloc, Act.put]
  generalize G 9 = gt at *
  clear hb hgr hblk hdist
  have cv0 : w6.cell? ⟨gv, 0, none⟩ = some (.int .i64 2) := Bv.cell 0
  have cv1 : w6.cell? ⟨gv, 1, none⟩ = some (.int .u64 0) := Bv.cell 1
  have cv2 : w6.cell? ⟨gv, 2, none⟩ = some (.int .u64 0) := Bv.cell 2
  have cv3 : w6.cell? ⟨gv, 3, none⟩ = some (.int .u64 0) := Bv.cell 3
  have cv4 : w6.cell? ⟨gv, 4, none⟩ = some (.int .u64 0) := Bv.cell 4
  have cv5 : w6.cell? ⟨gv, 5, none⟩ = some (.int .i64 0) := Bv.cell 5
  have cv6 : w6.cell? ⟨gv, 6, none⟩ = some (.int .i64 0) := Bv.cell 6
  have cv7 : w6.cell? ⟨gv, 7, none⟩ = some (.int .i64 0) := Bv.cell 7
  have cv8 : w6.cell? ⟨gv, 8, none⟩ = some (.int .i64 0) := Bv.cell 8
  have cv9 : w6.cell? ⟨gv, 9, none⟩ = some (.int .i64 3) := Bv.cell 9
  have cv10 : w6.cell? ⟨gv, 10, none⟩ = some (.int .i64 3) := Bv.cell 10
  have fv := Bv.frozen; have lv := Bv.lt
  have fs := Bs.frozen; have ls := Bs.lt
  have ft := Bt.frozen; have lt := Bt.lt
  go_wp2_with (refine wpList_store_whole rfl 34 (.tmp 13) (.tmp 50) rfl (gt) (stv T2) rfl rfl 34 (stv zs) Bt (size_st T2) (by rw [stv_size, stv_size]) (stv_one T2) ?_)
  intro w7 hS
  clear cv0 cv1 cv2 cv3 cv4 cv5 cv6 cv7 cv8 cv9 cv10 fv lv
  clear  fs ls
  clear  ft lt
  replace Bv := hS.far (by first | (simp; done) | (simp; omega) | (simp [*]; done) | (simp only [ne_eq]; constructor <;> omega)) Bv
  replace Bs := hS.far (by first | (simp; done) | (simp; omega) | (simp [*]; done) | (simp only [ne_eq]; constructor <;> omega)) Bs
  replace Bt : Blk w7 (gt) 34 (stv T2) := hS.blk
  replace hB := hS.bel hB (by first | omega | (simp; omega))
  clear hS
  have cv0 : w7.cell? ⟨gv, 0, none⟩ = some (.int .i64 2) := Bv.cell 0
  have cv1 : w7.cell? ⟨gv, 1, none⟩ = some (.int .u64 0) := Bv.cell 1
  have cv2 : w7.cell? ⟨gv, 2, none⟩ = some (.int .u64 0) := Bv.cell 2
  have cv3 : w7.cell? ⟨gv, 3, none⟩ = some (.int .u64 0) := Bv.cell 3
  have cv4 : w7.cell? ⟨gv, 4, none⟩ = some (.int .u64 0) := Bv.cell 4
  have cv5 : w7.cell? ⟨gv, 5, none⟩ = some (.int .i64 0) := Bv.cell 5
  have cv6 : w7.cell? ⟨gv, 6, none⟩ = some (.int .i64 0) := Bv.cell 6
  have cv7 : w7.cell? ⟨gv, 7, none⟩ = some (.int .i64 0) := Bv.cell 7
  have cv8 : w7.cell? ⟨gv, 8, none⟩ = some (.int .i64 0) := Bv.cell 8
  have cv9 : w7.cell? ⟨gv, 9, none⟩ = some (.int .i64 3) := Bv.cell 9
  have cv10 : w7.cell? ⟨gv, 10, none⟩ = some (.int .i64 3) := Bv.cell 10
  have fv := Bv.frozen; have lv := Bv.lt
  have fs := Bs.frozen; have ls := Bs.lt
  have ft := Bt.frozen; have lt := Bt.lt
  have e1 := Ze1.out; have e1i := Ze1i.out
  go_wp2_with fail
  refine (saves_c _).mono ?_
  rintro e w8 ⟨rfl, hb⟩
  clear cv0 cv1 cv2 cv3 cv4 cv5 cv6 cv7 cv8 cv9 cv10 fv lv
  clear  fs ls
  clear  ft lt
  replace Bv := (Bv).next hb
  replace Bs := (Bs).next hb
  replace Bt := (Bt).next hb
  replace hB : Below w.heap.size w w8 := by repeat (first | exact hB | (refine Bl_set ?_ (by first | omega | (simp; omega)) _) | apply Bl_alloc | (refine Bl_trans ?_ hb))
  clear hb
  have cv0 : w8.cell? ⟨gv, 0, none⟩ = some (.int .i64 2) := Bv.cell 0
  have cv1 : w8.cell? ⟨gv, 1, none⟩ = some (.int .u64 0) := Bv.cell 1
  have cv2 : w8.cell? ⟨gv, 2, none⟩ = some (.int .u64 0) := Bv.cell 2
  have cv3 : w8.cell? ⟨gv, 3, none⟩ = some (.int .u64 0) := Bv.cell 3
  have cv4 : w8.cell? ⟨gv, 4, none⟩ = some (.int .u64 0) := Bv.cell 4
  have cv5 : w8.cell? ⟨gv, 5, none⟩ = some (.int .i64 0) := Bv.cell 5
  have cv6 : w8.cell? ⟨gv, 6, none⟩ = some (.int .i64 0) := Bv.cell 6
  have cv7 : w8.cell? ⟨gv, 7, none⟩ = some (.int .i64 0) := Bv.cell 7
  have cv8 : w8.cell? ⟨gv, 8, none⟩ = some (.int .i64 0) := Bv.cell 8
  have cv9 : w8.cell? ⟨gv, 9, none⟩ = some (.int .i64 3) := Bv.cell 9
  have cv10 : w8.cell? ⟨gv, 10, none⟩ = some (.int .i64 3) := Bv.cell 10
  have fv := Bv.frozen; have lv := Bv.lt
  have fs := Bs.frozen; have ls := Bs.lt
  have ft := Bt.frozen; have lt := Bt.lt
  go_wp2_with (refine wpList_load_whole rfl 34 (.tmp 13) rfl (gt) rfl 34 (stv T2) _ Bt Try.underlying34 rfl (size_st T2) ?_)
  refine (k_l _).mono ?_
  rintro e w9 ⟨rfl, hb⟩
  clear cv0 cv1 cv2 cv3 cv4 cv5 cv6 cv7 cv8 cv9 cv10 fv lv
  clear  fs ls
  clear  ft lt
  replace Bv := (Bv).next hb
  replace Bs := (Bs).next hb
  replace Bt := (Bt).next hb
  replace hB : Below w.heap.size w w9 := by repeat (first | exact hB | (refine Bl_set ?_ (by first | omega | (simp; omega)) _) | apply Bl_alloc | (refine Bl_trans ?_ hb))
  clear hb
  have cv0 : w9.cell? ⟨gv, 0, none⟩ = some (.int .i64 2) := Bv.cell 0
  have cv1 : w9.cell? ⟨gv, 1, none⟩ = some (.int .u64 0) := Bv.cell 1
  have cv2 : w9.cell? ⟨gv, 2, none⟩ = some (.int .u64 0) := Bv.cell 2
  have cv3 : w9.cell? ⟨gv, 3, none⟩ = some (.int .u64 0) := Bv.cell 3
  have cv4 : w9.cell? ⟨gv, 4, none⟩ = some (.int .u64 0) := Bv.cell 4
  have cv5 : w9.cell? ⟨gv, 5, none⟩ = some (.int .i64 0) := Bv.cell 5
  have cv6 : w9.cell? ⟨gv, 6, none⟩ = some (.int .i64 0) := Bv.cell 6
  have cv7 : w9.cell? ⟨gv, 7, none⟩ = some (.int .i64 0) := Bv.cell 7
  have cv8 : w9.cell? ⟨gv, 8, none⟩ = some (.int .i64 0) := Bv.cell 8
  have cv9 : w9.cell? ⟨gv, 9, none⟩ = some (.int .i64 3) := Bv.cell 9
  have cv10 : w9.cell? ⟨gv, 10, none⟩ = some (.int .i64 3) := Bv.cell 10
  have fv := Bv.frozen; have lv := Bv.lt
  have fs := Bs.frozen; have ls := Bs.lt
  have ft := Bt.frozen; have lt := Bt.lt
  go_upto_region 9 with fail
  clear cv0 cv1 cv2 cv3 cv4 cv5 cv6 cv7 cv8 cv9 cv10 fv lv
  clear  fs ls
  clear  ft lt
  have Br := Blk.new w9 29 #[.int .i64 2, .int .u64 0, .int .u64 0, .int .u64 0, .int .u64 0, .int .i64 0, .int .i64 0, .int .i64 0, .int .i64 0, .int .i64 3, .int .i64 3]
  have hgr := hB.size
  have hnvr := Nat.ne_of_lt Bv.lt; have hltvr := Bv.lt
  have hnsr := Nat.ne_of_lt Bs.lt; have hltsr := Bs.lt
  have hntr := Nat.ne_of_lt Bt.lt; have hlttr := Bt.lt
  replace Bv : Blk (w9.alloc (.cells #[.int .i64 2, .int .u64 0, .int .u64 0, .int .u64 0, .int .u64 0, .int .i64 0, .int .i64 0, .int .i64 0, .int .i64 0, .int .i64 3, .int .i64 3] 29)) (gv) 29 #[.int .i64 2, .int .u64 0, .int .u64 0, .int .u64 0, .int .u64 0, .int .i64 0, .int .i64 0, .int .i64 0, .int .i64 0, .int .i64 3, .int .i64 3] := Bv.alloc _
  replace Bs : Blk (w9.alloc (.cells #[.int .i64 2, .int .u64 0, .int .u64 0, .int .u64 0, .int .u64 0, .int .i64 0, .int .i64 0, .int .i64 0, .int .i64 0, .int .i64 3, .int .i64 3] 29)) (gs) 34 (stv T1) := Bs.alloc _
  replace Bt : Blk (w9.alloc (.cells #[.int .i64 2, .int .u64 0, .int .u64 0, .int .u64 0, .int .u64 0, .int .i64 0, .int .i64 0, .int .i64 0, .int .i64 0, .int .i64 3, .int .i64 3] 29)) (gt) 34 (stv T2) := Bt.alloc _
  replace hB : Below w.heap.size w (w9.alloc (.cells #[.int .i64 2, .int .u64 0, .int .u64 0, .int .u64 0, .int .u64 0, .int .i64 0, .int .i64 0, .int .i64 0, .int .i64 0, .int .i64 3, .int .i64 3] 29)) := Bl_alloc hB _
  generalize (w9.alloc (.cells #[.int .i64 2, .int .u64 0, .int .u64 0, .int .u64 0, .int .u64 0, .int .i64 0, .int .i64 0, .int .i64 0, .int .i64 0, .int .i64 3, .int .i64 3] 29)) = w10 at *
  generalize w9.heap.size = gr at *
  have cv0 : w10.cell? ⟨gv, 0, none⟩ = some (.int .i64 2) := Bv.cell 0
  have cv1 : w10.cell? ⟨gv, 1, none⟩ = some (.int .u64 0) := Bv.cell 1
  have cv2 : w10.cell? ⟨gv, 2, none⟩ = some (.int .u64 0) := Bv.cell 2
  have cv3 : w10.cell? ⟨gv, 3, none⟩ = some (.int .u64 0) := Bv.cell 3
  have cv4 : w10.cell? ⟨gv, 4, none⟩ = some (.int .u64 0) := Bv.cell 4
  have cv5 : w10.cell? ⟨gv, 5, none⟩ = some (.int .i64 0) := Bv.cell 5
  have cv6 : w10.cell? ⟨gv, 6, none⟩ = some (.int .i64 0) := Bv.cell 6
  have cv7 : w10.cell? ⟨gv, 7, none⟩ = some (.int .i64 0) := Bv.cell 7
  have cv8 : w10.cell? ⟨gv, 8, none⟩ = some (.int .i64 0) := Bv.cell 8
  have cv9 : w10.cell? ⟨gv, 9, none⟩ = some (.int .i64 3) := Bv.cell 9
  have cv10 : w10.cell? ⟨gv, 10, none⟩ = some (.int .i64 3) := Bv.cell 10
  have fv := Bv.frozen; have lv := Bv.lt
  have fs := Bs.frozen; have ls := Bs.lt
  have ft := Bt.frozen; have lt := Bt.lt
  have cr0 : w10.cell? ⟨gr, 0, none⟩ = some (.int .i64 2) := Br.cell 0
  have cr1 : w10.cell? ⟨gr, 1, none⟩ = some (.int .u64 0) := Br.cell 1
  have cr2 : w10.cell? ⟨gr, 2, none⟩ = some (.int .u64 0) := Br.cell 2
  have cr3 : w10.cell? ⟨gr, 3, none⟩ = some (.int .u64 0) := Br.cell 3
  have cr4 : w10.cell? ⟨gr, 4, none⟩ = some (.int .u64 0) := Br.cell 4
  have cr5 : w10.cell? ⟨gr, 5, none⟩ = some (.int .i64 0) := Br.cell 5
  have cr6 : w10.cell? ⟨gr, 6, none⟩ = some (.int .i64 0) := Br.cell 6
  have cr7 : w10.cell? ⟨gr, 7, none⟩ = some (.int .i64 0) := Br.cell 7
  have cr8 : w10.cell? ⟨gr, 8, none⟩ = some (.int .i64 0) := Br.cell 8
  have cr9 : w10.cell? ⟨gr, 9, none⟩ = some (.int .i64 3) := Br.cell 9
  have cr10 : w10.cell? ⟨gr, 10, none⟩ = some (.int .i64 3) := Br.cell 10
  have fr := Br.frozen; have lr := Br.lt
  have hq8 := Zhq8.out
  have t1 := Zt1.out
  have t1i := Zt1i.out
  go_wp2
  go_ret
  exact ⟨rfl, by repeat (first | exact hB | (refine Bl_set ?_ (by first | omega | (simp; omega)) _) | apply Bl_alloc)⟩
set_option maxRecDepth 100000 in
set_option maxHeartbeats 3200000 in
theorem words_b (x y z : Int) (k b n m : Nat) (hk : k < 8) (hb : b < 64) (hm : m < 4) (hn : n = 1 ∨ n = 2 ∨ n = 4 ∨ n = 8) (hnv : (#[.int .i64 1, .int .i64 2, .int .i64 4, .int .i64 8] : Array Value)[m]? = some (.int .i64 (n : Int))) (rx : wrap64 ((IntKind.u64.wrap x).tmod 8) = (k : Int)) (ry : wrap64 ((IntKind.u64.wrap y).tmod 64) = (b : Int)) (rz : wrap64 ((IntKind.u64.wrap z).tmod 4) = (m : Int)) (hbn : b + n ≤ 64) (hov : b < 8 * k + 8) (ho2 : b + n ≤ 8 * k) (w : World) : Calls Try.prog 3 #[.int .i64 x, .int .i64 y, .int .i64 z] w fun e w' => e = .returned (.bool true) ∧ Below w.heap.size w w' := by
  have hok1 := PlainAbs.wst_ok hk
  have k_s1 : ∀ w : World, Calls Try.prog 15 #[.agg (stv PlainAbs.start), .int .i64 (((8 * k : Nat) : Int) - 64), .int .i64 8, .agg #[.int .i64 2, .int .u64 0, .int .u64 0, .int .u64 0, .int .u64 0, .int .i64 0, .int .i64 0, .int .i64 0, .int .i64 0, .int .i64 3, .int .i64 3]] w fun e w' => e = .returned (.tuple #[.agg (stv (wst k)), .bool true]) ∧ Below w.heap.size w w' := fun w => by have h := save_c PlainAbs.start (((8 * k : Nat) : Int) - 64) 8 vreg w; rw [hok1] at h; exact h
  have hok2 := PlainAbs.wst2_ok (k := k) hb hn
  rw [show decide (b + n ≤ 64) = true by simpa using hbn] at hok2
  have k_s2 : ∀ w : World, Calls Try.prog 15 #[.agg (stv (wst k)), .int .i64 ((b : Int) - 64), .int .i64 (n : Int), gv (PlainAbs.number (PlainScalar.const 1#64))] w fun e w' => e = .returned (.tuple #[.agg (stv (wst2 k b n)), .bool true]) ∧ Below w.heap.size w w' := fun w => by have h := save_c (wst k) ((b : Int) - 64) (n : Int) (PlainAbs.number (PlainScalar.const 1#64)) w; rw [hok2] at h; exact h
  have k_n : ∀ w : World, Calls Try.prog 17 #[.int .u64 1] w fun e w' => e = .returned (gv (PlainAbs.number (PlainScalar.const 1#64))) ∧ Below w.heap.size w w' := number_c 1#64
  have hld : PlainAbs.load (wst2 k b n) (((8 * k : Nat) : Int) - 64) 8 = (vreg, true) := PlainAbs.wload_keep _ hk (PlainAbs.wst2_off hk hn hbn (.inr ho2))
  have k_l : ∀ w : World, Calls Try.prog 19 #[.agg (stv (wst2 k b n)), .int .i64 (((8 * k : Nat) : Int) - 64), .int .i64 8] w fun e w' => e = .returned (.tuple #[.agg #[.int .i64 2, .int .u64 0, .int .u64 0, .int .u64 0, .int .u64 0, .int .i64 0, .int .i64 0, .int .i64 0, .int .i64 0, .int .i64 3, .int .i64 3], .bool true]) ∧ Below w.heap.size w w' := fun w => by have h := load_c (wst2 k b n) (((8 * k : Nat) : Int) - 64) 8 w; rw [hld] at h; exact h
  generalize PlainAbs.number (PlainScalar.const 1#64) = n1 at k_n k_s2
  have hst := start_c
  obtain ⟨q, hq⟩ : ∃ q, q = 8 * k := ⟨_, rfl⟩
  rw [← hq] at k_s1 k_l
  obtain ⟨e, he⟩ : ∃ e, e = b + n := ⟨_, rfl⟩
  have hmi : (m : Int) < 4 := Int.ofNat_lt.2 hm
  have hnl : ([.int .i64 1, .int .i64 2, .int .i64 4, .int .i64 8] : List Value)[m]'(by simpa using hm) = .int .i64 (n : Int) := (Array.getElem?_eq_some_iff.1 hnv).2
  clear hok1 hok2 hld
  generalize wst2 k b n = T2 at k_s2 k_l; generalize wst k = T1 at k_s1 k_s2; generalize PlainAbs.start = S0 at hst k_s1
  have Xhbn := Lib.hid hbn
  have Xhov := Lib.hid hov
  have Xho2 := Lib.hid ho2
  have Xhk := Lib.hid hk
  have Xhb := Lib.hid hb
  obtain ⟨ye1, ye1i, yhq8, yt1, yt1i, yt2, yt2i, yh8kw, yh8k2w, yhb2w, yhbn2w, yh8kv, yh8k2v, yhb2v, yhbn2v⟩ := words_b_f k b n q e hk hb hn hbn hov ho2 he hq
  have Ze1 := Lib.hid ye1; clear ye1
  have Ze1i := Lib.hid ye1i; clear ye1i
  have Zhq8 := Lib.hid yhq8; clear yhq8
  have Zt1 := Lib.hid yt1; clear yt1
  have Zt1i := Lib.hid yt1i; clear yt1i
  have Zt2 := Lib.hid yt2; clear yt2
  have Zt2i := Lib.hid yt2i; clear yt2i
  have Zh8kw := Lib.hid yh8kw; clear yh8kw
  have Zh8k2w := Lib.hid yh8k2w; clear yh8k2w
  have Zhb2w := Lib.hid yhb2w; clear yhb2w
  have Zhbn2w := Lib.hid yhbn2w; clear yhbn2w
  have Zh8kv := Lib.hid yh8kv; clear yh8kv
  have Zh8k2v := Lib.hid yh8k2v; clear yh8k2v
  have Zhb2v := Lib.hid yhb2v; clear yhb2v
  have Zhbn2v := Lib.hid yhbn2v; clear yhbn2v
  have h8k := Zh8kv.out; have h8k2 := Zh8k2v.out; have hb2 := Zhb2v.out; have hbn2 := Zhbn2v.out
  have HN := Lib.hid hn; have HE := Lib.hid he; have HQ := Lib.hid hq; have HL := Lib.hid hnl; clear hn he hq hnl hnv
  clear hbn hov ho2 hk hb
  go_enter Try.func3, Try.ntmps3
  go_upto_region 3 with fail
  have hB : Below w.heap.size w w := (Bl_refl w)
  have hnl := HL.out; rw [hnl]; clear hnl
  have Bl := Blk.new w 3 #[.int .i64 1, .int .i64 2, .int .i64 4, .int .i64 8]
  have hgl := hB.size
  replace hB : Below w.heap.size w (w.alloc (.cells #[.int .i64 1, .int .i64 2, .int .i64 4, .int .i64 8] 3)) := Bl_alloc hB _
  generalize (w.alloc (.cells #[.int .i64 1, .int .i64 2, .int .i64 4, .int .i64 8] 3)) = w2 at *
  have cl0 : w2.cell? ⟨w.heap.size, 0, none⟩ = some (.int .i64 1) := Bl.cell 0
  have cl1 : w2.cell? ⟨w.heap.size, 1, none⟩ = some (.int .i64 2) := Bl.cell 1
  have cl2 : w2.cell? ⟨w.heap.size, 2, none⟩ = some (.int .i64 4) := Bl.cell 2
  have cl3 : w2.cell? ⟨w.heap.size, 3, none⟩ = some (.int .i64 8) := Bl.cell 3
  have fl := Bl.frozen; have ll := Bl.lt
  clear cl0 cl1 cl2 cl3 fl ll
  clear Bl
  go_wp2_with fail
  have Bv := Blk.new w2 29 #[.int .i64 2, .int .u64 0, .int .u64 0, .int .u64 0, .int .u64 0, .int .i64 0, .int .i64 0, .int .i64 0, .int .i64 0, .int .i64 3, .int .i64 3]
  have hgv := hB.size
  replace hB : Below w.heap.size w (w2.alloc (.cells #[.int .i64 2, .int .u64 0, .int .u64 0, .int .u64 0, .int .u64 0, .int .i64 0, .int .i64 0, .int .i64 0, .int .i64 0, .int .i64 3, .int .i64 3] 29)) := Bl_alloc hB _
  generalize (w2.alloc (.cells #[.int .i64 2, .int .u64 0, .int .u64 0, .int .u64 0, .int .u64 0, .int .i64 0, .int .i64 0, .int .i64 0, .int .i64 0, .int .i64 3, .int .i64 3] 29)) = w3 at *
  generalize w2.heap.size = gv at *
  have cv0 : w3.cell? ⟨gv, 0, none⟩ = some (.int .i64 2) := Bv.cell 0
  have cv1 : w3.cell? ⟨gv, 1, none⟩ = some (.int .u64 0) := Bv.cell 1
  have cv2 : w3.cell? ⟨gv, 2, none⟩ = some (.int .u64 0) := Bv.cell 2
  have cv3 : w3.cell? ⟨gv, 3, none⟩ = some (.int .u64 0) := Bv.cell 3
  have cv4 : w3.cell? ⟨gv, 4, none⟩ = some (.int .u64 0) := Bv.cell 4
  have cv5 : w3.cell? ⟨gv, 5, none⟩ = some (.int .i64 0) := Bv.cell 5
  have cv6 : w3.cell? ⟨gv, 6, none⟩ = some (.int .i64 0) := Bv.cell 6
  have cv7 : w3.cell? ⟨gv, 7, none⟩ = some (.int .i64 0) := Bv.cell 7
  have cv8 : w3.cell? ⟨gv, 8, none⟩ = some (.int .i64 0) := Bv.cell 8
  have cv9 : w3.cell? ⟨gv, 9, none⟩ = some (.int .i64 3) := Bv.cell 9
  have cv10 : w3.cell? ⟨gv, 10, none⟩ = some (.int .i64 3) := Bv.cell 10
  have fv := Bv.frozen; have lv := Bv.lt
  have h8k' := Zh8kw.out; have h8k2' := Zh8k2w.out; have hb2' := Zhb2w.out; have hbn2' := Zhbn2w.out
  go_wp2_with fail
  replace cv0 : ∀ g : Later w3, g.w.cell? ⟨gv, 0, none⟩ = some (.int .i64 2) := fun g => g.cell (Bv.cell 0)
  replace cv1 : ∀ g : Later w3, g.w.cell? ⟨gv, 1, none⟩ = some (.int .u64 0) := fun g => g.cell (Bv.cell 1)
  replace cv2 : ∀ g : Later w3, g.w.cell? ⟨gv, 2, none⟩ = some (.int .u64 0) := fun g => g.cell (Bv.cell 2)
  replace cv3 : ∀ g : Later w3, g.w.cell? ⟨gv, 3, none⟩ = some (.int .u64 0) := fun g => g.cell (Bv.cell 3)
  replace cv4 : ∀ g : Later w3, g.w.cell? ⟨gv, 4, none⟩ = some (.int .u64 0) := fun g => g.cell (Bv.cell 4)
  replace cv5 : ∀ g : Later w3, g.w.cell? ⟨gv, 5, none⟩ = some (.int .i64 0) := fun g => g.cell (Bv.cell 5)
  replace cv6 : ∀ g : Later w3, g.w.cell? ⟨gv, 6, none⟩ = some (.int .i64 0) := fun g => g.cell (Bv.cell 6)
  replace cv7 : ∀ g : Later w3, g.w.cell? ⟨gv, 7, none⟩ = some (.int .i64 0) := fun g => g.cell (Bv.cell 7)
  replace cv8 : ∀ g : Later w3, g.w.cell? ⟨gv, 8, none⟩ = some (.int .i64 0) := fun g => g.cell (Bv.cell 8)
  replace cv9 : ∀ g : Later w3, g.w.cell? ⟨gv, 9, none⟩ = some (.int .i64 3) := fun g => g.cell (Bv.cell 9)
  replace cv10 : ∀ g : Later w3, g.w.cell? ⟨gv, 10, none⟩ = some (.int .i64 3) := fun g => g.cell (Bv.cell 10)
  refine wp_region_mixL 10 (fun k => k == 8) (fun _ => stv zs) (by kernel_rfl) (by kernel_rfl) (fun d _ _ _ _ h => by cases d <;> exact h) (fun o t ho ht => by
    simp at ho
    rcases ho with rfl | rfl | rfl | rfl | rfl | rfl | rfl | rfl | rfl | rfl <;> first | (cases ht; done) | (obtain rfl := Option.some.inj ht; exact fun ρ w => new_st ht ρ w)) ?_
  simp only [List.take_succ_cons, List.take_zero, List.drop_succ_cons, List.drop_zero]
  repeat (first | (refine wpMixL_row rfl 29 (.tmp 10) rfl (gv) rfl 29 #[.int .i64 2, .int .u64 0, .int .u64 0, .int .u64 0, .int .u64 0, .int .i64 0, .int .i64 0, .int .i64 0, .int .i64 0, .int .i64 3, .int .i64 3] _ Bv Try.underlying29 rfl (size_re _ _ _ _ _ _ _ _ _ _ _) rfl ?_) | ((with_reducible refine wpMixL_step (fun K hK => ?_)); go_simp; first | ((with_reducible refine hK _ ?_); clear hK K) | (rw [if_neg (by decide)]; (with_reducible refine hK _ ?_); clear hK K) | (apply Exists.intro; refine ⟨fun g => ?_, hK _ ?_⟩; ((with_reducible refine Calls.mono (hst g.w) ?_); exact fun _ _ h => h); clear hK K) | (apply Exists.intro; refine ⟨fun g => ?_, hK _ ?_⟩; ((with_reducible refine Calls.mono (k_s1 g.w) ?_); exact fun _ _ h => h); clear hK K)))
  refine wpMixL_nil ?_
  intro G w4 hgr hblk hdist
  have hb : Below w3.heap.size w3 w4 := hgr
  replace Bv := Bv.next hb
  obtain ⟨Bs, hls⟩ := hblk 9 _ rfl
  have hgs : w.heap.size ≤ G 9 := Nat.le_trans hB.size hls
  have hnvs : gv ≠ G 9 := Nat.ne_of_lt (Nat.lt_of_lt_of_le lv hls)
  clear hls
  clear cv0 cv1 cv2 cv3 cv4 cv5 cv6 cv7 cv8 cv9 cv10 fv lv
  replace hB : Below w.heap.size w w4 := Bl_trans hB hb
  simp only [putAll, isAlloc, Act.put]
  generalize G 9 = gs at *
  clear hb hgr hblk hdist
  have cv0 : w4.cell? ⟨gv, 0, none⟩ = some (.int .i64 2) := Bv.cell 0
  have cv1 : w4.cell? ⟨gv, 1, none⟩ = some (.int .u64 0) := Bv.cell 1
  have cv2 : w4.cell? ⟨gv, 2, none⟩ = some (.int .u64 0) := Bv.cell 2
  have cv3 : w4.cell? ⟨gv, 3, none⟩ = some (.int .u64 0) := Bv.cell 3
  have cv4 : w4.cell? ⟨gv, 4, none⟩ = some (.int .u64 0) := Bv.cell 4
  have cv5 : w4.cell? ⟨gv, 5, none⟩ = some (.int .i64 0) := Bv.cell 5
  have cv6 : w4.cell? ⟨gv, 6, none⟩ = some (.int .i64 0) := Bv.cell 6
  have cv7 : w4.cell? ⟨gv, 7, none⟩ = some (.int .i64 0) := Bv.cell 7
  have cv8 : w4.cell? ⟨gv, 8, none⟩ = some (.int .i64 0) := Bv.cell 8
  have cv9 : w4.cell? ⟨gv, 9, none⟩ = some (.int .i64 3) := Bv.cell 9
  have cv10 : w4.cell? ⟨gv, 10, none⟩ = some (.int .i64 3) := Bv.cell 10
  have fv := Bv.frozen; have lv := Bv.lt
  have fs := Bs.frozen; have ls := Bs.lt
  go_wp2_with (refine wpList_store_whole rfl 34 (.tmp 11) (.tmp 41) rfl (gs) (stv T1) rfl rfl 34 (stv zs) Bs (size_st T1) (by rw [stv_size, stv_size]) (stv_one T1) ?_)
  intro w5 hS
  clear cv0 cv1 cv2 cv3 cv4 cv5 cv6 cv7 cv8 cv9 cv10 fv lv
  clear  fs ls
  replace Bv := hS.far (by first | (simp; done) | (simp; omega) | (simp [*]; done) | (simp only [ne_eq]; constructor <;> omega)) Bv
  replace Bs : Blk w5 (gs) 34 (stv T1) := hS.blk
  replace hB := hS.bel hB (by first | omega | (simp; omega))
  clear hS
  have cv0 : w5.cell? ⟨gv, 0, none⟩ = some (.int .i64 2) := Bv.cell 0
  have cv1 : w5.cell? ⟨gv, 1, none⟩ = some (.int .u64 0) := Bv.cell 1
  have cv2 : w5.cell? ⟨gv, 2, none⟩ = some (.int .u64 0) := Bv.cell 2
  have cv3 : w5.cell? ⟨gv, 3, none⟩ = some (.int .u64 0) := Bv.cell 3
  have cv4 : w5.cell? ⟨gv, 4, none⟩ = some (.int .u64 0) := Bv.cell 4
  have cv5 : w5.cell? ⟨gv, 5, none⟩ = some (.int .i64 0) := Bv.cell 5
  have cv6 : w5.cell? ⟨gv, 6, none⟩ = some (.int .i64 0) := Bv.cell 6
  have cv7 : w5.cell? ⟨gv, 7, none⟩ = some (.int .i64 0) := Bv.cell 7
  have cv8 : w5.cell? ⟨gv, 8, none⟩ = some (.int .i64 0) := Bv.cell 8
  have cv9 : w5.cell? ⟨gv, 9, none⟩ = some (.int .i64 3) := Bv.cell 9
  have cv10 : w5.cell? ⟨gv, 10, none⟩ = some (.int .i64 3) := Bv.cell 10
  have fv := Bv.frozen; have lv := Bv.lt
  have fs := Bs.frozen; have ls := Bs.lt
  go_wp2_with fail
  replace cv0 : ∀ g : Later w5, g.w.cell? ⟨gv, 0, none⟩ = some (.int .i64 2) := fun g => g.cell (Bv.cell 0)
  replace cv1 : ∀ g : Later w5, g.w.cell? ⟨gv, 1, none⟩ = some (.int .u64 0) := fun g => g.cell (Bv.cell 1)
  replace cv2 : ∀ g : Later w5, g.w.cell? ⟨gv, 2, none⟩ = some (.int .u64 0) := fun g => g.cell (Bv.cell 2)
  replace cv3 : ∀ g : Later w5, g.w.cell? ⟨gv, 3, none⟩ = some (.int .u64 0) := fun g => g.cell (Bv.cell 3)
  replace cv4 : ∀ g : Later w5, g.w.cell? ⟨gv, 4, none⟩ = some (.int .u64 0) := fun g => g.cell (Bv.cell 4)
  replace cv5 : ∀ g : Later w5, g.w.cell? ⟨gv, 5, none⟩ = some (.int .i64 0) := fun g => g.cell (Bv.cell 5)
  replace cv6 : ∀ g : Later w5, g.w.cell? ⟨gv, 6, none⟩ = some (.int .i64 0) := fun g => g.cell (Bv.cell 6)
  replace cv7 : ∀ g : Later w5, g.w.cell? ⟨gv, 7, none⟩ = some (.int .i64 0) := fun g => g.cell (Bv.cell 7)
  replace cv8 : ∀ g : Later w5, g.w.cell? ⟨gv, 8, none⟩ = some (.int .i64 0) := fun g => g.cell (Bv.cell 8)
  replace cv9 : ∀ g : Later w5, g.w.cell? ⟨gv, 9, none⟩ = some (.int .i64 3) := fun g => g.cell (Bv.cell 9)
  replace cv10 : ∀ g : Later w5, g.w.cell? ⟨gv, 10, none⟩ = some (.int .i64 3) := fun g => g.cell (Bv.cell 10)
  refine wp_region_mixL 10 (fun k => k == 8) (fun _ => stv zs) (by kernel_rfl) (by kernel_rfl) (fun d _ _ _ _ h => by cases d <;> exact h) (fun o t ho ht => by
    simp at ho
    rcases ho with rfl | rfl | rfl | rfl | rfl | rfl | rfl | rfl | rfl | rfl <;> first | (cases ht; done) | (obtain rfl := Option.some.inj ht; exact fun ρ w => new_st ht ρ w)) ?_
  simp only [List.take_succ_cons, List.take_zero, List.drop_succ_cons, List.drop_zero]
  repeat (first | (refine wpMixL_row rfl 34 (.tmp 11) rfl (gs) rfl 34 (stv T1) _ Bs Try.underlying34 rfl (size_st _) rfl ?_) | ((with_reducible refine wpMixL_step (fun K hK => ?_)); go_simp; first | ((with_reducible refine hK _ ?_); clear hK K) | (rw [if_neg (by decide)]; (with_reducible refine hK _ ?_); clear hK K) | (apply Exists.intro; refine ⟨fun g => ?_, hK _ ?_⟩; ((with_reducible refine Calls.mono (k_n g.w) ?_); exact fun _ _ h => h); clear hK K) | (apply Exists.intro; refine ⟨fun g => ?_, hK _ ?_⟩; ((with_reducible refine Calls.mono (k_s2 g.w) ?_); exact fun _ _ h => h); clear hK K)))
  refine wpMixL_nil ?_
  intro G w6 hgr hblk hdist
  have hb : Below w5.heap.size w5 w6 := hgr
  replace Bv := Bv.next hb
  replace Bs := Bs.next hb
  obtain ⟨Bt, hlt⟩ := hblk 9 _ rfl
  have hgt : w.heap.size ≤ G 9 := Nat.le_trans hB.size hlt
  have hnvt : gv ≠ G 9 := Nat.ne_of_lt (Nat.lt_of_lt_of_le lv hlt)
  have hnst : gs ≠ G 9 := Nat.ne_of_lt (Nat.lt_of_lt_of_le ls hlt)
  clear hlt
  clear cv0 cv1 cv2 cv3 cv4 cv5 cv6 cv7 cv8 cv9 cv10 fv lv
  clear  fs ls
  replace hB : Below w.heap.size w w6 := Bl_trans hB hb
  simp only [putAll, isAlloc, Act.put]
  generalize G 9 = gt at *
  clear hb hgr hblk hdist
  have cv0 : w6.cell? ⟨gv, 0, none⟩ = some (.int .i64 2) := Bv.cell 0
  have cv1 : w6.cell? ⟨gv, 1, none⟩ = some (.int .u64 0) := Bv.cell 1
  have cv2 : w6.cell? ⟨gv, 2, none⟩ = some (.int .u64 0) := Bv.cell 2
  have cv3 : w6.cell? ⟨gv, 3, none⟩ = some (.int .u64 0) := Bv.cell 3
  have cv4 : w6.cell? ⟨gv, 4, none⟩ = some (.int .u64 0) := Bv.cell 4
  have cv5 : w6.cell? ⟨gv, 5, none⟩ = some (.int .i64 0) := Bv.cell 5
  have cv6 : w6.cell? ⟨gv, 6, none⟩ = some (.int .i64 0) := Bv.cell 6
  have cv7 : w6.cell? ⟨gv, 7, none⟩ = some (.int .i64 0) := Bv.cell 7
  have cv8 : w6.cell? ⟨gv, 8, none⟩ = some (.int .i64 0) := Bv.cell 8
  have cv9 : w6.cell? ⟨gv, 9, none⟩ = some (.int .i64 3) := Bv.cell 9
  have cv10 : w6.cell? ⟨gv, 10, none⟩ = some (.int .i64 3) := Bv.cell 10
  have fv := Bv.frozen; have lv := Bv.lt
  have fs := Bs.frozen; have ls := Bs.lt
  have ft := Bt.frozen; have lt := Bt.lt
  go_wp2_with (refine wpList_store_whole rfl 34 (.tmp 13) (.tmp 50) rfl (gt) (stv T2) rfl rfl 34 (stv zs) Bt (size_st T2) (by rw [stv_size, stv_size]) (stv_one T2) ?_)
  intro w7 hS
  clear cv0 cv1 cv2 cv3 cv4 cv5 cv6 cv7 cv8 cv9 cv10 fv lv
  clear  fs ls
  clear  ft lt
  replace Bv := hS.far (by first | (simp; done) | (simp; omega) | (simp [*]; done) | (simp only [ne_eq]; constructor <;> omega)) Bv
  replace Bs := hS.far (by first | (simp; done) | (simp; omega) | (simp [*]; done) | (simp only [ne_eq]; constructor <;> omega)) Bs
  replace Bt : Blk w7 (gt) 34 (stv T2) := hS.blk
  replace hB := hS.bel hB (by first | omega | (simp; omega))
  clear hS
  have cv0 : w7.cell? ⟨gv, 0, none⟩ = some (.int .i64 2) := Bv.cell 0
  have cv1 : w7.cell? ⟨gv, 1, none⟩ = some (.int .u64 0) := Bv.cell 1
  have cv2 : w7.cell? ⟨gv, 2, none⟩ = some (.int .u64 0) := Bv.cell 2
  have cv3 : w7.cell? ⟨gv, 3, none⟩ = some (.int .u64 0) := Bv.cell 3
  have cv4 : w7.cell? ⟨gv, 4, none⟩ = some (.int .u64 0) := Bv.cell 4
  have cv5 : w7.cell? ⟨gv, 5, none⟩ = some (.int .i64 0) := Bv.cell 5
  have cv6 : w7.cell? ⟨gv, 6, none⟩ = some (.int .i64 0) := Bv.cell 6
  have cv7 : w7.cell? ⟨gv, 7, none⟩ = some (.int .i64 0) := Bv.cell 7
  have cv8 : w7.cell? ⟨gv, 8, none⟩ = some (.int .i64 0) := Bv.cell 8
  have cv9 : w7.cell? ⟨gv, 9, none⟩ = some (.int .i64 3) := Bv.cell 9
  have cv10 : w7.cell? ⟨gv, 10, none⟩ = some (.int .i64 3) := Bv.cell 10
  have fv := Bv.frozen; have lv := Bv.lt
  have fs := Bs.frozen; have ls := Bs.lt
  have ft := Bt.frozen; have lt := Bt.lt
  have e1 := Ze1.out; have e1i := Ze1i.out
  go_wp2_with fail
  refine (saves_c _).mono ?_
  rintro e w8 ⟨rfl, hb⟩
  clear cv0 cv1 cv2 cv3 cv4 cv5 cv6 cv7 cv8 cv9 cv10 fv lv
  clear  fs ls
  clear  ft lt
  replace Bv := (Bv).next hb
  replace Bs := (Bs).next hb
  replace Bt := (Bt).next hb
  replace hB : Below w.heap.size w w8 := by repeat (first | exact hB | (refine Bl_set ?_ (by first | omega | (simp; omega)) _) | apply Bl_alloc | (refine Bl_trans ?_ hb))
  clear hb
  have cv0 : w8.cell? ⟨gv, 0, none⟩ = some (.int .i64 2) := Bv.cell 0
  have cv1 : w8.cell? ⟨gv, 1, none⟩ = some (.int .u64 0) := Bv.cell 1
  have cv2 : w8.cell? ⟨gv, 2, none⟩ = some (.int .u64 0) := Bv.cell 2
  have cv3 : w8.cell? ⟨gv, 3, none⟩ = some (.int .u64 0) := Bv.cell 3
  have cv4 : w8.cell? ⟨gv, 4, none⟩ = some (.int .u64 0) := Bv.cell 4
  have cv5 : w8.cell? ⟨gv, 5, none⟩ = some (.int .i64 0) := Bv.cell 5
  have cv6 : w8.cell? ⟨gv, 6, none⟩ = some (.int .i64 0) := Bv.cell 6
  have cv7 : w8.cell? ⟨gv, 7, none⟩ = some (.int .i64 0) := Bv.cell 7
  have cv8 : w8.cell? ⟨gv, 8, none⟩ = some (.int .i64 0) := Bv.cell 8
  have cv9 : w8.cell? ⟨gv, 9, none⟩ = some (.int .i64 3) := Bv.cell 9
  have cv10 : w8.cell? ⟨gv, 10, none⟩ = some (.int .i64 3) := Bv.cell 10
  have fv := Bv.frozen; have lv := Bv.lt
  have fs := Bs.frozen; have ls := Bs.lt
  have ft := Bt.frozen; have lt := Bt.lt
  go_wp2_with (refine wpList_load_whole rfl 34 (.tmp 13) rfl (gt) rfl 34 (stv T2) _ Bt Try.underlying34 rfl (size_st T2) ?_)
  refine (k_l _).mono ?_
  rintro e w9 ⟨rfl, hb⟩
  clear cv0 cv1 cv2 cv3 cv4 cv5 cv6 cv7 cv8 cv9 cv10 fv lv
  clear  fs ls
  clear  ft lt
  replace Bv := (Bv).next hb
  replace Bs := (Bs).next hb
  replace Bt := (Bt).next hb
  replace hB : Below w.heap.size w w9 := by repeat (first | exact hB | (refine Bl_set ?_ (by first | omega | (simp; omega)) _) | apply Bl_alloc | (refine Bl_trans ?_ hb))
  clear hb
  have cv0 : w9.cell? ⟨gv, 0, none⟩ = some (.int .i64 2) := Bv.cell 0
  have cv1 : w9.cell? ⟨gv, 1, none⟩ = some (.int .u64 0) := Bv.cell 1
  have cv2 : w9.cell? ⟨gv, 2, none⟩ = some (.int .u64 0) := Bv.cell 2
  have cv3 : w9.cell? ⟨gv, 3, none⟩ = some (.int .u64 0) := Bv.cell 3
  have cv4 : w9.cell? ⟨gv, 4, none⟩ = some (.int .u64 0) := Bv.cell 4
  have cv5 : w9.cell? ⟨gv, 5, none⟩ = some (.int .i64 0) := Bv.cell 5
  have cv6 : w9.cell? ⟨gv, 6, none⟩ = some (.int .i64 0) := Bv.cell 6
  have cv7 : w9.cell? ⟨gv, 7, none⟩ = some (.int .i64 0) := Bv.cell 7
  have cv8 : w9.cell? ⟨gv, 8, none⟩ = some (.int .i64 0) := Bv.cell 8
  have cv9 : w9.cell? ⟨gv, 9, none⟩ = some (.int .i64 3) := Bv.cell 9
  have cv10 : w9.cell? ⟨gv, 10, none⟩ = some (.int .i64 3) := Bv.cell 10
  have fv := Bv.frozen; have lv := Bv.lt
  have fs := Bs.frozen; have ls := Bs.lt
  have ft := Bt.frozen; have lt := Bt.lt
  go_upto_region 9 with fail
  clear cv0 cv1 cv2 cv3 cv4 cv5 cv6 cv7 cv8 cv9 cv10 fv lv
  clear  fs ls
  clear  ft lt
  have Br := Blk.new w9 29 #[.int .i64 2, .int .u64 0, .int .u64 0, .int .u64 0, .int .u64 0, .int .i64 0, .int .i64 0, .int .i64 0, .int .i64 0, .int .i64 3, .int .i64 3]
  have hgr := hB.size
  have hnvr := Nat.ne_of_lt Bv.lt; have hltvr := Bv.lt
  have hnsr := Nat.ne_of_lt Bs.lt; have hltsr := Bs.lt
  have hntr := Nat.ne_of_lt Bt.lt; have hlttr := Bt.lt
  replace Bv : Blk (w9.alloc (.cells #[.int .i64 2, .int .u64 0, .int .u64 0, .int .u64 0, .int .u64 0, .int .i64 0, .int .i64 0, .int .i64 0, .int .i64 0, .int .i64 3, .int .i64 3] 29)) (gv) 29 #[.int .i64 2, .int .u64 0, .int .u64 0, .int .u64 0, .int .u64 0, .int .i64 0, .int .i64 0, .int .i64 0, .int .i64 0, .int .i64 3, .int .i64 3] := Bv.alloc _
  replace Bs : Blk (w9.alloc (.cells #[.int .i64 2, .int .u64 0, .int .u64 0, .int .u64 0, .int .u64 0, .int .i64 0, .int .i64 0, .int .i64 0, .int .i64 0, .int .i64 3, .int .i64 3] 29)) (gs) 34 (stv T1) := Bs.alloc _
  replace Bt : Blk (w9.alloc (.cells #[.int .i64 2, .int .u64 0, .int .u64 0, .int .u64 0, .int .u64 0, .int .i64 0, .int .i64 0, .int .i64 0, .int .i64 0, .int .i64 3, .int .i64 3] 29)) (gt) 34 (stv T2) := Bt.alloc _
  replace hB : Below w.heap.size w (w9.alloc (.cells #[.int .i64 2, .int .u64 0, .int .u64 0, .int .u64 0, .int .u64 0, .int .i64 0, .int .i64 0, .int .i64 0, .int .i64 0, .int .i64 3, .int .i64 3] 29)) := Bl_alloc hB _
  generalize (w9.alloc (.cells #[.int .i64 2, .int .u64 0, .int .u64 0, .int .u64 0, .int .u64 0, .int .i64 0, .int .i64 0, .int .i64 0, .int .i64 0, .int .i64 3, .int .i64 3] 29)) = w10 at *
  generalize w9.heap.size = gr at *
  have cv0 : w10.cell? ⟨gv, 0, none⟩ = some (.int .i64 2) := Bv.cell 0
  have cv1 : w10.cell? ⟨gv, 1, none⟩ = some (.int .u64 0) := Bv.cell 1
  have cv2 : w10.cell? ⟨gv, 2, none⟩ = some (.int .u64 0) := Bv.cell 2
  have cv3 : w10.cell? ⟨gv, 3, none⟩ = some (.int .u64 0) := Bv.cell 3
  have cv4 : w10.cell? ⟨gv, 4, none⟩ = some (.int .u64 0) := Bv.cell 4
  have cv5 : w10.cell? ⟨gv, 5, none⟩ = some (.int .i64 0) := Bv.cell 5
  have cv6 : w10.cell? ⟨gv, 6, none⟩ = some (.int .i64 0) := Bv.cell 6
  have cv7 : w10.cell? ⟨gv, 7, none⟩ = some (.int .i64 0) := Bv.cell 7
  have cv8 : w10.cell? ⟨gv, 8, none⟩ = some (.int .i64 0) := Bv.cell 8
  have cv9 : w10.cell? ⟨gv, 9, none⟩ = some (.int .i64 3) := Bv.cell 9
  have cv10 : w10.cell? ⟨gv, 10, none⟩ = some (.int .i64 3) := Bv.cell 10
  have fv := Bv.frozen; have lv := Bv.lt
  have fs := Bs.frozen; have ls := Bs.lt
  have ft := Bt.frozen; have lt := Bt.lt
  have cr0 : w10.cell? ⟨gr, 0, none⟩ = some (.int .i64 2) := Br.cell 0
  have cr1 : w10.cell? ⟨gr, 1, none⟩ = some (.int .u64 0) := Br.cell 1
  have cr2 : w10.cell? ⟨gr, 2, none⟩ = some (.int .u64 0) := Br.cell 2
  have cr3 : w10.cell? ⟨gr, 3, none⟩ = some (.int .u64 0) := Br.cell 3
  have cr4 : w10.cell? ⟨gr, 4, none⟩ = some (.int .u64 0) := Br.cell 4
  have cr5 : w10.cell? ⟨gr, 5, none⟩ = some (.int .i64 0) := Br.cell 5
  have cr6 : w10.cell? ⟨gr, 6, none⟩ = some (.int .i64 0) := Br.cell 6
  have cr7 : w10.cell? ⟨gr, 7, none⟩ = some (.int .i64 0) := Br.cell 7
  have cr8 : w10.cell? ⟨gr, 8, none⟩ = some (.int .i64 0) := Br.cell 8
  have cr9 : w10.cell? ⟨gr, 9, none⟩ = some (.int .i64 3) := Br.cell 9
  have cr10 : w10.cell? ⟨gr, 10, none⟩ = some (.int .i64 3) := Br.cell 10
  have fr := Br.frozen; have lr := Br.lt
  have hq8 := Zhq8.out
  have t1 := Zt1.out
  have t1i := Zt1i.out
  have t2 := Zt2.out
  have t2i := Zt2i.out
  go_wp2
  go_ret
  exact ⟨rfl, by repeat (first | exact hB | (refine Bl_set ?_ (by first | omega | (simp; omega)) _) | apply Bl_alloc)⟩
set_option maxRecDepth 100000 in
set_option maxHeartbeats 3200000 in
theorem words_c (x y z : Int) (k b n m : Nat) (hk : k < 8) (hb : b < 64) (hm : m < 4) (hn : n = 1 ∨ n = 2 ∨ n = 4 ∨ n = 8) (hnv : (#[.int .i64 1, .int .i64 2, .int .i64 4, .int .i64 8] : Array Value)[m]? = some (.int .i64 (n : Int))) (rx : wrap64 ((IntKind.u64.wrap x).tmod 8) = (k : Int)) (ry : wrap64 ((IntKind.u64.wrap y).tmod 64) = (b : Int)) (rz : wrap64 ((IntKind.u64.wrap z).tmod 4) = (m : Int)) (hbn : b + n ≤ 64) (hov : b < 8 * k + 8) (ho2 : 8 * k < b + n) (h8 : n = 8) (hbk : b = 8 * k) (w : World) : Calls Try.prog 3 #[.int .i64 x, .int .i64 y, .int .i64 z] w fun e w' => e = .returned (.bool true) ∧ Below w.heap.size w w' := by
  have hok1 := PlainAbs.wst_ok hk
  have k_s1 : ∀ w : World, Calls Try.prog 15 #[.agg (stv PlainAbs.start), .int .i64 (((8 * k : Nat) : Int) - 64), .int .i64 8, .agg #[.int .i64 2, .int .u64 0, .int .u64 0, .int .u64 0, .int .u64 0, .int .i64 0, .int .i64 0, .int .i64 0, .int .i64 0, .int .i64 3, .int .i64 3]] w fun e w' => e = .returned (.tuple #[.agg (stv (wst k)), .bool true]) ∧ Below w.heap.size w w' := fun w => by have h := save_c PlainAbs.start (((8 * k : Nat) : Int) - 64) 8 vreg w; rw [hok1] at h; exact h
  have hok2 := PlainAbs.wst2_ok (k := k) hb hn
  rw [show decide (b + n ≤ 64) = true by simpa using hbn] at hok2
  have k_s2 : ∀ w : World, Calls Try.prog 15 #[.agg (stv (wst k)), .int .i64 ((b : Int) - 64), .int .i64 (n : Int), gv (PlainAbs.number (PlainScalar.const 1#64))] w fun e w' => e = .returned (.tuple #[.agg (stv (wst2 k b n)), .bool true]) ∧ Below w.heap.size w w' := fun w => by have h := save_c (wst k) ((b : Int) - 64) (n : Int) (PlainAbs.number (PlainScalar.const 1#64)) w; rw [hok2] at h; exact h
  have k_n : ∀ w : World, Calls Try.prog 17 #[.int .u64 1] w fun e w' => e = .returned (gv (PlainAbs.number (PlainScalar.const 1#64))) ∧ Below w.heap.size w w' := number_c 1#64
  obtain ⟨v8, e_v8⟩ : ∃ z', z' = PlainScalar.low PlainScalar.any 8 := ⟨_, rfl⟩
  have hld : PlainAbs.load (wst2 k b n) (((8 * k : Nat) : Int) - 64) 8 = (PlainAbs.number v8, true) := by rw [PlainAbs.wload_on hk hn hbn hov ho2, if_pos ⟨h8, hbk⟩, ← e_v8]
  obtain ⟨i1, i2, i3, i4, i5, i6, hi1, hi2, hi3, hi4, hi5, hi6⟩ : ∃ i1 i2 i3 i4 i5 i6, T v8.b.v = i1 ∧ T v8.b.m = i2 ∧ T v8.lo = i3 ∧ T v8.hi = i4 ∧ S v8.sl = i5 ∧ S v8.sh = i6 := ⟨_, _, _, _, _, _, rfl, rfl, rfl, rfl, rfl, rfl⟩
  have hni : gv (PlainAbs.number v8) = .agg #[.int .i64 1, .int .u64 i1, .int .u64 i2, .int .u64 i3, .int .u64 i4, .int .i64 i5, .int .i64 i6, .int .i64 0, .int .i64 0, .int .i64 0, .int .i64 0] := by rw [← hi1, ← hi2, ← hi3, ← hi4, ← hi5, ← hi6]; rfl
  have k_l : ∀ w : World, Calls Try.prog 19 #[.agg (stv (wst2 k b n)), .int .i64 (((8 * k : Nat) : Int) - 64), .int .i64 8] w fun e w' => e = .returned (.tuple #[.agg #[.int .i64 1, .int .u64 i1, .int .u64 i2, .int .u64 i3, .int .u64 i4, .int .i64 i5, .int .i64 i6, .int .i64 0, .int .i64 0, .int .i64 0, .int .i64 0], .bool true]) ∧ Below w.heap.size w w' := fun w => by have h := load_c (wst2 k b n) (((8 * k : Nat) : Int) - 64) 8 w; rw [hld] at h; rw [← hni]; exact h
  clear hni hi1 hi2 hi3 hi4 hi5 hi6
  generalize PlainAbs.number (PlainScalar.const 1#64) = n1 at k_n k_s2
  have hst := start_c
  obtain ⟨q, hq⟩ : ∃ q, q = 8 * k := ⟨_, rfl⟩
  rw [← hq] at k_s1 k_l
  obtain rfl : b = q := (by rw [hq]; exact hbk)
  obtain ⟨e, he⟩ : ∃ e, e = b + n := ⟨_, rfl⟩
  have hmi : (m : Int) < 4 := Int.ofNat_lt.2 hm
  have hnl : ([.int .i64 1, .int .i64 2, .int .i64 4, .int .i64 8] : List Value)[m]'(by simpa using hm) = .int .i64 (n : Int) := (Array.getElem?_eq_some_iff.1 hnv).2
  clear hok1 hok2 hld e_v8
  generalize wst2 k b n = T2 at k_s2 k_l; generalize wst k = T1 at k_s1 k_s2; generalize PlainAbs.start = S0 at hst k_s1
  have Xhbn := Lib.hid hbn
  have Xhov := Lib.hid hov
  have Xho2 := Lib.hid ho2
  have Xhk := Lib.hid hk
  have Xhb := Lib.hid hb
  obtain ⟨ye1, ye1i, yhq8, yt1, yt1i, yt2, yt2i, yt3, yh8kw, yh8k2w, yhb2w, yhbn2w, yh8kv, yh8k2v, yhb2v, yhbn2v⟩ := words_c_f k b n b e hk hb hn hbn hov ho2 h8 hbk he hq
  have Ze1 := Lib.hid ye1; clear ye1
  have Ze1i := Lib.hid ye1i; clear ye1i
  have Zhq8 := Lib.hid yhq8; clear yhq8
  have Zt1 := Lib.hid yt1; clear yt1
  have Zt1i := Lib.hid yt1i; clear yt1i
  have Zt2 := Lib.hid yt2; clear yt2
  have Zt2i := Lib.hid yt2i; clear yt2i
  have Zt3 := Lib.hid yt3; clear yt3
  have Zh8kw := Lib.hid yh8kw; clear yh8kw
  have Zh8k2w := Lib.hid yh8k2w; clear yh8k2w
  have Zhb2w := Lib.hid yhb2w; clear yhb2w
  have Zhbn2w := Lib.hid yhbn2w; clear yhbn2w
  have Zh8kv := Lib.hid yh8kv; clear yh8kv
  have Zh8k2v := Lib.hid yh8k2v; clear yh8k2v
  have Zhb2v := Lib.hid yhb2v; clear yhb2v
  have Zhbn2v := Lib.hid yhbn2v; clear yhbn2v
  have H8 := Lib.hid h8; have HB := Lib.hid hbk; clear h8 hbk
  have h8k := Zh8kv.out; have h8k2 := Zh8k2v.out; have hb2 := Zhb2v.out; have hbn2 := Zhbn2v.out
  have HN := Lib.hid hn; have HE := Lib.hid he; have HQ := Lib.hid hq; have HL := Lib.hid hnl; clear hn he hq hnl hnv
  clear hbn hov ho2 hk hb
  go_enter Try.func3, Try.ntmps3
  go_upto_region 3 with fail
  have hB : Below w.heap.size w w := (Bl_refl w)
  have hnl := HL.out; rw [hnl]; clear hnl
  have Bl := Blk.new w 3 #[.int .i64 1, .int .i64 2, .int .i64 4, .int .i64 8]
  have hgl := hB.size
  replace hB : Below w.heap.size w (w.alloc (.cells #[.int .i64 1, .int .i64 2, .int .i64 4, .int .i64 8] 3)) := Bl_alloc hB _
  generalize (w.alloc (.cells #[.int .i64 1, .int .i64 2, .int .i64 4, .int .i64 8] 3)) = w2 at *
  have cl0 : w2.cell? ⟨w.heap.size, 0, none⟩ = some (.int .i64 1) := Bl.cell 0
  have cl1 : w2.cell? ⟨w.heap.size, 1, none⟩ = some (.int .i64 2) := Bl.cell 1
  have cl2 : w2.cell? ⟨w.heap.size, 2, none⟩ = some (.int .i64 4) := Bl.cell 2
  have cl3 : w2.cell? ⟨w.heap.size, 3, none⟩ = some (.int .i64 8) := Bl.cell 3
  have fl := Bl.frozen; have ll := Bl.lt
  clear cl0 cl1 cl2 cl3 fl ll
  clear Bl
  go_wp2_with fail
  have Bv := Blk.new w2 29 #[.int .i64 2, .int .u64 0, .int .u64 0, .int .u64 0, .int .u64 0, .int .i64 0, .int .i64 0, .int .i64 0, .int .i64 0, .int .i64 3, .int .i64 3]
  have hgv := hB.size
  replace hB : Below w.heap.size w (w2.alloc (.cells #[.int .i64 2, .int .u64 0, .int .u64 0, .int .u64 0, .int .u64 0, .int .i64 0, .int .i64 0, .int .i64 0, .int .i64 0, .int .i64 3, .int .i64 3] 29)) := Bl_alloc hB _
  generalize (w2.alloc (.cells #[.int .i64 2, .int .u64 0, .int .u64 0, .int .u64 0, .int .u64 0, .int .i64 0, .int .i64 0, .int .i64 0, .int .i64 0, .int .i64 3, .int .i64 3] 29)) = w3 at *
  generalize w2.heap.size = gv at *
  have cv0 : w3.cell? ⟨gv, 0, none⟩ = some (.int .i64 2) := Bv.cell 0
  have cv1 : w3.cell? ⟨gv, 1, none⟩ = some (.int .u64 0) := Bv.cell 1
  have cv2 : w3.cell? ⟨gv, 2, none⟩ = some (.int .u64 0) := Bv.cell 2
  have cv3 : w3.cell? ⟨gv, 3, none⟩ = some (.int .u64 0) := Bv.cell 3
  have cv4 : w3.cell? ⟨gv, 4, none⟩ = some (.int .u64 0) := Bv.cell 4
  have cv5 : w3.cell? ⟨gv, 5, none⟩ = some (.int .i64 0) := Bv.cell 5
  have cv6 : w3.cell? ⟨gv, 6, none⟩ = some (.int .i64 0) := Bv.cell 6
  have cv7 : w3.cell? ⟨gv, 7, none⟩ = some (.int .i64 0) := Bv.cell 7
  have cv8 : w3.cell? ⟨gv, 8, none⟩ = some (.int .i64 0) := Bv.cell 8
  have cv9 : w3.cell? ⟨gv, 9, none⟩ = some (.int .i64 3) := Bv.cell 9
  have cv10 : w3.cell? ⟨gv, 10, none⟩ = some (.int .i64 3) := Bv.cell 10
  have fv := Bv.frozen; have lv := Bv.lt
  have h8k' := Zh8kw.out; have h8k2' := Zh8k2w.out; have hb2' := Zhb2w.out; have hbn2' := Zhbn2w.out
  go_wp2_with fail
  replace cv0 : ∀ g : Later w3, g.w.cell? ⟨gv, 0, none⟩ = some (.int .i64 2) := fun g => g.cell (Bv.cell 0)
  replace cv1 : ∀ g : Later w3, g.w.cell? ⟨gv, 1, none⟩ = some (.int .u64 0) := fun g => g.cell (Bv.cell 1)
  replace cv2 : ∀ g : Later w3, g.w.cell? ⟨gv, 2, none⟩ = some (.int .u64 0) := fun g => g.cell (Bv.cell 2)
  replace cv3 : ∀ g : Later w3, g.w.cell? ⟨gv, 3, none⟩ = some (.int .u64 0) := fun g => g.cell (Bv.cell 3)
  replace cv4 : ∀ g : Later w3, g.w.cell? ⟨gv, 4, none⟩ = some (.int .u64 0) := fun g => g.cell (Bv.cell 4)
  replace cv5 : ∀ g : Later w3, g.w.cell? ⟨gv, 5, none⟩ = some (.int .i64 0) := fun g => g.cell (Bv.cell 5)
  replace cv6 : ∀ g : Later w3, g.w.cell? ⟨gv, 6, none⟩ = some (.int .i64 0) := fun g => g.cell (Bv.cell 6)
  replace cv7 : ∀ g : Later w3, g.w.cell? ⟨gv, 7, none⟩ = some (.int .i64 0) := fun g => g.cell (Bv.cell 7)
  replace cv8 : ∀ g : Later w3, g.w.cell? ⟨gv, 8, none⟩ = some (.int .i64 0) := fun g => g.cell (Bv.cell 8)
  replace cv9 : ∀ g : Later w3, g.w.cell? ⟨gv, 9, none⟩ = some (.int .i64 3) := fun g => g.cell (Bv.cell 9)
  replace cv10 : ∀ g : Later w3, g.w.cell? ⟨gv, 10, none⟩ = some (.int .i64 3) := fun g => g.cell (Bv.cell 10)
  refine wp_region_mixL 10 (fun k => k == 8) (fun _ => stv zs) (by kernel_rfl) (by kernel_rfl) (fun d _ _ _ _ h => by cases d <;> exact h) (fun o t ho ht => by
    simp at ho
    rcases ho with rfl | rfl | rfl | rfl | rfl | rfl | rfl | rfl | rfl | rfl <;> first | (cases ht; done) | (obtain rfl := Option.some.inj ht; exact fun ρ w => new_st ht ρ w)) ?_
  simp only [List.take_succ_cons, List.take_zero, List.drop_succ_cons, List.drop_zero]
  repeat (first | (refine wpMixL_row rfl 29 (.tmp 10) rfl (gv) rfl 29 #[.int .i64 2, .int .u64 0, .int .u64 0, .int .u64 0, .int .u64 0, .int .i64 0, .int .i64 0, .int .i64 0, .int .i64 0, .int .i64 3, .int .i64 3] _ Bv Try.underlying29 rfl (size_re _ _ _ _ _ _ _ _ _ _ _) rfl ?_) | ((with_reducible refine wpMixL_step (fun K hK => ?_)); go_simp; first | ((with_reducible refine hK _ ?_); clear hK K) | (rw [if_neg (by decide)]; (with_reducible refine hK _ ?_); clear hK K) | (apply Exists.intro; refine ⟨fun g => ?_, hK _ ?_⟩; ((with_reducible refine Calls.mono (hst g.w) ?_); exact fun _ _ h => h); clear hK K) | (apply Exists.intro; refine ⟨fun g => ?_, hK _ ?_⟩; ((with_reducible refine Calls.mono (k_s1 g.w) ?_); exact fun _ _ h => h); clear hK K)))
  refine wpMixL_nil ?_
  intro G w4 hgr hblk hdist
  have hb : Below w3.heap.size w3 w4 := hgr
  replace Bv := Bv.next hb
  obtain ⟨Bs, hls⟩ := hblk 9 _ rfl
  have hgs : w.heap.size ≤ G 9 := Nat.le_trans hB.size hls
  have hnvs : gv ≠ G 9 := Nat.ne_of_lt (Nat.lt_of_lt_of_le lv hls)
  clear hls
  clear cv0 cv1 cv2 cv3 cv4 cv5 cv6 cv7 cv8 cv9 cv10 fv lv
  replace hB : Below w.heap.size w w4 := Bl_trans hB hb
  simp only [putAll, isAlloc, Act.put]
  generalize G 9 = gs at *
  clear hb hgr hblk hdist
  have cv0 : w4.cell? ⟨gv, 0, none⟩ = some (.int .i64 2) := Bv.cell 0
  have cv1 : w4.cell? ⟨gv, 1, none⟩ = some (.int .u64 0) := Bv.cell 1
  have cv2 : w4.cell? ⟨gv, 2, none⟩ = some (.int .u64 0) := Bv.cell 2
  have cv3 : w4.cell? ⟨gv, 3, none⟩ = some (.int .u64 0) := Bv.cell 3
  have cv4 : w4.cell? ⟨gv, 4, none⟩ = some (.int .u64 0) := Bv.cell 4
  have cv5 : w4.cell? ⟨gv, 5, none⟩ = some (.int .i64 0) := Bv.cell 5
  have cv6 : w4.cell? ⟨gv, 6, none⟩ = some (.int .i64 0) := Bv.cell 6
  have cv7 : w4.cell? ⟨gv, 7, none⟩ = some (.int .i64 0) := Bv.cell 7
  have cv8 : w4.cell? ⟨gv, 8, none⟩ = some (.int .i64 0) := Bv.cell 8
  have cv9 : w4.cell? ⟨gv, 9, none⟩ = some (.int .i64 3) := Bv.cell 9
  have cv10 : w4.cell? ⟨gv, 10, none⟩ = some (.int .i64 3) := Bv.cell 10
  have fv := Bv.frozen; have lv := Bv.lt
  have fs := Bs.frozen; have ls := Bs.lt
  go_wp2_with (refine wpList_store_whole rfl 34 (.tmp 11) (.tmp 41) rfl (gs) (stv T1) rfl rfl 34 (stv zs) Bs (size_st T1) (by rw [stv_size, stv_size]) (stv_one T1) ?_)
  intro w5 hS
  clear cv0 cv1 cv2 cv3 cv4 cv5 cv6 cv7 cv8 cv9 cv10 fv lv
  clear  fs ls
  replace Bv := hS.far (by first | (simp; done) | (simp; omega) | (simp [*]; done) | (simp only [ne_eq]; constructor <;> omega)) Bv
  replace Bs : Blk w5 (gs) 34 (stv T1) := hS.blk
  replace hB := hS.bel hB (by first | omega | (simp; omega))
  clear hS
  have cv0 : w5.cell? ⟨gv, 0, none⟩ = some (.int .i64 2) := Bv.cell 0
  have cv1 : w5.cell? ⟨gv, 1, none⟩ = some (.int .u64 0) := Bv.cell 1
  have cv2 : w5.cell? ⟨gv, 2, none⟩ = some (.int .u64 0) := Bv.cell 2
  have cv3 : w5.cell? ⟨gv, 3, none⟩ = some (.int .u64 0) := Bv.cell 3
  have cv4 : w5.cell? ⟨gv, 4, none⟩ = some (.int .u64 0) := Bv.cell 4
  have cv5 : w5.cell? ⟨gv, 5, none⟩ = some (.int .i64 0) := Bv.cell 5
  have cv6 : w5.cell? ⟨gv, 6, none⟩ = some (.int .i64 0) := Bv.cell 6
  have cv7 : w5.cell? ⟨gv, 7, none⟩ = some (.int .i64 0) := Bv.cell 7
  have cv8 : w5.cell? ⟨gv, 8, none⟩ = some (.int .i64 0) := Bv.cell 8
  have cv9 : w5.cell? ⟨gv, 9, none⟩ = some (.int .i64 3) := Bv.cell 9
  have cv10 : w5.cell? ⟨gv, 10, none⟩ = some (.int .i64 3) := Bv.cell 10
  have fv := Bv.frozen; have lv := Bv.lt
  have fs := Bs.frozen; have ls := Bs.lt
  go_wp2_with fail
  replace cv0 : ∀ g : Later w5, g.w.cell? ⟨gv, 0, none⟩ = some (.int .i64 2) := fun g => g.cell (Bv.cell 0)
  replace cv1 : ∀ g : Later w5, g.w.cell? ⟨gv, 1, none⟩ = some (.int .u64 0) := fun g => g.cell (Bv.cell 1)
  replace cv2 : ∀ g : Later w5, g.w.cell? ⟨gv, 2, none⟩ = some (.int .u64 0) := fun g => g.cell (Bv.cell 2)
  replace cv3 : ∀ g : Later w5, g.w.cell? ⟨gv, 3, none⟩ = some (.int .u64 0) := fun g => g.cell (Bv.cell 3)
  replace cv4 : ∀ g : Later w5, g.w.cell? ⟨gv, 4, none⟩ = some (.int .u64 0) := fun g => g.cell (Bv.cell 4)
  replace cv5 : ∀ g : Later w5, g.w.cell? ⟨gv, 5, none⟩ = some (.int .i64 0) := fun g => g.cell (Bv.cell 5)
  replace cv6 : ∀ g : Later w5, g.w.cell? ⟨gv, 6, none⟩ = some (.int .i64 0) := fun g => g.cell (Bv.cell 6)
  replace cv7 : ∀ g : Later w5, g.w.cell? ⟨gv, 7, none⟩ = some (.int .i64 0) := fun g => g.cell (Bv.cell 7)
  replace cv8 : ∀ g : Later w5, g.w.cell? ⟨gv, 8, none⟩ = some (.int .i64 0) := fun g => g.cell (Bv.cell 8)
  replace cv9 : ∀ g : Later w5, g.w.cell? ⟨gv, 9, none⟩ = some (.int .i64 3) := fun g => g.cell (Bv.cell 9)
  replace cv10 : ∀ g : Later w5, g.w.cell? ⟨gv, 10, none⟩ = some (.int .i64 3) := fun g => g.cell (Bv.cell 10)
  refine wp_region_mixL 10 (fun k => k == 8) (fun _ => stv zs) (by kernel_rfl) (by kernel_rfl) (fun d _ _ _ _ h => by cases d <;> exact h) (fun o t ho ht => by
    simp at ho
    rcases ho with rfl | rfl | rfl | rfl | rfl | rfl | rfl | rfl | rfl | rfl <;> first | (cases ht; done) | (obtain rfl := Option.some.inj ht; exact fun ρ w => new_st ht ρ w)) ?_
  simp only [List.take_succ_cons, List.take_zero, List.drop_succ_cons, List.drop_zero]
  repeat (first | (refine wpMixL_row rfl 34 (.tmp 11) rfl (gs) rfl 34 (stv T1) _ Bs Try.underlying34 rfl (size_st _) rfl ?_) | ((with_reducible refine wpMixL_step (fun K hK => ?_)); go_simp; first | ((with_reducible refine hK _ ?_); clear hK K) | (rw [if_neg (by decide)]; (with_reducible refine hK _ ?_); clear hK K) | (apply Exists.intro; refine ⟨fun g => ?_, hK _ ?_⟩; ((with_reducible refine Calls.mono (k_n g.w) ?_); exact fun _ _ h => h); clear hK K) | (apply Exists.intro; refine ⟨fun g => ?_, hK _ ?_⟩; ((with_reducible refine Calls.mono (k_s2 g.w) ?_); exact fun _ _ h => h); clear hK K)))
  refine wpMixL_nil ?_
  intro G w6 hgr hblk hdist
  have hb : Below w5.heap.size w5 w6 := hgr
  replace Bv := Bv.next hb
  replace Bs := Bs.next hb
  obtain ⟨Bt, hlt⟩ := hblk 9 _ rfl
  have hgt : w.heap.size ≤ G 9 := Nat.le_trans hB.size hlt
  have hnvt : gv ≠ G 9 := Nat.ne_of_lt (Nat.lt_of_lt_of_le lv hlt)
  have hnst : gs ≠ G 9 := Nat.ne_of_lt (Nat.lt_of_lt_of_le ls hlt)
  clear hlt
  clear cv0 cv1 cv2 cv3 cv4 cv5 cv6 cv7 cv8 cv9 cv10 fv lv
  clear  fs ls
  replace hB : Below w.heap.size w w6 := Bl_trans hB hb
  simp only [putAll, isAlloc, Act.put]
  generalize G 9 = gt at *
  clear hb hgr hblk hdist
  have cv0 : w6.cell? ⟨gv, 0, none⟩ = some (.int .i64 2) := Bv.cell 0
  have cv1 : w6.cell? ⟨gv, 1, none⟩ = some (.int .u64 0) := Bv.cell 1
  have cv2 : w6.cell? ⟨gv, 2, none⟩ = some (.int .u64 0) := Bv.cell 2
  have cv3 : w6.cell? ⟨gv, 3, none⟩ = some (.int .u64 0) := Bv.cell 3
  have cv4 : w6.cell? ⟨gv, 4, none⟩ = some (.int .u64 0) := Bv.cell 4
  have cv5 : w6.cell? ⟨gv, 5, none⟩ = some (.int .i64 0) := Bv.cell 5
  have cv6 : w6.cell? ⟨gv, 6, none⟩ = some (.int .i64 0) := Bv.cell 6
  have cv7 : w6.cell? ⟨gv, 7, none⟩ = some (.int .i64 0) := Bv.cell 7
  have cv8 : w6.cell? ⟨gv, 8, none⟩ = some (.int .i64 0) := Bv.cell 8
  have cv9 : w6.cell? ⟨gv, 9, none⟩ = some (.int .i64 3) := Bv.cell 9
  have cv10 : w6.cell? ⟨gv, 10, none⟩ = some (.int .i64 3) := Bv.cell 10
  have fv := Bv.frozen; have lv := Bv.lt
  have fs := Bs.frozen; have ls := Bs.lt
  have ft := Bt.frozen; have lt := Bt.lt
  go_wp2_with (refine wpList_store_whole rfl 34 (.tmp 13) (.tmp 50) rfl (gt) (stv T2) rfl rfl 34 (stv zs) Bt (size_st T2) (by rw [stv_size, stv_size]) (stv_one T2) ?_)
  intro w7 hS
  clear cv0 cv1 cv2 cv3 cv4 cv5 cv6 cv7 cv8 cv9 cv10 fv lv
  clear  fs ls
  clear  ft lt
  replace Bv := hS.far (by first | (simp; done) | (simp; omega) | (simp [*]; done) | (simp only [ne_eq]; constructor <;> omega)) Bv
  replace Bs := hS.far (by first | (simp; done) | (simp; omega) | (simp [*]; done) | (simp only [ne_eq]; constructor <;> omega)) Bs
  replace Bt : Blk w7 (gt) 34 (stv T2) := hS.blk
  replace hB := hS.bel hB (by first | omega | (simp; omega))
  clear hS
  have cv0 : w7.cell? ⟨gv, 0, none⟩ = some (.int .i64 2) := Bv.cell 0
  have cv1 : w7.cell? ⟨gv, 1, none⟩ = some (.int .u64 0) := Bv.cell 1
  have cv2 : w7.cell? ⟨gv, 2, none⟩ = some (.int .u64 0) := Bv.cell 2
  have cv3 : w7.cell? ⟨gv, 3, none⟩ = some (.int .u64 0) := Bv.cell 3
  have cv4 : w7.cell? ⟨gv, 4, none⟩ = some (.int .u64 0) := Bv.cell 4
  have cv5 : w7.cell? ⟨gv, 5, none⟩ = some (.int .i64 0) := Bv.cell 5
  have cv6 : w7.cell? ⟨gv, 6, none⟩ = some (.int .i64 0) := Bv.cell 6
  have cv7 : w7.cell? ⟨gv, 7, none⟩ = some (.int .i64 0) := Bv.cell 7
  have cv8 : w7.cell? ⟨gv, 8, none⟩ = some (.int .i64 0) := Bv.cell 8
  have cv9 : w7.cell? ⟨gv, 9, none⟩ = some (.int .i64 3) := Bv.cell 9
  have cv10 : w7.cell? ⟨gv, 10, none⟩ = some (.int .i64 3) := Bv.cell 10
  have fv := Bv.frozen; have lv := Bv.lt
  have fs := Bs.frozen; have ls := Bs.lt
  have ft := Bt.frozen; have lt := Bt.lt
  have e1 := Ze1.out; have e1i := Ze1i.out
  go_wp2_with fail
  refine (saves_c _).mono ?_
  rintro e w8 ⟨rfl, hb⟩
  clear cv0 cv1 cv2 cv3 cv4 cv5 cv6 cv7 cv8 cv9 cv10 fv lv
  clear  fs ls
  clear  ft lt
  replace Bv := (Bv).next hb
  replace Bs := (Bs).next hb
  replace Bt := (Bt).next hb
  replace hB : Below w.heap.size w w8 := by repeat (first | exact hB | (refine Bl_set ?_ (by first | omega | (simp; omega)) _) | apply Bl_alloc | (refine Bl_trans ?_ hb))
  clear hb
  have cv0 : w8.cell? ⟨gv, 0, none⟩ = some (.int .i64 2) := Bv.cell 0
  have cv1 : w8.cell? ⟨gv, 1, none⟩ = some (.int .u64 0) := Bv.cell 1
  have cv2 : w8.cell? ⟨gv, 2, none⟩ = some (.int .u64 0) := Bv.cell 2
  have cv3 : w8.cell? ⟨gv, 3, none⟩ = some (.int .u64 0) := Bv.cell 3
  have cv4 : w8.cell? ⟨gv, 4, none⟩ = some (.int .u64 0) := Bv.cell 4
  have cv5 : w8.cell? ⟨gv, 5, none⟩ = some (.int .i64 0) := Bv.cell 5
  have cv6 : w8.cell? ⟨gv, 6, none⟩ = some (.int .i64 0) := Bv.cell 6
  have cv7 : w8.cell? ⟨gv, 7, none⟩ = some (.int .i64 0) := Bv.cell 7
  have cv8 : w8.cell? ⟨gv, 8, none⟩ = some (.int .i64 0) := Bv.cell 8
  have cv9 : w8.cell? ⟨gv, 9, none⟩ = some (.int .i64 3) := Bv.cell 9
  have cv10 : w8.cell? ⟨gv, 10, none⟩ = some (.int .i64 3) := Bv.cell 10
  have fv := Bv.frozen; have lv := Bv.lt
  have fs := Bs.frozen; have ls := Bs.lt
  have ft := Bt.frozen; have lt := Bt.lt
  go_wp2_with (refine wpList_load_whole rfl 34 (.tmp 13) rfl (gt) rfl 34 (stv T2) _ Bt Try.underlying34 rfl (size_st T2) ?_)
  refine (k_l _).mono ?_
  rintro e w9 ⟨rfl, hb⟩
  clear cv0 cv1 cv2 cv3 cv4 cv5 cv6 cv7 cv8 cv9 cv10 fv lv
  clear  fs ls
  clear  ft lt
  replace Bv := (Bv).next hb
  replace Bs := (Bs).next hb
  replace Bt := (Bt).next hb
  replace hB : Below w.heap.size w w9 := by repeat (first | exact hB | (refine Bl_set ?_ (by first | omega | (simp; omega)) _) | apply Bl_alloc | (refine Bl_trans ?_ hb))
  clear hb
  have cv0 : w9.cell? ⟨gv, 0, none⟩ = some (.int .i64 2) := Bv.cell 0
  have cv1 : w9.cell? ⟨gv, 1, none⟩ = some (.int .u64 0) := Bv.cell 1
  have cv2 : w9.cell? ⟨gv, 2, none⟩ = some (.int .u64 0) := Bv.cell 2
  have cv3 : w9.cell? ⟨gv, 3, none⟩ = some (.int .u64 0) := Bv.cell 3
  have cv4 : w9.cell? ⟨gv, 4, none⟩ = some (.int .u64 0) := Bv.cell 4
  have cv5 : w9.cell? ⟨gv, 5, none⟩ = some (.int .i64 0) := Bv.cell 5
  have cv6 : w9.cell? ⟨gv, 6, none⟩ = some (.int .i64 0) := Bv.cell 6
  have cv7 : w9.cell? ⟨gv, 7, none⟩ = some (.int .i64 0) := Bv.cell 7
  have cv8 : w9.cell? ⟨gv, 8, none⟩ = some (.int .i64 0) := Bv.cell 8
  have cv9 : w9.cell? ⟨gv, 9, none⟩ = some (.int .i64 3) := Bv.cell 9
  have cv10 : w9.cell? ⟨gv, 10, none⟩ = some (.int .i64 3) := Bv.cell 10
  have fv := Bv.frozen; have lv := Bv.lt
  have fs := Bs.frozen; have ls := Bs.lt
  have ft := Bt.frozen; have lt := Bt.lt
  go_upto_region 9 with fail
  clear cv0 cv1 cv2 cv3 cv4 cv5 cv6 cv7 cv8 cv9 cv10 fv lv
  clear  fs ls
  clear  ft lt
  have Br := Blk.new w9 29 #[.int .i64 1, .int .u64 i1, .int .u64 i2, .int .u64 i3, .int .u64 i4, .int .i64 i5, .int .i64 i6, .int .i64 0, .int .i64 0, .int .i64 0, .int .i64 0]
  have hgr := hB.size
  have hnvr := Nat.ne_of_lt Bv.lt; have hltvr := Bv.lt
  have hnsr := Nat.ne_of_lt Bs.lt; have hltsr := Bs.lt
  have hntr := Nat.ne_of_lt Bt.lt; have hlttr := Bt.lt
  replace Bv : Blk (w9.alloc (.cells #[.int .i64 1, .int .u64 i1, .int .u64 i2, .int .u64 i3, .int .u64 i4, .int .i64 i5, .int .i64 i6, .int .i64 0, .int .i64 0, .int .i64 0, .int .i64 0] 29)) (gv) 29 #[.int .i64 2, .int .u64 0, .int .u64 0, .int .u64 0, .int .u64 0, .int .i64 0, .int .i64 0, .int .i64 0, .int .i64 0, .int .i64 3, .int .i64 3] := Bv.alloc _
  replace Bs : Blk (w9.alloc (.cells #[.int .i64 1, .int .u64 i1, .int .u64 i2, .int .u64 i3, .int .u64 i4, .int .i64 i5, .int .i64 i6, .int .i64 0, .int .i64 0, .int .i64 0, .int .i64 0] 29)) (gs) 34 (stv T1) := Bs.alloc _
  replace Bt : Blk (w9.alloc (.cells #[.int .i64 1, .int .u64 i1, .int .u64 i2, .int .u64 i3, .int .u64 i4, .int .i64 i5, .int .i64 i6, .int .i64 0, .int .i64 0, .int .i64 0, .int .i64 0] 29)) (gt) 34 (stv T2) := Bt.alloc _
  replace hB : Below w.heap.size w (w9.alloc (.cells #[.int .i64 1, .int .u64 i1, .int .u64 i2, .int .u64 i3, .int .u64 i4, .int .i64 i5, .int .i64 i6, .int .i64 0, .int .i64 0, .int .i64 0, .int .i64 0] 29)) := Bl_alloc hB _
  generalize (w9.alloc (.cells #[.int .i64 1, .int .u64 i1, .int .u64 i2, .int .u64 i3, .int .u64 i4, .int .i64 i5, .int .i64 i6, .int .i64 0, .int .i64 0, .int .i64 0, .int .i64 0] 29)) = w10 at *
  generalize w9.heap.size = gr at *
  have cv0 : w10.cell? ⟨gv, 0, none⟩ = some (.int .i64 2) := Bv.cell 0
  have cv1 : w10.cell? ⟨gv, 1, none⟩ = some (.int .u64 0) := Bv.cell 1
  have cv2 : w10.cell? ⟨gv, 2, none⟩ = some (.int .u64 0) := Bv.cell 2
  have cv3 : w10.cell? ⟨gv, 3, none⟩ = some (.int .u64 0) := Bv.cell 3
  have cv4 : w10.cell? ⟨gv, 4, none⟩ = some (.int .u64 0) := Bv.cell 4
  have cv5 : w10.cell? ⟨gv, 5, none⟩ = some (.int .i64 0) := Bv.cell 5
  have cv6 : w10.cell? ⟨gv, 6, none⟩ = some (.int .i64 0) := Bv.cell 6
  have cv7 : w10.cell? ⟨gv, 7, none⟩ = some (.int .i64 0) := Bv.cell 7
  have cv8 : w10.cell? ⟨gv, 8, none⟩ = some (.int .i64 0) := Bv.cell 8
  have cv9 : w10.cell? ⟨gv, 9, none⟩ = some (.int .i64 3) := Bv.cell 9
  have cv10 : w10.cell? ⟨gv, 10, none⟩ = some (.int .i64 3) := Bv.cell 10
  have fv := Bv.frozen; have lv := Bv.lt
  have fs := Bs.frozen; have ls := Bs.lt
  have ft := Bt.frozen; have lt := Bt.lt
  have cr0 : w10.cell? ⟨gr, 0, none⟩ = some (.int .i64 1) := Br.cell 0
  have cr1 : w10.cell? ⟨gr, 1, none⟩ = some (.int .u64 i1) := Br.cell 1
  have cr2 : w10.cell? ⟨gr, 2, none⟩ = some (.int .u64 i2) := Br.cell 2
  have cr3 : w10.cell? ⟨gr, 3, none⟩ = some (.int .u64 i3) := Br.cell 3
  have cr4 : w10.cell? ⟨gr, 4, none⟩ = some (.int .u64 i4) := Br.cell 4
  have cr5 : w10.cell? ⟨gr, 5, none⟩ = some (.int .i64 i5) := Br.cell 5
  have cr6 : w10.cell? ⟨gr, 6, none⟩ = some (.int .i64 i6) := Br.cell 6
  have cr7 : w10.cell? ⟨gr, 7, none⟩ = some (.int .i64 0) := Br.cell 7
  have cr8 : w10.cell? ⟨gr, 8, none⟩ = some (.int .i64 0) := Br.cell 8
  have cr9 : w10.cell? ⟨gr, 9, none⟩ = some (.int .i64 0) := Br.cell 9
  have cr10 : w10.cell? ⟨gr, 10, none⟩ = some (.int .i64 0) := Br.cell 10
  have fr := Br.frozen; have lr := Br.lt
  have hq8 := Zhq8.out
  have t1 := Zt1.out
  have t1i := Zt1i.out
  have t2 := Zt2.out
  have t2i := Zt2i.out
  have t3 := Zt3.out
  go_wp2
  go_ret
  exact ⟨rfl, by repeat (first | exact hB | (refine Bl_set ?_ (by first | omega | (simp; omega)) _) | apply Bl_alloc)⟩
set_option maxRecDepth 100000 in
set_option maxHeartbeats 3200000 in
theorem words_d (x y z : Int) (k b n m : Nat) (hk : k < 8) (hb : b < 64) (hm : m < 4) (hn : n = 1 ∨ n = 2 ∨ n = 4 ∨ n = 8) (hnv : (#[.int .i64 1, .int .i64 2, .int .i64 4, .int .i64 8] : Array Value)[m]? = some (.int .i64 (n : Int))) (rx : wrap64 ((IntKind.u64.wrap x).tmod 8) = (k : Int)) (ry : wrap64 ((IntKind.u64.wrap y).tmod 64) = (b : Int)) (rz : wrap64 ((IntKind.u64.wrap z).tmod 4) = (m : Int)) (hbn : b + n ≤ 64) (hov : b < 8 * k + 8) (ho2 : 8 * k < b + n) (h8 : ¬ n = 8) (w : World) : Calls Try.prog 3 #[.int .i64 x, .int .i64 y, .int .i64 z] w fun e w' => e = .returned (.bool true) ∧ Below w.heap.size w w' := by
  have hok1 := PlainAbs.wst_ok hk
  have k_s1 : ∀ w : World, Calls Try.prog 15 #[.agg (stv PlainAbs.start), .int .i64 (((8 * k : Nat) : Int) - 64), .int .i64 8, .agg #[.int .i64 2, .int .u64 0, .int .u64 0, .int .u64 0, .int .u64 0, .int .i64 0, .int .i64 0, .int .i64 0, .int .i64 0, .int .i64 3, .int .i64 3]] w fun e w' => e = .returned (.tuple #[.agg (stv (wst k)), .bool true]) ∧ Below w.heap.size w w' := fun w => by have h := save_c PlainAbs.start (((8 * k : Nat) : Int) - 64) 8 vreg w; rw [hok1] at h; exact h
  have hok2 := PlainAbs.wst2_ok (k := k) hb hn
  rw [show decide (b + n ≤ 64) = true by simpa using hbn] at hok2
  have k_s2 : ∀ w : World, Calls Try.prog 15 #[.agg (stv (wst k)), .int .i64 ((b : Int) - 64), .int .i64 (n : Int), gv (PlainAbs.number (PlainScalar.const 1#64))] w fun e w' => e = .returned (.tuple #[.agg (stv (wst2 k b n)), .bool true]) ∧ Below w.heap.size w w' := fun w => by have h := save_c (wst k) ((b : Int) - 64) (n : Int) (PlainAbs.number (PlainScalar.const 1#64)) w; rw [hok2] at h; exact h
  have k_n : ∀ w : World, Calls Try.prog 17 #[.int .u64 1] w fun e w' => e = .returned (gv (PlainAbs.number (PlainScalar.const 1#64))) ∧ Below w.heap.size w w' := number_c 1#64
  have hld : PlainAbs.load (wst2 k b n) (((8 * k : Nat) : Int) - 64) 8 = (zr, false) := by rw [PlainAbs.wload_on hk hn hbn hov ho2, if_neg (fun g => h8 g.1)]
  have k_l : ∀ w : World, Calls Try.prog 19 #[.agg (stv (wst2 k b n)), .int .i64 (((8 * k : Nat) : Int) - 64), .int .i64 8] w fun e w' => e = .returned (.tuple #[.agg #[.int .i64 0, .int .u64 0, .int .u64 0, .int .u64 0, .int .u64 0, .int .i64 0, .int .i64 0, .int .i64 0, .int .i64 0, .int .i64 0, .int .i64 0], .bool false]) ∧ Below w.heap.size w w' := fun w => by have h := load_c (wst2 k b n) (((8 * k : Nat) : Int) - 64) 8 w; rw [hld] at h; exact h
  generalize PlainAbs.number (PlainScalar.const 1#64) = n1 at k_n k_s2
  have hst := start_c
  obtain ⟨q, hq⟩ : ∃ q, q = 8 * k := ⟨_, rfl⟩
  rw [← hq] at k_s1 k_l
  obtain ⟨e, he⟩ : ∃ e, e = b + n := ⟨_, rfl⟩
  have hmi : (m : Int) < 4 := Int.ofNat_lt.2 hm
  have hnl : ([.int .i64 1, .int .i64 2, .int .i64 4, .int .i64 8] : List Value)[m]'(by simpa using hm) = .int .i64 (n : Int) := (Array.getElem?_eq_some_iff.1 hnv).2
  clear hok1 hok2 hld
  generalize wst2 k b n = T2 at k_s2 k_l; generalize wst k = T1 at k_s1 k_s2; generalize PlainAbs.start = S0 at hst k_s1
  have Xhbn := Lib.hid hbn
  have Xhov := Lib.hid hov
  have Xho2 := Lib.hid ho2
  have Xhk := Lib.hid hk
  have Xhb := Lib.hid hb
  obtain ⟨ye1, ye1i, yhq8, yt1, yt1i, yt2, yt2i, yt3, yh8kw, yh8k2w, yhb2w, yhbn2w, yh8kv, yh8k2v, yhb2v, yhbn2v⟩ := words_d_f k b n q e hk hb hn hbn hov ho2 h8 he hq
  have Ze1 := Lib.hid ye1; clear ye1
  have Ze1i := Lib.hid ye1i; clear ye1i
  have Zhq8 := Lib.hid yhq8; clear yhq8
  have Zt1 := Lib.hid yt1; clear yt1
  have Zt1i := Lib.hid yt1i; clear yt1i
  have Zt2 := Lib.hid yt2; clear yt2
  have Zt2i := Lib.hid yt2i; clear yt2i
  have Zt3 := Lib.hid yt3; clear yt3
  have Zh8kw := Lib.hid yh8kw; clear yh8kw
  have Zh8k2w := Lib.hid yh8k2w; clear yh8k2w
  have Zhb2w := Lib.hid yhb2w; clear yhb2w
  have Zhbn2w := Lib.hid yhbn2w; clear yhbn2w
  have Zh8kv := Lib.hid yh8kv; clear yh8kv
  have Zh8k2v := Lib.hid yh8k2v; clear yh8k2v
  have Zhb2v := Lib.hid yhb2v; clear yhb2v
  have Zhbn2v := Lib.hid yhbn2v; clear yhbn2v
  have h8k := Zh8kv.out; have h8k2 := Zh8k2v.out; have hb2 := Zhb2v.out; have hbn2 := Zhbn2v.out
  have HN := Lib.hid hn; have HE := Lib.hid he; have HQ := Lib.hid hq; have HL := Lib.hid hnl; clear hn he hq hnl hnv
  clear hbn hov ho2 hk hb
  go_enter Try.func3, Try.ntmps3
  go_upto_region 3 with fail
  have hB : Below w.heap.size w w := (Bl_refl w)
  have hnl := HL.out; rw [hnl]; clear hnl
  have Bl := Blk.new w 3 #[.int .i64 1, .int .i64 2, .int .i64 4, .int .i64 8]
  have hgl := hB.size
  replace hB : Below w.heap.size w (w.alloc (.cells #[.int .i64 1, .int .i64 2, .int .i64 4, .int .i64 8] 3)) := Bl_alloc hB _
  generalize (w.alloc (.cells #[.int .i64 1, .int .i64 2, .int .i64 4, .int .i64 8] 3)) = w2 at *
  have cl0 : w2.cell? ⟨w.heap.size, 0, none⟩ = some (.int .i64 1) := Bl.cell 0
  have cl1 : w2.cell? ⟨w.heap.size, 1, none⟩ = some (.int .i64 2) := Bl.cell 1
  have cl2 : w2.cell? ⟨w.heap.size, 2, none⟩ = some (.int .i64 4) := Bl.cell 2
  have cl3 : w2.cell? ⟨w.heap.size, 3, none⟩ = some (.int .i64 8) := Bl.cell 3
  have fl := Bl.frozen; have ll := Bl.lt
  clear cl0 cl1 cl2 cl3 fl ll
  clear Bl
  go_wp2_with fail
  have Bv := Blk.new w2 29 #[.int .i64 2, .int .u64 0, .int .u64 0, .int .u64 0, .int .u64 0, .int .i64 0, .int .i64 0, .int .i64 0, .int .i64 0, .int .i64 3, .int .i64 3]
  have hgv := hB.size
  replace hB : Below w.heap.size w (w2.alloc (.cells #[.int .i64 2, .int .u64 0, .int .u64 0, .int .u64 0, .int .u64 0, .int .i64 0, .int .i64 0, .int .i64 0, .int .i64 0, .int .i64 3, .int .i64 3] 29)) := Bl_alloc hB _
  generalize (w2.alloc (.cells #[.int .i64 2, .int .u64 0, .int .u64 0, .int .u64 0, .int .u64 0, .int .i64 0, .int .i64 0, .int .i64 0, .int .i64 0, .int .i64 3, .int .i64 3] 29)) = w3 at *
  generalize w2.heap.size = gv at *
  have cv0 : w3.cell? ⟨gv, 0, none⟩ = some (.int .i64 2) := Bv.cell 0
  have cv1 : w3.cell? ⟨gv, 1, none⟩ = some (.int .u64 0) := Bv.cell 1
  have cv2 : w3.cell? ⟨gv, 2, none⟩ = some (.int .u64 0) := Bv.cell 2
  have cv3 : w3.cell? ⟨gv, 3, none⟩ = some (.int .u64 0) := Bv.cell 3
  have cv4 : w3.cell? ⟨gv, 4, none⟩ = some (.int .u64 0) := Bv.cell 4
  have cv5 : w3.cell? ⟨gv, 5, none⟩ = some (.int .i64 0) := Bv.cell 5
  have cv6 : w3.cell? ⟨gv, 6, none⟩ = some (.int .i64 0) := Bv.cell 6
  have cv7 : w3.cell? ⟨gv, 7, none⟩ = some (.int .i64 0) := Bv.cell 7
  have cv8 : w3.cell? ⟨gv, 8, none⟩ = some (.int .i64 0) := Bv.cell 8
  have cv9 : w3.cell? ⟨gv, 9, none⟩ = some (.int .i64 3) := Bv.cell 9
  have cv10 : w3.cell? ⟨gv, 10, none⟩ = some (.int .i64 3) := Bv.cell 10
  have fv := Bv.frozen; have lv := Bv.lt
  have h8k' := Zh8kw.out; have h8k2' := Zh8k2w.out; have hb2' := Zhb2w.out; have hbn2' := Zhbn2w.out
  go_wp2_with fail
  replace cv0 : ∀ g : Later w3, g.w.cell? ⟨gv, 0, none⟩ = some (.int .i64 2) := fun g => g.cell (Bv.cell 0)
  replace cv1 : ∀ g : Later w3, g.w.cell? ⟨gv, 1, none⟩ = some (.int .u64 0) := fun g => g.cell (Bv.cell 1)
  replace cv2 : ∀ g : Later w3, g.w.cell? ⟨gv, 2, none⟩ = some (.int .u64 0) := fun g => g.cell (Bv.cell 2)
  replace cv3 : ∀ g : Later w3, g.w.cell? ⟨gv, 3, none⟩ = some (.int .u64 0) := fun g => g.cell (Bv.cell 3)
  replace cv4 : ∀ g : Later w3, g.w.cell? ⟨gv, 4, none⟩ = some (.int .u64 0) := fun g => g.cell (Bv.cell 4)
  replace cv5 : ∀ g : Later w3, g.w.cell? ⟨gv, 5, none⟩ = some (.int .i64 0) := fun g => g.cell (Bv.cell 5)
  replace cv6 : ∀ g : Later w3, g.w.cell? ⟨gv, 6, none⟩ = some (.int .i64 0) := fun g => g.cell (Bv.cell 6)
  replace cv7 : ∀ g : Later w3, g.w.cell? ⟨gv, 7, none⟩ = some (.int .i64 0) := fun g => g.cell (Bv.cell 7)
  replace cv8 : ∀ g : Later w3, g.w.cell? ⟨gv, 8, none⟩ = some (.int .i64 0) := fun g => g.cell (Bv.cell 8)
  replace cv9 : ∀ g : Later w3, g.w.cell? ⟨gv, 9, none⟩ = some (.int .i64 3) := fun g => g.cell (Bv.cell 9)
  replace cv10 : ∀ g : Later w3, g.w.cell? ⟨gv, 10, none⟩ = some (.int .i64 3) := fun g => g.cell (Bv.cell 10)
  refine wp_region_mixL 10 (fun k => k == 8) (fun _ => stv zs) (by kernel_rfl) (by kernel_rfl) (fun d _ _ _ _ h => by cases d <;> exact h) (fun o t ho ht => by
    simp at ho
    rcases ho with rfl | rfl | rfl | rfl | rfl | rfl | rfl | rfl | rfl | rfl <;> first | (cases ht; done) | (obtain rfl := Option.some.inj ht; exact fun ρ w => new_st ht ρ w)) ?_
  simp only [List.take_succ_cons, List.take_zero, List.drop_succ_cons, List.drop_zero]
  repeat (first | (refine wpMixL_row rfl 29 (.tmp 10) rfl (gv) rfl 29 #[.int .i64 2, .int .u64 0, .int .u64 0, .int .u64 0, .int .u64 0, .int .i64 0, .int .i64 0, .int .i64 0, .int .i64 0, .int .i64 3, .int .i64 3] _ Bv Try.underlying29 rfl (size_re _ _ _ _ _ _ _ _ _ _ _) rfl ?_) | ((with_reducible refine wpMixL_step (fun K hK => ?_)); go_simp; first | ((with_reducible refine hK _ ?_); clear hK K) | (rw [if_neg (by decide)]; (with_reducible refine hK _ ?_); clear hK K) | (apply Exists.intro; refine ⟨fun g => ?_, hK _ ?_⟩; ((with_reducible refine Calls.mono (hst g.w) ?_); exact fun _ _ h => h); clear hK K) | (apply Exists.intro; refine ⟨fun g => ?_, hK _ ?_⟩; ((with_reducible refine Calls.mono (k_s1 g.w) ?_); exact fun _ _ h => h); clear hK K)))
  refine wpMixL_nil ?_
  intro G w4 hgr hblk hdist
  have hb : Below w3.heap.size w3 w4 := hgr
  replace Bv := Bv.next hb
  obtain ⟨Bs, hls⟩ := hblk 9 _ rfl
  have hgs : w.heap.size ≤ G 9 := Nat.le_trans hB.size hls
  have hnvs : gv ≠ G 9 := Nat.ne_of_lt (Nat.lt_of_lt_of_le lv hls)
  clear hls
  clear cv0 cv1 cv2 cv3 cv4 cv5 cv6 cv7 cv8 cv9 cv10 fv lv
  replace hB : Below w.heap.size w w4 := Bl_trans hB hb
  simp only [putAll, isAlloc, Act.put]
  generalize G 9 = gs at *
  clear hb hgr hblk hdist
  have cv0 : w4.cell? ⟨gv, 0, none⟩ = some (.int .i64 2) := Bv.cell 0
  have cv1 : w4.cell? ⟨gv, 1, none⟩ = some (.int .u64 0) := Bv.cell 1
  have cv2 : w4.cell? ⟨gv, 2, none⟩ = some (.int .u64 0) := Bv.cell 2
  have cv3 : w4.cell? ⟨gv, 3, none⟩ = some (.int .u64 0) := Bv.cell 3
  have cv4 : w4.cell? ⟨gv, 4, none⟩ = some (.int .u64 0) := Bv.cell 4
  have cv5 : w4.cell? ⟨gv, 5, none⟩ = some (.int .i64 0) := Bv.cell 5
  have cv6 : w4.cell? ⟨gv, 6, none⟩ = some (.int .i64 0) := Bv.cell 6
  have cv7 : w4.cell? ⟨gv, 7, none⟩ = some (.int .i64 0) := Bv.cell 7
  have cv8 : w4.cell? ⟨gv, 8, none⟩ = some (.int .i64 0) := Bv.cell 8
  have cv9 : w4.cell? ⟨gv, 9, none⟩ = some (.int .i64 3) := Bv.cell 9
  have cv10 : w4.cell? ⟨gv, 10, none⟩ = some (.int .i64 3) := Bv.cell 10
  have fv := Bv.frozen; have lv := Bv.lt
  have fs := Bs.frozen; have ls := Bs.lt
  go_wp2_with (refine wpList_store_whole rfl 34 (.tmp 11) (.tmp 41) rfl (gs) (stv T1) rfl rfl 34 (stv zs) Bs (size_st T1) (by rw [stv_size, stv_size]) (stv_one T1) ?_)
  intro w5 hS
  clear cv0 cv1 cv2 cv3 cv4 cv5 cv6 cv7 cv8 cv9 cv10 fv lv
  clear  fs ls
  replace Bv := hS.far (by first | (simp; done) | (simp; omega) | (simp [*]; done) | (simp only [ne_eq]; constructor <;> omega)) Bv
  replace Bs : Blk w5 (gs) 34 (stv T1) := hS.blk
  replace hB := hS.bel hB (by first | omega | (simp; omega))
  clear hS
  have cv0 : w5.cell? ⟨gv, 0, none⟩ = some (.int .i64 2) := Bv.cell 0
  have cv1 : w5.cell? ⟨gv, 1, none⟩ = some (.int .u64 0) := Bv.cell 1
  have cv2 : w5.cell? ⟨gv, 2, none⟩ = some (.int .u64 0) := Bv.cell 2
  have cv3 : w5.cell? ⟨gv, 3, none⟩ = some (.int .u64 0) := Bv.cell 3
  have cv4 : w5.cell? ⟨gv, 4, none⟩ = some (.int .u64 0) := Bv.cell 4
  have cv5 : w5.cell? ⟨gv, 5, none⟩ = some (.int .i64 0) := Bv.cell 5
  have cv6 : w5.cell? ⟨gv, 6, none⟩ = some (.int .i64 0) := Bv.cell 6
  have cv7 : w5.cell? ⟨gv, 7, none⟩ = some (.int .i64 0) := Bv.cell 7
  have cv8 : w5.cell? ⟨gv, 8, none⟩ = some (.int .i64 0) := Bv.cell 8
  have cv9 : w5.cell? ⟨gv, 9, none⟩ = some (.int .i64 3) := Bv.cell 9
  have cv10 : w5.cell? ⟨gv, 10, none⟩ = some (.int .i64 3) := Bv.cell 10
  have fv := Bv.frozen; have lv := Bv.lt
  have fs := Bs.frozen; have ls := Bs.lt
  go_wp2_with fail
  replace cv0 : ∀ g : Later w5, g.w.cell? ⟨gv, 0, none⟩ = some (.int .i64 2) := fun g => g.cell (Bv.cell 0)
  replace cv1 : ∀ g : Later w5, g.w.cell? ⟨gv, 1, none⟩ = some (.int .u64 0) := fun g => g.cell (Bv.cell 1)
  replace cv2 : ∀ g : Later w5, g.w.cell? ⟨gv, 2, none⟩ = some (.int .u64 0) := fun g => g.cell (Bv.cell 2)
  replace cv3 : ∀ g : Later w5, g.w.cell? ⟨gv, 3, none⟩ = some (.int .u64 0) := fun g => g.cell (Bv.cell 3)
  replace cv4 : ∀ g : Later w5, g.w.cell? ⟨gv, 4, none⟩ = some (.int .u64 0) := fun g => g.cell (Bv.cell 4)
  replace cv5 : ∀ g : Later w5, g.w.cell? ⟨gv, 5, none⟩ = some (.int .i64 0) := fun g => g.cell (Bv.cell 5)
  replace cv6 : ∀ g : Later w5, g.w.cell? ⟨gv, 6, none⟩ = some (.int .i64 0) := fun g => g.cell (Bv.cell 6)
  replace cv7 : ∀ g : Later w5, g.w.cell? ⟨gv, 7, none⟩ = some (.int .i64 0) := fun g => g.cell (Bv.cell 7)
  replace cv8 : ∀ g : Later w5, g.w.cell? ⟨gv, 8, none⟩ = some (.int .i64 0) := fun g => g.cell (Bv.cell 8)
  replace cv9 : ∀ g : Later w5, g.w.cell? ⟨gv, 9, none⟩ = some (.int .i64 3) := fun g => g.cell (Bv.cell 9)
  replace cv10 : ∀ g : Later w5, g.w.cell? ⟨gv, 10, none⟩ = some (.int .i64 3) := fun g => g.cell (Bv.cell 10)
  refine wp_region_mixL 10 (fun k => k == 8) (fun _ => stv zs) (by kernel_rfl) (by kernel_rfl) (fun d _ _ _ _ h => by cases d <;> exact h) (fun o t ho ht => by
    simp at ho
    rcases ho with rfl | rfl | rfl | rfl | rfl | rfl | rfl | rfl | rfl | rfl <;> first | (cases ht; done) | (obtain rfl := Option.some.inj ht; exact fun ρ w => new_st ht ρ w)) ?_
  simp only [List.take_succ_cons, List.take_zero, List.drop_succ_cons, List.drop_zero]
  repeat (first | (refine wpMixL_row rfl 34 (.tmp 11) rfl (gs) rfl 34 (stv T1) _ Bs Try.underlying34 rfl (size_st _) rfl ?_) | ((with_reducible refine wpMixL_step (fun K hK => ?_)); go_simp; first | ((with_reducible refine hK _ ?_); clear hK K) | (rw [if_neg (by decide)]; (with_reducible refine hK _ ?_); clear hK K) | (apply Exists.intro; refine ⟨fun g => ?_, hK _ ?_⟩; ((with_reducible refine Calls.mono (k_n g.w) ?_); exact fun _ _ h => h); clear hK K) | (apply Exists.intro; refine ⟨fun g => ?_, hK _ ?_⟩; ((with_reducible refine Calls.mono (k_s2 g.w) ?_); exact fun _ _ h => h); clear hK K)))
  refine wpMixL_nil ?_
  intro G w6 hgr hblk hdist
  have hb : Below w5.heap.size w5 w6 := hgr
  replace Bv := Bv.next hb
  replace Bs := Bs.next hb
  obtain ⟨Bt, hlt⟩ := hblk 9 _ rfl
  have hgt : w.heap.size ≤ G 9 := Nat.le_trans hB.size hlt
  have hnvt : gv ≠ G 9 := Nat.ne_of_lt (Nat.lt_of_lt_of_le lv hlt)
  have hnst : gs ≠ G 9 := Nat.ne_of_lt (Nat.lt_of_lt_of_le ls hlt)
  clear hlt
  clear cv0 cv1 cv2 cv3 cv4 cv5 cv6 cv7 cv8 cv9 cv10 fv lv
  clear  fs ls
  replace hB : Below w.heap.size w w6 := Bl_trans hB hb
  simp only [putAll, isAlloc, Act.put]
  generalize G 9 = gt at *
  clear hb hgr hblk hdist
  have cv0 : w6.cell? ⟨gv, 0, none⟩ = some (.int .i64 2) := Bv.cell 0
  have cv1 : w6.cell? ⟨gv, 1, none⟩ = some (.int .u64 0) := Bv.cell 1
  have cv2 : w6.cell? ⟨gv, 2, none⟩ = some (.int .u64 0) := Bv.cell 2
  have cv3 : w6.cell? ⟨gv, 3, none⟩ = some (.int .u64 0) := Bv.cell 3
  have cv4 : w6.cell? ⟨gv, 4, none⟩ = some (.int .u64 0) := Bv.cell 4
  have cv5 : w6.cell? ⟨gv, 5, none⟩ = some (.int .i64 0) := Bv.cell 5
  have cv6 : w6.cell? ⟨gv, 6, none⟩ = some (.int .i64 0) := Bv.cell 6
  have cv7 : w6.cell? ⟨gv, 7, none⟩ = some (.int .i64 0) := Bv.cell 7
  have cv8 : w6.cell? ⟨gv, 8, none⟩ = some (.int .i64 0) := Bv.cell 8
  have cv9 : w6.cell? ⟨gv, 9, none⟩ = some (.int .i64 3) := Bv.cell 9
  have cv10 : w6.cell? ⟨gv, 10, none⟩ = some (.int .i64 3) := Bv.cell 10
  have fv := Bv.frozen; have lv := Bv.lt
  have fs := Bs.frozen; have ls := Bs.lt
  have ft := Bt.frozen; have lt := Bt.lt
  go_wp2_with (refine wpList_store_whole rfl 34 (.tmp 13) (.tmp 50) rfl (gt) (stv T2) rfl rfl 34 (stv zs) Bt (size_st T2) (by rw [stv_size, stv_size]) (stv_one T2) ?_)
  intro w7 hS
  clear cv0 cv1 cv2 cv3 cv4 cv5 cv6 cv7 cv8 cv9 cv10 fv lv
  clear  fs ls
  clear  ft lt
  replace Bv := hS.far (by first | (simp; done) | (simp; omega) | (simp [*]; done) | (simp only [ne_eq]; constructor <;> omega)) Bv
  replace Bs := hS.far (by first | (simp; done) | (simp; omega) | (simp [*]; done) | (simp only [ne_eq]; constructor <;> omega)) Bs
  replace Bt : Blk w7 (gt) 34 (stv T2) := hS.blk
  replace hB := hS.bel hB (by first | omega | (simp; omega))
  clear hS
  have cv0 : w7.cell? ⟨gv, 0, none⟩ = some (.int .i64 2) := Bv.cell 0
  have cv1 : w7.cell? ⟨gv, 1, none⟩ = some (.int .u64 0) := Bv.cell 1
  have cv2 : w7.cell? ⟨gv, 2, none⟩ = some (.int .u64 0) := Bv.cell 2
  have cv3 : w7.cell? ⟨gv, 3, none⟩ = some (.int .u64 0) := Bv.cell 3
  have cv4 : w7.cell? ⟨gv, 4, none⟩ = some (.int .u64 0) := Bv.cell 4
  have cv5 : w7.cell? ⟨gv, 5, none⟩ = some (.int .i64 0) := Bv.cell 5
  have cv6 : w7.cell? ⟨gv, 6, none⟩ = some (.int .i64 0) := Bv.cell 6
  have cv7 : w7.cell? ⟨gv, 7, none⟩ = some (.int .i64 0) := Bv.cell 7
  have cv8 : w7.cell? ⟨gv, 8, none⟩ = some (.int .i64 0) := Bv.cell 8
  have cv9 : w7.cell? ⟨gv, 9, none⟩ = some (.int .i64 3) := Bv.cell 9
  have cv10 : w7.cell? ⟨gv, 10, none⟩ = some (.int .i64 3) := Bv.cell 10
  have fv := Bv.frozen; have lv := Bv.lt
  have fs := Bs.frozen; have ls := Bs.lt
  have ft := Bt.frozen; have lt := Bt.lt
  have e1 := Ze1.out; have e1i := Ze1i.out
  go_wp2_with fail
  refine (saves_c _).mono ?_
  rintro e w8 ⟨rfl, hb⟩
  clear cv0 cv1 cv2 cv3 cv4 cv5 cv6 cv7 cv8 cv9 cv10 fv lv
  clear  fs ls
  clear  ft lt
  replace Bv := (Bv).next hb
  replace Bs := (Bs).next hb
  replace Bt := (Bt).next hb
  replace hB : Below w.heap.size w w8 := by repeat (first | exact hB | (refine Bl_set ?_ (by first | omega | (simp; omega)) _) | apply Bl_alloc | (refine Bl_trans ?_ hb))
  clear hb
  have cv0 : w8.cell? ⟨gv, 0, none⟩ = some (.int .i64 2) := Bv.cell 0
  have cv1 : w8.cell? ⟨gv, 1, none⟩ = some (.int .u64 0) := Bv.cell 1
  have cv2 : w8.cell? ⟨gv, 2, none⟩ = some (.int .u64 0) := Bv.cell 2
  have cv3 : w8.cell? ⟨gv, 3, none⟩ = some (.int .u64 0) := Bv.cell 3
  have cv4 : w8.cell? ⟨gv, 4, none⟩ = some (.int .u64 0) := Bv.cell 4
  have cv5 : w8.cell? ⟨gv, 5, none⟩ = some (.int .i64 0) := Bv.cell 5
  have cv6 : w8.cell? ⟨gv, 6, none⟩ = some (.int .i64 0) := Bv.cell 6
  have cv7 : w8.cell? ⟨gv, 7, none⟩ = some (.int .i64 0) := Bv.cell 7
  have cv8 : w8.cell? ⟨gv, 8, none⟩ = some (.int .i64 0) := Bv.cell 8
  have cv9 : w8.cell? ⟨gv, 9, none⟩ = some (.int .i64 3) := Bv.cell 9
  have cv10 : w8.cell? ⟨gv, 10, none⟩ = some (.int .i64 3) := Bv.cell 10
  have fv := Bv.frozen; have lv := Bv.lt
  have fs := Bs.frozen; have ls := Bs.lt
  have ft := Bt.frozen; have lt := Bt.lt
  go_wp2_with (refine wpList_load_whole rfl 34 (.tmp 13) rfl (gt) rfl 34 (stv T2) _ Bt Try.underlying34 rfl (size_st T2) ?_)
  refine (k_l _).mono ?_
  rintro e w9 ⟨rfl, hb⟩
  clear cv0 cv1 cv2 cv3 cv4 cv5 cv6 cv7 cv8 cv9 cv10 fv lv
  clear  fs ls
  clear  ft lt
  replace Bv := (Bv).next hb
  replace Bs := (Bs).next hb
  replace Bt := (Bt).next hb
  replace hB : Below w.heap.size w w9 := by repeat (first | exact hB | (refine Bl_set ?_ (by first | omega | (simp; omega)) _) | apply Bl_alloc | (refine Bl_trans ?_ hb))
  clear hb
  have cv0 : w9.cell? ⟨gv, 0, none⟩ = some (.int .i64 2) := Bv.cell 0
  have cv1 : w9.cell? ⟨gv, 1, none⟩ = some (.int .u64 0) := Bv.cell 1
  have cv2 : w9.cell? ⟨gv, 2, none⟩ = some (.int .u64 0) := Bv.cell 2
  have cv3 : w9.cell? ⟨gv, 3, none⟩ = some (.int .u64 0) := Bv.cell 3
  have cv4 : w9.cell? ⟨gv, 4, none⟩ = some (.int .u64 0) := Bv.cell 4
  have cv5 : w9.cell? ⟨gv, 5, none⟩ = some (.int .i64 0) := Bv.cell 5
  have cv6 : w9.cell? ⟨gv, 6, none⟩ = some (.int .i64 0) := Bv.cell 6
  have cv7 : w9.cell? ⟨gv, 7, none⟩ = some (.int .i64 0) := Bv.cell 7
  have cv8 : w9.cell? ⟨gv, 8, none⟩ = some (.int .i64 0) := Bv.cell 8
  have cv9 : w9.cell? ⟨gv, 9, none⟩ = some (.int .i64 3) := Bv.cell 9
  have cv10 : w9.cell? ⟨gv, 10, none⟩ = some (.int .i64 3) := Bv.cell 10
  have fv := Bv.frozen; have lv := Bv.lt
  have fs := Bs.frozen; have ls := Bs.lt
  have ft := Bt.frozen; have lt := Bt.lt
  go_upto_region 9 with fail
  clear cv0 cv1 cv2 cv3 cv4 cv5 cv6 cv7 cv8 cv9 cv10 fv lv
  clear  fs ls
  clear  ft lt
  have Br := Blk.new w9 29 #[.int .i64 0, .int .u64 0, .int .u64 0, .int .u64 0, .int .u64 0, .int .i64 0, .int .i64 0, .int .i64 0, .int .i64 0, .int .i64 0, .int .i64 0]
  have hgr := hB.size
  have hnvr := Nat.ne_of_lt Bv.lt; have hltvr := Bv.lt
  have hnsr := Nat.ne_of_lt Bs.lt; have hltsr := Bs.lt
  have hntr := Nat.ne_of_lt Bt.lt; have hlttr := Bt.lt
  replace Bv : Blk (w9.alloc (.cells #[.int .i64 0, .int .u64 0, .int .u64 0, .int .u64 0, .int .u64 0, .int .i64 0, .int .i64 0, .int .i64 0, .int .i64 0, .int .i64 0, .int .i64 0] 29)) (gv) 29 #[.int .i64 2, .int .u64 0, .int .u64 0, .int .u64 0, .int .u64 0, .int .i64 0, .int .i64 0, .int .i64 0, .int .i64 0, .int .i64 3, .int .i64 3] := Bv.alloc _
  replace Bs : Blk (w9.alloc (.cells #[.int .i64 0, .int .u64 0, .int .u64 0, .int .u64 0, .int .u64 0, .int .i64 0, .int .i64 0, .int .i64 0, .int .i64 0, .int .i64 0, .int .i64 0] 29)) (gs) 34 (stv T1) := Bs.alloc _
  replace Bt : Blk (w9.alloc (.cells #[.int .i64 0, .int .u64 0, .int .u64 0, .int .u64 0, .int .u64 0, .int .i64 0, .int .i64 0, .int .i64 0, .int .i64 0, .int .i64 0, .int .i64 0] 29)) (gt) 34 (stv T2) := Bt.alloc _
  replace hB : Below w.heap.size w (w9.alloc (.cells #[.int .i64 0, .int .u64 0, .int .u64 0, .int .u64 0, .int .u64 0, .int .i64 0, .int .i64 0, .int .i64 0, .int .i64 0, .int .i64 0, .int .i64 0] 29)) := Bl_alloc hB _
  generalize (w9.alloc (.cells #[.int .i64 0, .int .u64 0, .int .u64 0, .int .u64 0, .int .u64 0, .int .i64 0, .int .i64 0, .int .i64 0, .int .i64 0, .int .i64 0, .int .i64 0] 29)) = w10 at *
  generalize w9.heap.size = gr at *
  have cv0 : w10.cell? ⟨gv, 0, none⟩ = some (.int .i64 2) := Bv.cell 0
  have cv1 : w10.cell? ⟨gv, 1, none⟩ = some (.int .u64 0) := Bv.cell 1
  have cv2 : w10.cell? ⟨gv, 2, none⟩ = some (.int .u64 0) := Bv.cell 2
  have cv3 : w10.cell? ⟨gv, 3, none⟩ = some (.int .u64 0) := Bv.cell 3
  have cv4 : w10.cell? ⟨gv, 4, none⟩ = some (.int .u64 0) := Bv.cell 4
  have cv5 : w10.cell? ⟨gv, 5, none⟩ = some (.int .i64 0) := Bv.cell 5
  have cv6 : w10.cell? ⟨gv, 6, none⟩ = some (.int .i64 0) := Bv.cell 6
  have cv7 : w10.cell? ⟨gv, 7, none⟩ = some (.int .i64 0) := Bv.cell 7
  have cv8 : w10.cell? ⟨gv, 8, none⟩ = some (.int .i64 0) := Bv.cell 8
  have cv9 : w10.cell? ⟨gv, 9, none⟩ = some (.int .i64 3) := Bv.cell 9
  have cv10 : w10.cell? ⟨gv, 10, none⟩ = some (.int .i64 3) := Bv.cell 10
  have fv := Bv.frozen; have lv := Bv.lt
  have fs := Bs.frozen; have ls := Bs.lt
  have ft := Bt.frozen; have lt := Bt.lt
  have cr0 : w10.cell? ⟨gr, 0, none⟩ = some (.int .i64 0) := Br.cell 0
  have cr1 : w10.cell? ⟨gr, 1, none⟩ = some (.int .u64 0) := Br.cell 1
  have cr2 : w10.cell? ⟨gr, 2, none⟩ = some (.int .u64 0) := Br.cell 2
  have cr3 : w10.cell? ⟨gr, 3, none⟩ = some (.int .u64 0) := Br.cell 3
  have cr4 : w10.cell? ⟨gr, 4, none⟩ = some (.int .u64 0) := Br.cell 4
  have cr5 : w10.cell? ⟨gr, 5, none⟩ = some (.int .i64 0) := Br.cell 5
  have cr6 : w10.cell? ⟨gr, 6, none⟩ = some (.int .i64 0) := Br.cell 6
  have cr7 : w10.cell? ⟨gr, 7, none⟩ = some (.int .i64 0) := Br.cell 7
  have cr8 : w10.cell? ⟨gr, 8, none⟩ = some (.int .i64 0) := Br.cell 8
  have cr9 : w10.cell? ⟨gr, 9, none⟩ = some (.int .i64 0) := Br.cell 9
  have cr10 : w10.cell? ⟨gr, 10, none⟩ = some (.int .i64 0) := Br.cell 10
  have fr := Br.frozen; have lr := Br.lt
  have hq8 := Zhq8.out
  have t1 := Zt1.out
  have t1i := Zt1i.out
  have t2 := Zt2.out
  have t2i := Zt2i.out
  have t3 := Zt3.out
  go_wp2
  go_ret
  exact ⟨rfl, by repeat (first | exact hB | (refine Bl_set ?_ (by first | omega | (simp; omega)) _) | apply Bl_alloc)⟩
set_option maxRecDepth 100000 in
set_option maxHeartbeats 3200000 in
theorem words_e (x y z : Int) (k b n m : Nat) (hk : k < 8) (hb : b < 64) (hm : m < 4) (hn : n = 1 ∨ n = 2 ∨ n = 4 ∨ n = 8) (hnv : (#[.int .i64 1, .int .i64 2, .int .i64 4, .int .i64 8] : Array Value)[m]? = some (.int .i64 (n : Int))) (rx : wrap64 ((IntKind.u64.wrap x).tmod 8) = (k : Int)) (ry : wrap64 ((IntKind.u64.wrap y).tmod 64) = (b : Int)) (rz : wrap64 ((IntKind.u64.wrap z).tmod 4) = (m : Int)) (hbn : b + n ≤ 64) (hov : b < 8 * k + 8) (ho2 : 8 * k < b + n) (h8 : n = 8) (hbk : ¬ b = 8 * k) (w : World) : Calls Try.prog 3 #[.int .i64 x, .int .i64 y, .int .i64 z] w fun e w' => e = .returned (.bool true) ∧ Below w.heap.size w w' := by
  have hok1 := PlainAbs.wst_ok hk
  have k_s1 : ∀ w : World, Calls Try.prog 15 #[.agg (stv PlainAbs.start), .int .i64 (((8 * k : Nat) : Int) - 64), .int .i64 8, .agg #[.int .i64 2, .int .u64 0, .int .u64 0, .int .u64 0, .int .u64 0, .int .i64 0, .int .i64 0, .int .i64 0, .int .i64 0, .int .i64 3, .int .i64 3]] w fun e w' => e = .returned (.tuple #[.agg (stv (wst k)), .bool true]) ∧ Below w.heap.size w w' := fun w => by have h := save_c PlainAbs.start (((8 * k : Nat) : Int) - 64) 8 vreg w; rw [hok1] at h; exact h
  have hok2 := PlainAbs.wst2_ok (k := k) hb hn
  rw [show decide (b + n ≤ 64) = true by simpa using hbn] at hok2
  have k_s2 : ∀ w : World, Calls Try.prog 15 #[.agg (stv (wst k)), .int .i64 ((b : Int) - 64), .int .i64 (n : Int), gv (PlainAbs.number (PlainScalar.const 1#64))] w fun e w' => e = .returned (.tuple #[.agg (stv (wst2 k b n)), .bool true]) ∧ Below w.heap.size w w' := fun w => by have h := save_c (wst k) ((b : Int) - 64) (n : Int) (PlainAbs.number (PlainScalar.const 1#64)) w; rw [hok2] at h; exact h
  have k_n : ∀ w : World, Calls Try.prog 17 #[.int .u64 1] w fun e w' => e = .returned (gv (PlainAbs.number (PlainScalar.const 1#64))) ∧ Below w.heap.size w w' := number_c 1#64
  have hld : PlainAbs.load (wst2 k b n) (((8 * k : Nat) : Int) - 64) 8 = (zr, false) := by rw [PlainAbs.wload_on hk hn hbn hov ho2, if_neg (fun g => hbk g.2)]
  have k_l : ∀ w : World, Calls Try.prog 19 #[.agg (stv (wst2 k b n)), .int .i64 (((8 * k : Nat) : Int) - 64), .int .i64 8] w fun e w' => e = .returned (.tuple #[.agg #[.int .i64 0, .int .u64 0, .int .u64 0, .int .u64 0, .int .u64 0, .int .i64 0, .int .i64 0, .int .i64 0, .int .i64 0, .int .i64 0, .int .i64 0], .bool false]) ∧ Below w.heap.size w w' := fun w => by have h := load_c (wst2 k b n) (((8 * k : Nat) : Int) - 64) 8 w; rw [hld] at h; exact h
  generalize PlainAbs.number (PlainScalar.const 1#64) = n1 at k_n k_s2
  have hst := start_c
  obtain ⟨q, hq⟩ : ∃ q, q = 8 * k := ⟨_, rfl⟩
  rw [← hq] at k_s1 k_l
  obtain ⟨e, he⟩ : ∃ e, e = b + n := ⟨_, rfl⟩
  have hmi : (m : Int) < 4 := Int.ofNat_lt.2 hm
  have hnl : ([.int .i64 1, .int .i64 2, .int .i64 4, .int .i64 8] : List Value)[m]'(by simpa using hm) = .int .i64 (n : Int) := (Array.getElem?_eq_some_iff.1 hnv).2
  clear hok1 hok2 hld
  generalize wst2 k b n = T2 at k_s2 k_l; generalize wst k = T1 at k_s1 k_s2; generalize PlainAbs.start = S0 at hst k_s1
  have Xhbn := Lib.hid hbn
  have Xhov := Lib.hid hov
  have Xho2 := Lib.hid ho2
  have Xhk := Lib.hid hk
  have Xhb := Lib.hid hb
  obtain ⟨ye1, ye1i, yhq8, yt1, yt1i, yt2, yt2i, yt3, yt4, yt5, yh8kw, yh8k2w, yhb2w, yhbn2w, yh8kv, yh8k2v, yhb2v, yhbn2v⟩ := words_e_f k b n q e hk hb hn hbn hov ho2 h8 hbk he hq
  have Ze1 := Lib.hid ye1; clear ye1
  have Ze1i := Lib.hid ye1i; clear ye1i
  have Zhq8 := Lib.hid yhq8; clear yhq8
  have Zt1 := Lib.hid yt1; clear yt1
  have Zt1i := Lib.hid yt1i; clear yt1i
  have Zt2 := Lib.hid yt2; clear yt2
  have Zt2i := Lib.hid yt2i; clear yt2i
  have Zt3 := Lib.hid yt3; clear yt3
  have Zt4 := Lib.hid yt4; clear yt4
  have Zt5 := Lib.hid yt5; clear yt5
  have Zh8kw := Lib.hid yh8kw; clear yh8kw
  have Zh8k2w := Lib.hid yh8k2w; clear yh8k2w
  have Zhb2w := Lib.hid yhb2w; clear yhb2w
  have Zhbn2w := Lib.hid yhbn2w; clear yhbn2w
  have Zh8kv := Lib.hid yh8kv; clear yh8kv
  have Zh8k2v := Lib.hid yh8k2v; clear yh8k2v
  have Zhb2v := Lib.hid yhb2v; clear yhb2v
  have Zhbn2v := Lib.hid yhbn2v; clear yhbn2v
  have H8 := Lib.hid h8; have HB := Lib.hid hbk; clear h8 hbk
  have h8k := Zh8kv.out; have h8k2 := Zh8k2v.out; have hb2 := Zhb2v.out; have hbn2 := Zhbn2v.out
  have HN := Lib.hid hn; have HE := Lib.hid he; have HQ := Lib.hid hq; have HL := Lib.hid hnl; clear hn he hq hnl hnv
  clear hbn hov ho2 hk hb
  go_enter Try.func3, Try.ntmps3
  go_upto_region 3 with fail
  have hB : Below w.heap.size w w := (Bl_refl w)
  have hnl := HL.out; rw [hnl]; clear hnl
  have Bl := Blk.new w 3 #[.int .i64 1, .int .i64 2, .int .i64 4, .int .i64 8]
  have hgl := hB.size
  replace hB : Below w.heap.size w (w.alloc (.cells #[.int .i64 1, .int .i64 2, .int .i64 4, .int .i64 8] 3)) := Bl_alloc hB _
  generalize (w.alloc (.cells #[.int .i64 1, .int .i64 2, .int .i64 4, .int .i64 8] 3)) = w2 at *
  have cl0 : w2.cell? ⟨w.heap.size, 0, none⟩ = some (.int .i64 1) := Bl.cell 0
  have cl1 : w2.cell? ⟨w.heap.size, 1, none⟩ = some (.int .i64 2) := Bl.cell 1
  have cl2 : w2.cell? ⟨w.heap.size, 2, none⟩ = some (.int .i64 4) := Bl.cell 2
  have cl3 : w2.cell? ⟨w.heap.size, 3, none⟩ = some (.int .i64 8) := Bl.cell 3
  have fl := Bl.frozen; have ll := Bl.lt
  clear cl0 cl1 cl2 cl3 fl ll
  clear Bl
  go_wp2_with fail
  have Bv := Blk.new w2 29 #[.int .i64 2, .int .u64 0, .int .u64 0, .int .u64 0, .int .u64 0, .int .i64 0, .int .i64 0, .int .i64 0, .int .i64 0, .int .i64 3, .int .i64 3]
  have hgv := hB.size
  replace hB : Below w.heap.size w (w2.alloc (.cells #[.int .i64 2, .int .u64 0, .int .u64 0, .int .u64 0, .int .u64 0, .int .i64 0, .int .i64 0, .int .i64 0, .int .i64 0, .int .i64 3, .int .i64 3] 29)) := Bl_alloc hB _
  generalize (w2.alloc (.cells #[.int .i64 2, .int .u64 0, .int .u64 0, .int .u64 0, .int .u64 0, .int .i64 0, .int .i64 0, .int .i64 0, .int .i64 0, .int .i64 3, .int .i64 3] 29)) = w3 at *
  generalize w2.heap.size = gv at *
  have cv0 : w3.cell? ⟨gv, 0, none⟩ = some (.int .i64 2) := Bv.cell 0
  have cv1 : w3.cell? ⟨gv, 1, none⟩ = some (.int .u64 0) := Bv.cell 1
  have cv2 : w3.cell? ⟨gv, 2, none⟩ = some (.int .u64 0) := Bv.cell 2
  have cv3 : w3.cell? ⟨gv, 3, none⟩ = some (.int .u64 0) := Bv.cell 3
  have cv4 : w3.cell? ⟨gv, 4, none⟩ = some (.int .u64 0) := Bv.cell 4
  have cv5 : w3.cell? ⟨gv, 5, none⟩ = some (.int .i64 0) := Bv.cell 5
  have cv6 : w3.cell? ⟨gv, 6, none⟩ = some (.int .i64 0) := Bv.cell 6
  have cv7 : w3.cell? ⟨gv, 7, none⟩ = some (.int .i64 0) := Bv.cell 7
  have cv8 : w3.cell? ⟨gv, 8, none⟩ = some (.int .i64 0) := Bv.cell 8
  have cv9 : w3.cell? ⟨gv, 9, none⟩ = some (.int .i64 3) := Bv.cell 9
  have cv10 : w3.cell? ⟨gv, 10, none⟩ = some (.int .i64 3) := Bv.cell 10
  have fv := Bv.frozen; have lv := Bv.lt
  have h8k' := Zh8kw.out; have h8k2' := Zh8k2w.out; have hb2' := Zhb2w.out; have hbn2' := Zhbn2w.out
  go_wp2_with fail
  replace cv0 : ∀ g : Later w3, g.w.cell? ⟨gv, 0, none⟩ = some (.int .i64 2) := fun g => g.cell (Bv.cell 0)
  replace cv1 : ∀ g : Later w3, g.w.cell? ⟨gv, 1, none⟩ = some (.int .u64 0) := fun g => g.cell (Bv.cell 1)
  replace cv2 : ∀ g : Later w3, g.w.cell? ⟨gv, 2, none⟩ = some (.int .u64 0) := fun g => g.cell (Bv.cell 2)
  replace cv3 : ∀ g : Later w3, g.w.cell? ⟨gv, 3, none⟩ = some (.int .u64 0) := fun g => g.cell (Bv.cell 3)
  replace cv4 : ∀ g : Later w3, g.w.cell? ⟨gv, 4, none⟩ = some (.int .u64 0) := fun g => g.cell (Bv.cell 4)
  replace cv5 : ∀ g : Later w3, g.w.cell? ⟨gv, 5, none⟩ = some (.int .i64 0) := fun g => g.cell (Bv.cell 5)
  replace cv6 : ∀ g : Later w3, g.w.cell? ⟨gv, 6, none⟩ = some (.int .i64 0) := fun g => g.cell (Bv.cell 6)
  replace cv7 : ∀ g : Later w3, g.w.cell? ⟨gv, 7, none⟩ = some (.int .i64 0) := fun g => g.cell (Bv.cell 7)
  replace cv8 : ∀ g : Later w3, g.w.cell? ⟨gv, 8, none⟩ = some (.int .i64 0) := fun g => g.cell (Bv.cell 8)
  replace cv9 : ∀ g : Later w3, g.w.cell? ⟨gv, 9, none⟩ = some (.int .i64 3) := fun g => g.cell (Bv.cell 9)
  replace cv10 : ∀ g : Later w3, g.w.cell? ⟨gv, 10, none⟩ = some (.int .i64 3) := fun g => g.cell (Bv.cell 10)
  refine wp_region_mixL 10 (fun k => k == 8) (fun _ => stv zs) (by kernel_rfl) (by kernel_rfl) (fun d _ _ _ _ h => by cases d <;> exact h) (fun o t ho ht => by
    simp at ho
    rcases ho with rfl | rfl | rfl | rfl | rfl | rfl | rfl | rfl | rfl | rfl <;> first | (cases ht; done) | (obtain rfl := Option.some.inj ht; exact fun ρ w => new_st ht ρ w)) ?_
  simp only [List.take_succ_cons, List.take_zero, List.drop_succ_cons, List.drop_zero]
  repeat (first | (refine wpMixL_row rfl 29 (.tmp 10) rfl (gv) rfl 29 #[.int .i64 2, .int .u64 0, .int .u64 0, .int .u64 0, .int .u64 0, .int .i64 0, .int .i64 0, .int .i64 0, .int .i64 0, .int .i64 3, .int .i64 3] _ Bv Try.underlying29 rfl (size_re _ _ _ _ _ _ _ _ _ _ _) rfl ?_) | ((with_reducible refine wpMixL_step (fun K hK => ?_)); go_simp; first | ((with_reducible refine hK _ ?_); clear hK K) | (rw [if_neg (by decide)]; (with_reducible refine hK _ ?_); clear hK K) | (apply Exists.intro; refine ⟨fun g => ?_, hK _ ?_⟩; ((with_reducible refine Calls.mono (hst g.w) ?_); exact fun _ _ h => h); clear hK K) | (apply Exists.intro; refine ⟨fun g => ?_, hK _ ?_⟩; ((with_reducible refine Calls.mono (k_s1 g.w) ?_); exact fun _ _ h => h); clear hK K)))
  refine wpMixL_nil ?_
  intro G w4 hgr hblk hdist
  have hb : Below w3.heap.size w3 w4 := hgr
  replace Bv := Bv.next hb
  obtain ⟨Bs, hls⟩ := hblk 9 _ rfl
  have hgs : w.heap.size ≤ G 9 := Nat.le_trans hB.size hls
  have hnvs : gv ≠ G 9 := Nat.ne_of_lt (Nat.lt_of_lt_of_le lv hls)
  clear hls
  clear cv0 cv1 cv2 cv3 cv4 cv5 cv6 cv7 cv8 cv9 cv10 fv lv
  replace hB : Below w.heap.size w w4 := Bl_trans hB hb
  simp only [putAll, isAlloc, Act.put]
  generalize G 9 = gs at *
  clear hb hgr hblk hdist
  have cv0 : w4.cell? ⟨gv, 0, none⟩ = some (.int .i64 2) := Bv.cell 0
  have cv1 : w4.cell? ⟨gv, 1, none⟩ = some (.int .u64 0) := Bv.cell 1
  have cv2 : w4.cell? ⟨gv, 2, none⟩ = some (.int .u64 0) := Bv.cell 2
  have cv3 : w4.cell? ⟨gv, 3, none⟩ = some (.int .u64 0) := Bv.cell 3
  have cv4 : w4.cell? ⟨gv, 4, none⟩ = some (.int .u64 0) := Bv.cell 4
  have cv5 : w4.cell? ⟨gv, 5, none⟩ = some (.int .i64 0) := Bv.cell 5
  have cv6 : w4.cell? ⟨gv, 6, none⟩ = some (.int .i64 0) := Bv.cell 6
  have cv7 : w4.cell? ⟨gv, 7, none⟩ = some (.int .i64 0) := Bv.cell 7
  have cv8 : w4.cell? ⟨gv, 8, none⟩ = some (.int .i64 0) := Bv.cell 8
  have cv9 : w4.cell? ⟨gv, 9, none⟩ = some (.int .i64 3) := Bv.cell 9
  have cv10 : w4.cell? ⟨gv, 10, none⟩ = some (.int .i64 3) := Bv.cell 10
  have fv := Bv.frozen; have lv := Bv.lt
  have fs := Bs.frozen; have ls := Bs.lt
  go_wp2_with (refine wpList_store_whole rfl 34 (.tmp 11) (.tmp 41) rfl (gs) (stv T1) rfl rfl 34 (stv zs) Bs (size_st T1) (by rw [stv_size, stv_size]) (stv_one T1) ?_)
  intro w5 hS
  clear cv0 cv1 cv2 cv3 cv4 cv5 cv6 cv7 cv8 cv9 cv10 fv lv
  clear  fs ls
  replace Bv := hS.far (by first | (simp; done) | (simp; omega) | (simp [*]; done) | (simp only [ne_eq]; constructor <;> omega)) Bv
  replace Bs : Blk w5 (gs) 34 (stv T1) := hS.blk
  replace hB := hS.bel hB (by first | omega | (simp; omega))
  clear hS
  have cv0 : w5.cell? ⟨gv, 0, none⟩ = some (.int .i64 2) := Bv.cell 0
  have cv1 : w5.cell? ⟨gv, 1, none⟩ = some (.int .u64 0) := Bv.cell 1
  have cv2 : w5.cell? ⟨gv, 2, none⟩ = some (.int .u64 0) := Bv.cell 2
  have cv3 : w5.cell? ⟨gv, 3, none⟩ = some (.int .u64 0) := Bv.cell 3
  have cv4 : w5.cell? ⟨gv, 4, none⟩ = some (.int .u64 0) := Bv.cell 4
  have cv5 : w5.cell? ⟨gv, 5, none⟩ = some (.int .i64 0) := Bv.cell 5
  have cv6 : w5.cell? ⟨gv, 6, none⟩ = some (.int .i64 0) := Bv.cell 6
  have cv7 : w5.cell? ⟨gv, 7, none⟩ = some (.int .i64 0) := Bv.cell 7
  have cv8 : w5.cell? ⟨gv, 8, none⟩ = some (.int .i64 0) := Bv.cell 8
  have cv9 : w5.cell? ⟨gv, 9, none⟩ = some (.int .i64 3) := Bv.cell 9
  have cv10 : w5.cell? ⟨gv, 10, none⟩ = some (.int .i64 3) := Bv.cell 10
  have fv := Bv.frozen; have lv := Bv.lt
  have fs := Bs.frozen; have ls := Bs.lt
  go_wp2_with fail
  replace cv0 : ∀ g : Later w5, g.w.cell? ⟨gv, 0, none⟩ = some (.int .i64 2) := fun g => g.cell (Bv.cell 0)
  replace cv1 : ∀ g : Later w5, g.w.cell? ⟨gv, 1, none⟩ = some (.int .u64 0) := fun g => g.cell (Bv.cell 1)
  replace cv2 : ∀ g : Later w5, g.w.cell? ⟨gv, 2, none⟩ = some (.int .u64 0) := fun g => g.cell (Bv.cell 2)
  replace cv3 : ∀ g : Later w5, g.w.cell? ⟨gv, 3, none⟩ = some (.int .u64 0) := fun g => g.cell (Bv.cell 3)
  replace cv4 : ∀ g : Later w5, g.w.cell? ⟨gv, 4, none⟩ = some (.int .u64 0) := fun g => g.cell (Bv.cell 4)
  replace cv5 : ∀ g : Later w5, g.w.cell? ⟨gv, 5, none⟩ = some (.int .i64 0) := fun g => g.cell (Bv.cell 5)
  replace cv6 : ∀ g : Later w5, g.w.cell? ⟨gv, 6, none⟩ = some (.int .i64 0) := fun g => g.cell (Bv.cell 6)
  replace cv7 : ∀ g : Later w5, g.w.cell? ⟨gv, 7, none⟩ = some (.int .i64 0) := fun g => g.cell (Bv.cell 7)
  replace cv8 : ∀ g : Later w5, g.w.cell? ⟨gv, 8, none⟩ = some (.int .i64 0) := fun g => g.cell (Bv.cell 8)
  replace cv9 : ∀ g : Later w5, g.w.cell? ⟨gv, 9, none⟩ = some (.int .i64 3) := fun g => g.cell (Bv.cell 9)
  replace cv10 : ∀ g : Later w5, g.w.cell? ⟨gv, 10, none⟩ = some (.int .i64 3) := fun g => g.cell (Bv.cell 10)
  refine wp_region_mixL 10 (fun k => k == 8) (fun _ => stv zs) (by kernel_rfl) (by kernel_rfl) (fun d _ _ _ _ h => by cases d <;> exact h) (fun o t ho ht => by
    simp at ho
    rcases ho with rfl | rfl | rfl | rfl | rfl | rfl | rfl | rfl | rfl | rfl <;> first | (cases ht; done) | (obtain rfl := Option.some.inj ht; exact fun ρ w => new_st ht ρ w)) ?_
  simp only [List.take_succ_cons, List.take_zero, List.drop_succ_cons, List.drop_zero]
  repeat (first | (refine wpMixL_row rfl 34 (.tmp 11) rfl (gs) rfl 34 (stv T1) _ Bs Try.underlying34 rfl (size_st _) rfl ?_) | ((with_reducible refine wpMixL_step (fun K hK => ?_)); go_simp; first | ((with_reducible refine hK _ ?_); clear hK K) | (rw [if_neg (by decide)]; (with_reducible refine hK _ ?_); clear hK K) | (apply Exists.intro; refine ⟨fun g => ?_, hK _ ?_⟩; ((with_reducible refine Calls.mono (k_n g.w) ?_); exact fun _ _ h => h); clear hK K) | (apply Exists.intro; refine ⟨fun g => ?_, hK _ ?_⟩; ((with_reducible refine Calls.mono (k_s2 g.w) ?_); exact fun _ _ h => h); clear hK K)))
  refine wpMixL_nil ?_
  intro G w6 hgr hblk hdist
  have hb : Below w5.heap.size w5 w6 := hgr
  replace Bv := Bv.next hb
  replace Bs := Bs.next hb
  obtain ⟨Bt, hlt⟩ := hblk 9 _ rfl
  have hgt : w.heap.size ≤ G 9 := Nat.le_trans hB.size hlt
  have hnvt : gv ≠ G 9 := Nat.ne_of_lt (Nat.lt_of_lt_of_le lv hlt)
  have hnst : gs ≠ G 9 := Nat.ne_of_lt (Nat.lt_of_lt_of_le ls hlt)
  clear hlt
  clear cv0 cv1 cv2 cv3 cv4 cv5 cv6 cv7 cv8 cv9 cv10 fv lv
  clear  fs ls
  replace hB : Below w.heap.size w w6 := Bl_trans hB hb
  simp only [putAll, isAlloc, Act.put]
  generalize G 9 = gt at *
  clear hb hgr hblk hdist
  have cv0 : w6.cell? ⟨gv, 0, none⟩ = some (.int .i64 2) := Bv.cell 0
  have cv1 : w6.cell? ⟨gv, 1, none⟩ = some (.int .u64 0) := Bv.cell 1
  have cv2 : w6.cell? ⟨gv, 2, none⟩ = some (.int .u64 0) := Bv.cell 2
  have cv3 : w6.cell? ⟨gv, 3, none⟩ = some (.int .u64 0) := Bv.cell 3
  have cv4 : w6.cell? ⟨gv, 4, none⟩ = some (.int .u64 0) := Bv.cell 4
  have cv5 : w6.cell? ⟨gv, 5, none⟩ = some (.int .i64 0) := Bv.cell 5
  have cv6 : w6.cell? ⟨gv, 6, none⟩ = some (.int .i64 0) := Bv.cell 6
  have cv7 : w6.cell? ⟨gv, 7, none⟩ = some (.int .i64 0) := Bv.cell 7
  have cv8 : w6.cell? ⟨gv, 8, none⟩ = some (.int .i64 0) := Bv.cell 8
  have cv9 : w6.cell? ⟨gv, 9, none⟩ = some (.int .i64 3) := Bv.cell 9
  have cv10 : w6.cell? ⟨gv, 10, none⟩ = some (.int .i64 3) := Bv.cell 10
  have fv := Bv.frozen; have lv := Bv.lt
  have fs := Bs.frozen; have ls := Bs.lt
  have ft := Bt.frozen; have lt := Bt.lt
  go_wp2_with (refine wpList_store_whole rfl 34 (.tmp 13) (.tmp 50) rfl (gt) (stv T2) rfl rfl 34 (stv zs) Bt (size_st T2) (by rw [stv_size, stv_size]) (stv_one T2) ?_)
  intro w7 hS
  clear cv0 cv1 cv2 cv3 cv4 cv5 cv6 cv7 cv8 cv9 cv10 fv lv
  clear  fs ls
  clear  ft lt
  replace Bv := hS.far (by first | (simp; done) | (simp; omega) | (simp [*]; done) | (simp only [ne_eq]; constructor <;> omega)) Bv
  replace Bs := hS.far (by first | (simp; done) | (simp; omega) | (simp [*]; done) | (simp only [ne_eq]; constructor <;> omega)) Bs
  replace Bt : Blk w7 (gt) 34 (stv T2) := hS.blk
  replace hB := hS.bel hB (by first | omega | (simp; omega))
  clear hS
  have cv0 : w7.cell? ⟨gv, 0, none⟩ = some (.int .i64 2) := Bv.cell 0
  have cv1 : w7.cell? ⟨gv, 1, none⟩ = some (.int .u64 0) := Bv.cell 1
  have cv2 : w7.cell? ⟨gv, 2, none⟩ = some (.int .u64 0) := Bv.cell 2
  have cv3 : w7.cell? ⟨gv, 3, none⟩ = some (.int .u64 0) := Bv.cell 3
  have cv4 : w7.cell? ⟨gv, 4, none⟩ = some (.int .u64 0) := Bv.cell 4
  have cv5 : w7.cell? ⟨gv, 5, none⟩ = some (.int .i64 0) := Bv.cell 5
  have cv6 : w7.cell? ⟨gv, 6, none⟩ = some (.int .i64 0) := Bv.cell 6
  have cv7 : w7.cell? ⟨gv, 7, none⟩ = some (.int .i64 0) := Bv.cell 7
  have cv8 : w7.cell? ⟨gv, 8, none⟩ = some (.int .i64 0) := Bv.cell 8
  have cv9 : w7.cell? ⟨gv, 9, none⟩ = some (.int .i64 3) := Bv.cell 9
  have cv10 : w7.cell? ⟨gv, 10, none⟩ = some (.int .i64 3) := Bv.cell 10
  have fv := Bv.frozen; have lv := Bv.lt
  have fs := Bs.frozen; have ls := Bs.lt
  have ft := Bt.frozen; have lt := Bt.lt
  have e1 := Ze1.out; have e1i := Ze1i.out
  go_wp2_with fail
  refine (saves_c _).mono ?_
  rintro e w8 ⟨rfl, hb⟩
  clear cv0 cv1 cv2 cv3 cv4 cv5 cv6 cv7 cv8 cv9 cv10 fv lv
  clear  fs ls
  clear  ft lt
  replace Bv := (Bv).next hb
  replace Bs := (Bs).next hb
  replace Bt := (Bt).next hb
  replace hB : Below w.heap.size w w8 := by repeat (first | exact hB | (refine Bl_set ?_ (by first | omega | (simp; omega)) _) | apply Bl_alloc | (refine Bl_trans ?_ hb))
  clear hb
  have cv0 : w8.cell? ⟨gv, 0, none⟩ = some (.int .i64 2) := Bv.cell 0
  have cv1 : w8.cell? ⟨gv, 1, none⟩ = some (.int .u64 0) := Bv.cell 1
  have cv2 : w8.cell? ⟨gv, 2, none⟩ = some (.int .u64 0) := Bv.cell 2
  have cv3 : w8.cell? ⟨gv, 3, none⟩ = some (.int .u64 0) := Bv.cell 3
  have cv4 : w8.cell? ⟨gv, 4, none⟩ = some (.int .u64 0) := Bv.cell 4
  have cv5 : w8.cell? ⟨gv, 5, none⟩ = some (.int .i64 0) := Bv.cell 5
  have cv6 : w8.cell? ⟨gv, 6, none⟩ = some (.int .i64 0) := Bv.cell 6
  have cv7 : w8.cell? ⟨gv, 7, none⟩ = some (.int .i64 0) := Bv.cell 7
  have cv8 : w8.cell? ⟨gv, 8, none⟩ = some (.int .i64 0) := Bv.cell 8
  have cv9 : w8.cell? ⟨gv, 9, none⟩ = some (.int .i64 3) := Bv.cell 9
  have cv10 : w8.cell? ⟨gv, 10, none⟩ = some (.int .i64 3) := Bv.cell 10
  have fv := Bv.frozen; have lv := Bv.lt
  have fs := Bs.frozen; have ls := Bs.lt
  have ft := Bt.frozen; have lt := Bt.lt
  go_wp2_with (refine wpList_load_whole rfl 34 (.tmp 13) rfl (gt) rfl 34 (stv T2) _ Bt Try.underlying34 rfl (size_st T2) ?_)
  refine (k_l _).mono ?_
  rintro e w9 ⟨rfl, hb⟩
  clear cv0 cv1 cv2 cv3 cv4 cv5 cv6 cv7 cv8 cv9 cv10 fv lv
  clear  fs ls
  clear  ft lt
  replace Bv := (Bv).next hb
  replace Bs := (Bs).next hb
  replace Bt := (Bt).next hb
  replace hB : Below w.heap.size w w9 := by repeat (first | exact hB | (refine Bl_set ?_ (by first | omega | (simp; omega)) _) | apply Bl_alloc | (refine Bl_trans ?_ hb))
  clear hb
  have cv0 : w9.cell? ⟨gv, 0, none⟩ = some (.int .i64 2) := Bv.cell 0
  have cv1 : w9.cell? ⟨gv, 1, none⟩ = some (.int .u64 0) := Bv.cell 1
  have cv2 : w9.cell? ⟨gv, 2, none⟩ = some (.int .u64 0) := Bv.cell 2
  have cv3 : w9.cell? ⟨gv, 3, none⟩ = some (.int .u64 0) := Bv.cell 3
  have cv4 : w9.cell? ⟨gv, 4, none⟩ = some (.int .u64 0) := Bv.cell 4
  have cv5 : w9.cell? ⟨gv, 5, none⟩ = some (.int .i64 0) := Bv.cell 5
  have cv6 : w9.cell? ⟨gv, 6, none⟩ = some (.int .i64 0) := Bv.cell 6
  have cv7 : w9.cell? ⟨gv, 7, none⟩ = some (.int .i64 0) := Bv.cell 7
  have cv8 : w9.cell? ⟨gv, 8, none⟩ = some (.int .i64 0) := Bv.cell 8
  have cv9 : w9.cell? ⟨gv, 9, none⟩ = some (.int .i64 3) := Bv.cell 9
  have cv10 : w9.cell? ⟨gv, 10, none⟩ = some (.int .i64 3) := Bv.cell 10
  have fv := Bv.frozen; have lv := Bv.lt
  have fs := Bs.frozen; have ls := Bs.lt
  have ft := Bt.frozen; have lt := Bt.lt
  go_upto_region 9 with fail
  clear cv0 cv1 cv2 cv3 cv4 cv5 cv6 cv7 cv8 cv9 cv10 fv lv
  clear  fs ls
  clear  ft lt
  have Br := Blk.new w9 29 #[.int .i64 0, .int .u64 0, .int .u64 0, .int .u64 0, .int .u64 0, .int .i64 0, .int .i64 0, .int .i64 0, .int .i64 0, .int .i64 0, .int .i64 0]
  have hgr := hB.size
  have hnvr := Nat.ne_of_lt Bv.lt; have hltvr := Bv.lt
  have hnsr := Nat.ne_of_lt Bs.lt; have hltsr := Bs.lt
  have hntr := Nat.ne_of_lt Bt.lt; have hlttr := Bt.lt
  replace Bv : Blk (w9.alloc (.cells #[.int .i64 0, .int .u64 0, .int .u64 0, .int .u64 0, .int .u64 0, .int .i64 0, .int .i64 0, .int .i64 0, .int .i64 0, .int .i64 0, .int .i64 0] 29)) (gv) 29 #[.int .i64 2, .int .u64 0, .int .u64 0, .int .u64 0, .int .u64 0, .int .i64 0, .int .i64 0, .int .i64 0, .int .i64 0, .int .i64 3, .int .i64 3] := Bv.alloc _
  replace Bs : Blk (w9.alloc (.cells #[.int .i64 0, .int .u64 0, .int .u64 0, .int .u64 0, .int .u64 0, .int .i64 0, .int .i64 0, .int .i64 0, .int .i64 0, .int .i64 0, .int .i64 0] 29)) (gs) 34 (stv T1) := Bs.alloc _
  replace Bt : Blk (w9.alloc (.cells #[.int .i64 0, .int .u64 0, .int .u64 0, .int .u64 0, .int .u64 0, .int .i64 0, .int .i64 0, .int .i64 0, .int .i64 0, .int .i64 0, .int .i64 0] 29)) (gt) 34 (stv T2) := Bt.alloc _
  replace hB : Below w.heap.size w (w9.alloc (.cells #[.int .i64 0, .int .u64 0, .int .u64 0, .int .u64 0, .int .u64 0, .int .i64 0, .int .i64 0, .int .i64 0, .int .i64 0, .int .i64 0, .int .i64 0] 29)) := Bl_alloc hB _
  generalize (w9.alloc (.cells #[.int .i64 0, .int .u64 0, .int .u64 0, .int .u64 0, .int .u64 0, .int .i64 0, .int .i64 0, .int .i64 0, .int .i64 0, .int .i64 0, .int .i64 0] 29)) = w10 at *
  generalize w9.heap.size = gr at *
  have cv0 : w10.cell? ⟨gv, 0, none⟩ = some (.int .i64 2) := Bv.cell 0
  have cv1 : w10.cell? ⟨gv, 1, none⟩ = some (.int .u64 0) := Bv.cell 1
  have cv2 : w10.cell? ⟨gv, 2, none⟩ = some (.int .u64 0) := Bv.cell 2
  have cv3 : w10.cell? ⟨gv, 3, none⟩ = some (.int .u64 0) := Bv.cell 3
  have cv4 : w10.cell? ⟨gv, 4, none⟩ = some (.int .u64 0) := Bv.cell 4
  have cv5 : w10.cell? ⟨gv, 5, none⟩ = some (.int .i64 0) := Bv.cell 5
  have cv6 : w10.cell? ⟨gv, 6, none⟩ = some (.int .i64 0) := Bv.cell 6
  have cv7 : w10.cell? ⟨gv, 7, none⟩ = some (.int .i64 0) := Bv.cell 7
  have cv8 : w10.cell? ⟨gv, 8, none⟩ = some (.int .i64 0) := Bv.cell 8
  have cv9 : w10.cell? ⟨gv, 9, none⟩ = some (.int .i64 3) := Bv.cell 9
  have cv10 : w10.cell? ⟨gv, 10, none⟩ = some (.int .i64 3) := Bv.cell 10
  have fv := Bv.frozen; have lv := Bv.lt
  have fs := Bs.frozen; have ls := Bs.lt
  have ft := Bt.frozen; have lt := Bt.lt
  have cr0 : w10.cell? ⟨gr, 0, none⟩ = some (.int .i64 0) := Br.cell 0
  have cr1 : w10.cell? ⟨gr, 1, none⟩ = some (.int .u64 0) := Br.cell 1
  have cr2 : w10.cell? ⟨gr, 2, none⟩ = some (.int .u64 0) := Br.cell 2
  have cr3 : w10.cell? ⟨gr, 3, none⟩ = some (.int .u64 0) := Br.cell 3
  have cr4 : w10.cell? ⟨gr, 4, none⟩ = some (.int .u64 0) := Br.cell 4
  have cr5 : w10.cell? ⟨gr, 5, none⟩ = some (.int .i64 0) := Br.cell 5
  have cr6 : w10.cell? ⟨gr, 6, none⟩ = some (.int .i64 0) := Br.cell 6
  have cr7 : w10.cell? ⟨gr, 7, none⟩ = some (.int .i64 0) := Br.cell 7
  have cr8 : w10.cell? ⟨gr, 8, none⟩ = some (.int .i64 0) := Br.cell 8
  have cr9 : w10.cell? ⟨gr, 9, none⟩ = some (.int .i64 0) := Br.cell 9
  have cr10 : w10.cell? ⟨gr, 10, none⟩ = some (.int .i64 0) := Br.cell 10
  have fr := Br.frozen; have lr := Br.lt
  have hq8 := Zhq8.out
  have t1 := Zt1.out
  have t1i := Zt1i.out
  have t2 := Zt2.out
  have t2i := Zt2i.out
  have t3 := Zt3.out
  have t4 := Zt4.out
  have t5 := Zt5.out
  go_wp2
  go_ret
  exact ⟨rfl, by repeat (first | exact hB | (refine Bl_set ?_ (by first | omega | (simp; omega)) _) | apply Bl_alloc)⟩
theorem walk_AbsregWords (x y z : Int) (w : World) : Calls Try.prog 3 #[.int .i64 x, .int .i64 y, .int .i64 z] w fun e w' => e = .returned (.bool true) ∧ Below w.heap.size w w' := by
  obtain ⟨k, hk, rx, _⟩ := rem2_is 8 (by decide) (by decide) x
  obtain ⟨b, hb, ry, _⟩ := rem2_is 64 (by decide) (by decide) y
  obtain ⟨m, hm, rz, _⟩ := rem2_is 4 (by decide) (by decide) z
  obtain ⟨n, hn, hnv⟩ : ∃ n : Nat, (n = 1 ∨ n = 2 ∨ n = 4 ∨ n = 8) ∧ (#[.int .i64 1, .int .i64 2, .int .i64 4, .int .i64 8] : Array Value)[m]? = some (.int .i64 (n : Int)) := by
    match m, hm with
    | 0, _ => exact ⟨1, by omega, rfl⟩
    | 1, _ => exact ⟨2, by omega, rfl⟩
    | 2, _ => exact ⟨4, by omega, rfl⟩
    | 3, _ => exact ⟨8, by omega, rfl⟩
  by_cases hbn : b + n ≤ 64
  · by_cases hov : b < 8 * k + 8
    · by_cases ho2 : 8 * k < b + n
      · by_cases h8 : n = 8
        · by_cases hbk : b = 8 * k
          · exact words_c x y z k b n m hk hb hm hn hnv rx ry rz hbn hov ho2 h8 hbk w
          · exact words_e x y z k b n m hk hb hm hn hnv rx ry rz hbn hov ho2 h8 hbk w
        · exact words_d x y z k b n m hk hb hm hn hnv rx ry rz hbn hov ho2 h8 w
      · exact words_b x y z k b n m hk hb hm hn hnv rx ry rz hbn hov (by omega) w
    · exact words_a x y z k b n m hk hb hm hn hnv rx ry rz hbn (by omega) w
  · exact words_n x y z k b n m hk hb hm hn hnv rx ry rz hbn w
theorem walkN_AbsregWords (x : Int) (l0 : -9223372036854775808 ≤ x) (h0 : x ≤ 9223372036854775807) (y : Int) (l1 : -9223372036854775808 ≤ y) (h1 : y ≤ 9223372036854775807) (z : Int) (l2 : -9223372036854775808 ≤ z) (h2 : z ≤ 9223372036854775807) (w : World) : Calls Try.prog 3 #[.int .i64 x, .int .i64 y, .int .i64 z] w fun e w' => e = .returned (.bool true) ∧ Below w.heap.size w w' := walk_AbsregWords x y z w
namespace absregWords
set_option maxRecDepth 100000 in
theorem lifted (os : Os) (started : os.Started) (H : Type) (enc : TypeId × Value → H) :
    ReturnsInHanded {} Try.checked os 3 .any (Rows.absregWordsSpec.pre6 enc Try.prog Try.f3 Rows.absregWordsRow.domain false) (Rows.absregWordsSpec.post enc Try.prog Try.f3 false true false false) := by
  refine returnsInHanded_of_change (C := Try.checked) own started (by kernel_rfl) Try.func3
    (ChangeSpec.witness6 (enc := enc) (C := Try.checked) false ⟨#[], #[.int .i64 0, .int .i64 0, .int .i64 0], []⟩ 8 (by kernel_rfl) (by kernel_rfl) (by kernel_rfl) (by kernel_rfl)) ?_
  intro W base args ds gs before hval0 hW hcnd _
  have hval : ∀ (j : Nat) t v, Try.f3.params[j]? = some t → args[j]? = some v → Value.okWide Try.prog W .any base t v := hval0
  have hW' := hW
  obtain ⟨p, q, hA0, hV, rfl, hfz, hnd⟩ := hW
  have hA : DataW.TrodAll enc Try.prog W 0 (fun _ => true) true Try.f3.params.toList args.toList ds p := hA0
  rw [Try.params3] at hA hval
  obtain ⟨v0, vs0, d0, ds0, p0, q0, hargs, rfl, rfl, h0, r0⟩ := trodAll_cons hA
  obtain ⟨v1, vs1, d1, ds1, p1, q1, rfl, rfl, rfl, h1, r1⟩ := trodAll_cons r0
  obtain ⟨v2, vs2, d2, ds2, p2, q2, rfl, rfl, rfl, h2, r2⟩ := trodAll_cons r1
  obtain ⟨rfl, rfl, rfl⟩ := trodAll_nil r2
  obtain rfl : args = #[v0, v1, v2] := by cases args; simp_all
  obtain ⟨rfl, rfl⟩ := trodVars_none hV
  have lt0 : ∀ x ∈ p0, x.block < W.heap.size := by obtain ⟨m, hm⟩ := h0; exact DataW.trod_lt m _ _ _ hm
  obtain ⟨x0, rfl, lo0, hi0⟩ := open_i64 Try.underlying3 (hval 0 3 v0 rfl rfl)
  have lt1 : ∀ x ∈ p1, x.block < W.heap.size := by obtain ⟨m, hm⟩ := h1; exact DataW.trod_lt m _ _ _ hm
  obtain ⟨x1, rfl, lo1, hi1⟩ := open_i64 Try.underlying3 (hval 1 3 v1 rfl rfl)
  have lt2 : ∀ x ∈ p2, x.block < W.heap.size := by obtain ⟨m, hm⟩ := h2; exact DataW.trod_lt m _ _ _ hm
  obtain ⟨x2, rfl, lo2, hi2⟩ := open_i64 Try.underlying3 (hval 2 3 v2 rfl rfl)
  refine (walkN_AbsregWords x0 lo0 hi0 x1 lo1 hi1 x2 lo2 hi2 W).mono fun e W' ⟨he, bel⟩ => ?_
  subst he
  exact ⟨_, rfl, _, _, _, [], _, [], hW', trodAll_mk1 (shut_bool Try.underlying4 _), (trodAll_cons_mk (Below.trod laidOut (by kernel_rfl) (of_decide_eq_true (by kernel_rfl)) h0 bel lt0) (trodAll_cons_mk (Below.trod laidOut (by kernel_rfl) (of_decide_eq_true (by kernel_rfl)) h1 bel lt1) (trodAll_cons_mk (Below.trod laidOut (by kernel_rfl) (of_decide_eq_true (by kernel_rfl)) h2 bel lt2) trodAll_mk0))), rfl, bel.frame _, fun h => by cases h⟩
theorem over : Rows.absregWordsRow.holds Try.pinned (OpenSpec.ofChange Rows.absregWordsSpec) :=
  OpenClaim.holds_of_wide 3 Try.f3 rfl rfl rfl rfl rfl rfl rfl ⟨rfl, rfl, rfl, rfl, rfl⟩ rfl rfl rfl rfl rfl (by kernel_rfl) Try.func3 (by kernel_rfl)
    (of_decide_eq_true (by kernel_rfl)) (by unfold Func.isWrapper; first | (rw [if_pos (by decide +kernel)]; kernel_rfl) | (rw [if_neg (by decide +kernel)]; exact ⟨rfl, rfl⟩))
    (fun os started H enc _ => lifted os started H enc)
/-- The given statement. -/
theorem proved : Rows.AbsregWordsSaid := over
#print axioms proved
end absregWords
end Go.Proofs.Ytmghpoagpiljhab
