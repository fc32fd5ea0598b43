/- The document's stack in plain words, what it says of a state; the walk of its Save. -/
import Derived.Test.YtmghpoagpiljhaaAbs7
import Derived.Deep.DeepCutAuto
set_option linter.unusedSimpArgs false
set_option linter.unusedVariables false
namespace Go.Proofs.Ytmghpoagpiljhaa
namespace PlainAbs
open PlainScalar (Rng)
/-- The document's stack: which bytes are a number's, which words have what. -/
structure Sk where
  what : Nat → Bool
  kept : Nat → Nat
def sk0 : Sk := ⟨fun _ => false, fun _ => 0⟩
def rmark (q : Sk) (f : Nat) (b : Bool) : Nat → Sk
  | 0 => q
  | j + 1 => { rmark q f b j with what := upd (rmark q f b j).what (f + j) b }
def rclr (q : Sk) (k : Nat) : Sk := if q.kept k = 0 then q else rmark { q with kept := upd q.kept k 0 } (8 * k) false 8
def rclrN (q : Sk) (f : Nat) : Nat → Sk
  | 0 => q
  | j + 1 => rclr (rclrN q f j) ((f + j) / 8)
theorem rmark_what (q : Sk) (f : Nat) (b : Bool) (i : Nat) : ∀ n, (rmark q f b n).what i = if f ≤ i ∧ i < f + n then b else q.what i
  | 0 => by rw [if_neg (by omega)]; rfl
  | n + 1 => by
    show upd (rmark q f b n).what (f + n) b i = _
    unfold upd
    by_cases h : i = f + n
    · rw [if_pos h, if_pos (by omega)]
    · rw [if_neg h, rmark_what q f b i n]
      by_cases h2 : f ≤ i ∧ i < f + n
      · rw [if_pos h2, if_pos (by omega)]
      · rw [if_neg h2, if_neg (by omega)]
theorem rmark_kept (q : Sk) (f : Nat) (b : Bool) : ∀ n, (rmark q f b n).kept = q.kept
  | 0 => rfl
  | n + 1 => rmark_kept q f b n
/-- What a word has: nothing, or a cell. -/
def kreg (v : Nat) : Rg := if v = 0 then zr else { zr with kind := 5, low := (v : Int) - 1, high := (v : Int) - 1 }
/-- The state that a stack tells of. -/
def ofS (q : Sk) : St := ⟨start.r, q.what, fun k => kreg (q.kept k)⟩
theorem ofS_0 : ofS sk0 = start := rfl
theorem kreg_kind (v : Nat) : (kreg v).kind = 0 ↔ v = 0 := by
  unfold kreg
  by_cases h : v = 0
  · rw [if_pos h]; simp [h, zr]
  · rw [if_neg h]; simp [h]
theorem kreg_upd (f : Nat → Nat) (k v : Nat) : (fun j => kreg (upd f k v j)) = upd (fun j => kreg (f j)) k (kreg v) := by
  funext j; unfold upd; by_cases h : j = k <;> simp [h]
theorem ofS_mark (q : Sk) (f : Nat) (b : Bool) : ∀ n, ofS (rmark q f b n) = mark (ofS q) f b n
  | 0 => rfl
  | n + 1 => by
    show ofS { rmark q f b n with what := upd (rmark q f b n).what (f + n) b } = { mark (ofS q) f b n with what := upd (mark (ofS q) f b n).what (f + n) b }
    rw [← ofS_mark q f b n]; rfl
theorem ofS_clr (q : Sk) (k : Nat) : ofS (rclr q k) = clr (ofS q) k := by
  unfold rclr clr
  by_cases h : q.kept k = 0
  · rw [if_pos h, if_pos (show ((ofS q).kept k).kind = 0 from (kreg_kind _).2 h)]
  · rw [if_neg h, if_neg (show ¬ ((ofS q).kept k).kind = 0 from fun g => h ((kreg_kind _).1 g))]
    show (⟨start.r, (rmark _ (8 * k) false 8).what, fun j => kreg ((rmark _ (8 * k) false 8).kept j)⟩ : St) = ⟨start.r, fun j => if j / 8 = k then false else q.what j, upd (fun j => kreg (q.kept j)) k zr⟩
    congr 1
    · funext j
      rw [rmark_what]
      by_cases hj : j / 8 = k
      · rw [if_pos (by omega), if_pos hj]
      · rw [if_neg (by omega), if_neg hj]
    · rw [rmark_kept]
      exact kreg_upd q.kept k 0
theorem ofS_clrN (q : Sk) (f : Nat) : ∀ n, ofS (rclrN q f n) = clrN (ofS q) f n
  | 0 => rfl
  | n + 1 => by
    show ofS (rclr (rclrN q f n) _) = clr (clrN (ofS q) f n) _
    rw [ofS_clr, ofS_clrN q f n]
/-- What Save makes of a stack. -/
def rsaved (q : Sk) (f n v : Nat) : Sk := if v = 0 then rmark (rclrN q f n) f true n else { rmark (rclrN q f n) f false n with kept := upd (rmark (rclrN q f n) f false n).kept (f / 8) v }
end PlainAbs
open Go.RowKit
open PlainTnum (N)
open PlainScalar (Rng)
open PlainAbs (Rg St zr zs upd Sk)
def skc (q : Sk) (i : Nat) : Value := if i < 64 then .bool (q.what i) else .int .i64 (q.kept (i - 64) : Int)
/-- A stack's cells. -/
def skv (q : Sk) : Array Value := Array.ofFn (n := 72) fun i => skc q i
theorem skv_size (q : Sk) : (skv q).size = 72 := by simp [skv]
theorem skv_get (q : Sk) {i : Nat} (h : i < 72) : (skv q)[i]? = some (skc q i) := by simp [skv, h]
theorem skv_what (q : Sk) {i : Nat} (h : i < 64) : (skv q)[i]? = some (.bool (q.what i)) := by rw [skv_get q (by omega)]; unfold skc; rw [if_pos h]
theorem skv_kept (q : Sk) {k : Nat} (h : k < 8) : (skv q)[64 + k]? = some (.int .i64 (q.kept k : Int)) := by rw [skv_get q (by omega)]; unfold skc; rw [if_neg (by omega), show 64 + k - 64 = k by omega]
theorem skv_set {q t : Sk} {i : Nat} {v : Value} (hi : i < 72) (h1 : v = skc t i) (h2 : ∀ j, j < 72 → j ≠ i → skc t j = skc q j) : (skv q).setIfInBounds i v = skv t := by
  apply Array.ext_getElem?
  intro j
  rw [Array.getElem?_setIfInBounds]
  by_cases hj : j < 72
  · by_cases e : i = j
    · subst e; rw [if_pos rfl, if_pos (by rw [skv_size]; exact hi), skv_get t hj, h1]
    · rw [if_neg e, skv_get q hj, skv_get t hj, h2 j hj (Ne.symm e)]
  · rw [if_neg (by omega), Array.getElem?_eq_none (by rw [skv_size]; omega), Array.getElem?_eq_none (by rw [skv_size]; omega)]
theorem set_sw (q : Sk) {j : Nat} (hj : j < 64) (b : Bool) : (skv q).setIfInBounds j (.bool b) = skv { q with what := upd q.what j b } := by
  refine skv_set (by omega) ?_ (fun i hi hn => ?_)
  · unfold skc; rw [if_pos hj]; simp [upd]
  · unfold skc
    split
    · simp [upd, hn]
    · rfl
theorem set_sk (q : Sk) {k : Nat} (hk : k < 8) (v : Nat) : (skv q).setIfInBounds (64 + k) (.int .i64 (v : Int)) = skv { q with kept := upd q.kept k v } := by
  refine skv_set (by omega) ?_ (fun i hi hn => ?_)
  · unfold skc; rw [if_neg (by omega), show 64 + k - 64 = k by omega]; simp [upd]
  · unfold skc
    split
    · rfl
    · simp only [upd]; rw [if_neg (by omega)]
/-- One block is written over; all else is as it was. -/
structure Over (g : Nat) (w w' : World) : Prop where
  far : ∀ {b : Nat} {t : TypeId} {cs : Array Value}, b ≠ g → Blk w b t cs → Blk w' b t cs
  bel : ∀ {B : Nat} {w0 : World}, Below B w0 w → B ≤ g → Below B w0 w'
  size : w'.heap.size = w.heap.size
theorem Over.refl (g : Nat) (w : World) : Over g w w := ⟨fun _ h => h, fun h _ => h, rfl⟩
theorem Over.set {g : Nat} {w w' : World} (h : Over g w w') (i : Nat) (v : Value) : Over g w (w'.setCell ⟨g, i, none⟩ v) :=
  ⟨fun hn hb => (h.far hn hb).far (p := ⟨g, i, none⟩) hn v, fun hb hg => (h.bel hb hg).setCell (p := ⟨g, i, none⟩) hg v, by rw [← h.size]; simp⟩
set_option maxRecDepth 100000 in
set_option maxHeartbeats 1600000 in
theorem rs_no_a (q : Sk) (g : Nat) (n v : Nat) (w : World) (Bq : Blk w g 74 (skv q)) : Calls Try.prog 49 #[.pointer (some ⟨g, 0, none⟩), .int .i64 (-1), .int .i64 (n : Int), .int .i64 (v : Int)] w fun e w' => e = .returned (.bool false) ∧ Blk w' g 74 (skv q) ∧ Over g w w' := by
  go_enter Try.func49, Try.ntmps49
  go_wp2
  go_ret
  exact ⟨rfl, Bq, Over.refl _ _⟩
set_option maxRecDepth 100000 in
set_option maxHeartbeats 1600000 in
theorem rs_no_b (q : Sk) (g : Nat) (f n v : Nat) (hf : f ≤ 64) (hn : n ≤ 8) (h : 64 < f + n) (w : World) (Bq : Blk w g 74 (skv q)) : Calls Try.prog 49 #[.pointer (some ⟨g, 0, none⟩), .int .i64 (f : Int), .int .i64 (n : Int), .int .i64 (v : Int)] w fun e w' => e = .returned (.bool false) ∧ Blk w' g 74 (skv q) ∧ Over g w w' := by
  have hsum : wrap64 ((f : Int) + (n : Int)) = ((f + n : Nat) : Int) := by rw [IntWalk.wrap64_in _ (by constructor <;> omega)]; simp
  have hf0 : ¬ (f : Int) < 0 := by omega
  have h1 : (64 : Int) < ((f + n : Nat) : Int) := by omega
  have h2 : (64 : Int) < (f : Int) + (n : Int) := by omega
  go_enter Try.func49, Try.ntmps49
  go_wp2
  go_ret
  exact ⟨rfl, Bq, Over.refl _ _⟩
set_option maxRecDepth 100000 in
set_option maxHeartbeats 1600000 in
theorem rs_no_c (q : Sk) (g : Nat) (f n v : Nat) (hn : n ≤ 8) (h : f + n ≤ 64) (hv : 0 < v) (h8 : n ≠ 8) (w : World) (Bq : Blk w g 74 (skv q)) : Calls Try.prog 49 #[.pointer (some ⟨g, 0, none⟩), .int .i64 (f : Int), .int .i64 (n : Int), .int .i64 (v : Int)] w fun e w' => e = .returned (.bool false) ∧ Blk w' g 74 (skv q) ∧ Over g w w' := by
  have hsum : wrap64 ((f : Int) + (n : Int)) = ((f + n : Nat) : Int) := by rw [IntWalk.wrap64_in _ (by constructor <;> omega)]; simp
  have hf0 : ¬ (f : Int) < 0 := by omega
  have h1 : ¬ (64 : Int) < (f : Int) + (n : Int) := by omega
  have h2 : ¬ 64 < f + n := by omega
  have h3 : (0 : Int) < (v : Int) := by omega
  have h4 : ((n : Int) == 8) = false := by simp; omega
  have h5 : ((n : Int) != 8) = true := by simp; omega
  have h6 : (n == 8) = false := by simp; omega
  have h7 : (n != 8) = true := by simp; omega
  clear h8
  go_enter Try.func49, Try.ntmps49
  go_wp2
  go_ret
  exact ⟨rfl, Bq, Over.refl _ _⟩
set_option maxRecDepth 100000 in
set_option maxHeartbeats 1600000 in
theorem rs_no_d (q : Sk) (g : Nat) (f v : Nat) (h : f + 8 ≤ 64) (hv : 0 < v) (h8 : ¬ f % 8 = 0) (w : World) (Bq : Blk w g 74 (skv q)) : Calls Try.prog 49 #[.pointer (some ⟨g, 0, none⟩), .int .i64 (f : Int), .int .i64 8, .int .i64 (v : Int)] w fun e w' => e = .returned (.bool false) ∧ Blk w' g 74 (skv q) ∧ Over g w w' := by
  have hsum : wrap64 ((f : Int) + 8) = ((f + 8 : Nat) : Int) := by rw [IntWalk.wrap64_in _ (by constructor <;> omega)]; simp
  have hf0 : ¬ (f : Int) < 0 := by omega
  have h1 : ¬ (64 : Int) < (f : Int) + 8 := by omega
  have h2 : ¬ 64 < f + 8 := by omega
  have h3 : (0 : Int) < (v : Int) := by omega
  have h4 : ((f : Int) % 8 == 0) = false := by simp; omega
  have h5 : ((f : Int) % 8 != 0) = true := by simp; omega
  have h6 : ¬ (f : Int) % 8 = 0 := by omega
  clear h8
  go_enter Try.func49, Try.ntmps49
  go_wp2
  go_ret
  exact ⟨rfl, Bq, Over.refl _ _⟩
set_option maxRecDepth 100000 in
set_option maxHeartbeats 3200000 in
theorem rs_y0 (q : Sk) (g : Nat) (f n : Nat) (hn : n ≤ 8) (hfm : f + n ≤ 64) (w : World) (Bq : Blk w g 74 (skv q)) : Calls Try.prog 49 #[.pointer (some ⟨g, 0, none⟩), .int .i64 (f : Int), .int .i64 (n : Int), .int .i64 0] w fun e w' => e = .returned (.bool true) ∧ Blk w' g 74 (skv (PlainAbs.rmark (PlainAbs.rclrN q f n) f true n)) ∧ Over g w w' := by
  obtain ⟨F, e_F⟩ : ∃ z', z' = PlainAbs.rclrN q f := ⟨_, rfl⟩; obtain ⟨G, e_G⟩ : ∃ z', z' = PlainAbs.rmark (PlainAbs.rclrN q f n) f true := ⟨_, rfl⟩
  have hF0 : F 0 = q := by rw [e_F]; rfl
  have hF : ∀ j, F (j + 1) = PlainAbs.rclr (F j) ((f + j) / 8) := fun j => by rw [e_F]; rfl
  have hG0 : G 0 = F n := by rw [e_G, e_F]; rfl
  have hG : ∀ j, G (j + 1) = { G j with what := upd (G j).what (f + j) true } := fun j => by rw [e_G]; rfl
  rw [← e_G]; clear e_F e_G
  have HF0 := Lib.hid hF0; clear hF0
  have HF := Lib.hid hF; clear hF
  have HG0 := Lib.hid hG0; clear hG0
  have HG := Lib.hid hG; clear hG
  have hsum : wrap64 ((f : Int) + (n : Int)) = ((f + n : Nat) : Int) := by rw [IntWalk.wrap64_in _ (by constructor <;> omega)]; simp
  have hf0 : ¬ (f : Int) < 0 := by omega
  have h1 : ¬ (64 : Int) < (f : Int) + (n : Int) := by omega
  have h2 : ¬ 64 < f + n := by omega
  have hB : Over g w w := Over.refl _ _
  go_enter Try.func49, Try.ntmps49
  go_upto_region 3 with fail
  clear h1 h2
  go_wp2_with fail
  go_loopg [9] n (fun m' i wr => ∃ j : Nat, j ≤ n ∧ m' + j = n ∧ i = .int .i64 ((f + j : Nat) : Int) ∧ Over g w wr ∧ Blk wr g 74 (skv (F j)))
  case atStart => exact ⟨0, by omega, by omega, by go_num, hB, by rw [HF0.out]; exact Bq⟩
  case round =>
    clear hB Bq
    obtain ⟨j, hj, hgk, rfl, hB, Bq⟩ := hrel
    obtain ⟨wo, rfl⟩ : ∃ z : World, z = wr := ⟨_, rfl⟩
    have fq := Bq.frozen; have lq := Bq.lt
    cases hq : decide (j < n)
    · have hjM : j = n := by have := of_decide_eq_false hq; omega
      have h3' : ¬ j < n := of_decide_eq_false hq
      have h2 : ¬ f + j < f + n := by omega
      have BsG : Blk wo g 74 (skv (G 0)) := by rw [HG0.out, ← hjM]; exact Bq
      clear Bq hgk hj hjM fq lq; have Bq := BsG; clear BsG
      go_upto_region 12 with fail
      clear h2 h3' hq
      go_wp2_with fail
      go_loopg [11] n (fun m' i wr => ∃ j : Nat, j ≤ n ∧ m' + j = n ∧ i = .int .i64 ((f + j : Nat) : Int) ∧ Over g w wr ∧ Blk wr g 74 (skv (G j)))
      case atStart => exact ⟨0, by omega, by omega, by go_num, hB, Bq⟩
      case round =>
        clear hB Bq
        obtain ⟨j, hj, hgk, rfl, hB, Bq⟩ := hrel
        obtain ⟨wp, rfl⟩ : ∃ z : World, z = wr := ⟨_, rfl⟩
        have fq := Bq.frozen; have lq := Bq.lt
        cases hq : decide (j < n)
        · have hjM : j = n := by have := of_decide_eq_false hq; omega
          have h3' : ¬ j < n := of_decide_eq_false hq
          have h2 : ¬ f + j < f + n := by omega
          have BsG : Blk wp g 74 (skv (G n)) := by rw [← hjM]; exact Bq
          clear Bq hgk hj hjM; have Bq := BsG; clear BsG
          go_wp2
          go_ret
          exact ⟨rfl, Bq, hB⟩
        · have hjm : j < n := of_decide_eq_true hq
          have h2 : f + j < f + n := by omega
          have h64 : ((f + j : Nat) : Int) < 64 := by omega
          have h64n : f + j < 64 := by omega
          have cw : wp.cell? ⟨g, f + j, none⟩ = some (.bool ((G j).what (f + j))) := by rw [Bq.cell, skv_what _ h64n]
          go_upto_region 14 with fail
          clear cw fq lq
          replace Bq : Blk (wp.setCell ⟨g, f + j, none⟩ (.bool true)) g 74 (skv (G (j + 1))) := by rw [HG.out j, ← set_sw (G j) h64n true]; exact Bq.set_ (f + j) _
          replace hB : Over g w (wp.setCell ⟨g, f + j, none⟩ (.bool true)) := hB.set _ _
          generalize (wp.setCell ⟨g, f + j, none⟩ (.bool true)) = w9 at *
          go_wp2_with fail
          go_roundg (n - 1 - j)
          case measure => omega
          case rel => exact ⟨j + 1, by omega, by omega, by go_num, hB, Bq⟩
    · have hjm : j < n := of_decide_eq_true hq
      have h2 : f + j < f + n := by omega
      obtain ⟨kk, hkk⟩ : ∃ kk, kk = (f + j) / 8 := ⟨_, rfl⟩
      have hk8 : kk < 8 := by omega
      have hk8i : (kk : Int) < 8 := by omega
      have hdv : ((f : Int) + (j : Int)) / 8 = (kk : Int) := by omega
      obtain ⟨t, e_t⟩ : ∃ t, t = F j := ⟨_, rfl⟩
      have hF1 : F (j + 1) = PlainAbs.rclr t kk := by rw [HF.out j, ← e_t, ← hkk]
      rw [← e_t] at Bq; clear e_t hkk
      have HF1 := Lib.hid hF1; clear hF1
      obtain ⟨K, e_K⟩ : ∃ K, K = t.kept kk := ⟨_, rfl⟩
      have ck : wo.cell? ⟨g, 64 + kk, none⟩ = some (.int .i64 (K : Int)) := by rw [Bq.cell, skv_kept _ hk8, e_K]
      have HKK := Lib.hid e_K; clear e_K
      by_cases h0 : K = 0
      · subst h0
        have HF2 := Lib.hid (show F (j + 1) = t by rw [HF1.out]; unfold PlainAbs.rclr; rw [if_pos HKK.out.symm])
        go_wp2_with fail
        go_roundg (n - 1 - j)
        case measure => omega
        case rel => exact ⟨j + 1, by omega, by omega, by go_num, hB, by rw [HF2.out]; exact Bq⟩
      · have k0 : 0 < K := by omega
        have k0i : (0 : Int) < (K : Int) := by omega
        obtain ⟨u, e_u⟩ : ∃ u, u = ({ t with kept := upd t.kept kk 0 } : Sk) := ⟨_, rfl⟩
        have HF2 := Lib.hid (show F (j + 1) = PlainAbs.rmark u (8 * kk) false 8 by rw [HF1.out, e_u]; unfold PlainAbs.rclr; rw [if_neg (by rw [← HKK.out]; exact h0)])
        have HU := Lib.hid e_u; clear e_u h0
        go_upto_region 8 with fail
        clear ck k0 k0i fq lq
        replace Bq : Blk (wo.setCell ⟨g, 64 + kk, none⟩ (.int .i64 0)) g 74 (skv u) := by rw [HU.out, ← set_sk t hk8 0]; exact Bq.set_ (64 + kk) _
        replace hB : Over g w (wo.setCell ⟨g, 64 + kk, none⟩ (.int .i64 0)) := hB.set _ _
        generalize (wo.setCell ⟨g, 64 + kk, none⟩ (.int .i64 0)) = w8 at *
        go_wp2_with fail
        go_loopg [10] 8 (fun m' i wr => ∃ jm : Nat, jm ≤ 8 ∧ m' + jm = 8 ∧ i = .int .i64 (jm : Int) ∧ Over g w wr ∧ Blk wr g 74 (skv (PlainAbs.rmark u (8 * kk) false jm)))
        case atStart => exact ⟨0, by omega, by omega, rfl, hB, Bq⟩
        case round =>
          clear hB Bq
          obtain ⟨jm, hj2, hgk2, rfl, hB, Bq⟩ := hrel
          obtain ⟨wq, rfl⟩ : ∃ z : World, z = wr := ⟨_, rfl⟩
          have fq := Bq.frozen; have lq := Bq.lt
          by_cases hq2 : jm < 8
          · have hq2i : (jm : Int) < 8 := by omega
            have hx : (kk : Int) * 8 + (jm : Int) < 64 := by omega
            have hxn : 8 * kk + jm < 64 := by omega
            have hxe : kk * 8 + jm = 8 * kk + jm := by omega
            have cw : wq.cell? ⟨g, kk * 8 + jm, none⟩ = some (.bool ((PlainAbs.rmark u (8 * kk) false jm).what (8 * kk + jm))) := by rw [hxe, Bq.cell, skv_what _ hxn]
            have HX := Lib.hid hxe; have HXN := Lib.hid hxn; clear hxe hxn
            go_upto_region 10 with fail
            clear cw fq lq hx
            replace Bq : Blk (wq.setCell ⟨g, kk * 8 + jm, none⟩ (.bool false)) g 74 (skv (PlainAbs.rmark u (8 * kk) false (jm + 1))) := by show Blk _ _ _ (skv { PlainAbs.rmark u (8 * kk) false jm with what := upd (PlainAbs.rmark u (8 * kk) false jm).what (8 * kk + jm) false }); rw [← set_sw _ HXN.out false, HX.out]; exact Bq.set_ (8 * kk + jm) _
            replace hB : Over g w (wq.setCell ⟨g, kk * 8 + jm, none⟩ (.bool false)) := hB.set _ _
            generalize (wq.setCell ⟨g, kk * 8 + jm, none⟩ (.bool false)) = w9 at *
            go_wp2_with fail
            go_roundg (7 - jm)
            case measure => omega
            case rel => exact ⟨jm + 1, by omega, by omega, by go_num, hB, Bq⟩
          · obtain rfl : jm = 8 := by omega
            clear hq2 hj2 hgk2 fq lq
            go_wp2_with fail
            go_roundg (n - 1 - j)
            case measure => omega
            case rel => exact ⟨j + 1, by omega, by omega, by go_num, hB, by rw [HF2.out]; exact Bq⟩
set_option maxRecDepth 100000 in
set_option maxHeartbeats 3200000 in
theorem rs_y1 (q : Sk) (g : Nat) (f k v : Nat) (hfm : f + 8 ≤ 64) (hk : k < 8) (hf : f = 8 * k) (hv : 0 < v) (w : World) (Bq : Blk w g 74 (skv q)) : Calls Try.prog 49 #[.pointer (some ⟨g, 0, none⟩), .int .i64 (f : Int), .int .i64 8, .int .i64 (v : Int)] w fun e w' => e = .returned (.bool true) ∧ Blk w' g 74 (skv { PlainAbs.rmark (PlainAbs.rclrN q f 8) f false 8 with kept := upd (PlainAbs.rmark (PlainAbs.rclrN q f 8) f false 8).kept k v }) ∧ Over g w w' := by
  obtain ⟨F, e_F⟩ : ∃ z', z' = PlainAbs.rclrN q f := ⟨_, rfl⟩; obtain ⟨G, e_G⟩ : ∃ z', z' = PlainAbs.rmark (PlainAbs.rclrN q f 8) f false := ⟨_, rfl⟩
  have hF0 : F 0 = q := by rw [e_F]; rfl
  have hF : ∀ j, F (j + 1) = PlainAbs.rclr (F j) ((f + j) / 8) := fun j => by rw [e_F]; rfl
  have hG0 : G 0 = F 8 := by rw [e_G, e_F]; rfl
  have hG : ∀ j, G (j + 1) = { G j with what := upd (G j).what (f + j) false } := fun j => by rw [e_G]; rfl
  rw [← e_G]; clear e_F e_G
  have HF0 := Lib.hid hF0; clear hF0
  have HF := Lib.hid hF; clear hF
  have HG0 := Lib.hid hG0; clear hG0
  have HG := Lib.hid hG; clear hG
  have hsum : wrap64 ((f : Int) + 8) = ((f + 8 : Nat) : Int) := by rw [IntWalk.wrap64_in _ (by constructor <;> omega)]; simp
  have hf0 : ¬ (f : Int) < 0 := by omega
  have h1 : ¬ (64 : Int) < (f : Int) + 8 := by omega
  have h2 : ¬ 64 < f + 8 := by omega
  have h3 : (0 : Int) < (v : Int) := by omega
  have h4 : ((f : Int) % 8 == 0) = true := by simp; omega
  have h5 : ((f : Int) % 8 != 0) = false := by simp; omega
  have h6 : (f : Int) % 8 = 0 := by omega
  have h7 : ((v : Int) == 0) = false := by simp; omega
  have h8 : (v == 0) = false := by simp; omega
  have HK := Lib.hid (show (f : Int) / 8 = (k : Int) by omega); have H3 := Lib.hid h3; clear hf
  have hB : Over g w w := Over.refl _ _
  go_enter Try.func49, Try.ntmps49
  go_upto_region 3 with fail
  clear h1 h2 h4 h5 h6
  go_wp2_with fail
  go_loopg [9] 8 (fun m' i wr => ∃ j : Nat, j ≤ 8 ∧ m' + j = 8 ∧ i = .int .i64 ((f + j : Nat) : Int) ∧ Over g w wr ∧ Blk wr g 74 (skv (F j)))
  case atStart => exact ⟨0, by omega, by omega, by go_num, hB, by rw [HF0.out]; exact Bq⟩
  case round =>
    clear hB Bq
    obtain ⟨j, hj, hgk, rfl, hB, Bq⟩ := hrel
    obtain ⟨wo, rfl⟩ : ∃ z : World, z = wr := ⟨_, rfl⟩
    have fq := Bq.frozen; have lq := Bq.lt
    cases hq : decide (j < 8)
    · have hjM : j = 8 := by have := of_decide_eq_false hq; omega
      have h3' : ¬ j < 8 := of_decide_eq_false hq
      have h2 : ¬ f + j < f + 8 := by omega
      have BsG : Blk wo g 74 (skv (G 0)) := by rw [HG0.out, ← hjM]; exact Bq
      clear Bq hgk hj hjM fq lq; have Bq := BsG; clear BsG
      go_upto_region 12 with fail
      clear h2 h3' hq
      go_wp2_with fail
      go_loopg [11] 8 (fun m' i wr => ∃ j : Nat, j ≤ 8 ∧ m' + j = 8 ∧ i = .int .i64 ((f + j : Nat) : Int) ∧ Over g w wr ∧ Blk wr g 74 (skv (G j)))
      case atStart => exact ⟨0, by omega, by omega, by go_num, hB, Bq⟩
      case round =>
        clear hB Bq
        obtain ⟨j, hj, hgk, rfl, hB, Bq⟩ := hrel
        obtain ⟨wp, rfl⟩ : ∃ z : World, z = wr := ⟨_, rfl⟩
        have fq := Bq.frozen; have lq := Bq.lt
        cases hq : decide (j < 8)
        · have hjM : j = 8 := by have := of_decide_eq_false hq; omega
          have h3' : ¬ j < 8 := of_decide_eq_false hq
          have h2 : ¬ f + j < f + 8 := by omega
          have BsG : Blk wp g 74 (skv (G 8)) := by rw [← hjM]; exact Bq
          clear Bq hgk hj hjM; have Bq := BsG; clear BsG
          go_upto_region 16 with fail
          clear h2 h3' hq
          have hdv := HK.out; have ck : wp.cell? ⟨g, 64 + k, none⟩ = some (.int .i64 ((G 8).kept k : Int)) := by rw [Bq.cell, skv_kept _ hk]
          have hki : (k : Int) < 8 := by omega
          go_wp2
          go_ret
          exact ⟨rfl, by rw [← set_sk (G 8) hk v]; exact Bq.set_ (64 + k) _, hB.set _ _⟩
        · have hjm : j < 8 := of_decide_eq_true hq
          have h2 : f + j < f + 8 := by omega
          have h64 : ((f + j : Nat) : Int) < 64 := by omega
          have h64n : f + j < 64 := by omega
          have cw : wp.cell? ⟨g, f + j, none⟩ = some (.bool ((G j).what (f + j))) := by rw [Bq.cell, skv_what _ h64n]
          go_upto_region 14 with fail
          clear cw fq lq
          replace Bq : Blk (wp.setCell ⟨g, f + j, none⟩ (.bool false)) g 74 (skv (G (j + 1))) := by rw [HG.out j, ← set_sw (G j) h64n false]; exact Bq.set_ (f + j) _
          replace hB : Over g w (wp.setCell ⟨g, f + j, none⟩ (.bool false)) := hB.set _ _
          generalize (wp.setCell ⟨g, f + j, none⟩ (.bool false)) = w9 at *
          go_wp2_with fail
          go_roundg (8 - 1 - j)
          case measure => omega
          case rel => exact ⟨j + 1, by omega, by omega, by go_num, hB, Bq⟩
    · have hjm : j < 8 := of_decide_eq_true hq
      have h2 : f + j < f + 8 := by omega
      obtain ⟨kk, hkk⟩ : ∃ kk, kk = (f + j) / 8 := ⟨_, rfl⟩
      have hk8 : kk < 8 := by omega
      have hk8i : (kk : Int) < 8 := by omega
      have hdv : ((f : Int) + (j : Int)) / 8 = (kk : Int) := by omega
      obtain ⟨t, e_t⟩ : ∃ t, t = F j := ⟨_, rfl⟩
      have hF1 : F (j + 1) = PlainAbs.rclr t kk := by rw [HF.out j, ← e_t, ← hkk]
      rw [← e_t] at Bq; clear e_t hkk
      have HF1 := Lib.hid hF1; clear hF1
      obtain ⟨K, e_K⟩ : ∃ K, K = t.kept kk := ⟨_, rfl⟩
      have ck : wo.cell? ⟨g, 64 + kk, none⟩ = some (.int .i64 (K : Int)) := by rw [Bq.cell, skv_kept _ hk8, e_K]
      have HKK := Lib.hid e_K; clear e_K
      by_cases h0 : K = 0
      · subst h0
        have HF2 := Lib.hid (show F (j + 1) = t by rw [HF1.out]; unfold PlainAbs.rclr; rw [if_pos HKK.out.symm])
        go_wp2_with fail
        go_roundg (8 - 1 - j)
        case measure => omega
        case rel => exact ⟨j + 1, by omega, by omega, by go_num, hB, by rw [HF2.out]; exact Bq⟩
      · have k0 : 0 < K := by omega
        have k0i : (0 : Int) < (K : Int) := by omega
        obtain ⟨u, e_u⟩ : ∃ u, u = ({ t with kept := upd t.kept kk 0 } : Sk) := ⟨_, rfl⟩
        have HF2 := Lib.hid (show F (j + 1) = PlainAbs.rmark u (8 * kk) false 8 by rw [HF1.out, e_u]; unfold PlainAbs.rclr; rw [if_neg (by rw [← HKK.out]; exact h0)])
        have HU := Lib.hid e_u; clear e_u h0
        go_upto_region 8 with fail
        clear ck k0 k0i fq lq
        replace Bq : Blk (wo.setCell ⟨g, 64 + kk, none⟩ (.int .i64 0)) g 74 (skv u) := by rw [HU.out, ← set_sk t hk8 0]; exact Bq.set_ (64 + kk) _
        replace hB : Over g w (wo.setCell ⟨g, 64 + kk, none⟩ (.int .i64 0)) := hB.set _ _
        generalize (wo.setCell ⟨g, 64 + kk, none⟩ (.int .i64 0)) = w8 at *
        go_wp2_with fail
        go_loopg [10] 8 (fun m' i wr => ∃ jm : Nat, jm ≤ 8 ∧ m' + jm = 8 ∧ i = .int .i64 (jm : Int) ∧ Over g w wr ∧ Blk wr g 74 (skv (PlainAbs.rmark u (8 * kk) false jm)))
        case atStart => exact ⟨0, by omega, by omega, rfl, hB, Bq⟩
        case round =>
          clear hB Bq
          obtain ⟨jm, hj2, hgk2, rfl, hB, Bq⟩ := hrel
          obtain ⟨wq, rfl⟩ : ∃ z : World, z = wr := ⟨_, rfl⟩
          have fq := Bq.frozen; have lq := Bq.lt
          by_cases hq2 : jm < 8
          · have hq2i : (jm : Int) < 8 := by omega
            have hx : (kk : Int) * 8 + (jm : Int) < 64 := by omega
            have hxn : 8 * kk + jm < 64 := by omega
            have hxe : kk * 8 + jm = 8 * kk + jm := by omega
            have cw : wq.cell? ⟨g, kk * 8 + jm, none⟩ = some (.bool ((PlainAbs.rmark u (8 * kk) false jm).what (8 * kk + jm))) := by rw [hxe, Bq.cell, skv_what _ hxn]
            have HX := Lib.hid hxe; have HXN := Lib.hid hxn; clear hxe hxn
            go_upto_region 10 with fail
            clear cw fq lq hx
            replace Bq : Blk (wq.setCell ⟨g, kk * 8 + jm, none⟩ (.bool false)) g 74 (skv (PlainAbs.rmark u (8 * kk) false (jm + 1))) := by show Blk _ _ _ (skv { PlainAbs.rmark u (8 * kk) false jm with what := upd (PlainAbs.rmark u (8 * kk) false jm).what (8 * kk + jm) false }); rw [← set_sw _ HXN.out false, HX.out]; exact Bq.set_ (8 * kk + jm) _
            replace hB : Over g w (wq.setCell ⟨g, kk * 8 + jm, none⟩ (.bool false)) := hB.set _ _
            generalize (wq.setCell ⟨g, kk * 8 + jm, none⟩ (.bool false)) = w9 at *
            go_wp2_with fail
            go_roundg (7 - jm)
            case measure => omega
            case rel => exact ⟨jm + 1, by omega, by omega, by go_num, hB, Bq⟩
          · obtain rfl : jm = 8 := by omega
            clear hq2 hj2 hgk2 fq lq
            go_wp2_with fail
            go_roundg (8 - 1 - j)
            case measure => omega
            case rel => exact ⟨j + 1, by omega, by omega, by go_num, hB, by rw [HF2.out]; exact Bq⟩
end Go.Proofs.Ytmghpoagpiljhaa
