/- The walks of package digest: a block worked into a sum. -/
import Derived.Test.YtmghpoagpiljhaaDoorDg2
import Derived.Laws.CopyOwn
import Derived.Deep.CutBlock
import Derived.Deep.DeepCutAuto
set_option linter.unusedSimpArgs false
set_option linter.unusedVariables false
namespace Go.Proofs.YtmghpoagpiljhaaDoor
open Go.RowKit
open PlainSha (into wordAt wd rr ks comp)
/-- A sum's words by their place. -/
def sf (s : PlainSha.St) : Nat → BitVec 32
  | 0 => s.a | 1 => s.b | 2 => s.c | 3 => s.d | 4 => s.e | 5 => s.f | 6 => s.g | _ => s.h
abbrev sl (s : PlainSha.St) : Array Value := #[wv s.a, wv s.b, wv s.c, wv s.d, wv s.e, wv s.f, wv s.g, wv s.h]
theorem sl_is (s : PlainSha.St) : wvs 8 (sf s) = sl s := rfl
/-- The rounds up to a place. -/
def rT (m : Nat → BitVec 32) (s : PlainSha.St) (t : Nat) : PlainSha.St := PlainSha.rounds m (ks.take t) 0 s
theorem ks_length : ks.length = 64 := rfl
theorem rT_next (m : Nat → BitVec 32) (s : PlainSha.St) (t : Nat) (h : t < 64) : rT m s (t + 1) = PlainSha.round (rT m s t) (ks.getD t 0) (wd m t) := by
  unfold rT
  have e : ks.take (t + 1) = ks.take t ++ [ks.getD t 0] := by
    rw [List.take_add_one, List.getD_eq_getElem?_getD]
    have : t < ks.length := h
    rw [List.getElem?_eq_getElem this]
    rfl
  rw [e, PlainSha.rounds_app, List.length_take, ks_length, show 0 + min t 64 = t by omega]
  rfl
theorem rT_64 (m : Nat → BitVec 32) (s : PlainSha.St) : rT m s 64 = PlainSha.rounds m ks 0 s := by
  unfold rT
  rw [List.take_of_length_le (Nat.le_of_eq ks_length)]
theorem drot_c' (x : BitVec 32) (n : Nat) (h0 : 0 < n) (h1 : n < 32) (w : World) : Calls Tryd.prog 48 #[wv x, .int .i64 (n : Int)] w fun e w' => e = .returned (wv (rr x n)) ∧ Below w.heap.size w w' :=
  (drot_c x n h0 h1 w).mono fun e w' h => ⟨h.1, by rw [h.2]; exact Bl_refl _⟩
/-- The sum of two, up to a place. -/
def mixF (f g : Nat → BitVec 32) (j : Nat) : Nat → BitVec 32 := fun i => if i < j then f i + g i else f i
theorem mixF_0 (f g : Nat → BitVec 32) : wvs 8 (mixF f g 0) = wvs 8 f := wvs_ext fun i _ => by unfold mixF; rw [if_neg (by omega)]
theorem mixF_next (f g : Nat → BitVec 32) (j : Nat) : wvs 8 (upd3 (mixF f g j) j (f j + g j)) = wvs 8 (mixF f g (j + 1)) := wvs_ext fun i _ => by
  unfold upd3 mixF
  by_cases e : i = j
  · subst e; rw [if_pos rfl, if_pos (by omega)]
  · rw [if_neg e]
    by_cases h2 : i < j
    · rw [if_pos h2, if_pos (by omega)]
    · rw [if_neg h2, if_neg (by omega)]
theorem mixF_8 (s v : PlainSha.St) : wvs 8 (mixF (sf s) (sf v) 8) = sl (PlainSha.plus s v) := rfl
/-- The constants lie where the program laid them. -/
def Tab (w : World) : Prop := (1 < w.heap.size ∧ ∀ j, j < 64 → w.cell? ⟨1, j, none⟩ = some (wv (ks.getD j 0)))
theorem idx_64 (f : Nat → BitVec 32) (w : World) : ∀ j : Nat, j < 64 → (Instr.index 88 (.agg (wvs 64 f)) (.int .i64 (j : Int))).run Tryd.prog w = .ok (wv (f j)) w
  | 0, _ => by kernel_rfl
  | 1, _ => by kernel_rfl
  | 2, _ => by kernel_rfl
  | 3, _ => by kernel_rfl
  | 4, _ => by kernel_rfl
  | 5, _ => by kernel_rfl
  | 6, _ => by kernel_rfl
  | 7, _ => by kernel_rfl
  | 8, _ => by kernel_rfl
  | 9, _ => by kernel_rfl
  | 10, _ => by kernel_rfl
  | 11, _ => by kernel_rfl
  | 12, _ => by kernel_rfl
  | 13, _ => by kernel_rfl
  | 14, _ => by kernel_rfl
  | 15, _ => by kernel_rfl
  | 16, _ => by kernel_rfl
  | 17, _ => by kernel_rfl
  | 18, _ => by kernel_rfl
  | 19, _ => by kernel_rfl
  | 20, _ => by kernel_rfl
  | 21, _ => by kernel_rfl
  | 22, _ => by kernel_rfl
  | 23, _ => by kernel_rfl
  | 24, _ => by kernel_rfl
  | 25, _ => by kernel_rfl
  | 26, _ => by kernel_rfl
  | 27, _ => by kernel_rfl
  | 28, _ => by kernel_rfl
  | 29, _ => by kernel_rfl
  | 30, _ => by kernel_rfl
  | 31, _ => by kernel_rfl
  | 32, _ => by kernel_rfl
  | 33, _ => by kernel_rfl
  | 34, _ => by kernel_rfl
  | 35, _ => by kernel_rfl
  | 36, _ => by kernel_rfl
  | 37, _ => by kernel_rfl
  | 38, _ => by kernel_rfl
  | 39, _ => by kernel_rfl
  | 40, _ => by kernel_rfl
  | 41, _ => by kernel_rfl
  | 42, _ => by kernel_rfl
  | 43, _ => by kernel_rfl
  | 44, _ => by kernel_rfl
  | 45, _ => by kernel_rfl
  | 46, _ => by kernel_rfl
  | 47, _ => by kernel_rfl
  | 48, _ => by kernel_rfl
  | 49, _ => by kernel_rfl
  | 50, _ => by kernel_rfl
  | 51, _ => by kernel_rfl
  | 52, _ => by kernel_rfl
  | 53, _ => by kernel_rfl
  | 54, _ => by kernel_rfl
  | 55, _ => by kernel_rfl
  | 56, _ => by kernel_rfl
  | 57, _ => by kernel_rfl
  | 58, _ => by kernel_rfl
  | 59, _ => by kernel_rfl
  | 60, _ => by kernel_rfl
  | 61, _ => by kernel_rfl
  | 62, _ => by kernel_rfl
  | 63, _ => by kernel_rfl
  | j + 64, h => absurd h (by omega)
theorem wpList_shift8 {ops : Array Oper} {rest : List Oper} {o : Oper} {a : Act} {w : World} {Q : Exit → Act → World → Prop} (hgd : o.guard = none) (d s : Operand) (ho : o.op = .call { callee := .builtin .copy, args := #[d, s], argTypes := #[91, 91] })
    (g : Nat) (t : TypeId) (x0 x1 x2 x3 x4 x5 x6 x7 : BitVec 32) (c1 c2 : Nat) (hd : a.eval d = .slice (some ⟨g, 1, none⟩) 7 c1) (hs : a.eval s = .slice (some ⟨g, 0, none⟩) 7 c2) (hB : Blk w g t #[wv x0, wv x1, wv x2, wv x3, wv x4, wv x5, wv x6, wv x7])
    (h : ∀ w', Stored w g t #[wv x0, wv x0, wv x1, wv x2, wv x3, wv x4, wv x5, wv x6] w' → wpList Tryd.prog ops Q rest (a.put o.dst (goInt 7)) w') : wpList Tryd.prog ops Q (o :: rest) a w := by
  refine wpList_copy_own hgd d s 91 91 ho 52 Tryd.underlying91 (by kernel_rfl) g 1 7 c1 ⟨g, 0, none⟩ 7 c2 hd hs #[wv x0, wv x1, wv x2, wv x3, wv x4, wv x5, wv x6, wv x7] t hB [wv x0, wv x1, wv x2, wv x3, wv x4, wv x5, wv x6] rfl ?_ (by simp) ?_ ?_
  · intro j v hj
    have hlt : j < 7 := by have := (List.getElem?_eq_some_iff.1 hj).1; simpa using this
    rw [add_off, hB.cell, Nat.zero_add, ← hj]
    match j, hlt with
    | 0, _ | 1, _ | 2, _ | 3, _ | 4, _ | 5, _ | 6, _ => rfl
    | j + 7, h => omega
  · intro v hv
    simp at hv
    rcases hv with rfl | rfl | rfl | rfl | rfl | rfl | rfl <;> rfl
  · exact h _ (stored_row hB)
theorem right_2 (x : BitVec 32) (w : World) : Calls Tryd.prog 48 #[wv x, .int .i64 2] w fun e w' => e = .returned (wv (rr x 2)) ∧ Below w.heap.size w w' := drot_c' x 2 (by decide) (by decide) w
theorem right_6 (x : BitVec 32) (w : World) : Calls Tryd.prog 48 #[wv x, .int .i64 6] w fun e w' => e = .returned (wv (rr x 6)) ∧ Below w.heap.size w w' := drot_c' x 6 (by decide) (by decide) w
theorem right_11 (x : BitVec 32) (w : World) : Calls Tryd.prog 48 #[wv x, .int .i64 11] w fun e w' => e = .returned (wv (rr x 11)) ∧ Below w.heap.size w w' := drot_c' x 11 (by decide) (by decide) w
theorem right_13 (x : BitVec 32) (w : World) : Calls Tryd.prog 48 #[wv x, .int .i64 13] w fun e w' => e = .returned (wv (rr x 13)) ∧ Below w.heap.size w w' := drot_c' x 13 (by decide) (by decide) w
theorem right_22 (x : BitVec 32) (w : World) : Calls Tryd.prog 48 #[wv x, .int .i64 22] w fun e w' => e = .returned (wv (rr x 22)) ∧ Below w.heap.size w w' := drot_c' x 22 (by decide) (by decide) w
theorem right_25 (x : BitVec 32) (w : World) : Calls Tryd.prog 48 #[wv x, .int .i64 25] w fun e w' => e = .returned (wv (rr x 25)) ∧ Below w.heap.size w w' := drot_c' x 25 (by decide) (by decide) w
set_option maxRecDepth 100000 in
set_option maxHeartbeats 800000 in
theorem work_c (s : PlainSha.St) (l : List (BitVec 8)) (p gs off cap : Nat) (hp1 : p ≠ 1) (hpg : gs ≠ p) (w : World) (hB0 : Blk w p 56 (sl s)) (hc : ∀ j, j < 64 → w.cell? ⟨gs, off + j, none⟩ = some (bv (l.getD j 0))) (hT : Tab w) : Calls Tryd.prog 25 #[.pointer (some ⟨p, 0, none⟩), .slice (some ⟨gs, off, none⟩) 64 cap] w fun e w' => e = .returned (.tuple #[]) ∧ Blk w' p 56 (sl (comp s (wordAt l))) ∧ But p w w' := by
  have HC := Lib.hid hc; have HT := Lib.hid hT; clear hc hT
  suffices H : ∀ w1 : World, But p w w1 → Blk w1 p 56 (sl s) → Calls Tryd.prog 25 #[.pointer (some ⟨p, 0, none⟩), .slice (some ⟨gs, off, none⟩) 64 cap] w1 (fun e w' => e = .returned (.tuple #[]) ∧ Blk w' p 56 (sl (comp s (wordAt l))) ∧ But p w w') from H w (But.refl p w) hB0
  have hps := hB0.lt; clear hB0
  intro w1 hB Bp
  have cp0 : w1.cell? ⟨p, 0, none⟩ = some (wv s.a) := Bp.cell 0
  have cp1 : w1.cell? ⟨p, 1, none⟩ = some (wv s.b) := Bp.cell 1
  have cp2 : w1.cell? ⟨p, 2, none⟩ = some (wv s.c) := Bp.cell 2
  have cp3 : w1.cell? ⟨p, 3, none⟩ = some (wv s.d) := Bp.cell 3
  have cp4 : w1.cell? ⟨p, 4, none⟩ = some (wv s.e) := Bp.cell 4
  have cp5 : w1.cell? ⟨p, 5, none⟩ = some (wv s.f) := Bp.cell 5
  have cp6 : w1.cell? ⟨p, 6, none⟩ = some (wv s.g) := Bp.cell 6
  have cp7 : w1.cell? ⟨p, 7, none⟩ = some (wv s.h) := Bp.cell 7
  have fp := Bp.frozen; have lp := Bp.lt
  go_enter Tryd.func25, Tryd.ntmps25
  go_upto_region 1 with fail
  clear cp0 cp1 cp2 cp3 cp4 cp5 cp6 cp7 fp lp
  have Bv := Blk.new w1 56 #[wv s.a, wv s.b, wv s.c, wv s.d, wv s.e, wv s.f, wv s.g, wv s.h]
  have hgv := hB.size
  have hnpv := Nat.ne_of_lt Bp.lt; have hltpv := Bp.lt
  replace Bp : Blk (w1.alloc (.cells #[wv s.a, wv s.b, wv s.c, wv s.d, wv s.e, wv s.f, wv s.g, wv s.h] 56)) (p) 56 #[wv s.a, wv s.b, wv s.c, wv s.d, wv s.e, wv s.f, wv s.g, wv s.h] := Bp.alloc _
  replace hB : But p w (w1.alloc (.cells #[wv s.a, wv s.b, wv s.c, wv s.d, wv s.e, wv s.f, wv s.g, wv s.h] 56)) := But.alloc hB _
  generalize (w1.alloc (.cells #[wv s.a, wv s.b, wv s.c, wv s.d, wv s.e, wv s.f, wv s.g, wv s.h] 56)) = w2 at *
  generalize w1.heap.size = gv at *
  have cp0 : w2.cell? ⟨p, 0, none⟩ = some (wv s.a) := Bp.cell 0
  have cp1 : w2.cell? ⟨p, 1, none⟩ = some (wv s.b) := Bp.cell 1
  have cp2 : w2.cell? ⟨p, 2, none⟩ = some (wv s.c) := Bp.cell 2
  have cp3 : w2.cell? ⟨p, 3, none⟩ = some (wv s.d) := Bp.cell 3
  have cp4 : w2.cell? ⟨p, 4, none⟩ = some (wv s.e) := Bp.cell 4
  have cp5 : w2.cell? ⟨p, 5, none⟩ = some (wv s.f) := Bp.cell 5
  have cp6 : w2.cell? ⟨p, 6, none⟩ = some (wv s.g) := Bp.cell 6
  have cp7 : w2.cell? ⟨p, 7, none⟩ = some (wv s.h) := Bp.cell 7
  have fp := Bp.frozen; have lp := Bp.lt
  have cv0 : w2.cell? ⟨gv, 0, none⟩ = some (wv s.a) := Bv.cell 0
  have cv1 : w2.cell? ⟨gv, 1, none⟩ = some (wv s.b) := Bv.cell 1
  have cv2 : w2.cell? ⟨gv, 2, none⟩ = some (wv s.c) := Bv.cell 2
  have cv3 : w2.cell? ⟨gv, 3, none⟩ = some (wv s.d) := Bv.cell 3
  have cv4 : w2.cell? ⟨gv, 4, none⟩ = some (wv s.e) := Bv.cell 4
  have cv5 : w2.cell? ⟨gv, 5, none⟩ = some (wv s.f) := Bv.cell 5
  have cv6 : w2.cell? ⟨gv, 6, none⟩ = some (wv s.g) := Bv.cell 6
  have cv7 : w2.cell? ⟨gv, 7, none⟩ = some (wv s.h) := Bv.cell 7
  have fv := Bv.frozen; have lv := Bv.lt
  have hwc : ∀ j, j < 64 → w2.cell? ⟨gs, off + j, none⟩ = some (bv (l.getD j 0)) := fun j hj => by rw [← HC.out j hj]; exact hB.cell (World.block_lt_of_cell? w _ (HC.out j hj)) hpg
  go_wp2_with fail
  refine (words_c l gs off cap _ hwc).mono ?_
  rintro e w3 ⟨rfl, hb⟩
  clear cp0 cp1 cp2 cp3 cp4 cp5 cp6 cp7 fp lp
  clear cv0 cv1 cv2 cv3 cv4 cv5 cv6 cv7 fv lv
  replace Bp := (Bp).next hb
  replace Bv := (Bv).next hb
  replace hB : But p w w3 := by repeat (first | exact hB | (refine But.set ?_ (by first | omega | (simp; omega)) _) | apply But.alloc | (refine But.tail ?_ hb))
  clear hb
  have cp0 : w3.cell? ⟨p, 0, none⟩ = some (wv s.a) := Bp.cell 0
  have cp1 : w3.cell? ⟨p, 1, none⟩ = some (wv s.b) := Bp.cell 1
  have cp2 : w3.cell? ⟨p, 2, none⟩ = some (wv s.c) := Bp.cell 2
  have cp3 : w3.cell? ⟨p, 3, none⟩ = some (wv s.d) := Bp.cell 3
  have cp4 : w3.cell? ⟨p, 4, none⟩ = some (wv s.e) := Bp.cell 4
  have cp5 : w3.cell? ⟨p, 5, none⟩ = some (wv s.f) := Bp.cell 5
  have cp6 : w3.cell? ⟨p, 6, none⟩ = some (wv s.g) := Bp.cell 6
  have cp7 : w3.cell? ⟨p, 7, none⟩ = some (wv s.h) := Bp.cell 7
  have fp := Bp.frozen; have lp := Bp.lt
  have cv0 : w3.cell? ⟨gv, 0, none⟩ = some (wv s.a) := Bv.cell 0
  have cv1 : w3.cell? ⟨gv, 1, none⟩ = some (wv s.b) := Bv.cell 1
  have cv2 : w3.cell? ⟨gv, 2, none⟩ = some (wv s.c) := Bv.cell 2
  have cv3 : w3.cell? ⟨gv, 3, none⟩ = some (wv s.d) := Bv.cell 3
  have cv4 : w3.cell? ⟨gv, 4, none⟩ = some (wv s.e) := Bv.cell 4
  have cv5 : w3.cell? ⟨gv, 5, none⟩ = some (wv s.f) := Bv.cell 5
  have cv6 : w3.cell? ⟨gv, 6, none⟩ = some (wv s.g) := Bv.cell 6
  have cv7 : w3.cell? ⟨gv, 7, none⟩ = some (wv s.h) := Bv.cell 7
  have fv := Bv.frozen; have lv := Bv.lt
  clear hwc
  obtain ⟨m, hm⟩ : ∃ m, m = wordAt l := ⟨_, rfl⟩; rw [← hm]; have HM := Lib.hid hm; clear hm
  obtain ⟨M, hM⟩ : ∃ M, M = wvs 64 (wd m) := ⟨_, rfl⟩; rw [← hM]; have HMM := Lib.hid hM; clear hM
  go_wp2_with fail
  clear cp0 cp1 cp2 cp3 cp4 cp5 cp6 cp7 fp lp
  clear cv0 cv1 cv2 cv3 cv4 cv5 cv6 cv7 fv lv
  go_loopg [17] 64 (fun m' i wr => ∃ j : Nat, j ≤ 64 ∧ m' + j = 64 ∧ i = .int .i64 (j : Int) ∧ But p w wr ∧ Blk wr p 56 (sl s) ∧ Blk wr gv 56 (sl (rT m s j)))
  case atStart => exact ⟨0, Nat.zero_le _, rfl, rfl, hB, Bp, Bv⟩
  case round =>
    clear hB Bp Bv
    obtain ⟨j, hj, hgk, rfl, hB, Bp, Bv⟩ := hrel
    obtain ⟨wo, rfl⟩ : ∃ z : World, z = wr := ⟨_, rfl⟩
    by_cases hj64 : j < 64
    · have h1 : (j : Int) < 64 := by omega
      obtain ⟨x, hx⟩ : ∃ x, x = wd m j := ⟨_, rfl⟩
      have hMj := fun w => (show (Instr.index 88 (.agg M) (.int .i64 (j : Int))).run Tryd.prog w = .ok (wv x) w by rw [HMM.out, hx]; exact idx_64 _ w j hj64)
      obtain ⟨kk, hkk⟩ : ∃ kk, kk = ks.getD j 0 := ⟨_, rfl⟩
      obtain ⟨q, hq⟩ : ∃ q, q = rT m s j := ⟨_, rfl⟩
      have HN := Lib.hid (show rT m s (j + 1) = PlainSha.round q kk x by rw [rT_next _ _ _ hj64, ← hq, ← hkk, ← hx])
      rw [← hq] at Bv; clear hq hx
      have HKK := Lib.hid hkk; clear hkk
      obtain ⟨x0, x1, x2, x3, x4, x5, x6, x7⟩ := q
      have HJ := Lib.hid hj64; have HG := Lib.hid hgk; clear hgk hj
      have cp0 : wo.cell? ⟨p, 0, none⟩ = some (wv s.a) := Bp.cell 0
      have cp1 : wo.cell? ⟨p, 1, none⟩ = some (wv s.b) := Bp.cell 1
      have cp2 : wo.cell? ⟨p, 2, none⟩ = some (wv s.c) := Bp.cell 2
      have cp3 : wo.cell? ⟨p, 3, none⟩ = some (wv s.d) := Bp.cell 3
      have cp4 : wo.cell? ⟨p, 4, none⟩ = some (wv s.e) := Bp.cell 4
      have cp5 : wo.cell? ⟨p, 5, none⟩ = some (wv s.f) := Bp.cell 5
      have cp6 : wo.cell? ⟨p, 6, none⟩ = some (wv s.g) := Bp.cell 6
      have cp7 : wo.cell? ⟨p, 7, none⟩ = some (wv s.h) := Bp.cell 7
      have fp := Bp.frozen; have lp := Bp.lt
      have cv0 : wo.cell? ⟨gv, 0, none⟩ = some (wv x0) := Bv.cell 0
      have cv1 : wo.cell? ⟨gv, 1, none⟩ = some (wv x1) := Bv.cell 1
      have cv2 : wo.cell? ⟨gv, 2, none⟩ = some (wv x2) := Bv.cell 2
      have cv3 : wo.cell? ⟨gv, 3, none⟩ = some (wv x3) := Bv.cell 3
      have cv4 : wo.cell? ⟨gv, 4, none⟩ = some (wv x4) := Bv.cell 4
      have cv5 : wo.cell? ⟨gv, 5, none⟩ = some (wv x5) := Bv.cell 5
      have cv6 : wo.cell? ⟨gv, 6, none⟩ = some (wv x6) := Bv.cell 6
      have cv7 : wo.cell? ⟨gv, 7, none⟩ = some (wv x7) := Bv.cell 7
      have fv := Bv.frozen; have lv := Bv.lt
      go_upto_region 4 with fail
      clear hMj
      go_wp2_with fail
      replace cp0 : ∀ g : Later wo, g.w.cell? ⟨p, 0, none⟩ = some (wv s.a) := fun g => g.cell (Bp.cell 0)
      replace cp1 : ∀ g : Later wo, g.w.cell? ⟨p, 1, none⟩ = some (wv s.b) := fun g => g.cell (Bp.cell 1)
      replace cp2 : ∀ g : Later wo, g.w.cell? ⟨p, 2, none⟩ = some (wv s.c) := fun g => g.cell (Bp.cell 2)
      replace cp3 : ∀ g : Later wo, g.w.cell? ⟨p, 3, none⟩ = some (wv s.d) := fun g => g.cell (Bp.cell 3)
      replace cp4 : ∀ g : Later wo, g.w.cell? ⟨p, 4, none⟩ = some (wv s.e) := fun g => g.cell (Bp.cell 4)
      replace cp5 : ∀ g : Later wo, g.w.cell? ⟨p, 5, none⟩ = some (wv s.f) := fun g => g.cell (Bp.cell 5)
      replace cp6 : ∀ g : Later wo, g.w.cell? ⟨p, 6, none⟩ = some (wv s.g) := fun g => g.cell (Bp.cell 6)
      replace cp7 : ∀ g : Later wo, g.w.cell? ⟨p, 7, none⟩ = some (wv s.h) := fun g => g.cell (Bp.cell 7)
      replace cv0 : ∀ g : Later wo, g.w.cell? ⟨gv, 0, none⟩ = some (wv x0) := fun g => g.cell (Bv.cell 0)
      replace cv1 : ∀ g : Later wo, g.w.cell? ⟨gv, 1, none⟩ = some (wv x1) := fun g => g.cell (Bv.cell 1)
      replace cv2 : ∀ g : Later wo, g.w.cell? ⟨gv, 2, none⟩ = some (wv x2) := fun g => g.cell (Bv.cell 2)
      replace cv3 : ∀ g : Later wo, g.w.cell? ⟨gv, 3, none⟩ = some (wv x3) := fun g => g.cell (Bv.cell 3)
      replace cv4 : ∀ g : Later wo, g.w.cell? ⟨gv, 4, none⟩ = some (wv x4) := fun g => g.cell (Bv.cell 4)
      replace cv5 : ∀ g : Later wo, g.w.cell? ⟨gv, 5, none⟩ = some (wv x5) := fun g => g.cell (Bv.cell 5)
      replace cv6 : ∀ g : Later wo, g.w.cell? ⟨gv, 6, none⟩ = some (wv x6) := fun g => g.cell (Bv.cell 6)
      replace cv7 : ∀ g : Later wo, g.w.cell? ⟨gv, 7, none⟩ = some (wv x7) := fun g => g.cell (Bv.cell 7)
      refine wp_region_mix 6 (fun _ => #[]) (by kernel_rfl) (by kernel_rfl) (no_alloc (by kernel_rfl)) ?_
      simp only [List.take_succ_cons, List.take_zero, List.drop_succ_cons, List.drop_zero]
      repeat ((with_reducible refine wpMix_step (fun K hK => ?_)); go_simp; first | ((with_reducible refine hK _ ?_); clear hK K) | (rw [if_neg (by decide)]; (with_reducible refine hK _ ?_); clear hK K))
      refine wpMix_nil ?_
      intro G w4 hgr hblk hdist
      have hb : Below wo.heap.size wo w4 := hgr
      replace Bp := Bp.next hb
      replace Bv := Bv.next hb
      clear cp0 cp1 cp2 cp3 cp4 cp5 cp6 cp7 fp lp
      clear cv0 cv1 cv2 cv3 cv4 cv5 cv6 cv7 fv lv
      replace hB : But p w w4 := But.tail hB hb
      simp only [putAll, isAlloc]
      clear hb hgr hblk hdist
      have cp0 : w4.cell? ⟨p, 0, none⟩ = some (wv s.a) := Bp.cell 0
      have cp1 : w4.cell? ⟨p, 1, none⟩ = some (wv s.b) := Bp.cell 1
      have cp2 : w4.cell? ⟨p, 2, none⟩ = some (wv s.c) := Bp.cell 2
      have cp3 : w4.cell? ⟨p, 3, none⟩ = some (wv s.d) := Bp.cell 3
      have cp4 : w4.cell? ⟨p, 4, none⟩ = some (wv s.e) := Bp.cell 4
      have cp5 : w4.cell? ⟨p, 5, none⟩ = some (wv s.f) := Bp.cell 5
      have cp6 : w4.cell? ⟨p, 6, none⟩ = some (wv s.g) := Bp.cell 6
      have cp7 : w4.cell? ⟨p, 7, none⟩ = some (wv s.h) := Bp.cell 7
      have fp := Bp.frozen; have lp := Bp.lt
      have cv0 : w4.cell? ⟨gv, 0, none⟩ = some (wv x0) := Bv.cell 0
      have cv1 : w4.cell? ⟨gv, 1, none⟩ = some (wv x1) := Bv.cell 1
      have cv2 : w4.cell? ⟨gv, 2, none⟩ = some (wv x2) := Bv.cell 2
      have cv3 : w4.cell? ⟨gv, 3, none⟩ = some (wv x3) := Bv.cell 3
      have cv4 : w4.cell? ⟨gv, 4, none⟩ = some (wv x4) := Bv.cell 4
      have cv5 : w4.cell? ⟨gv, 5, none⟩ = some (wv x5) := Bv.cell 5
      have cv6 : w4.cell? ⟨gv, 6, none⟩ = some (wv x6) := Bv.cell 6
      have cv7 : w4.cell? ⟨gv, 7, none⟩ = some (wv x7) := Bv.cell 7
      have fv := Bv.frozen; have lv := Bv.lt
      go_upto_region 5 with fail
      have ck : ∀ g : Later w4, g.w.cell? ⟨1, j, none⟩ = some (wv kk) := fun g => g.cell (by rw [HKK.out, ← HT.out.2 j HJ.out]; exact hB.cell (a := ⟨1, j, none⟩) HT.out.1 (Ne.symm hp1))
      go_wp2_with fail
      replace cp0 : ∀ g : Later w4, g.w.cell? ⟨p, 0, none⟩ = some (wv s.a) := fun g => g.cell (Bp.cell 0)
      replace cp1 : ∀ g : Later w4, g.w.cell? ⟨p, 1, none⟩ = some (wv s.b) := fun g => g.cell (Bp.cell 1)
      replace cp2 : ∀ g : Later w4, g.w.cell? ⟨p, 2, none⟩ = some (wv s.c) := fun g => g.cell (Bp.cell 2)
      replace cp3 : ∀ g : Later w4, g.w.cell? ⟨p, 3, none⟩ = some (wv s.d) := fun g => g.cell (Bp.cell 3)
      replace cp4 : ∀ g : Later w4, g.w.cell? ⟨p, 4, none⟩ = some (wv s.e) := fun g => g.cell (Bp.cell 4)
      replace cp5 : ∀ g : Later w4, g.w.cell? ⟨p, 5, none⟩ = some (wv s.f) := fun g => g.cell (Bp.cell 5)
      replace cp6 : ∀ g : Later w4, g.w.cell? ⟨p, 6, none⟩ = some (wv s.g) := fun g => g.cell (Bp.cell 6)
      replace cp7 : ∀ g : Later w4, g.w.cell? ⟨p, 7, none⟩ = some (wv s.h) := fun g => g.cell (Bp.cell 7)
      replace cv0 : ∀ g : Later w4, g.w.cell? ⟨gv, 0, none⟩ = some (wv x0) := fun g => g.cell (Bv.cell 0)
      replace cv1 : ∀ g : Later w4, g.w.cell? ⟨gv, 1, none⟩ = some (wv x1) := fun g => g.cell (Bv.cell 1)
      replace cv2 : ∀ g : Later w4, g.w.cell? ⟨gv, 2, none⟩ = some (wv x2) := fun g => g.cell (Bv.cell 2)
      replace cv3 : ∀ g : Later w4, g.w.cell? ⟨gv, 3, none⟩ = some (wv x3) := fun g => g.cell (Bv.cell 3)
      replace cv4 : ∀ g : Later w4, g.w.cell? ⟨gv, 4, none⟩ = some (wv x4) := fun g => g.cell (Bv.cell 4)
      replace cv5 : ∀ g : Later w4, g.w.cell? ⟨gv, 5, none⟩ = some (wv x5) := fun g => g.cell (Bv.cell 5)
      replace cv6 : ∀ g : Later w4, g.w.cell? ⟨gv, 6, none⟩ = some (wv x6) := fun g => g.cell (Bv.cell 6)
      replace cv7 : ∀ g : Later w4, g.w.cell? ⟨gv, 7, none⟩ = some (wv x7) := fun g => g.cell (Bv.cell 7)
      refine wp_region_mix 28 (fun _ => #[]) (by kernel_rfl) (by kernel_rfl) (no_alloc (by kernel_rfl)) ?_
      simp only [List.take_succ_cons, List.take_zero, List.drop_succ_cons, List.drop_zero]
      repeat ((with_reducible refine wpMix_step (fun K hK => ?_)); go_simp; first | ((with_reducible refine hK _ ?_); clear hK K) | (rw [if_neg (by decide)]; (with_reducible refine hK _ ?_); clear hK K) | (apply Exists.intro; refine ⟨fun g => ?_, hK _ ?_⟩; ((with_reducible refine Calls.mono ((right_6 x4 g.w)) ?_); exact fun _ _ h => h); clear hK K) | (apply Exists.intro; refine ⟨fun g => ?_, hK _ ?_⟩; ((with_reducible refine Calls.mono ((right_11 x4 g.w)) ?_); exact fun _ _ h => h); clear hK K) | (apply Exists.intro; refine ⟨fun g => ?_, hK _ ?_⟩; ((with_reducible refine Calls.mono ((right_25 x4 g.w)) ?_); exact fun _ _ h => h); clear hK K))
      refine wpMix_nil ?_
      intro G w5 hgr hblk hdist
      have hb : Below w4.heap.size w4 w5 := hgr
      replace Bp := Bp.next hb
      replace Bv := Bv.next hb
      clear cp0 cp1 cp2 cp3 cp4 cp5 cp6 cp7 fp lp
      clear cv0 cv1 cv2 cv3 cv4 cv5 cv6 cv7 fv lv
      replace hB : But p w w5 := But.tail hB hb
      simp only [putAll, isAlloc]
      clear hb hgr hblk hdist
      have cp0 : w5.cell? ⟨p, 0, none⟩ = some (wv s.a) := Bp.cell 0
      have cp1 : w5.cell? ⟨p, 1, none⟩ = some (wv s.b) := Bp.cell 1
      have cp2 : w5.cell? ⟨p, 2, none⟩ = some (wv s.c) := Bp.cell 2
      have cp3 : w5.cell? ⟨p, 3, none⟩ = some (wv s.d) := Bp.cell 3
      have cp4 : w5.cell? ⟨p, 4, none⟩ = some (wv s.e) := Bp.cell 4
      have cp5 : w5.cell? ⟨p, 5, none⟩ = some (wv s.f) := Bp.cell 5
      have cp6 : w5.cell? ⟨p, 6, none⟩ = some (wv s.g) := Bp.cell 6
      have cp7 : w5.cell? ⟨p, 7, none⟩ = some (wv s.h) := Bp.cell 7
      have fp := Bp.frozen; have lp := Bp.lt
      have cv0 : w5.cell? ⟨gv, 0, none⟩ = some (wv x0) := Bv.cell 0
      have cv1 : w5.cell? ⟨gv, 1, none⟩ = some (wv x1) := Bv.cell 1
      have cv2 : w5.cell? ⟨gv, 2, none⟩ = some (wv x2) := Bv.cell 2
      have cv3 : w5.cell? ⟨gv, 3, none⟩ = some (wv x3) := Bv.cell 3
      have cv4 : w5.cell? ⟨gv, 4, none⟩ = some (wv x4) := Bv.cell 4
      have cv5 : w5.cell? ⟨gv, 5, none⟩ = some (wv x5) := Bv.cell 5
      have cv6 : w5.cell? ⟨gv, 6, none⟩ = some (wv x6) := Bv.cell 6
      have cv7 : w5.cell? ⟨gv, 7, none⟩ = some (wv x7) := Bv.cell 7
      have fv := Bv.frozen; have lv := Bv.lt
      clear ck
      go_upto_region 6 with fail
      go_wp2_with fail
      replace cp0 : ∀ g : Later w5, g.w.cell? ⟨p, 0, none⟩ = some (wv s.a) := fun g => g.cell (Bp.cell 0)
      replace cp1 : ∀ g : Later w5, g.w.cell? ⟨p, 1, none⟩ = some (wv s.b) := fun g => g.cell (Bp.cell 1)
      replace cp2 : ∀ g : Later w5, g.w.cell? ⟨p, 2, none⟩ = some (wv s.c) := fun g => g.cell (Bp.cell 2)
      replace cp3 : ∀ g : Later w5, g.w.cell? ⟨p, 3, none⟩ = some (wv s.d) := fun g => g.cell (Bp.cell 3)
      replace cp4 : ∀ g : Later w5, g.w.cell? ⟨p, 4, none⟩ = some (wv s.e) := fun g => g.cell (Bp.cell 4)
      replace cp5 : ∀ g : Later w5, g.w.cell? ⟨p, 5, none⟩ = some (wv s.f) := fun g => g.cell (Bp.cell 5)
      replace cp6 : ∀ g : Later w5, g.w.cell? ⟨p, 6, none⟩ = some (wv s.g) := fun g => g.cell (Bp.cell 6)
      replace cp7 : ∀ g : Later w5, g.w.cell? ⟨p, 7, none⟩ = some (wv s.h) := fun g => g.cell (Bp.cell 7)
      replace cv0 : ∀ g : Later w5, g.w.cell? ⟨gv, 0, none⟩ = some (wv x0) := fun g => g.cell (Bv.cell 0)
      replace cv1 : ∀ g : Later w5, g.w.cell? ⟨gv, 1, none⟩ = some (wv x1) := fun g => g.cell (Bv.cell 1)
      replace cv2 : ∀ g : Later w5, g.w.cell? ⟨gv, 2, none⟩ = some (wv x2) := fun g => g.cell (Bv.cell 2)
      replace cv3 : ∀ g : Later w5, g.w.cell? ⟨gv, 3, none⟩ = some (wv x3) := fun g => g.cell (Bv.cell 3)
      replace cv4 : ∀ g : Later w5, g.w.cell? ⟨gv, 4, none⟩ = some (wv x4) := fun g => g.cell (Bv.cell 4)
      replace cv5 : ∀ g : Later w5, g.w.cell? ⟨gv, 5, none⟩ = some (wv x5) := fun g => g.cell (Bv.cell 5)
      replace cv6 : ∀ g : Later w5, g.w.cell? ⟨gv, 6, none⟩ = some (wv x6) := fun g => g.cell (Bv.cell 6)
      replace cv7 : ∀ g : Later w5, g.w.cell? ⟨gv, 7, none⟩ = some (wv x7) := fun g => g.cell (Bv.cell 7)
      refine wp_region_mix 24 (fun _ => #[]) (by kernel_rfl) (by kernel_rfl) (no_alloc (by kernel_rfl)) ?_
      simp only [List.take_succ_cons, List.take_zero, List.drop_succ_cons, List.drop_zero]
      repeat ((with_reducible refine wpMix_step (fun K hK => ?_)); go_simp; first | ((with_reducible refine hK _ ?_); clear hK K) | (rw [if_neg (by decide)]; (with_reducible refine hK _ ?_); clear hK K) | (apply Exists.intro; refine ⟨fun g => ?_, hK _ ?_⟩; ((with_reducible refine Calls.mono ((right_2 x0 g.w)) ?_); exact fun _ _ h => h); clear hK K) | (apply Exists.intro; refine ⟨fun g => ?_, hK _ ?_⟩; ((with_reducible refine Calls.mono ((right_13 x0 g.w)) ?_); exact fun _ _ h => h); clear hK K) | (apply Exists.intro; refine ⟨fun g => ?_, hK _ ?_⟩; ((with_reducible refine Calls.mono ((right_22 x0 g.w)) ?_); exact fun _ _ h => h); clear hK K))
      refine wpMix_nil ?_
      intro G w6 hgr hblk hdist
      have hb : Below w5.heap.size w5 w6 := hgr
      replace Bp := Bp.next hb
      replace Bv := Bv.next hb
      clear cp0 cp1 cp2 cp3 cp4 cp5 cp6 cp7 fp lp
      clear cv0 cv1 cv2 cv3 cv4 cv5 cv6 cv7 fv lv
      replace hB : But p w w6 := But.tail hB hb
      simp only [putAll, isAlloc]
      clear hb hgr hblk hdist
      have cp0 : w6.cell? ⟨p, 0, none⟩ = some (wv s.a) := Bp.cell 0
      have cp1 : w6.cell? ⟨p, 1, none⟩ = some (wv s.b) := Bp.cell 1
      have cp2 : w6.cell? ⟨p, 2, none⟩ = some (wv s.c) := Bp.cell 2
      have cp3 : w6.cell? ⟨p, 3, none⟩ = some (wv s.d) := Bp.cell 3
      have cp4 : w6.cell? ⟨p, 4, none⟩ = some (wv s.e) := Bp.cell 4
      have cp5 : w6.cell? ⟨p, 5, none⟩ = some (wv s.f) := Bp.cell 5
      have cp6 : w6.cell? ⟨p, 6, none⟩ = some (wv s.g) := Bp.cell 6
      have cp7 : w6.cell? ⟨p, 7, none⟩ = some (wv s.h) := Bp.cell 7
      have fp := Bp.frozen; have lp := Bp.lt
      have cv0 : w6.cell? ⟨gv, 0, none⟩ = some (wv x0) := Bv.cell 0
      have cv1 : w6.cell? ⟨gv, 1, none⟩ = some (wv x1) := Bv.cell 1
      have cv2 : w6.cell? ⟨gv, 2, none⟩ = some (wv x2) := Bv.cell 2
      have cv3 : w6.cell? ⟨gv, 3, none⟩ = some (wv x3) := Bv.cell 3
      have cv4 : w6.cell? ⟨gv, 4, none⟩ = some (wv x4) := Bv.cell 4
      have cv5 : w6.cell? ⟨gv, 5, none⟩ = some (wv x5) := Bv.cell 5
      have cv6 : w6.cell? ⟨gv, 6, none⟩ = some (wv x6) := Bv.cell 6
      have cv7 : w6.cell? ⟨gv, 7, none⟩ = some (wv x7) := Bv.cell 7
      have fv := Bv.frozen; have lv := Bv.lt
      go_upto_region 7 with fail
      go_wp2_with fail
      replace cp0 : ∀ g : Later w6, g.w.cell? ⟨p, 0, none⟩ = some (wv s.a) := fun g => g.cell (Bp.cell 0)
      replace cp1 : ∀ g : Later w6, g.w.cell? ⟨p, 1, none⟩ = some (wv s.b) := fun g => g.cell (Bp.cell 1)
      replace cp2 : ∀ g : Later w6, g.w.cell? ⟨p, 2, none⟩ = some (wv s.c) := fun g => g.cell (Bp.cell 2)
      replace cp3 : ∀ g : Later w6, g.w.cell? ⟨p, 3, none⟩ = some (wv s.d) := fun g => g.cell (Bp.cell 3)
      replace cp4 : ∀ g : Later w6, g.w.cell? ⟨p, 4, none⟩ = some (wv s.e) := fun g => g.cell (Bp.cell 4)
      replace cp5 : ∀ g : Later w6, g.w.cell? ⟨p, 5, none⟩ = some (wv s.f) := fun g => g.cell (Bp.cell 5)
      replace cp6 : ∀ g : Later w6, g.w.cell? ⟨p, 6, none⟩ = some (wv s.g) := fun g => g.cell (Bp.cell 6)
      replace cp7 : ∀ g : Later w6, g.w.cell? ⟨p, 7, none⟩ = some (wv s.h) := fun g => g.cell (Bp.cell 7)
      replace cv0 : ∀ g : Later w6, g.w.cell? ⟨gv, 0, none⟩ = some (wv x0) := fun g => g.cell (Bv.cell 0)
      replace cv1 : ∀ g : Later w6, g.w.cell? ⟨gv, 1, none⟩ = some (wv x1) := fun g => g.cell (Bv.cell 1)
      replace cv2 : ∀ g : Later w6, g.w.cell? ⟨gv, 2, none⟩ = some (wv x2) := fun g => g.cell (Bv.cell 2)
      replace cv3 : ∀ g : Later w6, g.w.cell? ⟨gv, 3, none⟩ = some (wv x3) := fun g => g.cell (Bv.cell 3)
      replace cv4 : ∀ g : Later w6, g.w.cell? ⟨gv, 4, none⟩ = some (wv x4) := fun g => g.cell (Bv.cell 4)
      replace cv5 : ∀ g : Later w6, g.w.cell? ⟨gv, 5, none⟩ = some (wv x5) := fun g => g.cell (Bv.cell 5)
      replace cv6 : ∀ g : Later w6, g.w.cell? ⟨gv, 6, none⟩ = some (wv x6) := fun g => g.cell (Bv.cell 6)
      replace cv7 : ∀ g : Later w6, g.w.cell? ⟨gv, 7, none⟩ = some (wv x7) := fun g => g.cell (Bv.cell 7)
      refine wp_region_mix 2 (fun _ => #[]) (by kernel_rfl) (by kernel_rfl) (no_alloc (by kernel_rfl)) ?_
      simp only [List.take_succ_cons, List.take_zero, List.drop_succ_cons, List.drop_zero]
      repeat ((with_reducible refine wpMix_step (fun K hK => ?_)); go_simp; first | ((with_reducible refine hK _ ?_); clear hK K) | (rw [if_neg (by decide)]; (with_reducible refine hK _ ?_); clear hK K))
      refine wpMix_nil ?_
      intro G w7 hgr hblk hdist
      have hb : Below w6.heap.size w6 w7 := hgr
      replace Bp := Bp.next hb
      replace Bv := Bv.next hb
      clear cp0 cp1 cp2 cp3 cp4 cp5 cp6 cp7 fp lp
      clear cv0 cv1 cv2 cv3 cv4 cv5 cv6 cv7 fv lv
      replace hB : But p w w7 := But.tail hB hb
      simp only [putAll, isAlloc]
      clear hb hgr hblk hdist
      have cp0 : w7.cell? ⟨p, 0, none⟩ = some (wv s.a) := Bp.cell 0
      have cp1 : w7.cell? ⟨p, 1, none⟩ = some (wv s.b) := Bp.cell 1
      have cp2 : w7.cell? ⟨p, 2, none⟩ = some (wv s.c) := Bp.cell 2
      have cp3 : w7.cell? ⟨p, 3, none⟩ = some (wv s.d) := Bp.cell 3
      have cp4 : w7.cell? ⟨p, 4, none⟩ = some (wv s.e) := Bp.cell 4
      have cp5 : w7.cell? ⟨p, 5, none⟩ = some (wv s.f) := Bp.cell 5
      have cp6 : w7.cell? ⟨p, 6, none⟩ = some (wv s.g) := Bp.cell 6
      have cp7 : w7.cell? ⟨p, 7, none⟩ = some (wv s.h) := Bp.cell 7
      have fp := Bp.frozen; have lp := Bp.lt
      have cv0 : w7.cell? ⟨gv, 0, none⟩ = some (wv x0) := Bv.cell 0
      have cv1 : w7.cell? ⟨gv, 1, none⟩ = some (wv x1) := Bv.cell 1
      have cv2 : w7.cell? ⟨gv, 2, none⟩ = some (wv x2) := Bv.cell 2
      have cv3 : w7.cell? ⟨gv, 3, none⟩ = some (wv x3) := Bv.cell 3
      have cv4 : w7.cell? ⟨gv, 4, none⟩ = some (wv x4) := Bv.cell 4
      have cv5 : w7.cell? ⟨gv, 5, none⟩ = some (wv x5) := Bv.cell 5
      have cv6 : w7.cell? ⟨gv, 6, none⟩ = some (wv x6) := Bv.cell 6
      have cv7 : w7.cell? ⟨gv, 7, none⟩ = some (wv x7) := Bv.cell 7
      have fv := Bv.frozen; have lv := Bv.lt
      go_wp2_with (refine wpList_shift8 rfl (.tmp 77) (.tmp 78) rfl gv 56 x0 x1 x2 x3 x4 x5 x6 x7 _ _ rfl rfl Bv ?_)
      intro w8 hS
      clear cp0 cp1 cp2 cp3 cp4 cp5 cp6 cp7 fp lp
      clear cv0 cv1 cv2 cv3 cv4 cv5 cv6 cv7 fv lv
      replace Bp := hS.far (by first | (simp; done) | (simp; omega) | (simp [*]; done) | (simp only [ne_eq]; constructor <;> omega)) Bp
      replace Bv : Blk w8 (gv) 56 #[wv x0, wv x0, wv x1, wv x2, wv x3, wv x4, wv x5, wv x6] := hS.blk
      replace hB := hS.but hB (by first | omega | (simp; omega))
      clear hS
      have cp0 : w8.cell? ⟨p, 0, none⟩ = some (wv s.a) := Bp.cell 0
      have cp1 : w8.cell? ⟨p, 1, none⟩ = some (wv s.b) := Bp.cell 1
      have cp2 : w8.cell? ⟨p, 2, none⟩ = some (wv s.c) := Bp.cell 2
      have cp3 : w8.cell? ⟨p, 3, none⟩ = some (wv s.d) := Bp.cell 3
      have cp4 : w8.cell? ⟨p, 4, none⟩ = some (wv s.e) := Bp.cell 4
      have cp5 : w8.cell? ⟨p, 5, none⟩ = some (wv s.f) := Bp.cell 5
      have cp6 : w8.cell? ⟨p, 6, none⟩ = some (wv s.g) := Bp.cell 6
      have cp7 : w8.cell? ⟨p, 7, none⟩ = some (wv s.h) := Bp.cell 7
      have fp := Bp.frozen; have lp := Bp.lt
      have cv0 : w8.cell? ⟨gv, 0, none⟩ = some (wv x0) := Bv.cell 0
      have cv1 : w8.cell? ⟨gv, 1, none⟩ = some (wv x0) := Bv.cell 1
      have cv2 : w8.cell? ⟨gv, 2, none⟩ = some (wv x1) := Bv.cell 2
      have cv3 : w8.cell? ⟨gv, 3, none⟩ = some (wv x2) := Bv.cell 3
      have cv4 : w8.cell? ⟨gv, 4, none⟩ = some (wv x3) := Bv.cell 4
      have cv5 : w8.cell? ⟨gv, 5, none⟩ = some (wv x4) := Bv.cell 5
      have cv6 : w8.cell? ⟨gv, 6, none⟩ = some (wv x5) := Bv.cell 6
      have cv7 : w8.cell? ⟨gv, 7, none⟩ = some (wv x6) := Bv.cell 7
      have fv := Bv.frozen; have lv := Bv.lt
      go_upto_region 10 with fail
      clear cp0 cp1 cp2 cp3 cp4 cp5 cp6 cp7 fp lp
      clear cv0 cv1 cv2 cv3 cv4 cv5 cv6 cv7 fv lv
      replace Bv : Blk ((w8.setCell ⟨gv, 0, none⟩ (wv (PlainSha.one ⟨x0, x1, x2, x3, x4, x5, x6, x7⟩ kk x + PlainSha.two ⟨x0, x1, x2, x3, x4, x5, x6, x7⟩))).setCell ⟨gv, 4, none⟩ (wv (x3 + PlainSha.one ⟨x0, x1, x2, x3, x4, x5, x6, x7⟩ kk x))) gv 56 (sl (rT m s (j + 1))) := by rw [HN.out]; exact (Bv.set_ 0 _).set_ 4 _
      replace Bp : Blk ((w8.setCell ⟨gv, 0, none⟩ (wv (PlainSha.one ⟨x0, x1, x2, x3, x4, x5, x6, x7⟩ kk x + PlainSha.two ⟨x0, x1, x2, x3, x4, x5, x6, x7⟩))).setCell ⟨gv, 4, none⟩ (wv (x3 + PlainSha.one ⟨x0, x1, x2, x3, x4, x5, x6, x7⟩ kk x))) p 56 (sl s) := (Bp.far (by first | (simp; done) | (simp; omega) | (simp [*]; done) | (simp only [ne_eq]; constructor <;> omega)) _).far (by first | (simp; done) | (simp; omega) | (simp [*]; done) | (simp only [ne_eq]; constructor <;> omega)) _
      replace hB : But p w ((w8.setCell ⟨gv, 0, none⟩ (wv (PlainSha.one ⟨x0, x1, x2, x3, x4, x5, x6, x7⟩ kk x + PlainSha.two ⟨x0, x1, x2, x3, x4, x5, x6, x7⟩))).setCell ⟨gv, 4, none⟩ (wv (x3 + PlainSha.one ⟨x0, x1, x2, x3, x4, x5, x6, x7⟩ kk x))) := But.set (But.set hB (by first | omega | (simp; omega)) _) (by first | omega | (simp; omega)) _
      clear HN; change Code.wp _ _ _ _ ((w8.setCell ⟨gv, 0, none⟩ (wv (PlainSha.one ⟨x0, x1, x2, x3, x4, x5, x6, x7⟩ kk x + PlainSha.two ⟨x0, x1, x2, x3, x4, x5, x6, x7⟩))).setCell ⟨gv, 4, none⟩ (wv (x3 + PlainSha.one ⟨x0, x1, x2, x3, x4, x5, x6, x7⟩ kk x)))
      generalize ((w8.setCell ⟨gv, 0, none⟩ (wv (PlainSha.one ⟨x0, x1, x2, x3, x4, x5, x6, x7⟩ kk x + PlainSha.two ⟨x0, x1, x2, x3, x4, x5, x6, x7⟩))).setCell ⟨gv, 4, none⟩ (wv (x3 + PlainSha.one ⟨x0, x1, x2, x3, x4, x5, x6, x7⟩ kk x))) = w9 at *
      go_wp2_with fail
      go_roundg (64 - 1 - j)
      case measure => exact dg_sr1 HG.out HJ.out
      case rel => exact ⟨j + 1, HJ.out, dg_sr2 HJ.out, by go_num, hB, Bp, Bv⟩
    · obtain rfl := dg_sr3 hj hj64
      obtain ⟨v, hv⟩ : ∃ v, v = PlainSha.rounds m ks 0 s := ⟨_, rfl⟩
      rw [rT_64, ← hv] at Bv; have HV := Lib.hid hv; clear hv
      have Bp2 : Blk wo p 56 (wvs 8 (mixF (sf s) (sf v) 0)) := by rw [mixF_0]; exact Bp
      clear hj hj64 hgk HMM Bp
      go_upto_region 11 with fail
      go_wp2_with fail
      go_loopg [90] 8 (fun m' i wr => ∃ j : Nat, j ≤ 8 ∧ m' + j = 8 ∧ i = .int .i64 (j : Int) ∧ But p w wr ∧ Blk wr p 56 (wvs 8 (mixF (sf s) (sf v) j)) ∧ Blk wr gv 56 (sl v))
      case atStart => exact ⟨0, Nat.zero_le _, rfl, rfl, hB, Bp2, Bv⟩
      case round =>
        clear hB Bp2 Bv
        obtain ⟨j, hj, hgk, rfl, hB, Bp, Bv⟩ := hrel
        obtain ⟨wk, rfl⟩ : ∃ z : World, z = wr := ⟨_, rfl⟩
        have fp := Bp.frozen; have lp := Bp.lt
        have fv := Bv.frozen; have lv := Bv.lt
        by_cases h : j < 8
        · have h1 : (j : Int) < 8 := by omega
          obtain ⟨x, hx⟩ : ∃ x, x = sf s j := ⟨_, rfl⟩; obtain ⟨y, hy⟩ : ∃ y, y = sf v j := ⟨_, rfl⟩
          have cx : ∀ g : Later wk, g.w.cell? ⟨p, j, none⟩ = some (wv x) := fun g => g.cell (by rw [Bp.cell, wvs_get _ h, hx]; unfold mixF; rw [if_neg (by omega)])
          have cy : ∀ g : Later wk, g.w.cell? ⟨gv, j, none⟩ = some (wv y) := fun g => g.cell (by rw [Bv.cell, ← sl_is, wvs_get _ h, hy])
          have HN := Lib.hid (show wvs 8 (upd3 (mixF (sf s) (sf v) j) j (x + y)) = wvs 8 (mixF (sf s) (sf v) (j + 1)) by rw [hx, hy]; exact mixF_next _ _ _)
          have HX := Lib.hid hx; have HJ := Lib.hid h; have HG := Lib.hid hgk; clear hx hy hgk hj
          go_upto_region 14 with fail
          go_wp2_with fail
          refine wp_region_mix 11 (fun _ => #[]) (by kernel_rfl) (by kernel_rfl) (no_alloc (by kernel_rfl)) ?_
          simp only [List.take_succ_cons, List.take_zero, List.drop_succ_cons, List.drop_zero]
          repeat ((with_reducible refine wpMix_step (fun K hK => ?_)); go_simp; first | ((with_reducible refine hK _ ?_); clear hK K) | (rw [if_neg (by decide)]; (with_reducible refine hK _ ?_); clear hK K))
          refine wpMix_nil ?_
          intro G w4 hgr hblk hdist
          have hb : Below wk.heap.size wk w4 := hgr
          replace Bp := Bp.next hb
          replace Bv := Bv.next hb
          clear  fp lp
          clear  fv lv
          replace hB : But p w w4 := But.tail hB hb
          simp only [putAll, isAlloc]
          clear hb hgr hblk hdist
          have fp := Bp.frozen; have lp := Bp.lt
          have fv := Bv.frozen; have lv := Bv.lt
          clear cx cy
          have cn : w4.cell? ⟨p, j, none⟩ = some (wv x) := by rw [Bp.cell, wvs_get _ h, HX.out]; unfold mixF; rw [if_neg (by omega)]
          go_upto_region 15 with fail
          clear  fp lp
          clear  fv lv
          replace Bp : Blk (w4.setCell ⟨p, j, none⟩ (wv (x + y))) p 56 (wvs 8 (mixF (sf s) (sf v) (j + 1))) := by rw [← HN.out, ← wvs_set _ h]; exact Bp.set_ j _
          replace Bv : Blk (w4.setCell ⟨p, j, none⟩ (wv (x + y))) gv 56 (sl v) := Bv.far (by first | (simp; done) | (simp; omega) | (simp [*]; done) | (simp only [ne_eq]; constructor <;> omega)) _
          replace hB : But p w (w4.setCell ⟨p, j, none⟩ (wv (x + y))) := hB.setp _ _
          clear cn HN; change Code.wp _ _ _ _ (w4.setCell ⟨p, j, none⟩ (wv (x + y)))
          generalize (w4.setCell ⟨p, j, none⟩ (wv (x + y))) = w9 at *
          go_wp2_with fail
          go_roundg (8 - 1 - j)
          case measure => exact dg_sr1 HG.out HJ.out
          case rel => exact ⟨j + 1, HJ.out, dg_sr2 HJ.out, by go_num, hB, Bp, Bv⟩
        · obtain rfl := dg_sr3 hj h
          rw [mixF_8] at Bp
          clear h hj hgk
          clear  fp lp
          clear  fv lv
          have hR : PlainSha.plus s v = comp s (wordAt l) := by rw [HV.out, HM.out]; rfl
          rw [hR] at Bp; clear hR HV HM
          go_wp2
          go_end0
          exact ⟨rfl, Bp, hB⟩
end Go.Proofs.YtmghpoagpiljhaaDoor
