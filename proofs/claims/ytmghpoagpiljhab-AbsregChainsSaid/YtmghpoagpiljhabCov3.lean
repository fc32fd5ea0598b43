/- The walks of the ids of a covering: covers. -/
import Derived.Test.YtmghpoagpiljhabCov2
set_option linter.unusedSimpArgs false
set_option linter.unusedVariables false
namespace Go.Proofs.Ytmghpoagpiljhab
open Go.RowKit
open PlainTnum (N)
open PlainScalar (Rng)
open PlainAbs (Rg St zr zs upd Im)
set_option maxRecDepth 100000 in
set_option maxHeartbeats 800000 in
theorem cov_6 (a b : Rg) (gx : Nat) (h1 : (a.slot == b.slot) = true) (n : Nat) (M : Im) (hn : n < 1000) (hk : okKey a.id) (hk2 : okKey b.id) (w : World) (hI : Ids w gx n M) : Calls Try.prog 58 #[.pointer (some ⟨gx, 0, none⟩), .agg #[.int .i64 6, uv a.r.b.v, uv a.r.b.m, uv a.r.lo, uv a.r.hi, sv a.r.sl, sv a.r.sh, .int .i64 a.slot, .int .i64 a.id, .int .i64 a.low, .int .i64 a.high], .agg #[.int .i64 6, uv b.r.b.v, uv b.r.b.m, uv b.r.lo, uv b.r.hi, sv b.r.sl, sv b.r.sh, .int .i64 b.slot, .int .i64 b.id, .int .i64 b.low, .int .i64 b.high]] w fun e w' => e = .returned (.bool (PlainAbs.may M a.id b.id).1) ∧ Ids w' gx (n + 1) (PlainAbs.may M a.id b.id).2 ∧ Below gx w w' := by
  obtain ⟨R, hR⟩ : ∃ R, PlainAbs.may M a.id b.id = R := ⟨_, rfl⟩
  rw [hR]; have HR := Lib.hid hR; clear hR
  go_enter Try.func58, Try.ntmps58
  go_wp2_with fail
  obtain ⟨ga, hga⟩ : ∃ g, g = w.heap.size := ⟨_, rfl⟩
  obtain ⟨gb, hgb⟩ : ∃ g, g = w.heap.size + 1 := ⟨_, rfl⟩
  have Ba : Blk ((w.alloc (.cells #[.int .i64 6, uv a.r.b.v, uv a.r.b.m, uv a.r.lo, uv a.r.hi, sv a.r.sl, sv a.r.sh, .int .i64 a.slot, .int .i64 a.id, .int .i64 a.low, .int .i64 a.high] 29)).alloc (.cells #[.int .i64 6, uv b.r.b.v, uv b.r.b.m, uv b.r.lo, uv b.r.hi, sv b.r.sl, sv b.r.sh, .int .i64 b.slot, .int .i64 b.id, .int .i64 b.low, .int .i64 b.high] 29)) (w.heap.size) 29 #[.int .i64 6, uv a.r.b.v, uv a.r.b.m, uv a.r.lo, uv a.r.hi, sv a.r.sl, sv a.r.sh, .int .i64 a.slot, .int .i64 a.id, .int .i64 a.low, .int .i64 a.high] := ((Blk.new w 29 #[.int .i64 6, uv a.r.b.v, uv a.r.b.m, uv a.r.lo, uv a.r.hi, sv a.r.sl, sv a.r.sh, .int .i64 a.slot, .int .i64 a.id, .int .i64 a.low, .int .i64 a.high])).alloc _
  have Bb : Blk ((w.alloc (.cells #[.int .i64 6, uv a.r.b.v, uv a.r.b.m, uv a.r.lo, uv a.r.hi, sv a.r.sl, sv a.r.sh, .int .i64 a.slot, .int .i64 a.id, .int .i64 a.low, .int .i64 a.high] 29)).alloc (.cells #[.int .i64 6, uv b.r.b.v, uv b.r.b.m, uv b.r.lo, uv b.r.hi, sv b.r.sl, sv b.r.sh, .int .i64 b.slot, .int .i64 b.id, .int .i64 b.low, .int .i64 b.high] 29)) (w.heap.size + 1) 29 #[.int .i64 6, uv b.r.b.v, uv b.r.b.m, uv b.r.lo, uv b.r.hi, sv b.r.sl, sv b.r.sh, .int .i64 b.slot, .int .i64 b.id, .int .i64 b.low, .int .i64 b.high] := (by simpa using Blk.new (w.alloc (.cells #[.int .i64 6, uv a.r.b.v, uv a.r.b.m, uv a.r.lo, uv a.r.hi, sv a.r.sl, sv a.r.sh, .int .i64 a.slot, .int .i64 a.id, .int .i64 a.low, .int .i64 a.high] 29)) 29 #[.int .i64 6, uv b.r.b.v, uv b.r.b.m, uv b.r.lo, uv b.r.hi, sv b.r.sl, sv b.r.sh, .int .i64 b.slot, .int .i64 b.id, .int .i64 b.low, .int .i64 b.high] : Blk _ (w.heap.size + 1) 29 #[.int .i64 6, uv b.r.b.v, uv b.r.b.m, uv b.r.lo, uv b.r.hi, sv b.r.sl, sv b.r.sh, .int .i64 b.slot, .int .i64 b.id, .int .i64 b.low, .int .i64 b.high])
  have hB : Below w.heap.size w ((w.alloc (.cells #[.int .i64 6, uv a.r.b.v, uv a.r.b.m, uv a.r.lo, uv a.r.hi, sv a.r.sl, sv a.r.sh, .int .i64 a.slot, .int .i64 a.id, .int .i64 a.low, .int .i64 a.high] 29)).alloc (.cells #[.int .i64 6, uv b.r.b.v, uv b.r.b.m, uv b.r.lo, uv b.r.hi, sv b.r.sl, sv b.r.sh, .int .i64 b.slot, .int .i64 b.id, .int .i64 b.low, .int .i64 b.high] 29)) := (Bl_alloc (Bl_alloc (Bl_refl w) _) _)
  clear hga
  clear ga
  clear hgb
  clear gb
  generalize ((w.alloc (.cells #[.int .i64 6, uv a.r.b.v, uv a.r.b.m, uv a.r.lo, uv a.r.hi, sv a.r.sl, sv a.r.sh, .int .i64 a.slot, .int .i64 a.id, .int .i64 a.low, .int .i64 a.high] 29)).alloc (.cells #[.int .i64 6, uv b.r.b.v, uv b.r.b.m, uv b.r.lo, uv b.r.hi, sv b.r.sl, sv b.r.sh, .int .i64 b.slot, .int .i64 b.id, .int .i64 b.low, .int .i64 b.high] 29)) = w1 at *
  have ca0 : w1.cell? ⟨w.heap.size, 0, none⟩ = some (.int .i64 6) := Ba.cell 0
  have ca1 : w1.cell? ⟨w.heap.size, 1, none⟩ = some (uv a.r.b.v) := Ba.cell 1
  have ca2 : w1.cell? ⟨w.heap.size, 2, none⟩ = some (uv a.r.b.m) := Ba.cell 2
  have ca3 : w1.cell? ⟨w.heap.size, 3, none⟩ = some (uv a.r.lo) := Ba.cell 3
  have ca4 : w1.cell? ⟨w.heap.size, 4, none⟩ = some (uv a.r.hi) := Ba.cell 4
  have ca5 : w1.cell? ⟨w.heap.size, 5, none⟩ = some (sv a.r.sl) := Ba.cell 5
  have ca6 : w1.cell? ⟨w.heap.size, 6, none⟩ = some (sv a.r.sh) := Ba.cell 6
  have ca7 : w1.cell? ⟨w.heap.size, 7, none⟩ = some (.int .i64 a.slot) := Ba.cell 7
  have ca8 : w1.cell? ⟨w.heap.size, 8, none⟩ = some (.int .i64 a.id) := Ba.cell 8
  have ca9 : w1.cell? ⟨w.heap.size, 9, none⟩ = some (.int .i64 a.low) := Ba.cell 9
  have ca10 : w1.cell? ⟨w.heap.size, 10, none⟩ = some (.int .i64 a.high) := Ba.cell 10
  have fa := Ba.frozen; have la := Ba.lt
  have cb0 : w1.cell? ⟨w.heap.size + 1, 0, none⟩ = some (.int .i64 6) := Bb.cell 0
  have cb1 : w1.cell? ⟨w.heap.size + 1, 1, none⟩ = some (uv b.r.b.v) := Bb.cell 1
  have cb2 : w1.cell? ⟨w.heap.size + 1, 2, none⟩ = some (uv b.r.b.m) := Bb.cell 2
  have cb3 : w1.cell? ⟨w.heap.size + 1, 3, none⟩ = some (uv b.r.lo) := Bb.cell 3
  have cb4 : w1.cell? ⟨w.heap.size + 1, 4, none⟩ = some (uv b.r.hi) := Bb.cell 4
  have cb5 : w1.cell? ⟨w.heap.size + 1, 5, none⟩ = some (sv b.r.sl) := Bb.cell 5
  have cb6 : w1.cell? ⟨w.heap.size + 1, 6, none⟩ = some (sv b.r.sh) := Bb.cell 6
  have cb7 : w1.cell? ⟨w.heap.size + 1, 7, none⟩ = some (.int .i64 b.slot) := Bb.cell 7
  have cb8 : w1.cell? ⟨w.heap.size + 1, 8, none⟩ = some (.int .i64 b.id) := Bb.cell 8
  have cb9 : w1.cell? ⟨w.heap.size + 1, 9, none⟩ = some (.int .i64 b.low) := Bb.cell 9
  have cb10 : w1.cell? ⟨w.heap.size + 1, 10, none⟩ = some (.int .i64 b.high) := Bb.cell 10
  have fb := Bb.frozen; have lb := Bb.lt
  have hlx := hI.lt; have hI1 := hI.next hB
  have k_m : Calls Try.prog 70 #[.pointer (some ⟨gx, 0, none⟩), .agg #[.int .i64 6, uv a.r.b.v, uv a.r.b.m, uv a.r.lo, uv a.r.hi, sv a.r.sl, sv a.r.sh, .int .i64 a.slot, .int .i64 a.id, .int .i64 a.low, .int .i64 a.high], .agg #[.int .i64 6, uv b.r.b.v, uv b.r.b.m, uv b.r.lo, uv b.r.hi, sv b.r.sl, sv b.r.sh, .int .i64 b.slot, .int .i64 b.id, .int .i64 b.low, .int .i64 b.high]] w1 fun e w' => e = .returned (.bool (PlainAbs.may M a.id b.id).1) ∧ Ids w' gx (n + 1) (PlainAbs.may M a.id b.id).2 ∧ Below gx w1 w' := maybe_c { a with kind := 6 } { b with kind := 6 } gx n M w1 hI1 hn hk hk2
  rw [HR.out] at k_m; clear HR
  have HX := Lib.hid hlx; have HM := Lib.hid k_m; clear hI hI1 hlx k_m hn hk hk2
  go_wp2_with fail
  refine HM.out.mono ?_
  rintro e w2 ⟨rfl, hI2, hb⟩
  clear ca0 ca1 ca2 ca3 ca4 ca5 ca6 ca7 ca8 ca9 ca10 fa la
  clear cb0 cb1 cb2 cb3 cb4 cb5 cb6 cb7 cb8 cb9 cb10 fb lb
  clear Ba Bb
  go_wp2
  go_ret
  exact ⟨rfl, hI2, (hB.mono (Nat.le_of_lt HX.out)).trans hb⟩
theorem covers_c (a b : Rg) (gx n : Nat) (M : Im) (w : World) (hI : Ids w gx n M) (hn : n < 1000) (hk : okKey a.id) (hk2 : okKey b.id) : Calls Try.prog 58 #[.pointer (some ⟨gx, 0, none⟩), gv a, gv b] w fun e w' => e = .returned (.bool (PlainAbs.cov M a b).1) ∧ Ids w' gx (n + 1) (PlainAbs.cov M a b).2 ∧ Below gx w w' := by
  have fin : ∀ {e : Ending} {w' : World} {r : Bool}, e = .returned (.bool r) ∧ Below w.heap.size w w' → e = .returned (.bool r) ∧ Ids w' gx (n + 1) M ∧ Below gx w w' := fun ⟨he, hb⟩ => ⟨he, (hI.next hb).mono (Nat.le_succ n), hb.mono (Nat.le_of_lt hI.lt)⟩
  obtain ⟨ka, ra, sa, ia, la, ua⟩ := a
  obtain ⟨kb, rb, sb, ib, lb, ub⟩ := b
  unfold PlainAbs.cov
  simp only [] at hk hk2 ⊢
  by_cases h0 : ka = 0
  · rw [if_pos h0]; subst h0
    exact (cov_0 ⟨0, ra, sa, ia, la, ua⟩ ⟨kb, rb, sb, ib, lb, ub⟩ gx kb w).mono fun e w' h => fin h
  rw [if_neg h0]
  by_cases h1 : ka = kb
  · subst h1
    rw [if_neg (by simp)]
    by_cases e1 : ka = 1
    · rw [if_pos e1]; subst e1
      exact (cov_1 ⟨1, ra, sa, ia, la, ua⟩ ⟨1, rb, sb, ib, lb, ub⟩ gx w).mono fun e w' h => fin h
    rw [if_neg e1]
    by_cases e4 : ka = 4
    · rw [if_pos e4]; subst e4
      exact (cov_4 ⟨4, ra, sa, ia, la, ua⟩ ⟨4, rb, sb, ib, lb, ub⟩ gx w).mono fun e w' h => fin h
    rw [if_neg e4]
    by_cases e6 : ka = 6
    · rw [if_pos e6]; subst e6
      by_cases hs : sa = sb
      · rw [if_pos hs]
        exact cov_6 ⟨6, ra, sa, ia, la, ua⟩ ⟨6, rb, sb, ib, lb, ub⟩ gx (by simpa using hs) n M hn hk hk2 w hI
      · rw [if_neg hs]
        exact (cov_6n ⟨6, ra, sa, ia, la, ua⟩ ⟨6, rb, sb, ib, lb, ub⟩ gx (by simpa using hs) w).mono fun e w' h => fin h
    rw [if_neg e6]
    have g0 : (ka == 0) = false := by simpa using h0
    have g1 : (ka == 1) = false := by simpa using e1
    have g4 : (ka == 4) = false := by simpa using e4
    have g6 : (ka == 6) = false := by simpa using e6
    cases hs : (sa == sb)
    · exact (cov_k1 ⟨ka, ra, sa, ia, la, ua⟩ ⟨ka, rb, sb, ib, lb, ub⟩ gx ka g0 g1 g4 g6 hs w).mono fun e w' h => fin h
    · cases hl : decide (la ≤ lb)
      · exact (cov_k2 ⟨ka, ra, sa, ia, la, ua⟩ ⟨ka, rb, sb, ib, lb, ub⟩ gx ka g0 g1 g4 g6 hs hl w).mono fun e w' h => fin h
      · exact (cov_k3 ⟨ka, ra, sa, ia, la, ua⟩ ⟨ka, rb, sb, ib, lb, ub⟩ gx ka g0 g1 g4 g6 hs hl w).mono fun e w' h => fin h
  · rw [if_pos h1]
    exact (cov_ne ⟨ka, ra, sa, ia, la, ua⟩ ⟨kb, rb, sb, ib, lb, ub⟩ gx ka kb (by simpa using h0) (by simpa using h1) w).mono fun e w' h => fin h
end Go.Proofs.Ytmghpoagpiljhab
