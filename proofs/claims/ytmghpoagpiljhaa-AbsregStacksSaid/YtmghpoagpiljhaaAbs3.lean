/- The walks of package absreg: Ready. -/
import Derived.Test.YtmghpoagpiljhaaAbs2
set_option linter.unusedSimpArgs false
namespace Go.Proofs.Ytmghpoagpiljhaa
namespace PlainAbs
theorem readyN_iff (s : St) (f : Nat) : ∀ m, readyN s f m = true ↔ ∀ j, j < m → s.what (f + j) = true
  | 0 => by simp [readyN]
  | m + 1 => by
    rw [readyN, Bool.and_eq_true, readyN_iff s f m]
    constructor
    · rintro ⟨h1, h2⟩ j hj
      by_cases e : j = m
      · rw [e]; exact h2
      · exact h1 j (by omega)
    · intro h
      exact ⟨fun j hj => h j (by omega), h m (by omega)⟩
theorem first_nat {z n : Int} (h : firstOk z n = true) : ∃ f m : Nat, z + 64 = (f : Int) ∧ n = (m : Int) ∧ f + m ≤ 64 ∧ firstF z n = (f : Int) := by
  unfold firstF
  rw [if_pos h]
  unfold firstOk at h
  simp only [Bool.and_eq_true, decide_eq_true_eq] at h
  exact ⟨(z + 64).toNat, n.toNat, by omega, by omega, by omega, by omega⟩
end PlainAbs
open Go.RowKit
open PlainTnum (N)
open PlainScalar (Rng)
open PlainAbs (Rg St zr zs upd)
set_option maxRecDepth 100000 in
set_option maxHeartbeats 400000 in
theorem ready_no (s : St) (z n : Int) (x : Int) (k_f : ∀ w : World, Calls Try.prog 61 #[.int .i64 z, .int .i64 n] w fun e w' => e = .returned (.tuple #[.int .i64 x, .bool false]) ∧ w = w') (w : World) : Calls Try.prog 51 #[.agg (stv s), .int .i64 z, .int .i64 n] w fun e w' => e = .returned (.bool false) ∧ Below w.heap.size w w' := by
  go_enter Try.func51, Try.ntmps51
  go_wp2_with fail
  obtain ⟨gs, hgs⟩ : ∃ g, g = w.heap.size := ⟨_, rfl⟩
  have Bs : Blk (w.alloc (.cells (stv s) 69)) (w.heap.size) 69 (stv s) := (Blk.new w 69 (stv s))
  have hB : Below w.heap.size w (w.alloc (.cells (stv s) 69)) := (Bl_alloc (Bl_refl w) _)
  clear hgs
  clear gs
  generalize (w.alloc (.cells (stv s) 69)) = w1 at *
  have fs := Bs.frozen; have ls := Bs.lt
  go_wp2_with fail
  refine (k_f _).mono ?_
  rintro e w' ⟨rfl, rfl⟩
  go_wp2
  go_ret
  exact ⟨rfl, by repeat (first | exact hB | (refine Bl_set ?_ (by first | omega | (simp; omega)) _) | apply Bl_alloc)⟩
set_option maxRecDepth 100000 in
set_option maxHeartbeats 800000 in
theorem ready_yes (s : St) (f m : Nat) (hfm : f + m ≤ 64) (z : Int) (k_f : ∀ w : World, Calls Try.prog 61 #[.int .i64 z, .int .i64 (m : Int)] w fun e w' => e = .returned (.tuple #[.int .i64 (f : Int), .bool true]) ∧ w = w') (w : World) : Calls Try.prog 51 #[.agg (stv s), .int .i64 z, .int .i64 (m : Int)] w fun e w' => e = .returned (.bool (PlainAbs.readyN s f m)) ∧ Below w.heap.size w w' := by
  obtain ⟨R, e_R⟩ : ∃ z', z' = PlainAbs.readyN s f m := ⟨_, rfl⟩
  rw [← e_R]; have HR := Lib.hid e_R; clear e_R
  have hsum : wrap64 ((f : Int) + (m : Int)) = ((f + m : Nat) : Int) := by rw [IntWalk.wrap64_in _ (by constructor <;> omega)]; simp
  go_enter Try.func51, Try.ntmps51
  go_wp2_with fail
  obtain ⟨gs, hgs⟩ : ∃ g, g = w.heap.size := ⟨_, rfl⟩
  have Bs : Blk (w.alloc (.cells (stv s) 69)) (w.heap.size) 69 (stv s) := (Blk.new w 69 (stv s))
  have hB : Below w.heap.size w (w.alloc (.cells (stv s) 69)) := (Bl_alloc (Bl_refl w) _)
  clear hgs
  clear gs
  generalize (w.alloc (.cells (stv s) 69)) = w1 at *
  have fs := Bs.frozen; have ls := Bs.lt
  go_wp2_with fail
  refine (k_f _).mono ?_
  rintro e w' ⟨rfl, rfl⟩
  go_wp2_with fail
  clear  fs ls
  go_loopg [9] m (fun k i wr => ∃ j : Nat, j ≤ m ∧ k + j = m ∧ i = .int .i64 ((f + j : Nat) : Int) ∧ Below w.heap.size w wr ∧ Blk wr (w.heap.size) 69 (stv s) ∧ Hid (PlainAbs.readyN s f j = true))
  case atStart => exact ⟨0, by omega, by omega, by go_num, hB, Bs, Lib.hid rfl⟩
  case round =>
    clear hB Bs
    obtain ⟨j, hj, hgk, rfl, hB, Bs, hr⟩ := hrel
    have fs := Bs.frozen; have ls := Bs.lt
    cases q : decide (j < m)
    · have hjm : j = m := by have := of_decide_eq_false q; omega
      have e1 : R = true := by rw [HR.out, ← hjm]; exact hr.out
      have h1 : decide (((f + j : Nat) : Int) < ((f + m : Nat) : Int)) = false := by simp; omega
      have h2 : ¬ f + j < f + m := by omega
      have E1 := Lib.hid e1; clear hgk hj e1; subst hjm
      go_wp2
      go_ret
      exact ⟨by rw [E1.out]; rfl, hB⟩
    · have hjm : j < m := of_decide_eq_true q
      have h2 : f + j < f + m := by omega
      have h64 : ((f + j : Nat) : Int) < 64 := by omega
      have h64n : f + j < 64 := by omega
      have cw : wr.cell? ⟨w.heap.size, 121 + (f + j), none⟩ = some (.bool (s.what (f + j))) := by rw [Bs.cell, stv_get s (by omega), what_at s h64n]
      cases hq : s.what (f + j)
      · rw [hq] at cw
        have E1 := Lib.hid (show R = false by rw [HR.out]; cases h : PlainAbs.readyN s f m; rfl; exact absurd ((PlainAbs.readyN_iff s f m).1 h j hjm) (by rw [hq]; decide))
        clear hq
        go_wp2
        go_ret
        exact ⟨by rw [E1.out]; rfl, hB⟩
      · rw [hq] at cw
        have hr1 := Lib.hid (show PlainAbs.readyN s f (j + 1) = true by rw [PlainAbs.readyN, hr.out, hq]; rfl)
        clear hq
        go_wp2_with fail
        go_roundg (m - 1 - j)
        case measure => omega
        case rel => exact ⟨j + 1, by omega, by omega, by go_num, hB, Bs, hr1⟩
theorem ready_c (s : St) (z n : Int) (w : World) : Calls Try.prog 51 #[.agg (stv s), .int .i64 z, .int .i64 n] w fun e w' => e = .returned (.bool (PlainAbs.ready s z n)) ∧ Below w.heap.size w w' := by
  have k_f := first_c z n
  unfold PlainAbs.ready
  cases hok : PlainAbs.firstOk z n
  · rw [hok] at k_f
    exact ready_no s z n _ k_f w
  · obtain ⟨f, m, h1, rfl, h3, h4⟩ := PlainAbs.first_nat hok
    rw [hok, h4] at k_f
    have := ready_yes s f m h3 z k_f w
    rw [Bool.true_and, show (z + 64).toNat = f by omega, show ((m : Int)).toNat = m by omega]
    exact this
end Go.Proofs.Ytmghpoagpiljhaa
