/- A state is itself: the comparison of a state with its own cells. -/
import Derived.Test.YtmghpoagpiljhaaStk
import Derived.ChangeKeysEq
set_option linter.unusedSimpArgs false
set_option linter.unusedVariables false
namespace Go.Proofs.Ytmghpoagpiljhaa
open Go.RowKit
open PlainAbs (Rg St zr zs upd)
theorem eq_items {P : Program} (d n : Nat) (e : TypeId) (xs : Array Value) (w : World) : ∀ is : List Nat, (∀ i ∈ is, ∃ v, (part e xs (i * n)).run P w = .ok v w ∧ (Op.equalIn d e v v).run P w = .ok true w) → (Op.eqItems d e n xs xs is).run P w = .ok true w
  | [], _ => by simp [Op.eqItems]
  | i :: is, h => by
    obtain ⟨v, h1, h2⟩ := h i (by simp)
    have ih := eq_items d n e xs w is (fun j hj => h j (by simp [hj]))
    simp only [Op.eqItems, Sem.run_bind, h1, h2, Result.andThen_ok]
    simpa using ih
def rsA (s : St) : Array Value := (stv s).extract 0 121
def wsA (s : St) : Array Value := (stv s).extract 121 185
def ksA (s : St) : Array Value := (stv s).extract 185 273
theorem part_r (s : St) (w : World) : ∀ j : Nat, j < 11 → (part 64 (rsA s) (j * 11)).run Try.prog w = .ok (gv (s.r j)) w
  | 0, _ => by kernel_rfl
  | 1, _ => by kernel_rfl
  | 2, _ => by kernel_rfl
  | 3, _ => by kernel_rfl
  | 4, _ => by kernel_rfl
  | 5, _ => by kernel_rfl
  | 6, _ => by kernel_rfl
  | 7, _ => by kernel_rfl
  | 8, _ => by kernel_rfl
  | 9, _ => by kernel_rfl
  | 10, _ => by kernel_rfl
  | j + 11, h => absurd h (by omega)
theorem part_k (s : St) (w : World) : ∀ j : Nat, j < 8 → (part 64 (ksA s) (j * 11)).run Try.prog w = .ok (gv (s.kept j)) w
  | 0, _ => by kernel_rfl
  | 1, _ => by kernel_rfl
  | 2, _ => by kernel_rfl
  | 3, _ => by kernel_rfl
  | 4, _ => by kernel_rfl
  | 5, _ => by kernel_rfl
  | 6, _ => by kernel_rfl
  | 7, _ => by kernel_rfl
  | j + 8, h => absurd h (by omega)
theorem part_w (s : St) (w : World) : ∀ j : Nat, j < 64 → (part 4 (wsA s) (j * 1)).run Try.prog w = .ok (.bool (s.what j)) w
  | 0, _ => by kernel_rfl
  | 1, _ => by kernel_rfl
  | 2, _ => by kernel_rfl
  | 3, _ => by kernel_rfl
  | 4, _ => by kernel_rfl
  | 5, _ => by kernel_rfl
  | 6, _ => by kernel_rfl
  | 7, _ => by kernel_rfl
  | 8, _ => by kernel_rfl
  | 9, _ => by kernel_rfl
  | 10, _ => by kernel_rfl
  | 11, _ => by kernel_rfl
  | 12, _ => by kernel_rfl
  | 13, _ => by kernel_rfl
  | 14, _ => by kernel_rfl
  | 15, _ => by kernel_rfl
  | 16, _ => by kernel_rfl
  | 17, _ => by kernel_rfl
  | 18, _ => by kernel_rfl
  | 19, _ => by kernel_rfl
  | 20, _ => by kernel_rfl
  | 21, _ => by kernel_rfl
  | 22, _ => by kernel_rfl
  | 23, _ => by kernel_rfl
  | 24, _ => by kernel_rfl
  | 25, _ => by kernel_rfl
  | 26, _ => by kernel_rfl
  | 27, _ => by kernel_rfl
  | 28, _ => by kernel_rfl
  | 29, _ => by kernel_rfl
  | 30, _ => by kernel_rfl
  | 31, _ => by kernel_rfl
  | 32, _ => by kernel_rfl
  | 33, _ => by kernel_rfl
  | 34, _ => by kernel_rfl
  | 35, _ => by kernel_rfl
  | 36, _ => by kernel_rfl
  | 37, _ => by kernel_rfl
  | 38, _ => by kernel_rfl
  | 39, _ => by kernel_rfl
  | 40, _ => by kernel_rfl
  | 41, _ => by kernel_rfl
  | 42, _ => by kernel_rfl
  | 43, _ => by kernel_rfl
  | 44, _ => by kernel_rfl
  | 45, _ => by kernel_rfl
  | 46, _ => by kernel_rfl
  | 47, _ => by kernel_rfl
  | 48, _ => by kernel_rfl
  | 49, _ => by kernel_rfl
  | 50, _ => by kernel_rfl
  | 51, _ => by kernel_rfl
  | 52, _ => by kernel_rfl
  | 53, _ => by kernel_rfl
  | 54, _ => by kernel_rfl
  | 55, _ => by kernel_rfl
  | 56, _ => by kernel_rfl
  | 57, _ => by kernel_rfl
  | 58, _ => by kernel_rfl
  | 59, _ => by kernel_rfl
  | 60, _ => by kernel_rfl
  | 61, _ => by kernel_rfl
  | 62, _ => by kernel_rfl
  | 63, _ => by kernel_rfl
  | j + 64, h => absurd h (by omega)
theorem part_R (s : St) (w : World) : (part 65 (stv s) 0).run Try.prog w = .ok (.agg (rsA s)) w := by kernel_rfl
theorem part_W (s : St) (w : World) : (part 66 (stv s) 121).run Try.prog w = .ok (.agg (wsA s)) w := by kernel_rfl
theorem part_K (s : St) (w : World) : (part 67 (stv s) 185).run Try.prog w = .ok (.agg (ksA s)) w := by kernel_rfl
set_option maxHeartbeats 1600000 in
theorem eq_reg (x : Rg) (d : Nat) (w : World) : (Op.equalIn (d + 4) 64 (gv x) (gv x)).run Try.prog w = .ok true w := by
  go_simp
theorem eq_R (s : St) (d : Nat) (w : World) : (Op.equalIn (d + 5) 65 (.agg (rsA s)) (.agg (rsA s))).run Try.prog w = .ok true w := by
  obtain ⟨i, hi⟩ := info_of_underlying Try.underlying64
  rw [run_equalIn_array w (d + 4) (rsA s) (rsA s) Try.underlying65 hi, show Try.prog.cellsOf 64 = 11 by kernel_rfl]
  refine eq_items _ _ _ _ _ _ (fun i hi => ⟨_, part_r s w i (by simpa using hi), eq_reg _ d w⟩)
theorem eq_K (s : St) (d : Nat) (w : World) : (Op.equalIn (d + 5) 67 (.agg (ksA s)) (.agg (ksA s))).run Try.prog w = .ok true w := by
  obtain ⟨i, hi⟩ := info_of_underlying Try.underlying64
  rw [run_equalIn_array w (d + 4) (ksA s) (ksA s) Try.underlying67 hi, show Try.prog.cellsOf 64 = 11 by kernel_rfl]
  refine eq_items _ _ _ _ _ _ (fun i hi => ⟨_, part_k s w i (by simpa using hi), eq_reg _ d w⟩)
theorem eq_W (s : St) (d : Nat) (w : World) : (Op.equalIn (d + 5) 66 (.agg (wsA s)) (.agg (wsA s))).run Try.prog w = .ok true w := by
  obtain ⟨i, hi⟩ := info_of_underlying Try.underlying4
  rw [run_equalIn_array w (d + 4) (wsA s) (wsA s) Try.underlying66 hi, show Try.prog.cellsOf 4 = 1 by kernel_rfl]
  refine eq_items _ _ _ _ _ _ (fun i hi => ⟨_, part_w s w i (by simpa using hi), ?_⟩)
  rw [run_equalIn_bool' w (d + 3) _ _ _ Try.underlying4]; simp
theorem three_of {α β : Type} {g : α → β} {a b c : β} : ∀ {l : List α}, l.map g = [a, b, c] → ∃ x y z, l = [x, y, z] ∧ g x = a ∧ g y = b ∧ g z = c
  | [], h => by simp at h
  | [_], h => by simp at h
  | [_, _], h => by simp at h
  | [x, y, z], h => by simp at h; exact ⟨x, y, z, rfl, h.1, h.2.1, h.2.2⟩
  | _ :: _ :: _ :: _ :: _, h => by simp at h
theorem eq_st (s : St) (d : Nat) (w : World) : (Op.equalIn (d + 6) 69 (.agg (stv s)) (.agg (stv s))).run Try.prog w = .ok true w := by
  have hu := Try.underlying69
  have hf : (Try.prog.fieldsOf 69).toList.map (fun f => (f.name, f.type, f.offset)) = [("R", 65, 0), ("What", 66, 121), ("Kept", 67, 185)] := by kernel_rfl
  rw [run_equalIn_struct w (d + 5) _ _ _ (by simp only [Program.fieldsOf, hu]) (by kernel_rfl)]
  obtain ⟨f0, f1, f2, e, h0, h1, h2⟩ := three_of hf
  simp only [Prod.mk.injEq] at h0 h1 h2
  obtain ⟨n0, t0, o0⟩ := h0; obtain ⟨n1, t1, o1⟩ := h1; obtain ⟨n2, t2, o2⟩ := h2
  rw [e]
  have r0 := part_R s w; have r1 := part_W s w; have r2 := part_K s w
  rw [← t0, ← o0] at r0; rw [← t1, ← o1] at r1; rw [← t2, ← o2] at r2
  have e0 := eq_R s d w; have e1 := eq_W s d w; have e2 := eq_K s d w
  rw [← t0] at e0; rw [← t1] at e1; rw [← t2] at e2
  have m0 : f0.name ≠ "_" := by rw [n0]; decide
  have m1 : f1.name ≠ "_" := by rw [n1]; decide
  have m2 : f2.name ≠ "_" := by rw [n2]; decide
  simp only [Op.eqFields, if_pos m0, if_pos m1, if_pos m2, Sem.run_bind, r0, r1, r2, e0, e1, e2, Result.andThen_ok]
  simp [r1, r2, e1, e2]
theorem neq_st (s : St) (w : World) : (binOp .neq 69 (.agg (stv s)) (.agg (stv s))).run Try.prog w = .ok (.bool false) w := by
  have h := eq_st s 9994 w
  rw [run_neq_struct, show (10000 : Nat) = 9994 + 6 from rfl, h]; rfl
theorem eqG_st (s : St) (x y : Operand) (w : World) : (eqGuard .neq 69 x y (.agg (stv s)) (.agg (stv s))).run Try.prog w = .ok () w := run_eqGuard_agg w _ _ _ _ _ _ (by kernel_rfl)
end Go.Proofs.Ytmghpoagpiljhaa
