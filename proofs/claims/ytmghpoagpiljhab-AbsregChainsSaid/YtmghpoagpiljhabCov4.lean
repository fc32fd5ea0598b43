/- A state's parts as values: its registers, its bytes, its words, and what lies at a place of each. -/
import Derived.Test.YtmghpoagpiljhabCov3
set_option linter.unusedSimpArgs false
namespace Go.Proofs.Ytmghpoagpiljhab
open Go.RowKit
open PlainAbs (Rg St zr zs upd)
def rsA (s : St) : Array Value := (stv s).extract 0 121
def wsA (s : St) : Array Value := (stv s).extract 121 185
def ksA (s : St) : Array Value := (stv s).extract 185 273
theorem rsA_size (s : St) : (rsA s).size = 121 := by simp [rsA, stv_size]
theorem wsA_size (s : St) : (wsA s).size = 64 := by simp [wsA, stv_size]
theorem ksA_size (s : St) : (ksA s).size = 88 := by simp [ksA, stv_size]
theorem part_get {a : Array Value} {l h : Nat} : ∀ j v, (a.extract l h).toList[j]? = some v → a[l + j]? = some v := by
  intro j v hj
  rw [Array.getElem?_toList] at hj
  rw [Array.getElem?_extract] at hj
  split at hj
  · exact hj
  · cases hj
theorem idx_r (s : St) (w : World) : ∀ j : Nat, j < 11 → (Instr.index 30 (.agg (rsA s)) (.int .i64 (j : Int))).run Try.prog w = .ok (gv (s.r j)) w
  | 0, _ => by kernel_rfl
  | 1, _ => by kernel_rfl
  | 2, _ => by kernel_rfl
  | 3, _ => by kernel_rfl
  | 4, _ => by kernel_rfl
  | 5, _ => by kernel_rfl
  | 6, _ => by kernel_rfl
  | 7, _ => by kernel_rfl
  | 8, _ => by kernel_rfl
  | 9, _ => by kernel_rfl
  | 10, _ => by kernel_rfl
  | j + 11, h => absurd h (by omega)
theorem idx_k (s : St) (w : World) : ∀ j : Nat, j < 8 → (Instr.index 32 (.agg (ksA s)) (.int .i64 (j : Int))).run Try.prog w = .ok (gv (s.kept j)) w
  | 0, _ => by kernel_rfl
  | 1, _ => by kernel_rfl
  | 2, _ => by kernel_rfl
  | 3, _ => by kernel_rfl
  | 4, _ => by kernel_rfl
  | 5, _ => by kernel_rfl
  | 6, _ => by kernel_rfl
  | 7, _ => by kernel_rfl
  | j + 8, h => absurd h (by omega)
theorem idx_w (s : St) (w : World) : ∀ j : Nat, j < 64 → (Instr.index 31 (.agg (wsA s)) (.int .i64 (j : Int))).run Try.prog w = .ok (.bool (s.what j)) w
  | 0, _ => by kernel_rfl
  | 1, _ => by kernel_rfl
  | 2, _ => by kernel_rfl
  | 3, _ => by kernel_rfl
  | 4, _ => by kernel_rfl
  | 5, _ => by kernel_rfl
  | 6, _ => by kernel_rfl
  | 7, _ => by kernel_rfl
  | 8, _ => by kernel_rfl
  | 9, _ => by kernel_rfl
  | 10, _ => by kernel_rfl
  | 11, _ => by kernel_rfl
  | 12, _ => by kernel_rfl
  | 13, _ => by kernel_rfl
  | 14, _ => by kernel_rfl
  | 15, _ => by kernel_rfl
  | 16, _ => by kernel_rfl
  | 17, _ => by kernel_rfl
  | 18, _ => by kernel_rfl
  | 19, _ => by kernel_rfl
  | 20, _ => by kernel_rfl
  | 21, _ => by kernel_rfl
  | 22, _ => by kernel_rfl
  | 23, _ => by kernel_rfl
  | 24, _ => by kernel_rfl
  | 25, _ => by kernel_rfl
  | 26, _ => by kernel_rfl
  | 27, _ => by kernel_rfl
  | 28, _ => by kernel_rfl
  | 29, _ => by kernel_rfl
  | 30, _ => by kernel_rfl
  | 31, _ => by kernel_rfl
  | 32, _ => by kernel_rfl
  | 33, _ => by kernel_rfl
  | 34, _ => by kernel_rfl
  | 35, _ => by kernel_rfl
  | 36, _ => by kernel_rfl
  | 37, _ => by kernel_rfl
  | 38, _ => by kernel_rfl
  | 39, _ => by kernel_rfl
  | 40, _ => by kernel_rfl
  | 41, _ => by kernel_rfl
  | 42, _ => by kernel_rfl
  | 43, _ => by kernel_rfl
  | 44, _ => by kernel_rfl
  | 45, _ => by kernel_rfl
  | 46, _ => by kernel_rfl
  | 47, _ => by kernel_rfl
  | 48, _ => by kernel_rfl
  | 49, _ => by kernel_rfl
  | 50, _ => by kernel_rfl
  | 51, _ => by kernel_rfl
  | 52, _ => by kernel_rfl
  | 53, _ => by kernel_rfl
  | 54, _ => by kernel_rfl
  | 55, _ => by kernel_rfl
  | 56, _ => by kernel_rfl
  | 57, _ => by kernel_rfl
  | 58, _ => by kernel_rfl
  | 59, _ => by kernel_rfl
  | 60, _ => by kernel_rfl
  | 61, _ => by kernel_rfl
  | 62, _ => by kernel_rfl
  | 63, _ => by kernel_rfl
  | j + 64, h => absurd h (by omega)
section
variable {P : Program}
theorem wpMix_part {ops : Array Oper} {w0 : World} {Q : Act → Prop} {a : Act} {o : Oper} {rest : List Oper} (hgd : o.guard = none) (ty : TypeId) (x : Operand) (ho : o.op = .load ty x)
    (g off : Nat) (hx : a.eval x = .pointer (some ⟨g, off, none⟩)) (t : TypeId) (cs vals : Array Value) (d : TypeDesc) (hB : Blk w0 g t cs)
    (hu : P.underlying ty = some d) (hd : (match d with | .struct _ | .array _ _ => true | _ => false) = true) (hi : (P.info? ty).map (·.size) = some vals.size)
    (hv : ∀ j v, vals.toList[j]? = some v → cs[off + j]? = some v)
    (h : wpMix P ops w0 Q rest (a.put o.dst (.agg vals))) : wpMix P ops w0 Q (o :: rest) a := by
  refine wpMix_step (fun K hK => ?_)
  rw [isAlloc_load ho]
  simp only []
  rw [if_pos (by unfold Region.wanted; rw [hgd])]
  refine ⟨_, fun gl => ?_, hK _ h⟩
  have hB' : Blk gl.w g t cs := hB.next gl.is
  have hl : (loadCells ⟨g, off, none⟩ vals.toList.length).run P gl.w = .ok vals.toList.toArray gl.w :=
    run_loadCells_list (P := P) gl.w ⟨g, off, none⟩ vals.toList (fun j v hj => by rw [add_off, hB'.cell]; exact hv j v hj)
  have hrun : (loadVar ty ⟨g, off, none⟩).run P gl.w = .ok (.agg vals) gl.w := by
    cases hq : P.info? ty with
    | none => simp [hq] at hi
    | some i =>
      have he : i.size = vals.size := by simp [hq] at hi; omega
      have hagg : (isAgg ty).run P gl.w = .ok true gl.w := by
        unfold isAgg
        rw [Sem.run_bind, run_underlying hu gl.w]
        cases d <;> simp_all
      simp only [Array.length_toList, Array.toArray_toList] at hl
      simp [loadVar, Sem.run_bind, hagg, sizeOf, typeInfo, hq, he, hl]
  unfold mixAt execOp
  simp only [ho, hx, Instr.loadAt, Instr.sureAddr, Sem.run_bind, Sem.run_pure, Result.andThen_ok, hrun]
  exact ⟨rfl, rfl⟩
end
end Go.Proofs.Ytmghpoagpiljhab
