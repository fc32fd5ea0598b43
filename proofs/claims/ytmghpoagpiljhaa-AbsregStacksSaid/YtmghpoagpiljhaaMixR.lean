/- Rows of cells that are loaded whole in a region that draws its order; the equality of two rows that are alike. -/
import Derived.Test.YtmghpoagpiljhaaAbs
import Derived.Test.YtmghpoagpiljhaaMixL
import Derived.Laws.StructEq
set_option linter.unusedSimpArgs false
namespace Go.Proofs.Ytmghpoagpiljhaa
open Go.RowKit
section
variable {P : Program}
theorem mixAt_row {w0 : World} (gl : Later w0) {o : Oper} {a : Act} (ty : TypeId) (x : Operand) (ho : o.op = .load ty x)
    (g : Nat) (hx : a.eval x = .pointer (some ⟨g, 0, none⟩)) (t : TypeId) (cs : Array Value) (d : TypeDesc) (hB : Blk w0 g t cs)
    (hu : P.underlying ty = some d) (hd : (match d with | .struct _ | .array _ _ => true | _ => false) = true) (hi : (P.info? ty).map (·.size) = some cs.size) : mixAt P o a.eval gl.w (.agg cs) := by
  have hB' : Blk gl.w g t cs := hB.next gl.is
  have hrun := run_loadVar_row gl.w g t ty cs (0, 0) d hB' hu hd hi
  unfold mixAt execOp
  simp only [ho, hx, Instr.loadAt, Instr.sureAddr, Sem.run_bind, Sem.run_pure, Result.andThen_ok, hrun]
  exact ⟨rfl, rfl⟩
theorem isAlloc_load {o : Oper} {ty : TypeId} {x : Operand} (ho : o.op = .load ty x) : isAlloc o = none := by unfold isAlloc; rw [ho]
theorem wpMix_row {ops : Array Oper} {w0 : World} {Q : Act → Prop} {a : Act} {o : Oper} {rest : List Oper} (hgd : o.guard = none) (ty : TypeId) (x : Operand) (ho : o.op = .load ty x)
    (g : Nat) (hx : a.eval x = .pointer (some ⟨g, 0, none⟩)) (t : TypeId) (cs : Array Value) (d : TypeDesc) (hB : Blk w0 g t cs)
    (hu : P.underlying ty = some d) (hd : (match d with | .struct _ | .array _ _ => true | _ => false) = true) (hi : (P.info? ty).map (·.size) = some cs.size)
    (h : wpMix P ops w0 Q rest (a.put o.dst (.agg cs))) : wpMix P ops w0 Q (o :: rest) a := by
  refine wpMix_step (fun K hK => ?_)
  rw [isAlloc_load ho]
  simp only []
  rw [if_pos (by unfold Region.wanted; rw [hgd])]
  exact ⟨_, fun gl => mixAt_row gl ty x ho g hx t cs d hB hu hd hi, hK _ h⟩
theorem wpMixL_row {ops : Array Oper} {w0 : World} {late : Nat → Bool} {k : Nat} {Q : Act → Prop} {a : Act} {o : Oper} {rest : List Oper} (hgd : o.guard = none) (ty : TypeId) (x : Operand) (ho : o.op = .load ty x)
    (g : Nat) (hx : a.eval x = .pointer (some ⟨g, 0, none⟩)) (t : TypeId) (cs : Array Value) (d : TypeDesc) (hB : Blk w0 g t cs)
    (hu : P.underlying ty = some d) (hd : (match d with | .struct _ | .array _ _ => true | _ => false) = true) (hi : (P.info? ty).map (·.size) = some cs.size) (hl : late k = false)
    (h : wpMixL P ops w0 late Q (k + 1) rest (a.put o.dst (.agg cs))) : wpMixL P ops w0 late Q k (o :: rest) a := by
  refine wpMixL_step (fun K hK => ?_)
  rw [isAlloc_load ho]
  simp only []
  rw [if_pos (by unfold Region.wanted; rw [hgd])]
  exact ⟨_, fun gl => mixAt_row gl ty x ho g hx t cs d hB hu hd hi, (by rw [hl]; intro e; cases e), hK _ h⟩
end
end Go.Proofs.Ytmghpoagpiljhaa
