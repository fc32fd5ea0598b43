/- Rows and parts that are loaded in a region that draws its order and stores into several blocks; a part that was stored into a block. -/
import Derived.Test.YtmghpoagpiljhabMixR
import Derived.Test.YtmghpoagpiljhabMixS
import Derived.Test.YtmghpoagpiljhabMixQ
set_option linter.unusedSimpArgs false
namespace Go.Proofs.Ytmghpoagpiljhab
open Go.RowKit
theorem Loose.close1 {w : World} {g : Nat} {t : TypeId} {orig : Array Value} {o1 : Nat} {v1 : List Value} (h : Loose w g t orig (free2 o1 v1.length 0 0)) (H1 : Has w g t o1 v1) (hf : o1 + v1.length ≤ orig.size) : Blk w g t (setL orig o1 v1) := by
  have hg : ∀ i, (setL orig o1 v1)[i]? = if o1 ≤ i ∧ i < o1 + v1.length then v1[i - o1]? else orig[i]? := fun i => setL_get _ _ _ _ hf
  refine h.close (by rw [setL_size]) (fun i hi => ?_) (fun cs B i hi hfr => ?_)
  · rw [hg, if_neg]
    intro ⟨a, b⟩; rw [free2_l a b] at hi; cases hi
  · rw [hg]
    by_cases b : o1 ≤ i ∧ i < o1 + v1.length
    · rw [if_pos b]
      have e := List.getElem?_eq_getElem (l := v1) (i := i - o1) (by omega)
      have := H1.at B e
      rw [show o1 + (i - o1) = i by omega] at this
      rw [this, e]
    · exfalso
      simp [free2] at hfr
      omega
theorem part_of {cs vals : Array Value} {off : Nat} (h : (cs.toList.drop off).take vals.toList.length = vals.toList) : ∀ j v, vals.toList[j]? = some v → cs[off + j]? = some v := by
  intro j v hj
  have hl : j < vals.toList.length := (List.getElem?_eq_some_iff.1 hj).1
  rw [← h, List.getElem?_take, if_pos (by omega), List.getElem?_drop] at hj
  simpa using hj
theorem part_self (cs : Array Value) : ∀ j v, cs.toList[j]? = some v → cs[0 + j]? = some v := by
  intro j v hj; rw [Nat.zero_add]; simpa using hj
section
variable {P : Program}
theorem run_load_at {w : World} {o : Oper} {ρ : Operand → Value} (ty : TypeId) (x : Operand) (ho : o.op = .load ty x)
    (g off : Nat) (hx : ρ x = .pointer (some ⟨g, off, none⟩)) (t : TypeId) (cs vals : Array Value) (d : TypeDesc) (hB : Blk w g t cs)
    (hu : P.underlying ty = some d) (hd : (match d with | .struct _ | .array _ _ => true | _ => false) = true) (hi : (P.info? ty).map (·.size) = some vals.size)
    (hv : ∀ j v, vals.toList[j]? = some v → cs[off + j]? = some v) : (execOp ρ o).run P w = .ok (.value (.agg vals)) w := by
  have hl : (loadCells ⟨g, off, none⟩ vals.toList.length).run P w = .ok vals.toList.toArray w :=
    run_loadCells_list (P := P) w ⟨g, off, none⟩ vals.toList (fun j v hj => by rw [add_off, hB.cell]; exact hv j v hj)
  have hrun : (loadVar ty ⟨g, off, none⟩).run P w = .ok (.agg vals) w := by
    cases hq : P.info? ty with
    | none => simp [hq] at hi
    | some i =>
      have he : i.size = vals.size := by simp [hq] at hi; omega
      have hagg : (isAgg ty).run P w = .ok true w := by
        unfold isAgg
        rw [Sem.run_bind, run_underlying hu w]
        cases d <;> simp_all
      simp only [Array.length_toList, Array.toArray_toList] at hl
      simp [loadVar, Sem.run_bind, hagg, sizeOf, typeInfo, hq, he, hl]
  unfold execOp
  simp only [ho, hx, Instr.loadAt, Instr.sureAddr, Sem.run_bind, Sem.run_pure, Result.andThen_ok, hrun]
theorem wpMixS_part {ops : Array Oper} {w0 : World} {S : World → Prop} {late : Nat → Bool} {k : Nat} {Q : Act → Prop} {a : Act} {o : Oper} {rest : List Oper} (hgd : o.guard = none) (ty : TypeId) (x : Operand) (ho : o.op = .load ty x)
    (g off : Nat) (hx : a.eval x = .pointer (some ⟨g, off, none⟩)) (t : TypeId) (cs vals : Array Value) (d : TypeDesc) (hB : Blk w0 g t cs) (hS : ∀ u : Under S, Blk u.w g t cs)
    (hu : P.underlying ty = some d) (hd : (match d with | .struct _ | .array _ _ => true | _ => false) = true) (hi : (P.info? ty).map (·.size) = some vals.size)
    (hv : ∀ j v, vals.toList[j]? = some v → cs[off + j]? = some v)
    (h : wpMixS P ops w0 S late Q (k + 1) rest (a.put o.dst (.agg vals))) : wpMixS P ops w0 S late Q k (o :: rest) a := by
  refine wpMixS_step (fun K hK => ?_)
  rw [isAlloc_load ho]
  simp only []
  rw [if_pos (by unfold Region.wanted; rw [hgd])]
  refine ⟨_, fun gl => ?_, fun _ u => ?_, hK _ h⟩
  · unfold mixAt; rw [run_load_at ty x ho g off hx t cs vals d (hB.next gl.is) hu hd hi hv]; exact ⟨rfl, rfl⟩
  · unfold readAt; rw [run_load_at ty x ho g off hx t cs vals d (hS u) hu hd hi hv]; exact ⟨rfl, rfl⟩
theorem wpMixP_part {ops : Array Oper} {I : World → Prop} {D : Nat → World → Prop} {st : Nat → Bool} {k : Nat} {Q : Act → Prop} {a : Act} {o : Oper} {rest : List Oper} (hs : st k = false) (hgd : o.guard = none) (ty : TypeId) (x : Operand) (ho : o.op = .load ty x)
    (g off : Nat) (hx : a.eval x = .pointer (some ⟨g, off, none⟩)) (t : TypeId) (cs vals : Array Value) (d : TypeDesc) (hB : ∀ u : In I, Blk u.w g t cs)
    (hu : P.underlying ty = some d) (hd : (match d with | .struct _ | .array _ _ => true | _ => false) = true) (hi : (P.info? ty).map (·.size) = some vals.size)
    (hv : ∀ j v, vals.toList[j]? = some v → cs[off + j]? = some v)
    (h : wpMixP P ops I D st Q (k + 1) rest (a.put o.dst (.agg vals))) : wpMixP P ops I D st Q k (o :: rest) a := by
  unfold wpMixP
  rw [if_neg (by rw [hs]; decide), if_pos (by unfold Region.wanted; rw [hgd])]
  refine ⟨_, fun u => ?_, h⟩
  unfold mixAt; rw [run_load_at ty x ho g off hx t cs vals d (hB u) hu hd hi hv]; exact ⟨rfl, rfl⟩
end
end Go.Proofs.Ytmghpoagpiljhab
