/- A block of cells read and written, whole or in parts. -/
import Derived.Test.YtmghpoagpiljhaaDoorMix
import Derived.Test.YtmghpoagpiljhaaDoorMixP
import Derived.Laws.Rows
import Derived.Laws.Tables
set_option linter.unusedSimpArgs false
set_option linter.unusedVariables false
namespace Go.Proofs.YtmghpoagpiljhaaDoor
open Go.RowKit
/-- Cells set one behind the other. -/
def setL (a : Array Value) (o : Nat) : List Value → Array Value
  | [] => a
  | v :: r => setL (a.setIfInBounds o v) (o + 1) r
theorem setL_size : ∀ (vs : List Value) (a : Array Value) (o : Nat), (setL a o vs).size = a.size
  | [], _, _ => rfl
  | v :: r, a, o => by rw [setL, setL_size r]; simp
theorem setL_get : ∀ (vs : List Value) (a : Array Value) (o i : Nat), o + vs.length ≤ a.size → (setL a o vs)[i]? = if o ≤ i ∧ i < o + vs.length then vs[i - o]? else a[i]?
  | [], a, o, i, _ => by rw [setL, if_neg (by intro h; simp at h; omega)]
  | v :: r, a, o, i, h => by
    rw [setL, setL_get r _ _ _ (by simp at h ⊢; omega)]
    simp only [List.length_cons] at h
    by_cases e : i = o
    · subst e
      have hia : i < a.size := by omega
      rw [if_neg (by omega), if_pos (by simp)]
      simp [Array.getElem?_setIfInBounds, hia]
    · by_cases h1 : o + 1 ≤ i ∧ i < o + 1 + r.length
      · rw [if_pos h1, if_pos (by simp; omega)]
        rw [show i - o = (i - (o + 1)) + 1 by omega]; simp
      · rw [if_neg h1, if_neg (by simp; omega)]
        simp [Array.getElem?_setIfInBounds, Ne.symm e]
/-! ### a block read and written in parts -/
section
variable {P : Program}
theorem add_off (g o i : Nat) : (⟨g, o, none⟩ : Addr).add i = ⟨g, o + i, none⟩ := by unfold Addr.add; split <;> simp_all
theorem run_storeCells_part (g : Nat) (t : TypeId) (o : Nat) : ∀ (vs : List Value) (i : Nat) (cur : Array Value) (w : World), Blk w g t cur → o + i + vs.length ≤ cur.size → (∀ v ∈ vs, v.oneCell' = true) →
    (storeCells ⟨g, o, none⟩ vs i).run P w = .ok () (w.setRow g (setL cur (o + i) vs))
  | [], i, cur, w, hB, _, _ => by
    simp only [storeCells, setL]
    have : w.setRow g cur = w := by
      cases w
      simp only [World.setRow]
      congr 1
      apply Array.ext_getElem?
      intro k
      rw [Array.getElem?_modify]
      unfold Blk at hB
      by_cases e : g = k
      · subst e; simp at hB; simp [hB]
      · simp [e]
    rw [this]; rfl
  | v :: r, i, cur, w, hB, hl, h1 => by
    simp only [List.length_cons] at hl
    have hcell : w.cell? ⟨g, o + i, none⟩ = some (cur[o + i]'(by omega)) := by rw [hB.cell, Array.getElem?_eq_getElem (by omega)]
    have hst : (store ((⟨g, o, none⟩ : Addr).add i) v).run P w = .ok () (w.setRow g (cur.setIfInBounds (o + i) v)) := by
      rw [add_off, run_store P w _ v _ (h1 v (by simp)), hcell]
      simp [hB.frozen, setCell_eq_setRow w g (o + i) cur t (0, 0) v hB]
    have ih := run_storeCells_part g t o r (i + 1) (cur.setIfInBounds (o + i) v) (w.setRow g (cur.setIfInBounds (o + i) v)) (setRow_heap w g cur _ t _ hB) (by simp; omega) (fun x hx => h1 x (by simp [hx]))
    simp only [storeCells, Sem.run_bind, hst, Result.andThen_ok, ih, setRow_setRow, setL]
    rw [show o + i + 1 = o + (i + 1) by omega]
/-- Behind a store into a block: what it holds now; all else is as it was. -/
structure Stored (w : World) (g : Nat) (t : TypeId) (X : Array Value) (w' : World) : Prop where
  blk : Blk w' g t X
  far : ∀ {b : Nat} {t' : TypeId} {cs : Array Value}, b ≠ g → Blk w b t' cs → Blk w' b t' cs
  bel : ∀ {B : Nat} {w0 : World}, Below B w0 w → B ≤ g → Below B w0 w'
  size : w'.heap.size = w.heap.size
theorem stored_row {w : World} {g : Nat} {t : TypeId} {cur X : Array Value} (hB : Blk w g t cur) : Stored w g t X (w.setRow g X) :=
  ⟨hB.row_same, fun hn h => h.row_other hn, fun h hb => Bl_row h hb _, by rw [size_setRow]⟩
theorem wpList_store_part {ops : Array Oper} {rest : List Oper} {o : Oper} {a : Act} {w : World} {Q : Exit → Act → World → Prop} (hgd : o.guard = none) (ty : TypeId) (x y : Operand) (ho : o.op = .store ty x y)
    (g off : Nat) (cells : Array Value) (hx : a.eval x = .pointer (some ⟨g, off, none⟩)) (hy : a.eval y = .agg cells) (t : TypeId) (cur : Array Value) (hB : Blk w g t cur) (hi : (P.info? ty).map (·.size) = some cells.size)
    (hfit : off + cells.size ≤ cur.size) (h1 : ∀ v ∈ cells.toList, v.oneCell' = true)
    (h : ∀ w', Stored w g t (setL cur off cells.toList) w' → wpList P ops Q rest (a.put o.dst undef) w') : wpList P ops Q (o :: rest) a w :=
  wpList_plain hgd fun _ hK => by
    have hs := run_storeCells_part (P := P) g t off cells.toList 0 cur w hB (by simpa using hfit) h1
    have hrun : (storeVar ty ⟨g, off, none⟩ (.agg cells)).run P w = .ok () (w.setRow g (setL cur off cells.toList)) := by
      cases hq : P.info? ty with
      | none => simp [hq] at hi
      | some i =>
        have he : cells.size = i.size := by simp [hq] at hi; omega
        simp only [Nat.add_zero] at hs
        simp [storeVar, sizeOf, typeInfo, hq, Value.cells, he, hs]
    unfold Oper.wp execOp
    simp only [ho, hx, hy, Instr.storeAt, Instr.sureAddr, Sem.run_bind, Sem.run_pure, Result.andThen_ok, hrun]
    exact hK _ _ (h _ (stored_row hB))
theorem wpList_store_whole {ops : Array Oper} {rest : List Oper} {o : Oper} {a : Act} {w : World} {Q : Exit → Act → World → Prop} (hgd : o.guard = none) (ty : TypeId) (x y : Operand) (ho : o.op = .store ty x y)
    (g : Nat) (cells : Array Value) (hx : a.eval x = .pointer (some ⟨g, 0, none⟩)) (hy : a.eval y = .agg cells) (t : TypeId) (old : Array Value) (hB : Blk w g t old) (hi : (P.info? ty).map (·.size) = some cells.size)
    (hold : old.size = cells.size) (h1 : cells.all (·.oneCell') = true)
    (h : ∀ w', Stored w g t cells w' → wpList P ops Q rest (a.put o.dst undef) w') : wpList P ops Q (o :: rest) a w :=
  wpList_plain hgd fun _ hK => wp_store_row ty x y ho g cells hx hy t old hB hi hold h1 (hK _ _ (h _ (stored_row hB)))
/-- A part of a block is cleared. -/
theorem wpList_clear_part {ops : Array Oper} {rest : List Oper} {o : Oper} {a : Act} {w : World} {Q : Exit → Act → World → Prop} (hgd : o.guard = none) (x : Operand) (ts e : TypeId) (ho : o.op = .call { callee := .builtin .clear, args := #[x], argTypes := #[ts] })
    (hu : P.underlying ts = some (.slice e)) (g off n cap : Nat) (hx : a.eval x = .slice (some ⟨g, off, none⟩) n cap) (hn : 0 < n) (v : Value) (hz : ∀ w, (zeroValue e).run P w = .ok v w) (hv : v.cells = #[v]) (h1 : v.oneCell' = true) (t : TypeId) (cur : Array Value) (hB : Blk w g t cur)
    (hfit : off + n ≤ cur.size)
    (h : ∀ w', Stored w g t (setL cur off (List.replicate n v)) w' → wpList P ops Q rest (a.put o.dst (.tuple #[])) w') : wpList P ops Q (o :: rest) a w :=
  wpList_plain hgd fun _ hK => by
    have hzc : (Builtin.zeroCells v.cells n).toList = List.replicate n v := by
      rw [hv]; unfold Builtin.zeroCells; simp [Nat.mod_one]
      exact List.eq_replicate_iff.2 ⟨by simp, fun b hb => by obtain ⟨_, _, rfl⟩ := List.mem_map.1 hb; rfl⟩
    have hs := run_storeCells_part (P := P) g t off (List.replicate n v) 0 cur w hB (by simpa using hfit) (fun u hu' => by rw [List.eq_of_mem_replicate hu']; exact h1)
    simp only [Nat.add_zero] at hs
    have hrun : (Builtin.clear_ #[ts] o.type #[.slice (some ⟨g, off, none⟩) n cap]).run P w = .ok (.tuple #[]) (w.setRow g (setL cur off (List.replicate n v))) := by
      obtain ⟨m, rfl⟩ : ∃ m, n = m + 1 := ⟨n - 1, by omega⟩
      simp [Builtin.clear_, run_underlying hu, hz, hzc, hs]
    unfold Oper.wp
    simp [execOp, ho, resolve, invoke, builtin, hx, hrun, Result.andThen]
    exact hK _ _ (h _ (stored_row hB))
theorem wpList_load_whole {ops : Array Oper} {rest : List Oper} {o : Oper} {a : Act} {w : World} {Q : Exit → Act → World → Prop} (hgd : o.guard = none) (ty : TypeId) (x : Operand) (ho : o.op = .load ty x)
    (g : Nat) (hx : a.eval x = .pointer (some ⟨g, 0, none⟩)) (t : TypeId) (cs : Array Value) (d : TypeDesc) (hB : Blk w g t cs)
    (hu : P.underlying ty = some d) (hd : (match d with | .struct _ | .array _ _ => true | _ => false) = true) (hi : (P.info? ty).map (·.size) = some cs.size)
    (h : wpList P ops Q rest (a.put o.dst (.agg cs)) w) : wpList P ops Q (o :: rest) a w :=
  wpList_load_row hgd ty x ho g hx t cs (0, 0) d hB hu hd hi h
theorem wpList_load_part {ops : Array Oper} {rest : List Oper} {o : Oper} {a : Act} {w : World} {Q : Exit → Act → World → Prop} (hgd : o.guard = none) (ty : TypeId) (x : Operand) (ho : o.op = .load ty x)
    (g off : Nat) (hx : a.eval x = .pointer (some ⟨g, off, none⟩)) (t : TypeId) (cs vals : Array Value) (d : TypeDesc) (hB : Blk w g t cs)
    (hu : P.underlying ty = some d) (hd : (match d with | .struct _ | .array _ _ => true | _ => false) = true) (hi : (P.info? ty).map (·.size) = some vals.size)
    (hv : ∀ j v, vals.toList[j]? = some v → cs[off + j]? = some v)
    (h : wpList P ops Q rest (a.put o.dst (.agg vals)) w) : wpList P ops Q (o :: rest) a w :=
  wpList_plain hgd fun _ hK => by
    have hl : (loadCells ⟨g, off, none⟩ vals.toList.length).run P w = .ok vals.toList.toArray w :=
      run_loadCells_list (P := P) w ⟨g, off, none⟩ vals.toList (fun j v hj => by rw [add_off, hB.cell]; exact hv j v hj)
    have hrun : (loadVar ty ⟨g, off, none⟩).run P w = .ok (.agg vals) w := by
      cases hq : P.info? ty with
      | none => simp [hq] at hi
      | some i =>
        have he : i.size = vals.size := by simp [hq] at hi; omega
        have hagg : (isAgg ty).run P w = .ok true w := by
          unfold isAgg
          rw [Sem.run_bind, run_underlying hu w]
          cases d <;> simp_all
        simp only [Array.length_toList, Array.toArray_toList] at hl
        simp [loadVar, Sem.run_bind, hagg, sizeOf, typeInfo, hq, he, hl]
    unfold Oper.wp execOp
    simp only [ho, hx, Instr.loadAt, Instr.sureAddr, Sem.run_bind, Sem.run_pure, Result.andThen_ok, hrun]
    exact hK _ _ h
/-- The whole of a state's block is a result; beside it a number or a truth. -/
theorem results_row_tmp {fn : Func} {p q : Tmp} {ty : TypeId} (h : fn.results = #[.cell p ty, .tmp q]) (tmps : Array Value) (w : World) (g : Nat) (t : TypeId) (cs : Array Value) (d : TypeDesc)
    (hp : tmps.getD p undef = .pointer (some ⟨g, 0, none⟩)) (hB : Blk w g t cs)
    (hu : P.underlying ty = some d) (hd : (match d with | .struct _ | .array _ _ => true | _ => false) = true) (hi : (P.info? ty).map (·.size) = some cs.size) :
    (results fn tmps).run P w = .ok (.tuple #[.agg cs, tmps.getD q undef]) w := by
  have hp' : tmps[p]?.getD undef = .pointer (some ⟨g, 0, none⟩) := by simpa using hp
  simp [results, h, hp', asAddr, run_loadVar_row w g t ty cs (0, 0) d hB hu hd hi]
end
theorem results_row1 {P : Program} {fn : Func} {p : Tmp} {ty : TypeId} (h : fn.results = #[.cell p ty]) (tmps : Array Value) (w : World) (g : Nat) (t : TypeId) (cs : Array Value) (d : TypeDesc)
    (hp : tmps.getD p undef = .pointer (some ⟨g, 0, none⟩)) (hB : Blk w g t cs)
    (hu : P.underlying ty = some d) (hd : (match d with | .struct _ | .array _ _ => true | _ => false) = true) (hi : (P.info? ty).map (·.size) = some cs.size) :
    (results fn tmps).run P w = .ok (.agg cs) w := by
  have hp' : tmps[p]?.getD undef = .pointer (some ⟨g, 0, none⟩) := by simpa using hp
  simp [results, h, hp', asAddr, run_loadVar_row w g t ty cs (0, 0) d hB hu hd hi]
/-- Of what was there, one block apart, nothing has turned. -/
structure But (p : Nat) (w w' : World) : Prop where
  os : w'.os = w.os
  tape : w'.tape = w.tape
  output : w'.output = w.output
  size : w.heap.size ≤ w'.heap.size
  block : ∀ k, k < w.heap.size → k ≠ p → w'.heap[k]? = w.heap[k]?
theorem But.refl (p : Nat) (w : World) : But p w w := ⟨rfl, rfl, rfl, Nat.le_refl _, fun _ _ _ => rfl⟩
theorem But.trans {p : Nat} {a b c : World} (h : But p a b) (k : But p b c) : But p a c :=
  ⟨k.os.trans h.os, k.tape.trans h.tape, k.output.trans h.output, Nat.le_trans h.size k.size, fun i hi hn => (k.block i (Nat.lt_of_lt_of_le hi h.size) hn).trans (h.block i hi hn)⟩
theorem But.of {p : Nat} {w w' : World} (h : Below w.heap.size w w') : But p w w' := ⟨h.os, h.tape, h.output, h.size, fun k hk _ => h.block k hk⟩
theorem But.tail {p : Nat} {a b c : World} (h : But p a b) (k : Below b.heap.size b c) : But p a c := h.trans (But.of k)
theorem But.alloc {p : Nat} {w w' : World} (h : But p w w') (o : Obj) : But p w (w'.alloc o) := h.tail (Bl_alloc (Bl_refl _) o)
theorem But.drew {p : Nat} {w w' : World} (h : But p w w') : But p w w'.drew := ⟨h.os, h.tape, h.output, h.size, h.block⟩
theorem But.set {p : Nat} {w w' : World} (h : But p w w') {a : Addr} (ha : w.heap.size ≤ a.block) (v : Value) : But p w (w'.setCell a v) :=
  ⟨h.os, h.tape, h.output, by have := h.size; simpa [World.setCell] using this, fun k hk hn => (Below.heap_setCell _ _ _ _ (by omega)).trans (h.block k hk hn)⟩
theorem But.setp {p : Nat} {w w' : World} (h : But p w w') (i : Nat) (v : Value) : But p w (w'.setCell ⟨p, i, none⟩ v) :=
  ⟨h.os, h.tape, h.output, by have := h.size; simpa [World.setCell] using this, fun k hk hn => (Below.heap_setCell _ _ _ _ hn).trans (h.block k hk hn)⟩
theorem But.row {p : Nat} {w w' : World} (h : But p w w') {g : Nat} (ha : w.heap.size ≤ g) (cs : Array Value) : But p w (w'.setRow g cs) :=
  ⟨h.os, h.tape, h.output, by have := h.size; simpa [World.setRow] using this, fun k hk hn => (setRow_other w' g k cs (by omega)).trans (h.block k hk hn)⟩
theorem Stored.but {p g : Nat} {t : TypeId} {X : Array Value} {w w1 w2 : World} (hS : Stored w1 g t X w2) (h : But p w w1) (hg : w.heap.size ≤ g) : But p w w2 := by
  have hb := hS.bel (Below.refl g w1) (Nat.le_refl g)
  exact ⟨hb.os.trans h.os, hb.tape.trans h.tape, hb.output.trans h.output, by rw [hS.size]; exact h.size, fun k hk hn => (hb.block k (by omega)).trans (h.block k hk hn)⟩
theorem But.far {p b : Nat} {t : TypeId} {cs : Array Value} {w w' : World} (h : But p w w') (hn : b ≠ p) (hB : Blk w b t cs) : Blk w' b t cs := (h.block b hB.lt hn).trans hB
theorem But.bel {p B : Nat} {w0 w w' : World} (h : But p w w') (hb : Below B w0 w) (hp : B ≤ p) (hB : B ≤ w.heap.size) : Below B w0 w' :=
  ⟨h.os.trans hb.os, h.tape.trans hb.tape, h.output.trans hb.output, Nat.le_trans hb.size h.size, fun k hk => (h.block k (by omega) (by omega)).trans (hb.block k hk)⟩
theorem But.cell {p : Nat} {w w' : World} (h : But p w w') {a : Addr} (ha : a.block < w.heap.size) (hn : a.block ≠ p) : w'.cell? a = w.cell? a := World.cell?_of_block (w := w) (h.block a.block ha hn)
end Go.Proofs.YtmghpoagpiljhaaDoor
