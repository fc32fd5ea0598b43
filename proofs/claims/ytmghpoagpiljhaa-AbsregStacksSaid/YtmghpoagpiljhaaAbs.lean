/- Layer 17 in plain words: registers, states, their cells; a state's block read and written in parts. -/
import Derived.Test.YtmghpoagpiljhaaSc4
import Derived.Test.YtmghpoagpiljhaaMixP
import Derived.Laws.Rows
import Derived.Laws.Tables
set_option linter.unusedSimpArgs false
namespace Go.Proofs.Ytmghpoagpiljhaa
namespace PlainAbs
open PlainScalar (Rng)
/-- A register. -/
structure Rg where
  kind : Int
  r : Rng
  slot : Int
  id : Int
  low : Int
  high : Int
/-- A state: registers, which bytes are a number's, what the words have. -/
structure St where
  r : Nat → Rg
  what : Nat → Bool
  kept : Nat → Rg
def zr : Rg := ⟨0, PlainScalar.none_, 0, 0, 0, 0⟩
def zs : St := ⟨fun _ => zr, fun _ => false, fun _ => zr⟩
def upd {α : Type} (f : Nat → α) (i : Nat) (v : α) : Nat → α := fun j => if j = i then v else f j
def start : St := ⟨upd (upd (fun _ => zr) 1 { zr with kind := 2 }) 10 { zr with kind := 3 }, fun _ => false, fun _ => zr⟩
def firstOk (z n : Int) : Bool := decide (-64 ≤ z) && decide (z ≤ 0) && decide (0 ≤ n) && decide (n ≤ -z)
def firstF (z n : Int) : Int := if firstOk z n = true then z + 64 else 0
def sized (n : Int) : Bool := (n == 1) || (n == 2) || (n == 4) || (n == 8)
def readyN (s : St) (f : Nat) : Nat → Bool
  | 0 => true
  | j + 1 => readyN s f j && s.what (f + j)
def ready (s : St) (z n : Int) : Bool := firstOk z n && readyN s (z + 64).toNat n.toNat
def number (r : Rng) : Rg := { zr with kind := 1, r := r }
def load (s : St) (z n : Int) : Rg × Bool :=
  if (sized n && firstOk z n) = false then (zr, false)
  else if n = 8 ∧ (z + 64) % 8 = 0 ∧ (s.kept ((z + 64).toNat / 8)).kind ≠ 0 then (s.kept ((z + 64).toNat / 8), true)
  else if ready s z n = false then (zr, false)
  else (number (PlainScalar.low PlainScalar.any n), true)
/-- A word is forgotten, and that its bytes were a number's. -/
def clr (s : St) (k : Nat) : St := if (s.kept k).kind = 0 then s else { s with kept := upd s.kept k zr, what := fun j => if j / 8 = k then false else s.what j }
def clrN (s : St) (f : Nat) : Nat → St
  | 0 => s
  | j + 1 => clr (clrN s f j) ((f + j) / 8)
def mark (s : St) (f : Nat) (b : Bool) : Nat → St
  | 0 => s
  | j + 1 => { mark s f b j with what := upd (mark s f b j).what (f + j) b }
def saveOk (z n : Int) (x : Rg) : Bool := sized n && firstOk z n && decide (x.kind ≠ 0) && (decide (x.kind = 1) || (decide (n = 8) && decide ((z + 64) % 8 = 0)))
def saved (s : St) (z n : Int) (x : Rg) : St :=
  let t := mark (clrN s (z + 64).toNat n.toNat) (z + 64).toNat (decide (x.kind = 1)) n.toNat
  if x.kind = 1 then t else { t with kept := upd t.kept ((z + 64).toNat / 8) x }
def save (s : St) (z n : Int) (x : Rg) : St × Bool := if saveOk z n x = true then (saved s z n x, true) else (s, false)
end PlainAbs
open Go.RowKit
open PlainScalar (Rng)
open PlainAbs (Rg St zr zs upd)
/-- A register's cells. -/
def rc (x : Rg) : Nat → Value
  | 0 => .int .i64 x.kind
  | 1 => uv x.r.b.v
  | 2 => uv x.r.b.m
  | 3 => uv x.r.lo
  | 4 => uv x.r.hi
  | 5 => sv x.r.sl
  | 6 => sv x.r.sh
  | 7 => .int .i64 x.slot
  | 8 => .int .i64 x.id
  | 9 => .int .i64 x.low
  | _ => .int .i64 x.high
abbrev gl (x : Rg) : List Value := [.int .i64 x.kind, uv x.r.b.v, uv x.r.b.m, uv x.r.lo, uv x.r.hi, sv x.r.sl, sv x.r.sh, .int .i64 x.slot, .int .i64 x.id, .int .i64 x.low, .int .i64 x.high]
/-- A register as a value. -/
abbrev gv (x : Rg) : Value := .agg #[.int .i64 x.kind, uv x.r.b.v, uv x.r.b.m, uv x.r.lo, uv x.r.hi, sv x.r.sl, sv x.r.sh, .int .i64 x.slot, .int .i64 x.id, .int .i64 x.low, .int .i64 x.high]
theorem gl_at (x : Rg) : ∀ i, i < 11 → (gl x)[i]? = some (rc x i)
  | 0, _ | 1, _ | 2, _ | 3, _ | 4, _ | 5, _ | 6, _ | 7, _ | 8, _ | 9, _ | 10, _ => rfl
  | n + 11, h => by omega
def cellAt (s : St) (i : Nat) : Value := if i < 121 then rc (s.r (i / 11)) (i % 11) else if i < 185 then .bool (s.what (i - 121)) else rc (s.kept ((i - 185) / 11)) ((i - 185) % 11)
/-- A state's cells. -/
def stv (s : St) : Array Value := Array.ofFn (n := 273) fun i => cellAt s i
theorem stv_size (s : St) : (stv s).size = 273 := by simp [stv]
theorem stv_get (s : St) {i : Nat} (h : i < 273) : (stv s)[i]? = some (cellAt s i) := by simp [stv, h]
theorem rc_one (x : Rg) (i : Nat) : (rc x i).oneCell' = true := by unfold rc; split <;> rfl
theorem stv_one (s : St) : (stv s).all (·.oneCell') = true := by
  rw [Array.all_eq_true_iff_forall_mem]
  intro v hv
  obtain ⟨i, hi, rfl⟩ := Array.mem_iff_getElem.1 hv
  have := stv_get s (i := i) (by rw [stv_size] at hi; exact hi)
  rw [Array.getElem?_eq_getElem hi, Option.some.injEq] at this
  rw [this]; unfold cellAt
  split
  · exact rc_one _ _
  · split
    · rfl
    · exact rc_one _ _
theorem r_at (s : St) {k i : Nat} (hk : k < 11) (hi : i < 11) : cellAt s (k * 11 + i) = rc (s.r k) i := by
  unfold cellAt
  rw [if_pos (by omega), show (k * 11 + i) / 11 = k by omega, show (k * 11 + i) % 11 = i by omega]
theorem what_at (s : St) {j : Nat} (h : j < 64) : cellAt s (121 + j) = .bool (s.what j) := by
  unfold cellAt
  rw [if_neg (by omega), if_pos (by omega), show 121 + j - 121 = j by omega]
theorem kept_at (s : St) {k i : Nat} (hk : k < 8) (hi : i < 11) : cellAt s (185 + k * 11 + i) = rc (s.kept k) i := by
  unfold cellAt
  rw [if_neg (by omega), if_neg (by omega), show (185 + k * 11 + i - 185) / 11 = k by omega, show (185 + k * 11 + i - 185) % 11 = i by omega]
theorem stv_ext {s t : St} (h1 : ∀ k, k < 11 → s.r k = t.r k) (h2 : ∀ j, j < 64 → s.what j = t.what j) (h3 : ∀ k, k < 8 → s.kept k = t.kept k) : stv s = stv t := by
  apply Array.ext_getElem?
  intro i
  by_cases hi : i < 273
  rotate_left
  · rw [Array.getElem?_eq_none (by rw [stv_size]; omega), Array.getElem?_eq_none (by rw [stv_size]; omega)]
  have e : cellAt s i = cellAt t i := by
    unfold cellAt
    split
    · rw [h1 _ (by omega)]
    · split
      · rw [h2 _ (by omega)]
      · rw [h3 _ (by omega)]
  rw [stv_get s hi, stv_get t hi, e]
/-- Cells set one behind the other. -/
def setL (a : Array Value) (o : Nat) : List Value → Array Value
  | [] => a
  | v :: r => setL (a.setIfInBounds o v) (o + 1) r
theorem setL_size : ∀ (vs : List Value) (a : Array Value) (o : Nat), (setL a o vs).size = a.size
  | [], _, _ => rfl
  | v :: r, a, o => by rw [setL, setL_size r]; simp
theorem setL_get : ∀ (vs : List Value) (a : Array Value) (o i : Nat), o + vs.length ≤ a.size → (setL a o vs)[i]? = if o ≤ i ∧ i < o + vs.length then vs[i - o]? else a[i]?
  | [], a, o, i, _ => by rw [setL, if_neg (by intro h; simp at h; omega)]
  | v :: r, a, o, i, h => by
    rw [setL, setL_get r _ _ _ (by simp at h ⊢; omega)]
    simp only [List.length_cons] at h
    by_cases e : i = o
    · subst e
      have hia : i < a.size := by omega
      rw [if_neg (by omega), if_pos (by simp)]
      simp [Array.getElem?_setIfInBounds, hia]
    · by_cases h1 : o + 1 ≤ i ∧ i < o + 1 + r.length
      · rw [if_pos h1, if_pos (by simp; omega)]
        rw [show i - o = (i - (o + 1)) + 1 by omega]; simp
      · rw [if_neg h1, if_neg (by simp; omega)]
        simp [Array.getElem?_setIfInBounds, Ne.symm e]
theorem stv_set {s t : St} {o : Nat} {vs : List Value} (ho : o + vs.length ≤ 273) (h1 : ∀ i, i < vs.length → vs[i]? = some (cellAt t (o + i))) (h2 : ∀ j, j < 273 → (j < o ∨ o + vs.length ≤ j) → cellAt t j = cellAt s j) : setL (stv s) o vs = stv t := by
  apply Array.ext_getElem?
  intro i
  rw [setL_get _ _ _ _ (by rw [stv_size]; exact ho)]
  by_cases h : o ≤ i ∧ i < o + vs.length
  · rw [if_pos h, h1 _ (by omega), stv_get t (by omega), show o + (i - o) = i by omega]
  · rw [if_neg h]
    by_cases hi : i < 273
    · rw [stv_get s hi, stv_get t hi, h2 i hi (by omega)]
    · rw [Array.getElem?_eq_none (by rw [stv_size]; omega), Array.getElem?_eq_none (by rw [stv_size]; omega)]
theorem set_r (s : St) {k : Nat} (hk : k < 11) (x : Rg) : setL (stv s) (k * 11) (gl x) = stv { s with r := upd s.r k x } := by
  refine stv_set (by simp; omega) (fun i hi => ?_) (fun j hj h => ?_)
  · have hi' : i < 11 := by simpa using hi
    rw [gl_at x i hi', r_at _ hk hi']; simp [upd]
  · simp at h
    unfold cellAt
    split
    · simp only [upd]; rw [if_neg (by omega)]
    · rfl
theorem set_kept (s : St) {k : Nat} (hk : k < 8) (x : Rg) : setL (stv s) (185 + k * 11) (gl x) = stv { s with kept := upd s.kept k x } := by
  refine stv_set (by simp; omega) (fun i hi => ?_) (fun j hj h => ?_)
  · have hi' : i < 11 := by simpa using hi
    rw [gl_at x i hi', kept_at _ hk hi']; simp [upd]
  · simp at h
    unfold cellAt
    split
    · rfl
    · split
      · rfl
      · simp only [upd]; rw [if_neg (by omega)]
theorem set_what (s : St) {j : Nat} (hj : j < 64) (b : Bool) : setL (stv s) (121 + j) [.bool b] = stv { s with what := upd s.what j b } := by
  refine stv_set (by simp; omega) (fun i hi => ?_) (fun i hi h => ?_)
  · obtain rfl : i = 0 := by simpa using hi
    rw [Nat.add_zero, what_at _ hj]; simp [upd]
  · simp at h
    unfold cellAt
    split
    · rfl
    · split
      · simp only [upd]; rw [if_neg (by omega)]
      · rfl
theorem set_clear (s : St) {k : Nat} (hk : k < 8) : setL (stv s) (121 + k * 8) (List.replicate 8 (.bool false)) = stv { s with what := fun j => if j / 8 = k then false else s.what j } := by
  refine stv_set (by simp; omega) (fun i hi => ?_) (fun i hi h => ?_)
  · have hi' : i < 8 := by simpa using hi
    rw [show 121 + k * 8 + i = 121 + (k * 8 + i) by omega, what_at _ (by omega)]
    simp only []
    rw [if_pos (by omega), List.getElem?_replicate, if_pos hi']
  · simp at h
    unfold cellAt
    split
    · rfl
    · split
      · simp only []; rw [if_neg (by omega)]
      · rfl

/-! ### a block read and written in parts -/
section
variable {P : Program}
theorem add_off (g o i : Nat) : (⟨g, o, none⟩ : Addr).add i = ⟨g, o + i, none⟩ := by unfold Addr.add; split <;> simp_all
theorem run_storeCells_part (g : Nat) (t : TypeId) (o : Nat) : ∀ (vs : List Value) (i : Nat) (cur : Array Value) (w : World), Blk w g t cur → o + i + vs.length ≤ cur.size → (∀ v ∈ vs, v.oneCell' = true) →
    (storeCells ⟨g, o, none⟩ vs i).run P w = .ok () (w.setRow g (setL cur (o + i) vs))
  | [], i, cur, w, hB, _, _ => by
    simp only [storeCells, setL]
    have : w.setRow g cur = w := by
      cases w
      simp only [World.setRow]
      congr 1
      apply Array.ext_getElem?
      intro k
      rw [Array.getElem?_modify]
      unfold Blk at hB
      by_cases e : g = k
      · subst e; simp at hB; simp [hB]
      · simp [e]
    rw [this]; rfl
  | v :: r, i, cur, w, hB, hl, h1 => by
    simp only [List.length_cons] at hl
    have hcell : w.cell? ⟨g, o + i, none⟩ = some (cur[o + i]'(by omega)) := by rw [hB.cell, Array.getElem?_eq_getElem (by omega)]
    have hst : (store ((⟨g, o, none⟩ : Addr).add i) v).run P w = .ok () (w.setRow g (cur.setIfInBounds (o + i) v)) := by
      rw [add_off, run_store P w _ v _ (h1 v (by simp)), hcell]
      simp [hB.frozen, setCell_eq_setRow w g (o + i) cur t (0, 0) v hB]
    have ih := run_storeCells_part g t o r (i + 1) (cur.setIfInBounds (o + i) v) (w.setRow g (cur.setIfInBounds (o + i) v)) (setRow_heap w g cur _ t _ hB) (by simp; omega) (fun x hx => h1 x (by simp [hx]))
    simp only [storeCells, Sem.run_bind, hst, Result.andThen_ok, ih, setRow_setRow, setL]
    rw [show o + i + 1 = o + (i + 1) by omega]
/-- Behind a store into a block: what it holds now; all else is as it was. -/
structure Stored (w : World) (g : Nat) (t : TypeId) (X : Array Value) (w' : World) : Prop where
  blk : Blk w' g t X
  far : ∀ {b : Nat} {t' : TypeId} {cs : Array Value}, b ≠ g → Blk w b t' cs → Blk w' b t' cs
  bel : ∀ {B : Nat} {w0 : World}, Below B w0 w → B ≤ g → Below B w0 w'
  size : w'.heap.size = w.heap.size
theorem stored_row {w : World} {g : Nat} {t : TypeId} {cur X : Array Value} (hB : Blk w g t cur) : Stored w g t X (w.setRow g X) :=
  ⟨hB.row_same, fun hn h => h.row_other hn, fun h hb => Bl_row h hb _, by rw [size_setRow]⟩
theorem wpList_store_part {ops : Array Oper} {rest : List Oper} {o : Oper} {a : Act} {w : World} {Q : Exit → Act → World → Prop} (hgd : o.guard = none) (ty : TypeId) (x y : Operand) (ho : o.op = .store ty x y)
    (g off : Nat) (cells : Array Value) (hx : a.eval x = .pointer (some ⟨g, off, none⟩)) (hy : a.eval y = .agg cells) (t : TypeId) (cur : Array Value) (hB : Blk w g t cur) (hi : (P.info? ty).map (·.size) = some cells.size)
    (hfit : off + cells.size ≤ cur.size) (h1 : ∀ v ∈ cells.toList, v.oneCell' = true)
    (h : ∀ w', Stored w g t (setL cur off cells.toList) w' → wpList P ops Q rest (a.put o.dst undef) w') : wpList P ops Q (o :: rest) a w :=
  wpList_plain hgd fun _ hK => by
    have hs := run_storeCells_part (P := P) g t off cells.toList 0 cur w hB (by simpa using hfit) h1
    have hrun : (storeVar ty ⟨g, off, none⟩ (.agg cells)).run P w = .ok () (w.setRow g (setL cur off cells.toList)) := by
      cases hq : P.info? ty with
      | none => simp [hq] at hi
      | some i =>
        have he : cells.size = i.size := by simp [hq] at hi; omega
        simp only [Nat.add_zero] at hs
        simp [storeVar, sizeOf, typeInfo, hq, Value.cells, he, hs]
    unfold Oper.wp execOp
    simp only [ho, hx, hy, Instr.storeAt, Instr.sureAddr, Sem.run_bind, Sem.run_pure, Result.andThen_ok, hrun]
    exact hK _ _ (h _ (stored_row hB))
theorem wpList_store_whole {ops : Array Oper} {rest : List Oper} {o : Oper} {a : Act} {w : World} {Q : Exit → Act → World → Prop} (hgd : o.guard = none) (ty : TypeId) (x y : Operand) (ho : o.op = .store ty x y)
    (g : Nat) (cells : Array Value) (hx : a.eval x = .pointer (some ⟨g, 0, none⟩)) (hy : a.eval y = .agg cells) (t : TypeId) (old : Array Value) (hB : Blk w g t old) (hi : (P.info? ty).map (·.size) = some cells.size)
    (hold : old.size = cells.size) (h1 : cells.all (·.oneCell') = true)
    (h : ∀ w', Stored w g t cells w' → wpList P ops Q rest (a.put o.dst undef) w') : wpList P ops Q (o :: rest) a w :=
  wpList_plain hgd fun _ hK => wp_store_row ty x y ho g cells hx hy t old hB hi hold h1 (hK _ _ (h _ (stored_row hB)))
/-- A part of a block is cleared. -/
theorem wpList_clear_part {ops : Array Oper} {rest : List Oper} {o : Oper} {a : Act} {w : World} {Q : Exit → Act → World → Prop} (hgd : o.guard = none) (x : Operand) (ts e : TypeId) (ho : o.op = .call { callee := .builtin .clear, args := #[x], argTypes := #[ts] })
    (hu : P.underlying ts = some (.slice e)) (g off n cap : Nat) (hx : a.eval x = .slice (some ⟨g, off, none⟩) n cap) (hn : 0 < n) (v : Value) (hz : ∀ w, (zeroValue e).run P w = .ok v w) (hv : v.cells = #[v]) (h1 : v.oneCell' = true) (t : TypeId) (cur : Array Value) (hB : Blk w g t cur)
    (hfit : off + n ≤ cur.size)
    (h : ∀ w', Stored w g t (setL cur off (List.replicate n v)) w' → wpList P ops Q rest (a.put o.dst (.tuple #[])) w') : wpList P ops Q (o :: rest) a w :=
  wpList_plain hgd fun _ hK => by
    have hzc : (Builtin.zeroCells v.cells n).toList = List.replicate n v := by
      rw [hv]; unfold Builtin.zeroCells; simp [Nat.mod_one]
      exact List.eq_replicate_iff.2 ⟨by simp, fun b hb => by obtain ⟨_, _, rfl⟩ := List.mem_map.1 hb; rfl⟩
    have hs := run_storeCells_part (P := P) g t off (List.replicate n v) 0 cur w hB (by simpa using hfit) (fun u hu' => by rw [List.eq_of_mem_replicate hu']; exact h1)
    simp only [Nat.add_zero] at hs
    have hrun : (Builtin.clear_ #[ts] o.type #[.slice (some ⟨g, off, none⟩) n cap]).run P w = .ok (.tuple #[]) (w.setRow g (setL cur off (List.replicate n v))) := by
      obtain ⟨m, rfl⟩ : ∃ m, n = m + 1 := ⟨n - 1, by omega⟩
      simp [Builtin.clear_, run_underlying hu, hz, hzc, hs]
    unfold Oper.wp
    simp [execOp, ho, resolve, invoke, builtin, hx, hrun, Result.andThen]
    exact hK _ _ (h _ (stored_row hB))
theorem wpList_load_whole {ops : Array Oper} {rest : List Oper} {o : Oper} {a : Act} {w : World} {Q : Exit → Act → World → Prop} (hgd : o.guard = none) (ty : TypeId) (x : Operand) (ho : o.op = .load ty x)
    (g : Nat) (hx : a.eval x = .pointer (some ⟨g, 0, none⟩)) (t : TypeId) (cs : Array Value) (d : TypeDesc) (hB : Blk w g t cs)
    (hu : P.underlying ty = some d) (hd : (match d with | .struct _ | .array _ _ => true | _ => false) = true) (hi : (P.info? ty).map (·.size) = some cs.size)
    (h : wpList P ops Q rest (a.put o.dst (.agg cs)) w) : wpList P ops Q (o :: rest) a w :=
  wpList_load_row hgd ty x ho g hx t cs (0, 0) d hB hu hd hi h
theorem wpList_load_part {ops : Array Oper} {rest : List Oper} {o : Oper} {a : Act} {w : World} {Q : Exit → Act → World → Prop} (hgd : o.guard = none) (ty : TypeId) (x : Operand) (ho : o.op = .load ty x)
    (g off : Nat) (hx : a.eval x = .pointer (some ⟨g, off, none⟩)) (t : TypeId) (cs vals : Array Value) (d : TypeDesc) (hB : Blk w g t cs)
    (hu : P.underlying ty = some d) (hd : (match d with | .struct _ | .array _ _ => true | _ => false) = true) (hi : (P.info? ty).map (·.size) = some vals.size)
    (hv : ∀ j v, vals.toList[j]? = some v → cs[off + j]? = some v)
    (h : wpList P ops Q rest (a.put o.dst (.agg vals)) w) : wpList P ops Q (o :: rest) a w :=
  wpList_plain hgd fun _ hK => by
    have hl : (loadCells ⟨g, off, none⟩ vals.toList.length).run P w = .ok vals.toList.toArray w :=
      run_loadCells_list (P := P) w ⟨g, off, none⟩ vals.toList (fun j v hj => by rw [add_off, hB.cell]; exact hv j v hj)
    have hrun : (loadVar ty ⟨g, off, none⟩).run P w = .ok (.agg vals) w := by
      cases hq : P.info? ty with
      | none => simp [hq] at hi
      | some i =>
        have he : i.size = vals.size := by simp [hq] at hi; omega
        have hagg : (isAgg ty).run P w = .ok true w := by
          unfold isAgg
          rw [Sem.run_bind, run_underlying hu w]
          cases d <;> simp_all
        simp only [Array.length_toList, Array.toArray_toList] at hl
        simp [loadVar, Sem.run_bind, hagg, sizeOf, typeInfo, hq, he, hl]
    unfold Oper.wp execOp
    simp only [ho, hx, Instr.loadAt, Instr.sureAddr, Sem.run_bind, Sem.run_pure, Result.andThen_ok, hrun]
    exact hK _ _ h
/-- The whole of a state's block is a result; beside it a number or a truth. -/
theorem results_row_tmp {fn : Func} {p q : Tmp} {ty : TypeId} (h : fn.results = #[.cell p ty, .tmp q]) (tmps : Array Value) (w : World) (g : Nat) (t : TypeId) (cs : Array Value) (d : TypeDesc)
    (hp : tmps.getD p undef = .pointer (some ⟨g, 0, none⟩)) (hB : Blk w g t cs)
    (hu : P.underlying ty = some d) (hd : (match d with | .struct _ | .array _ _ => true | _ => false) = true) (hi : (P.info? ty).map (·.size) = some cs.size) :
    (results fn tmps).run P w = .ok (.tuple #[.agg cs, tmps.getD q undef]) w := by
  have hp' : tmps[p]?.getD undef = .pointer (some ⟨g, 0, none⟩) := by simpa using hp
  simp [results, h, hp', asAddr, run_loadVar_row w g t ty cs (0, 0) d hB hu hd hi]
end
end Go.Proofs.Ytmghpoagpiljhaa
