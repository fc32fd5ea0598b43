/- A region that draws its order: reads are taken first, where what may come ahead of them keeps what they read; the rest comes up one by one. The same in a round of a loop over a function. -/
import Derived.Test.YtmghpoagpiljhaaDoorArr
import Derived.OrdersHeld
import Derived.OrdersIn
import Derived.TacticsIn
import Derived.RangeFuncCalls
set_option linter.unusedSimpArgs false
set_option linter.unusedVariables false
namespace Go.Proofs.YtmghpoagpiljhaaDoor
open Go Go.RowKit
section
variable {P : Program} {ops : Array Oper} {Q : Exit → Act → World → Prop} {md : Region.Mode} {S : World → Prop} {need : Nat → Bool}
/-- Every order is served; behind the operations that are marked, S holds. -/
def wpAnyN (P : Program) (md : Region.Mode) (ops : Array Oper) (Q : Exit → Act → World → Prop) (S : World → Prop) (need : Nat → Bool) : Nat → Array Bool → Act → World → Prop
  | 0, L, a, w => Region.ready md ops L = [] ∧ Q .normal a w
  | m + 1, L, a, w => (Region.ready md ops L = [] → Q .normal a w) ∧
    ∀ i ∈ Region.ready md ops L, wpOp P ops Q i (fun a' w' => (need i = true → S w') ∧ wpAnyN P md ops Q S need m (L.setIfInBounds i true) a' w') a w
theorem wpAny_of_N : ∀ (m : Nat) (L : Array Bool) (a : Act) (w : World), wpAnyN P md ops Q S need m L a w → wpAny P md ops Q m L a w
  | 0, _, _, _, h => h
  | m + 1, _, _, _, h => ⟨h.1, fun i hi => wpOp_mono (fun _ _ k => wpAny_of_N m _ _ _ k.2) (h.2 i hi)⟩
/-- Whoever is still to come and does not wait for number i is marked. -/
def needB (md : Region.Mode) (ops : Array Oper) (need : Nat → Bool) (L : Array Bool) (i : Nat) : Bool :=
  (List.range ops.size).all fun j => j == i || L.getD j true || need j || (ops[j]?).any fun o => o.after.any fun e => Region.binds md e && e.on == i
theorem needB_spec {i j : Nat} {o : Oper} {L : Array Bool} (h : needB md ops need L i = true) (hj : ops[j]? = some o) (hne : j ≠ i) (hun : L.getD j true = false) (hno : ∀ e ∈ o.after, Region.binds md e = true → e.on ≠ i) : need j = true := by
  have h1 := List.all_eq_true.1 h j (List.mem_range.2 (Array.getElem?_eq_some_iff.1 hj).1)
  simp only [hj, Option.any_some, Bool.or_eq_true, beq_iff_eq, hne, false_or, hun, Bool.false_eq_true] at h1
  rcases h1 with h1 | h1
  · exact h1
  · obtain ⟨e, he, hb⟩ := Array.any_eq_true'.1 h1
    simp only [Bool.and_eq_true, beq_iff_eq] at hb
    exact absurd hb.2 (hno e he hb.1)
theorem wpAnyN_first {S' : World → Prop} {i : Nat} {oi : Oper} {v : Value} (hi : ops[i]? = some oi) (hs : Region.noSelect ops = true) (hown : need i = true → ∀ w, S' w → S w)
    (hQ : ∀ c a w, Q (.panic c) (a.put oi.dst v) w → Q (.panic c) a w) : ∀ (m : Nat) (L : Array Bool) (a : Act) (w : World),
      (∀ j oj, ops[j]? = some oj → j ≠ i → L.getD j true = false → (∀ e ∈ oj.after, Region.binds md e = true → e.on ≠ i) → oi.apart ops oj = true ∧ ∀ w, (need j = true → S w) → S' w) →
      i ∈ Region.ready md ops L → YieldsIf P ops S' oi v a → S' w → wpAnyN P md ops Q S need m (L.setIfInBounds i true) (a.put oi.dst v) w → wpAnyN P md ops Q S need (m + 1) L a w := by
  intro m
  induction m with
  | zero =>
    intro L a w _ hr hy hS H
    refine ⟨fun h => (by rw [h] at hr; cases hr), fun j hj => ?_⟩
    by_cases e : j = i
    · subst e; exact hy.wpOp hi hS ⟨fun h => hown h _ hS, H⟩
    · have := ready_mono hj e
      rw [H.1] at this
      cases this
  | succ m ih =>
    intro L a w hfree hr hy hS H
    refine ⟨fun h => (by rw [h] at hr; cases hr), fun j hj => ?_⟩
    by_cases e : j = i
    · subst e; exact hy.wpOp hi hS ⟨fun h => hown h _ hS, H⟩
    · have k1 := H.2 j (ready_mono hj e)
      obtain ⟨hun, oj, hoj, hall⟩ := mem_ready.1 hj
      have hnot : ∀ x ∈ oj.after, Region.binds md x = true → x.on ≠ i := fun x hx hb he => by
        have a1 := hall x hx hb
        have a0 := (mem_ready.1 hr).1
        rw [he] at a1
        rcases Nat.lt_or_ge i L.size with h' | h'
        · simp [h'] at a0 a1; rw [a0] at a1; cases a1
        · simp [Array.getElem?_eq_none h'] at a1
      obtain ⟨hap, hSj⟩ := hfree j oj hoj e hun hnot
      have k2 := wpOp_putIf hoj hap (fun cs b => Region.noSelect_spec hs i oi cs b hi) (fun cs b => Region.noSelect_spec hs j oj cs b hoj) hQ hy k1
      refine wpOp_mono (fun a' w' k3 => ⟨k3.2.1, ih (L.setIfInBounds j true) a' w' ?_ (ready_mono hr (Ne.symm e)) k3.1 (hSj w' k3.2.1) ?_⟩) k2
      · intro k ok hk hki hu hno
        refine hfree k ok hk hki ?_ hno
        by_cases hjk : j = k
        · subst hjk; exact hun
        · rw [getD_set_ne true hjk] at hu; exact hu
      · rw [Array.setIfInBounds_comm _ _ e]
        exact k3.2.2
/-- Number i is taken first: it reads what the marked ones keep. -/
theorem wpAnyN_take (i : Nat) {oi : Oper} (d : Option Tmp) (v : Value) {m : Nat} {L : Array Bool} {a : Act} {w : World} (hi : ops[i]? = some oi) (hd : oi.dst = d) (hs : Region.noSelect ops = true) (hn : needB md ops need L i = true)
    (hf : Region.free md ops L i = true) (hr : (Region.ready md ops L).contains i = true) (hQ : ∀ c a w, Q (.panic c) (a.put d v) w → Q (.panic c) a w)
    (hw : Region.wanted oi (yielded ops a.tmps) = true) (hy : ∀ w, S w → (execOp a.eval oi).run P w = .ok (.value v) w) (hS : S w)
    (h : wpAnyN P md ops Q S need m (L.setIfInBounds i true) (a.put d v) w) : wpAnyN P md ops Q S need (m + 1) L a w := by
  subst hd
  exact wpAnyN_first (S' := S) hi hs (fun _ _ h => h) hQ m L a w (fun j oj h1 h2 h3 h4 => ⟨Region.free_spec hi hf j oj h1 h2 h3 h4, fun w k => k (needB_spec hn h1 h2 h3 h4)⟩) (by simpa using hr) (.inl ⟨hw, hy⟩) hS h
/-- Number i is taken first: it reads nothing. -/
theorem wpAnyN_free (i : Nat) {oi : Oper} (d : Option Tmp) (v : Value) {m : Nat} {L : Array Bool} {a : Act} {w : World} (hi : ops[i]? = some oi) (hd : oi.dst = d) (hs : Region.noSelect ops = true) (hn : need i = false)
    (hf : Region.free md ops L i = true) (hr : (Region.ready md ops L).contains i = true) (hQ : ∀ c a w, Q (.panic c) (a.put d v) w → Q (.panic c) a w)
    (hw : Region.wanted oi (yielded ops a.tmps) = true) (hy : ∀ w, (execOp a.eval oi).run P w = .ok (.value v) w)
    (h : wpAnyN P md ops Q S need m (L.setIfInBounds i true) (a.put d v) w) : wpAnyN P md ops Q S need (m + 1) L a w := by
  subst hd
  exact wpAnyN_first (S' := fun _ => True) hi hs (fun h => by rw [hn] at h; cases h) hQ m L a w (fun j oj h1 h2 h3 h4 => ⟨Region.free_spec hi hf j oj h1 h2 h3 h4, fun _ _ => trivial⟩) (by simpa using hr) (.inl ⟨hw, fun w _ => hy w⟩) trivial h
/-- What stands behind one operation. -/
def oneQ (Q : Exit → Act → World → Prop) (K : Act → World → Prop) : Exit → Act → World → Prop
  | .normal, a, w => K a w
  | e, a, w => Q e a w
/-- One operation alone may come up. -/
theorem wpAnyN_one (i : Nat) {oi : Oper} {m : Nat} {L : Array Bool} {a : Act} {w : World} (hi : ops[i]? = some oi) (hr : Region.ready md ops L = [i])
    (h : wpList P ops (oneQ Q fun a' w' => (need i = true → S w') ∧ wpAnyN P md ops Q S need m (L.setIfInBounds i true) a' w') [oi] a w) : wpAnyN P md ops Q S need (m + 1) L a w := by
  refine ⟨fun h0 => (by rw [hr] at h0; cases h0), fun j hj => ?_⟩
  rw [hr, List.mem_singleton] at hj
  subst hj
  unfold wpOp
  rw [hi]
  unfold wpList at h
  have hup : ∀ {K : Act → World → Prop}, Oper.wp P oi a w K (oneQ Q K) → Oper.wp P oi a w K Q := by
    intro K hK
    unfold Oper.wp at hK ⊢
    generalize (execOp a.eval oi).run P w = r at hK ⊢
    cases r with
    | ok n w' => cases n <;> exact hK
    | halt x w' => cases x <;> exact hK
  dsimp only
  by_cases hw : Region.wanted oi (yielded ops a.tmps) = true
  · rw [if_pos hw] at h ⊢
    rcases h with h | ⟨h1, h2⟩
    · exact .inl (hup (Oper.wp_mono (fun _ _ k => k) h))
    · exact .inr ⟨h1, h2⟩
  · rw [if_neg hw] at h ⊢
    exact h
theorem wpAnyN_done {m : Nat} {L : Array Bool} {a : Act} {w : World} (hr : Region.ready md ops L = []) (h : Q .normal a w) : wpAnyN P md ops Q S need m L a w := by
  cases m with
  | zero => exact ⟨hr, h⟩
  | succ m => exact ⟨fun _ => h, by rw [hr]; simp⟩
theorem wp_region_N {id : Nat} {a : Act} {w : World} (S : World → Prop) (need : Nat → Bool) (hm : P.follows .mixedOrders = true)
    (h : wpAnyN P .any ops Q S need ops.size (Array.replicate ops.size false) a w.drew) : (Code.region id ops true).wp P Q a w := wp_region_any hm (wpAny_of_N _ _ _ _ h)
theorem exec_row {w : World} {o : Oper} {ρ : Operand → Value} (ty : TypeId) (x : Operand) (ho : o.op = .load ty x)
    (g off : Nat) (hx : ρ x = .pointer (some ⟨g, off, none⟩)) (t : TypeId) (cs vals : Array Value) (d : TypeDesc) (hB : Blk w g t cs)
    (hu : P.underlying ty = some d) (hd : (match d with | .struct _ | .array _ _ => true | _ => false) = true) (hi : (P.info? ty).map (·.size) = some vals.size)
    (hv : ∀ j v, vals.toList[j]? = some v → cs[off + j]? = some v) : (execOp ρ o).run P w = .ok (.value (.agg vals)) w := by
  have hl : (loadCells ⟨g, off, none⟩ vals.toList.length).run P w = .ok vals.toList.toArray w :=
    run_loadCells_list (P := P) w ⟨g, off, none⟩ vals.toList (fun j v hj => by rw [add_off, hB.cell]; exact hv j v hj)
  have hrun : (loadVar ty ⟨g, off, none⟩).run P w = .ok (.agg vals) w := by
    cases hq : P.info? ty with
    | none => simp [hq] at hi
    | some i =>
      have he : i.size = vals.size := by simp [hq] at hi; omega
      have hagg : (isAgg ty).run P w = .ok true w := by
        unfold isAgg
        rw [Sem.run_bind, run_underlying hu w]
        cases d <;> simp_all
      simp only [Array.length_toList, Array.toArray_toList] at hl
      simp [loadVar, Sem.run_bind, hagg, sizeOf, typeInfo, hq, he, hl]
  unfold execOp
  simp only [ho, hx, Instr.loadAt, Instr.sureAddr, Sem.run_bind, Sem.run_pure, Result.andThen_ok, hrun]
theorem row_self (cs : Array Value) : ∀ j v, cs.toList[j]? = some v → cs[0 + j]? = some v := by
  intro j v hj; rw [Nat.zero_add]; simpa using hj
theorem exec_build {w : World} {o : Oper} {ρ : Operand → Value} (t : TypeId) (parts : Array (Nat × Operand)) (ho : o.op = .build t parts) (u : Value)
    (h : (Instr.build t (parts.map fun (i, x) => (i, ρ x))).run P w = .ok u w) : (execOp ρ o).run P w = .ok (.value u) w := by
  unfold execOp
  simp only [ho, Sem.run_bind, h, Result.andThen_ok, Sem.run_pure]
theorem wpList_built {rest : List Oper} {o : Oper} {a : Act} {w : World} (hgd : o.guard = none) (t : TypeId) (len : Nat) (parts : Array (Nat × Operand)) (ho : o.op = .buildSlice t len parts) (v : Value) (w' : World)
    (h : (Instr.buildSlice t len (parts.map fun (i, x) => (i, a.eval x))).run P w = .ok v w') (hk : wpList P ops Q rest (a.put o.dst v) w') : wpList P ops Q (o :: rest) a w :=
  wpList_plain hgd fun _ hK => by
    unfold Oper.wp execOp
    simp only [ho, Sem.run_bind, h, Result.andThen_ok, Sem.run_pure]
    exact hK _ _ hk
/-! ### in a round -/
def noDefer (ops : Array Oper) : Bool := ops.all fun o => !(match o.op with | .defer _ => true | _ => false)
theorem noDefer_spec (h : noDefer ops = true) {i : Nat} {o : Oper} (hi : ops[i]? = some o) : ∀ c, o.op ≠ .defer c := by
  intro c e
  have := Array.all_eq_true_iff_forall_mem.1 h o (Array.mem_of_getElem? hi)
  rw [e] at this
  cases this
theorem rowsIn_round {l n : Nat} {row : String} {args : Array Value} {w : World} {R : Value → World → Prop} (h : Rows P row args w R) : RowsIn (Fence.wide.inRound l) n P row args w R :=
  fun c cs _ => let ⟨v, w', r, s⟩ := h c cs; ⟨v, w', r, stepsIn_wide.2 s⟩
theorem wpIn_round {l n : Nat} {o : Oper} {a : Act} {w : World} {K : Act → World → Prop} (hd : ∀ c, o.op ≠ .defer c) (h : o.wp P a w K Q) : o.wpIn (Fence.wide.inRound l) n P a w K Q := by
  refine ⟨fun _ _ => trivial, ?_⟩
  rw [show (Fence.wide.inRound l).round = some l from rfl, Oper.semAt_some l a.eval o hd]
  unfold Oper.wp at h
  generalize (execOp a.eval o).run P w = r at h ⊢
  cases r with
  | ok x w' =>
    cases x with
    | value v => exact h
    | skip => exact h
    | defer d => exact h
    | enter f args => exact ⟨fun e => (by cases e), CallsIn.inRound l (callsIn_wide.2 h)⟩
    | row row args => exact ⟨fun e => (by cases e), rowsIn_round h⟩
    | round => exact h.elim
    | _ => exact h.elim
  | halt x w' => cases x <;> exact h
theorem wpAnyIn_of {l n : Nat} (hd : noDefer ops = true) (hL : ¬ LetsOut Q) : ∀ (m : Nat) (L : Array Bool) (a : Act) (w : World), wpAny P md ops Q m L a w → wpAnyIn (Fence.wide.inRound l) n P md ops Q m L a w
  | 0, _, _, _, h => h
  | m + 1, L, a, w, h => ⟨h.1, fun i hi => by
    have h2 := wpOp_mono (fun a' w' k => wpAnyIn_of (l := l) (n := n) hd hL m (L.setIfInBounds i true) a' w' k) (h.2 i hi)
    unfold wpOp at h2
    unfold wpOpIn
    cases ho : ops[i]? with
    | none => rw [ho] at h2; exact h2
    | some o =>
      rw [ho] at h2
      dsimp only at h2 ⊢
      by_cases hw : Region.wanted o (yielded ops a.tmps) = true
      · rw [if_pos hw] at h2 ⊢
        rcases h2 with h2 | ⟨_, h2⟩
        · exact wpIn_round (noDefer_spec hd ho) h2
        · exact absurd h2 hL
      · rw [if_neg hw] at h2 ⊢
        exact ⟨fun _ _ => trivial, h2⟩⟩
theorem wpIn_region_N {l n id : Nat} {a : Act} {w : World} (S : World → Prop) (need : Nat → Bool) (hm : P.follows .mixedOrders = true) (hd : noDefer ops = true) (hL : ¬ LetsOut Q)
    (h : wpAnyN P .any ops Q S need ops.size (Array.replicate ops.size false) a w.drew) : (Code.region id ops true).wpIn (Fence.wide.inRound l) n P Q a w := wpIn_region_any hm (wpAnyIn_of hd hL _ _ _ _ (wpAny_of_N _ _ _ _ h))
end
end Go.Proofs.YtmghpoagpiljhaaDoor
