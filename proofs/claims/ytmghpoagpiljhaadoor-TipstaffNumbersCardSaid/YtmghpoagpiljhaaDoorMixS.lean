/- A region that draws its order, as in Mix; some operations of its head ('late'), that may read what the first store leaves as it is, may come up behind that store. -/
import Derived.Test.YtmghpoagpiljhaaDoorMix
namespace Go.Proofs.YtmghpoagpiljhaaDoor
open Go Go.RowKit
/-- A world under S. -/
structure Under (S : World → Prop) where
  w : World
  is : S w
section
variable {P : Program} {ops : Array Oper} {w0 : World} {S : World → Prop}
/-- One operation that only reads. -/
def readUpon (w : World) (v : Value) : Result Next → Prop
  | .ok (.value u) w' => w' = w ∧ u = v
  | .ok .skip w' => w' = w ∧ v = undef
  | _ => False
def readAt (P : Program) (o : Oper) (ρ : Operand → Value) (w : World) (v : Value) : Prop := readUpon w v ((execOp ρ o).run P w)
/-- As wpMix; of a late operation the value is shown in every world under S. -/
def wpMixS (P : Program) (ops : Array Oper) (w0 : World) (S : World → Prop) (late : Nat → Bool) (Q : Act → Prop) : Nat → List Oper → Act → Prop
  | _, [], a => Q a
  | k, o :: rest, a =>
    match isAlloc o with
    | some _ => o.guard = none ∧ wpMixS P ops w0 S late Q (k + 1) rest (a.put o.dst undef)
    | none => if Region.wanted o (yielded ops a.tmps) then ∃ v, (∀ g : Later w0, mixAt P o a.eval g.w v) ∧ (late k = true → ∀ g : Under S, readAt P o a.eval g.w v) ∧ wpMixS P ops w0 S late Q (k + 1) rest (a.put o.dst v) else wpMixS P ops w0 S late Q (k + 1) rest (a.put o.dst undef)
/-- Of the late ones: no guard, no new block, the store looks at none of their slots. -/
def lateSB (ops : Array Oper) (n : Nat) (late : Nat → Bool) : Bool :=
  (match ops[n]? with | none => false | some st => st.guard.isNone && st.dst.isNone && (isAlloc st).isNone && (match st.op with | .store .. => true | _ => false) &&
    (List.range n).all fun i => !late i || match ops[i]? with
      | none => false
      | some oi => oi.guard.isNone && (isAlloc oi).isNone && (match oi.dst with | none => true | some d => !(st.looksAt ops).contains d)) &&
  (decide (n + 1 = ops.size) || Region.sinkB .any ops (n + 1))
def sinkSB (ops : Array Oper) (n : Nat) (late : Nat → Bool) : Bool :=
  (List.range n).all fun i => late i || (List.range (n + 1)).any fun j => decide (i < j) && Region.waitsFor .any ops j i && (decide (j = n) || !late j)
def mixSB (ops : Array Oper) (n : Nat) (late : Nat → Bool) : Bool :=
  Region.noSelect ops && decide (n < ops.size) && (sinkSB ops n late && Region.chainB .any ops n) &&
    Region.seqB .any ops (ops.size - n) n (Array.replicate n true ++ Array.replicate (ops.size - n) false) && headB ops n && lateSB ops n late
theorem tail_waitsS {n : Nat} {late : Nat → Bool} {listed : Array Bool} (hs : sinkSB ops n late = true) (hc : Region.chainB .any ops n = true) (hn : n < ops.size) (inv : HeadInv .any ops n listed) :
    ∀ (d i : Nat), n - i = d → i < n → late i = false → listed.getD i true = false → ∀ t, n ≤ t → t ∉ Region.ready .any ops listed := by
  intro d
  induction d using Nat.strongRecOn with
  | _ d ih =>
    intro i hd hi hli hun t ht hr
    obtain ⟨_, ot, hot, hall⟩ := mem_ready.1 hr
    have htlt : t < ops.size := (Array.getElem?_eq_some_iff.1 hot).1
    by_cases htn : t = n
    · subst htn
      have h1 := List.all_eq_true.1 hs i (List.mem_range.2 hi)
      rw [hli, Bool.false_or] at h1
      obtain ⟨j, hj, hj2⟩ := List.any_eq_true.1 h1
      simp only [Bool.and_eq_true, decide_eq_true_eq, Bool.or_eq_true, Bool.not_eq_true'] at hj2
      obtain ⟨oj, hoj, e, he, hb, hon⟩ := Region.waitsFor_spec hj2.1.2
      have hjle : j ≤ t := by have := List.mem_range.1 hj; omega
      by_cases hjt : j = t
      · subst hjt
        have : oj = ot := Option.some.inj (hoj.symm.trans hot)
        subst this
        have h2 := hall e he hb
        rw [hon, getD_both hun] at h2
        cases h2
      · cases hl : listed.getD j false with
        | true =>
          have h2 := inv.closed j oj hoj hl e he hb
          rw [hon, getD_both hun] at h2
          cases h2
        | false =>
          have hjs : j < listed.size := by rw [inv.size]; omega
          exact ih (t - j) (by omega) j rfl (by omega) (hj2.2.resolve_left hjt) (getD_in hjs hl) t (Nat.le_refl _) hr
    · have h1 := List.all_eq_true.1 hc t (List.mem_range.2 htlt)
      simp only [Bool.or_eq_true, decide_eq_true_eq] at h1
      rcases h1 with h1 | h1
      · omega
      · obtain ⟨o', ho', e, he, hb, hon⟩ := Region.waitsFor_spec h1
        have : o' = ot := Option.some.inj (ho'.symm.trans hot)
        subst this
        have h2 := hall e he hb
        rw [hon, getD_both (inv.tail (t - 1) (by omega) (by omega))] at h2
        cases h2
theorem mix_valsS {late : Nat → Bool} {Q : Act → Prop} : ∀ (l : List Oper) (k : Nat) (a : Act), wpMixS P ops w0 S late Q k l a →
    ∃ V : Nat → Value, (∀ i o, l[i]? = some o → Good P ops w0 o (canon (ent l V (fun j => decide (j < k + i)) k) a) (V (k + i))) ∧ Q (canon (ent l V (fun _ => true) k) a) ∧ (∀ i o t, l[i]? = some o → isAlloc o = some t → V (k + i) = undef) ∧
      (∀ i o, l[i]? = some o → late (k + i) = true → o.guard = none → isAlloc o = none → ∀ g : Under S, readAt P o (canon (ent l V (fun j => decide (j < k + i)) k) a).eval g.w (V (k + i)))
  | [], _, _, h => ⟨fun _ => undef, fun i o ho => by simp at ho, h, fun i o t ho => by simp at ho, fun i o ho => by simp at ho⟩
  | o :: l, k, a, h => by
    have key : ∃ v, Good P ops w0 o a v ∧ (∀ t, isAlloc o = some t → v = undef) ∧ (late k = true → o.guard = none → isAlloc o = none → ∀ g : Under S, readAt P o a.eval g.w v) ∧ wpMixS P ops w0 S late Q (k + 1) l (a.put o.dst v) := by
      unfold wpMixS at h
      unfold Good
      cases hal : isAlloc o with
      | some t => rw [hal] at h; exact ⟨undef, h.1, fun _ _ => rfl, fun _ _ h => (by cases h), h.2⟩
      | none =>
        rw [hal] at h
        simp only at h
        by_cases hw : Region.wanted o (yielded ops a.tmps) = true
        · rw [if_pos hw] at h
          obtain ⟨v, h1, h2, h3⟩ := h
          exact ⟨v, by simp only; rw [if_pos hw]; exact h1, fun t ht => (by cases ht), fun hl _ _ => h2 hl, h3⟩
        · rw [if_neg hw] at h
          exact ⟨undef, by simp [hw], fun _ _ => rfl, fun _ hg _ => absurd (by simp [Region.wanted, hg]) hw, h⟩
    obtain ⟨v, hg, hu, hp, hrest⟩ := key
    obtain ⟨V, h1, h2, h3, h4⟩ := mix_valsS l (k + 1) _ hrest
    have hV : ∀ (B : Nat → Bool), ent l (fun j => if j = k then v else V j) B (k + 1) = ent l V B (k + 1) := fun B =>
      ent_congr _ _ _ _ _ _ fun i _ => ⟨by show (if k + 1 + i = k then v else V (k + 1 + i)) = _; rw [if_neg (by omega)], rfl⟩
    refine ⟨fun j => if j = k then v else V j, ?_, ?_, ?_, ?_⟩
    · intro i o' ho'
      cases i with
      | zero =>
        simp only [List.getElem?_cons_zero, Option.some.injEq] at ho'
        subst ho'
        have e : (fun j => if j = k then v else V j) (k + 0) = v := by simp
        rw [canon_none _ _ _ _ _ (fun i _ => by simp), e]
        exact hg
      | succ i =>
        simp only [List.getElem?_cons_succ] at ho'
        have := h1 i o' ho'
        simp only [ent, canon, hV, if_true]
        rw [if_pos (by simp), if_neg (by omega)]
        simpa only [show k + (i + 1) = k + 1 + i by omega] using this
    · simp only [ent, canon, hV, if_true]
      exact h2
    · intro i o' t ho' ht
      cases i with
      | zero =>
        simp only [List.getElem?_cons_zero, Option.some.injEq] at ho'
        subst ho'
        simp only [Nat.add_zero, if_true]
        exact hu t ht
      | succ i =>
        simp only [List.getElem?_cons_succ] at ho'
        have := h3 i o' t ho' ht
        simp only [show k + (i + 1) = k + 1 + i by omega]
        rw [if_neg (by omega)]
        exact this
    · intro i o' ho' hl hgd hal w
      cases i with
      | zero =>
        simp only [List.getElem?_cons_zero, Option.some.injEq] at ho'
        subst ho'
        have e : (fun j => if j = k then v else V j) (k + 0) = v := by simp
        rw [canon_none _ _ _ _ _ (fun i _ => by simp), e]
        exact hp hl hgd hal w
      | succ i =>
        simp only [List.getElem?_cons_succ] at ho'
        have := h4 i o' ho' (by simpa only [show k + (i + 1) = k + 1 + i by omega] using hl) hgd hal w
        simp only [ent, canon, hV, if_true]
        rw [if_pos (by simp), if_neg (by omega)]
        simpa only [show k + (i + 1) = k + 1 + i by omega] using this
section
variable {l : List Oper} {n : Nat} {a0 : Act} {V : Nat → Value} {Z : TypeId → Array Value} {Q : Exit → Act → World → Prop} {late : Nat → Bool}
theorem chainB_succ {n : Nat} (h : Region.chainB .any ops n = true) : Region.chainB .any ops (n + 1) = true := by
  unfold Region.chainB at *
  refine List.all_eq_true.2 fun t ht => ?_
  have := List.all_eq_true.1 h t ht
  simp only [Bool.or_eq_true, decide_eq_true_eq] at this ⊢
  rcases this with h | h
  · exact .inl (by omega)
  · exact .inr h
theorem canon_step (hhead : headB l.toArray n = true) {G : Nat → Nat} {listed : Array Bool} (hsz : l.length ≤ listed.size) {i : Nat} {o : Oper} (hin : i < n) (ho : l[i]? = some o) (v : Value) (hv : val (l.take n) V G i = v) :
    (canon (ent (l.take n) (val (l.take n) V G) (fun j => listed.getD j false) 0) a0).put o.dst v = canon (ent (l.take n) (val (l.take n) V G) (fun j => (listed.setIfInBounds i true).getD j false) 0) a0 := by
  have hot : (l.take n)[i]? = some o := by rwa [List.getElem?_take_of_lt hin]
  have hset := canon_set (ent (l.take n) (val (l.take n) V G) (fun j => listed.getD j false) 0) i o.dst v (val (l.take n) V G i) (listed.getD i false) a0
    (by rw [ent_at, hot]; simp) (fun k x hx hki t ht => by
      rw [ent_at] at hx
      cases hk : (l.take n)[k]? with
      | none => rw [hk] at hx; cases hx
      | some ok =>
        rw [hk] at hx
        simp only [Option.map_some, Option.some.injEq, Nat.zero_add] at hx
        subst hx
        have hkn : k < n := by
          have := (List.getElem?_eq_some_iff.1 hk).1
          simp at this
          omega
        have hlk : l[k]? = some ok := by rwa [List.getElem?_take_of_lt hkn] at hk
        exact ((head_spec hhead hin ho).2 k ok hkn hlk t ht).2 (fun e => hki e.symm))
  rw [hset, ← hv]
  congr 1
  refine ent_set hot (fun j hj => rfl) (fun j hj => getD_set_ne false (fun e => hj e.symm)) ?_
  have h1 := (List.getElem?_eq_some_iff.1 ho).1
  have : i < listed.size := by omega
  simp [this]
/-- Behind the store: only late ones are left, in one world. -/
theorem mix_late {G : Nat → Nat} (hsel : Region.noSelect l.toArray = true) (hnlt : n < l.length) (hc : Region.chainB .any l.toArray n = true)
    (hsk : n + 1 = l.length ∨ Region.sinkB .any l.toArray (n + 1) = true)
    (hseq : Region.seqB .any l.toArray (l.length - n) n (Array.replicate n true ++ Array.replicate (l.length - n) false) = true) (hhead : headB l.toArray n = true)
    (hlate : ∀ i o, i < n → l[i]? = some o → late i = true → o.guard = none ∧ isAlloc o = none)
    (hread : ∀ i o, (l.take n)[i]? = some o → late i = true → o.guard = none → isAlloc o = none → ∀ g : Under S, readAt P o (canon (ent (l.take n) V (fun j => decide (j < i)) 0) a0).eval g.w (V i)) :
    ∀ f listed a' w', a' = canon (ent (l.take n) (val (l.take n) V G) (fun j => listed.getD j false) 0) a0 → HeadInv .any l.toArray (n + 1) listed → listed.getD n false = true →
      (∀ i, i < n → listed.getD i true = false → late i = true) → S w' → wpList P l.toArray Q (l.drop (n + 1)) (canon (ent (l.take n) (val (l.take n) V G) (fun _ => true) 0) a0) w' →
      left listed (n + 1) = f → wpAny P .any l.toArray Q (f + (l.length - (n + 1))) listed a' w' := by
  intro f
  induction f with
  | zero =>
    intro listed a' w' hfr inv hst hun hS hend hf
    have hz := left_zero (n + 1) hf
    have hsz : listed.size = l.length := by rw [inv.size]; simp
    have hz' : ∀ j, j < n + 1 → listed.getD j false = true := fun j hj => by
      have h1 := hz j hj
      have h2 : j < listed.size := by omega
      simp [h2] at h1 ⊢; exact h1
    have hlisted : listed = (Array.replicate n true ++ Array.replicate (l.length - n) false).setIfInBounds n true := by
      apply Array.ext
      · rw [hsz]; simp; omega
      · intro i h1 h2
        by_cases hi : i < n + 1
        · have h3 := hz' i hi
          have h4 : listed[i] = true := by simpa [h1] using h3
          rw [h4]
          by_cases e : n = i
          · subst e; simp
          · rw [Array.getElem_setIfInBounds_ne (by simpa using h2) e]
            rw [Array.getElem_append_left (by simp; omega)]
            simp
        · have h3 := inv.tail i (by omega) (by simpa using (by omega : i < l.length))
          have h4 : listed[i] = false := by simpa [h1] using h3
          rw [h4, Array.getElem_setIfInBounds_ne (by simpa using h2) (by omega), Array.getElem_append_right (by simp; omega)]
          simp
    have hfr' : a' = canon (ent (l.take n) (val (l.take n) V G) (fun _ => true) 0) a0 := by
      rw [hfr]
      congr 1
      apply ent_congr
      intro i hi
      have : i < n := by simp at hi; omega
      exact ⟨rfl, by simpa using hz' i (by omega)⟩
    rw [← hfr'] at hend
    have hdl : (l.drop (n + 1)).length = l.length - (n + 1) := by simp
    rw [show l.length - n = (l.length - (n + 1)) + 1 by omega] at hseq
    simp only [Region.seqB, Bool.and_eq_true] at hseq
    have hs2 := hseq.2
    rw [← show l.length - n = (l.length - (n + 1)) + 1 by omega, ← hlisted] at hs2
    have := wpAny_of_seq (P := P) (md := .any) (ops := l.toArray) (Q' := Q) (l.drop (n + 1)) (n + 1) listed a' w' (fun j => by simp [List.getElem?_drop]) (by rw [hdl]; exact hs2) hend
    rwa [hdl, ← Nat.zero_add (l.length - (n + 1))] at this
  | succ f ih =>
    intro listed a' w' hfr inv hst hun hS hend hf
    have hsz : listed.size = l.length := by rw [inv.size]; simp
    rw [show f + 1 + (l.length - (n + 1)) = (f + (l.length - (n + 1))) + 1 by omega]
    obtain ⟨i0, hi0, hun0, hbefore⟩ := left_some (n + 1) (by omega : left listed (n + 1) ≠ 0)
    have hst' : listed.getD n true = true := by
      have h2 : n < listed.size := by omega
      simp [h2] at hst ⊢; exact hst
    have hi0n : i0 < n := by
      rcases Nat.lt_or_ge i0 n with h | h
      · exact h
      · have : i0 = n := by omega
        subst this; rw [hst'] at hun0; cases hun0
    have hready : i0 ∈ Region.ready .any l.toArray listed := by
      obtain ⟨o0, ho0⟩ : ∃ o, l[i0]? = some o := ⟨_, List.getElem?_eq_getElem (by omega)⟩
      refine mem_ready.2 ⟨hun0, o0, by rw [List.getElem?_toArray]; exact ho0, fun e he hb => ?_⟩
      have hlt := (head_spec hhead hi0n ho0).1 e he hb
      have h1 := hbefore e.on hlt
      have h2 : e.on < listed.size := by omega
      simp [h2] at h1 ⊢; exact h1
    refine ⟨fun h => (by rw [h] at hready; cases hready), fun i hr => ?_⟩
    have hin1 : i < n + 1 := by
      rcases Nat.lt_or_ge i (n + 1) with h | h
      · exact h
      · rcases hsk with h0 | hs
        · obtain ⟨_, o, ho, _⟩ := mem_ready.1 hr
          have := (Array.getElem?_eq_some_iff.1 ho).1
          simp at this; omega
        · rcases Nat.eq_or_lt_of_le (show n + 1 ≤ l.length by omega) with h0 | h0
          · obtain ⟨_, o, ho, _⟩ := mem_ready.1 hr
            have := (Array.getElem?_eq_some_iff.1 ho).1
            simp at this; omega
          · exact absurd hr (tail_waits hs (chainB_succ hc) (by simpa using h0) inv _ i0 rfl hi0 hun0 i h)
    obtain ⟨hunl, o, ho, hall⟩ := mem_ready.1 hr
    have hin : i < n := by
      rcases Nat.lt_or_ge i n with h | h
      · exact h
      · have : i = n := by omega
        subst this; rw [hst'] at hunl; cases hunl
    rw [List.getElem?_toArray] at ho
    have hot : (l.take n)[i]? = some o := by rwa [List.getElem?_take_of_lt hin]
    have hsl : ∀ cs b, o.op ≠ .select cs b := fun cs b => Region.noSelect_spec hsel i o cs b (by rw [List.getElem?_toArray]; exact ho)
    have hlook : ∀ t ∈ o.looksAt l.toArray, a'.tmps[t]? = (canon (ent (l.take n) V (fun j => decide (j < i)) 0) a0).tmps[t]? := fun t ht => by
      rw [hfr]; exact agree hhead (Nat.le_of_lt hnlt) hin ho hr ht
    have hex := execOp_of_look hsl hlook
    have hli := hun i hin hunl
    obtain ⟨hguard, hal⟩ := hlate i o hin ho hli
    have hcount : left (listed.setIfInBounds i true) (n + 1) = f := by
      have := left_set hunl (n + 1) (by omega)
      omega
    have hvi : val (l.take n) V G i = V i := by unfold val; rw [hot]; simp [hal]
    have hnext : wpAny P .any l.toArray Q (f + (l.length - (n + 1))) (listed.setIfInBounds i true) (a'.put o.dst (V i)) w' := by
      refine ih (listed.setIfInBounds i true) _ w' ?_ (inv.set hr (by omega)) ?_ (fun j hj h => hun j hj ?_) hS hend hcount
      · rw [hfr]
        exact canon_step hhead (by omega) hin ho _ hvi
      · rw [getD_set_ne false (by omega)]; exact hst
      · by_cases e : i = j
        · subst e
          have : i < listed.size := by omega
          simp [this] at h
        · rwa [getD_set_ne true e] at h
    unfold wpOp
    simp only [List.getElem?_toArray, ho]
    rw [if_pos (by simp [Region.wanted, hguard])]
    refine .inl ?_
    have h3 := hread i o hot hli hguard hal ⟨w', hS⟩
    unfold readAt at h3
    rw [← hex] at h3
    unfold Oper.wp
    generalize (execOp a'.eval o).run P w' = r at *
    cases r with
    | ok nx w'' =>
      cases nx <;> simp only [readUpon] at h3 <;> simp only [Oper.upon]
      case value u =>
        obtain ⟨e1, e2⟩ := h3
        rw [e1, e2]
        exact hnext
      case skip =>
        obtain ⟨e1, e2⟩ := h3
        rw [e1, ← e2]
        exact hnext
    | halt x w'' => simp only [readUpon] at h3
theorem mix_mainS (hB : mixSB l.toArray n late = true) {st : Oper} (hst : l[n]? = some st)
    (hread : ∀ i o, (l.take n)[i]? = some o → late i = true → o.guard = none → isAlloc o = none → ∀ g : Under S, readAt P o (canon (ent (l.take n) V (fun j => decide (j < i)) 0) a0).eval g.w (V i))
    (hgood : ∀ i o, (l.take n)[i]? = some o → Good P l.toArray w0 o (canon (ent (l.take n) V (fun j => decide (j < i)) 0) a0) (V i))
    (hA : ∀ o t, o ∈ l.take n → isAlloc o = some t → ∀ ρ w, (execOp ρ o).run P w = .ok (.value (.pointer (some ⟨w.heap.size, 0, none⟩))) (w.alloc (.cells (Z t) t)))
    (hend : ∀ G w', Grows w0 w' → (∀ i t, ((l.take n)[i]?).bind isAlloc = some t → Blk w' (G i) t (Z t) ∧ w0.heap.size ≤ G i) →
      (∀ i j t u, ((l.take n)[i]?).bind isAlloc = some t → ((l.take n)[j]?).bind isAlloc = some u → i ≠ j → G i ≠ G j) →
      wpList P l.toArray (Exit.then (fun a w => a = canon (ent (l.take n) (val (l.take n) V G) (fun _ => true) 0) a0 ∧ S w ∧ wpList P l.toArray Q (l.drop (n + 1)) a w) (fun _ _ _ => False)) [st] (canon (ent (l.take n) (val (l.take n) V G) (fun _ => true) 0) a0) w') :
    ∀ f listed G a' w', MixInv l.toArray n (l.take n) w0 a0 V Z listed G a' w' → left listed n = f → wpAny P .any l.toArray Q (f + (l.length - n)) listed a' w' := by
  simp only [mixSB, Bool.and_eq_true, decide_eq_true_eq, List.size_toArray] at hB
  obtain ⟨⟨⟨⟨⟨hsel, hnlt⟩, hs, hc⟩, hseq⟩, hhead⟩, hlb⟩ := hB
  have hn : n ≤ l.length := Nat.le_of_lt hnlt
  unfold lateSB at hlb
  simp only [List.getElem?_toArray, hst, Bool.and_eq_true, Bool.or_eq_true, decide_eq_true_eq, List.size_toArray] at hlb
  obtain ⟨⟨⟨⟨⟨hsg, hsd⟩, hsa⟩, hstore⟩, hlt⟩, hsk⟩ := hlb
  have hsg : st.guard = none := by simpa using hsg
  have hsd : st.dst = none := by simpa using hsd
  have hlate : ∀ i o, i < n → l[i]? = some o → late i = true → o.guard = none ∧ isAlloc o = none := fun i o hi ho hl => by
    have h1 := List.all_eq_true.1 hlt i (List.mem_range.2 hi)
    simp only [hl, Bool.not_true, Bool.false_or, ho, Bool.and_eq_true] at h1
    exact ⟨by simpa using h1.1.1, by simpa using h1.1.2⟩
  have hapart : ∀ i o d, i < n → l[i]? = some o → late i = true → o.dst = some d → d ∉ st.looksAt l.toArray := fun i o d hi ho hl hd => by
    have h1 := List.all_eq_true.1 hlt i (List.mem_range.2 hi)
    simp only [hl, Bool.not_true, Bool.false_or, ho, Bool.and_eq_true, hd] at h1
    intro hm
    have h2 := h1.2
    simp at h2
    exact h2 hm
  have storeUp : ∀ listed G a' w' F, MixInv l.toArray n (l.take n) w0 a0 V Z listed G a' w' → n ∈ Region.ready .any l.toArray listed → F = left listed n + (l.length - (n + 1)) →
      wpOp P l.toArray Q n (wpAny P .any l.toArray Q F (listed.setIfInBounds n true)) a' w' := by
    intro listed G a' w' F inv hr hF
    have hls : listed.size = l.length := by rw [inv.head.size]; simp
    have hun : ∀ i, i < n → listed.getD i true = false → late i = true := fun i hi hu => by
      cases hl : late i with
      | true => rfl
      | false => exact absurd hr (tail_waitsS hs hc (by simpa using hnlt) inv.head _ i rfl hi hl hu n (Nat.le_refl _))
    have hup : ∀ i, i < n → listed.getD i false = true ∨ late i = true := fun i hi => by
      cases hl : listed.getD i true with
      | true =>
        have h2 : i < listed.size := by omega
        left
        simp [h2] at hl ⊢; exact hl
      | false => exact .inr (hun i hi hl)
    have hltn : ∀ i t, ((l.take n)[i]?).bind isAlloc = some t → ∃ o, i < n ∧ l[i]? = some o ∧ isAlloc o = some t := by
      intro i t h
      cases hx : (l.take n)[i]? with
      | none => rw [hx] at h; cases h
      | some o =>
        rw [hx] at h
        have h1 := (List.getElem?_eq_some_iff.1 hx).1
        have h2 : i < n := by simp at h1; omega
        exact ⟨o, h2, by rwa [List.getElem?_take_of_lt h2] at hx, h⟩
    have hall : ∀ i t, ((l.take n)[i]?).bind isAlloc = some t → listed.getD i false = true := by
      intro i t h
      obtain ⟨o, hi, ho, ha⟩ := hltn i t h
      rcases hup i hi with h1 | h1
      · exact h1
      · rw [(hlate i o hi ho h1).2] at ha; cases ha
    have hfin := hend G w' inv.grows (fun i t h => inv.blks i t (hall i t h) h) (fun i j t u h1 h2 => inv.dist i j t u (hall i t h1) (hall j u h2) h1 h2)
    unfold wpList at hfin
    rw [if_pos (by simp [Region.wanted, hsg])] at hfin
    rcases hfin with hfin | ⟨_, _, _, h⟩
    case inr => exact h.elim
    have hsl : ∀ cs b, st.op ≠ .select cs b := fun cs b => Region.noSelect_spec hsel n st cs b (by rw [List.getElem?_toArray]; exact hst)
    have hlook : ∀ t ∈ st.looksAt l.toArray, a'.tmps[t]? = (canon (ent (l.take n) (val (l.take n) V G) (fun _ => true) 0) a0).tmps[t]? := fun t ht => by
      rw [inv.frame]
      refine look_canon _ _ _ _ (by rw [ent_len, ent_len]) rfl (fun k x y hx hy => ?_)
      rw [ent_at] at hx hy
      cases hk : (l.take n)[k]? with
      | none => rw [hk] at hx; cases hx
      | some ok =>
        rw [hk] at hx hy
        simp only [Option.map_some, Option.some.injEq, Nat.zero_add] at hx hy
        subst hx; subst hy
        refine ⟨rfl, fun hd => ?_⟩
        have hkn : k < n := by
          have := (List.getElem?_eq_some_iff.1 hk).1
          simp at this
          omega
        have hlk : l[k]? = some ok := by rwa [List.getElem?_take_of_lt hkn] at hk
        rcases hup k hkn with h1 | h1
        · simp only [h1]
        · exact absurd ht (hapart k ok t hkn hlk h1 hd)
    have hex := execOp_of_look hsl hlook
    have hfr : a' = canon (ent (l.take n) (val (l.take n) V G) (fun j => (listed.setIfInBounds n true).getD j false) 0) a0 := by
      rw [inv.frame]
      congr 1
      apply ent_congr
      intro i hi
      have : i < n := by simp at hi; omega
      refine ⟨rfl, ?_⟩
      simp only [Nat.zero_add]
      rw [getD_set_ne false (by omega)]
    have hgo : ∀ w'', S w'' → wpList P l.toArray Q (l.drop (n + 1)) (canon (ent (l.take n) (val (l.take n) V G) (fun _ => true) 0) a0) w'' → wpAny P .any l.toArray Q F (listed.setIfInBounds n true) a' w'' := by
      intro w'' hS hl
      rw [hF]
      have hinv1 : HeadInv .any l.toArray (n + 1) listed := ⟨inv.head.size, inv.head.closed, fun t h1 h2 => inv.head.tail t (by omega) h2⟩
      refine mix_late (V := V) (G := G) hsel hnlt hc hsk hseq hhead hlate hread (left listed n) (listed.setIfInBounds n true) a' w'' hfr (hinv1.set hr (by omega)) ?_ (fun i hi h => hun i hi ?_) hS hl ?_
      · have : n < listed.size := by omega
        simp [this]
      · rwa [getD_set_ne true (by omega)] at h
      · simp only [left]
        rw [left_same n (fun j hj => getD_set_ne true (by omega))]
        have : n < listed.size := by omega
        simp [this]
    unfold wpOp
    simp only [List.getElem?_toArray, hst]
    rw [if_pos (by simp [Region.wanted, hsg])]
    refine .inl ?_
    unfold Oper.wp at hfin ⊢
    rw [hex]
    generalize (execOp (canon (ent (l.take n) (val (l.take n) V G) (fun _ => true) 0) a0).eval st).run P w' = r at *
    cases r with
    | ok nx w'' =>
      cases nx <;> simp only [Oper.upon, hsd, Act.put, wpList, Exit.then] at hfin ⊢
      case value u => exact hgo _ hfin.2.1 hfin.2.2
      case skip => exact hgo _ hfin.2.1 hfin.2.2
      case defer d =>
        have := congrArg (fun a : Act => a.defers.length) hfin.1
        simp at this
      case enter fn args =>
        exact hfin.mono fun e w3 he => by
          cases e with
          | returned v => exact hgo _ he.2.1 he.2.2
          | panicked c => exact he.elim
          | outgrown => obtain ⟨_, _, h⟩ := he; exact h.elim
      case row r args => exact hfin.mono fun v w3 he => hgo _ he.2.1 he.2.2
    | halt x w'' => cases x <;> simp only [Oper.upon, Exit.then] at hfin
  intro f
  induction f with
  | zero =>
    intro listed G a' w' inv hf
    have hz := left_zero n hf
    have hls : listed.size = l.length := by rw [inv.head.size]; simp
    have hl2 : listed = Array.replicate n true ++ Array.replicate (l.length - n) false := by
      apply Array.ext
      · rw [hls]; simp; omega
      · intro i h1 h2
        by_cases hi : i < n
        · have := hz i hi
          rw [Array.getElem_append_left (by simpa using hi)]
          simpa [h1] using this
        · have := inv.head.tail i (by omega) (by simpa using (by omega : i < l.length))
          rw [Array.getElem_append_right (by simpa using (by omega : n ≤ i))]
          simpa [h1] using this
    have h2 := hseq
    rw [show l.length - n = (l.length - (n + 1)) + 1 by omega] at h2
    simp only [Region.seqB, Bool.and_eq_true, decide_eq_true_eq] at h2
    rw [← show l.length - n = (l.length - (n + 1)) + 1 by omega, ← hl2] at h2
    rw [show 0 + (l.length - n) = (l.length - (n + 1)) + 1 by omega]
    refine ⟨fun h => (by rw [h2.1] at h; cases h), fun i hr => ?_⟩
    have hin : i = n := by rw [h2.1] at hr; exact List.mem_singleton.1 hr
    subst hin
    exact storeUp listed G a' w' _ inv hr (by omega)
  | succ f ih =>
    intro listed G a' w' inv hf
    rw [show f + 1 + (l.length - n) = (f + (l.length - n)) + 1 by omega]
    obtain ⟨i0, hi0, hun0, hbefore⟩ := left_some n (by omega : left listed n ≠ 0)
    have hls : listed.size = l.length := by rw [inv.head.size]; simp
    -- the first one that has not come up may come up
    have hready : i0 ∈ Region.ready .any l.toArray listed := by
      obtain ⟨o0, ho0⟩ : ∃ o, l[i0]? = some o := ⟨_, List.getElem?_eq_getElem (by omega)⟩
      refine mem_ready.2 ⟨hun0, o0, by rw [List.getElem?_toArray]; exact ho0, fun e he hb => ?_⟩
      have hlt := (head_spec hhead hi0 ho0).1 e he hb
      have h1 := hbefore e.on hlt
      have h2 : e.on < listed.size := by omega
      simp [h2] at h1 ⊢; exact h1
    refine ⟨fun h => (by rw [h] at hready; cases hready), fun i hr => ?_⟩
    by_cases hni : i = n
    · subst hni
      exact storeUp listed G a' w' _ inv hr (by omega)
    have hin : i < n := by
      rcases Nat.lt_or_ge i n with h | h
      · exact h
      · -- a place behind the store waits for it
        obtain ⟨_, o, ho, hall⟩ := mem_ready.1 hr
        have hil := (Array.getElem?_eq_some_iff.1 ho).1
        have h1 := List.all_eq_true.1 hc i (List.mem_range.2 hil)
        simp only [Bool.or_eq_true, decide_eq_true_eq] at h1
        rcases h1 with h1 | h1
        · omega
        · obtain ⟨o', ho', e, he, hb, hon⟩ := Region.waitsFor_spec h1
          have : o' = o := Option.some.inj (ho'.symm.trans ho)
          subst this
          have h2 := hall e he hb
          rw [hon, getD_both (inv.head.tail (i - 1) (by omega) (by simp at hil; simpa using (by omega : i - 1 < l.length)))] at h2
          cases h2
    obtain ⟨hun, o, ho, hall⟩ := mem_ready.1 hr
    rw [List.getElem?_toArray] at ho
    have hot : (l.take n)[i]? = some o := by rwa [List.getElem?_take_of_lt hin]
    have hmem : o ∈ l.take n := List.mem_of_getElem? hot
    have hsl : ∀ cs b, o.op ≠ .select cs b := fun cs b => Region.noSelect_spec hsel i o cs b (by rw [List.getElem?_toArray]; exact ho)
    have hg := hgood i o hot
    have hlook : ∀ t ∈ o.looksAt l.toArray, a'.tmps[t]? = (canon (ent (l.take n) V (fun j => decide (j < i)) 0) a0).tmps[t]? := fun t ht => by
      rw [inv.frame]; exact agree hhead hn hin ho hr ht
    have hw := wanted_of_look hlook
    have hex := execOp_of_look hsl hlook
    have hcount : left (listed.setIfInBounds i true) n = f := by
      have := left_set hun n hin
      omega
    -- what is handed on
    have hnext : ∀ (v : Value) (G' : Nat → Nat) (w'' : World), val (l.take n) V G' i = v → (∀ j, j ≠ i → G' j = G j) → Grows w' w'' →
        (∀ t, ((l.take n)[i]?).bind isAlloc = some t → Blk w'' (G' i) t (Z t) ∧ w0.heap.size ≤ G' i ∧ ∀ j, j ≠ i → ∀ u, listed.getD j false = true → ((l.take n)[j]?).bind isAlloc = some u → G' i ≠ G j) →
        wpAny P .any l.toArray Q (f + (l.length - n)) (listed.setIfInBounds i true) (a'.put o.dst v) w'' := by
      intro v G' w'' hv hG hgr hal
      refine ih (listed.setIfInBounds i true) G' _ w'' ⟨?_, inv.grows.trans hgr, inv.head.set hr hin, ?_, ?_⟩ hcount
      · rw [inv.frame]
        have hset := canon_set (ent (l.take n) (val (l.take n) V G) (fun j => listed.getD j false) 0) i o.dst v (val (l.take n) V G i) (listed.getD i false) a0
          (by rw [ent_at, hot]; simp) (fun k x hx hki t ht => by
            rw [ent_at] at hx
            cases hk : (l.take n)[k]? with
            | none => rw [hk] at hx; cases hx
            | some ok =>
              rw [hk] at hx
              simp only [Option.map_some, Option.some.injEq, Nat.zero_add] at hx
              subst hx
              have hkn : k < n := by
                have := (List.getElem?_eq_some_iff.1 hk).1
                simp at this
                omega
              have hlk : l[k]? = some ok := by rwa [List.getElem?_take_of_lt hkn] at hk
              exact ((head_spec hhead hin ho).2 k ok hkn hlk t ht).2 (fun e => hki e.symm))
        rw [hset, ← hv]
        congr 1
        refine ent_set hot (fun j hj => ?_) (fun j hj => getD_set_ne false (fun e => hj e.symm)) ?_
        · unfold val
          rw [hG j hj]
        · have : i < listed.size := by omega
          simp [this]
      · intro j t hl hj
        by_cases e : j = i
        · subst e
          exact ⟨(hal t hj).1, (hal t hj).2.1⟩
        · rw [getD_set_ne false (fun h => e h.symm)] at hl
          obtain ⟨h1, h2⟩ := inv.blks j t hl hj
          rw [hG j e]
          exact ⟨h1.next hgr, h2⟩
      · intro j k t u hlj hlk hj hk hne
        by_cases e : j = i
        · subst e
          have hk' : k ≠ j := fun h => hne h.symm
          rw [getD_set_ne false hne] at hlk
          rw [hG k hk']
          exact (hal t hj).2.2 k hk' u hlk hk
        · rw [getD_set_ne false (fun h => e h.symm)] at hlj
          rw [hG j e]
          by_cases e' : k = i
          · subst e'
            exact fun h => (hal u hk).2.2 j e t hlj hj h.symm
          · rw [getD_set_ne false (fun h => e' h.symm)] at hlk
            rw [hG k e']
            exact inv.dist j k t u hlj hlk hj hk hne
    unfold wpOp
    simp only [List.getElem?_toArray, ho]
    cases hal : isAlloc o with
    | some t =>
      have hguard : o.guard = none := by unfold Good at hg; rw [hal] at hg; exact hg
      rw [if_pos (by simp [Region.wanted, hguard])]
      refine .inl ?_
      unfold Oper.wp
      rw [hA o t hmem hal, Oper.upon_value]
      have hbi : ((l.take n)[i]?).bind isAlloc = some t := by rw [hot]; exact hal
      refine hnext _ (fun j => if j = i then w'.heap.size else G j) _ (by unfold val; rw [hbi]; simp) (fun j hj => by simp [hj]) (Bl_alloc (Bl_refl w') _) (fun u hu => ?_)
      rw [hbi] at hu
      obtain rfl := Option.some.inj hu
      simp only [if_true]
      refine ⟨Blk.new _ _ _, inv.grows.size, fun j hj u hl hju => ?_⟩
      have := (inv.blks j u hl hju).1.lt
      omega
    | none =>
      have hbi : ((l.take n)[i]?).bind isAlloc = none := by rw [hot]; exact hal
      have hvi : val (l.take n) V G i = V i := by unfold val; rw [hbi]
      have hno : ∀ w'' t, ((l.take n)[i]?).bind isAlloc = some t → Blk w'' (G i) t (Z t) ∧ w0.heap.size ≤ G i ∧ ∀ j, j ≠ i → ∀ u, listed.getD j false = true → ((l.take n)[j]?).bind isAlloc = some u → G i ≠ G j := fun w'' t ht => by
        rw [hbi] at ht; cases ht
      unfold Good at hg
      rw [hal] at hg
      simp only at hg
      rw [← hw] at hg
      by_cases hwt : Region.wanted o (yielded l.toArray a'.tmps) = true
      · rw [if_pos hwt] at hg ⊢
        refine .inl ?_
        have h3 := hg ⟨w', inv.grows⟩
        unfold mixAt at h3
        rw [← hex] at h3
        unfold Oper.wp
        generalize (execOp a'.eval o).run P w' = r at *
        cases r with
        | ok nx w'' =>
          cases nx <;> simp only [mixUpon] at h3 <;> simp only [Oper.upon]
          case value u =>
            obtain ⟨e1, e2⟩ := h3
            rw [e1, e2]
            exact hnext _ G _ hvi (fun _ _ => rfl) (Grows.refl _) (hno _)
          case skip =>
            obtain ⟨e1, e2⟩ := h3
            rw [e1, ← e2]
            exact hnext _ G _ hvi (fun _ _ => rfl) (Grows.refl _) (hno _)
          case enter fn args =>
            obtain ⟨e1, hc⟩ := h3
            rw [e1]
            exact hc.mono fun e w3 ⟨he, hg3⟩ => by subst he; exact hnext _ G _ hvi (fun _ _ => rfl) hg3 (hno _)
        | halt x w'' => simp only [mixUpon] at h3
      · rw [if_neg hwt] at hg ⊢
        rw [← hg]
        exact hnext _ G _ hvi (fun _ _ => rfl) (Grows.refl _) (hno _)

end
end
section
variable {P : Program}
/-- ONE WALK IN THE ORDER OF THE TEXT SERVES EVERY ORDER, new blocks and a forced tail with it. -/
theorem wp_region_mixS {id : Nat} {Q : Exit → Act → World → Prop} {a : Act} {w : World} {l : List Oper} (n : Nat) (late : Nat → Bool) (Z : TypeId → Array Value) (S : World → Prop) {st : Oper} (hst : l[n]? = some st) (hm : P.follows .mixedOrders = true) (hB : mixSB l.toArray n late = true)
    (hA : ∀ o t, o ∈ l.take n → isAlloc o = some t → ∀ ρ w, (execOp ρ o).run P w = .ok (.value (.pointer (some ⟨w.heap.size, 0, none⟩))) (w.alloc (.cells (Z t) t)))
    (h : wpMixS P l.toArray w S late (fun af => ∀ (G : Nat → Nat) (w' : World), Grows w w' → (∀ i t, ((l.take n)[i]?).bind isAlloc = some t → Blk w' (G i) t (Z t) ∧ w.heap.size ≤ G i) →
      (∀ i j t u, ((l.take n)[i]?).bind isAlloc = some t → ((l.take n)[j]?).bind isAlloc = some u → i ≠ j → G i ≠ G j) → wpList P l.toArray (Exit.then (fun a' w => a' = putAll (l.take n) G 0 af ∧ S w ∧ wpList P l.toArray Q (l.drop (n + 1)) a' w) (fun _ _ _ => False)) [st] (putAll (l.take n) G 0 af) w') 0 (l.take n) a) :
    (Code.region id l.toArray true).wp P Q a w := by
  obtain ⟨V, h1, h2, _, h4⟩ := mix_valsS (l.take n) 0 a h
  simp only [Nat.zero_add] at h1 h4
  have hB' := hB
  simp only [mixSB, Bool.and_eq_true, decide_eq_true_eq, List.size_toArray] at hB'
  obtain ⟨⟨⟨⟨⟨hsel, hnlt⟩, hs, hc⟩, hseq⟩, hhead⟩, hlate⟩ := hB'
  have hn : n ≤ l.length := Nat.le_of_lt hnlt
  refine wp_region_any hm ?_
  have hn' : n ≤ l.length := hn
  have inv0 : HeadInv .any l.toArray n (Array.replicate l.toArray.size false) :=
    ⟨by simp, fun j oj _ hl => (by rw [getD_replicate_false] at hl; cases hl), fun t _ ht => getD_in (by simpa using ht) (getD_replicate_false _ _)⟩
  have hleft : left (Array.replicate l.toArray.size false) n = n := by
    have : ∀ m, m ≤ l.length → left (Array.replicate l.toArray.size false) m = m := by
      intro m
      induction m with
      | zero => intro _; rfl
      | succ m ih =>
        intro hm'
        simp only [left]
        rw [ih (by omega)]
        have : (Array.replicate l.toArray.size false).getD m true = false := getD_in (by simp; omega) (getD_replicate_false _ _)
        rw [this]
        simp
    exact this n hn'
  have hfr0 : a = canon (ent (l.take n) (val (l.take n) V (fun _ => 0)) (fun j => (Array.replicate l.toArray.size false).getD j false) 0) a := by
    rw [canon_none]
    intro i _
    exact getD_replicate_false _ _
  have hnone : ∀ i, (Array.replicate l.toArray.size false).getD i false = true → False := fun i h => by rw [getD_replicate_false] at h; cases h
  have main := mix_mainS (P := P) (w0 := w) (a0 := a) (V := V) (Z := Z) (Q := Q) hB hst h4 h1 hA (fun G w' hg hb hd => by
    have := h2 G w' hg hb hd
    have e := putAll_is (V := V) (a0 := a) (G := G) hhead hn' (l.take n) 0 (fun j => by simp)
    have e0 : (fun j => if j < 0 then val (l.take n) V G j else V j) = V := by funext j; simp
    rw [e0] at e
    rwa [e] at this) n (Array.replicate l.toArray.size false) (fun _ => 0) a { w with drawn := w.drawn + 1 }
    ⟨hfr0, Bl_drew (Bl_refl w), inv0, fun i t h => (hnone i h).elim, fun i j t u h => (hnone i h).elim⟩ hleft
  have e : n + (l.length - n) = l.toArray.size := by simp; omega
  rwa [e] at main
theorem wpMixS_nil {ops : Array Oper} {w0 : World} {S : World → Prop} {late : Nat → Bool} {Q : Act → Prop} {k : Nat} {a : Act} (h : Q a) : wpMixS P ops w0 S late Q k [] a := h
theorem wpMixS_step {ops : Array Oper} {w0 : World} {S : World → Prop} {late : Nat → Bool} {Q : Act → Prop} {k : Nat} {a : Act} {o : Oper} {rest : List Oper}
    (h : ∀ K : Act → Prop, (∀ a, wpMixS P ops w0 S late Q (k + 1) rest a → K a) → match isAlloc o with
      | some _ => o.guard = none ∧ K (a.put o.dst undef)
      | none => if Region.wanted o (yielded ops a.tmps) then ∃ v, (∀ g : Later w0, mixAt P o a.eval g.w v) ∧ (late k = true → ∀ g : Under S, readAt P o a.eval g.w v) ∧ K (a.put o.dst v) else K (a.put o.dst undef)) : wpMixS P ops w0 S late Q k (o :: rest) a :=
  h _ (fun _ h => h)
end
attribute [go_sem] readAt readUpon
end Go.Proofs.YtmghpoagpiljhaaDoor
