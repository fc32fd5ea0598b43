/- A region that draws its order, all of it in any order: operations that read, calls that make memory, and stores of whole blocks that nothing else of it reads: a fact I of the world stays through all of them; of each store D says that it has been done. -/
import Derived.Test.YtmghpoagpiljhaaDoorMix
import Derived.Laws.Tables
namespace Go.Proofs.YtmghpoagpiljhaaDoor
open Go Go.RowKit

/-- A world of which I holds. -/
structure In (I : World → Prop) where
  w : World
  is : I w

section
variable {P : Program} {ops : Array Oper} {I : World → Prop} {D : Nat → World → Prop} {st : Nat → Bool}

/-- A store: it is done, and what was done stays. -/
def storeAt (P : Program) (I : World → Prop) (D : Nat → World → Prop) (k : Nat) (o : Oper) (ρ : Operand → Value) : Prop :=
  o.guard = none ∧ ∀ g : In I, ∃ w', (execOp ρ o).run P g.w = .ok .skip w' ∧ I w' ∧ D k w' ∧ ∀ j, D j g.w → D j w'

/-- The walk in the order of the text. -/
def wpMixP (P : Program) (ops : Array Oper) (I : World → Prop) (D : Nat → World → Prop) (st : Nat → Bool) (Q : Act → Prop) : Nat → List Oper → Act → Prop
  | _, [], a => Q a
  | k, o :: rest, a =>
    if st k then storeAt P I D k o a.eval ∧ wpMixP P ops I D st Q (k + 1) rest (a.put o.dst undef)
    else if Region.wanted o (yielded ops a.tmps) then ∃ v, (∀ g : In I, mixAt P o a.eval g.w v) ∧ wpMixP P ops I D st Q (k + 1) rest (a.put o.dst v) else wpMixP P ops I D st Q (k + 1) rest (a.put o.dst undef)

def GoodP (P : Program) (ops : Array Oper) (I : World → Prop) (D : Nat → World → Prop) (st : Nat → Bool) (k : Nat) (o : Oper) (a : Act) (v : Value) : Prop :=
  if st k then storeAt P I D k o a.eval ∧ v = undef
  else if Region.wanted o (yielded ops a.tmps) then ∀ g : In I, mixAt P o a.eval g.w v else v = undef

theorem mix_valsP {Q : Act → Prop} : ∀ (l : List Oper) (k : Nat) (a : Act), wpMixP P ops I D st Q k l a →
    ∃ V : Nat → Value, (∀ i o, l[i]? = some o → GoodP P ops I D st (k + i) o (canon (ent l V (fun j => decide (j < k + i)) k) a) (V (k + i))) ∧ Q (canon (ent l V (fun _ => true) k) a)
  | [], k, a, h => ⟨fun _ => undef, fun i o ho => by simp at ho, h⟩
  | o :: l, k, a, h => by
    have key : ∃ v, GoodP P ops I D st k o a v ∧ wpMixP P ops I D st Q (k + 1) l (a.put o.dst v) := by
      unfold wpMixP at h
      unfold GoodP
      by_cases hs : st k = true
      · rw [if_pos hs] at h
        exact ⟨undef, by rw [if_pos hs]; exact ⟨h.1, rfl⟩, h.2⟩
      · rw [if_neg hs] at h
        by_cases hw : Region.wanted o (yielded ops a.tmps) = true
        · rw [if_pos hw] at h
          obtain ⟨v, h1, h2⟩ := h
          exact ⟨v, by rw [if_neg hs, if_pos hw]; exact h1, h2⟩
        · rw [if_neg hw] at h
          exact ⟨undef, by rw [if_neg hs, if_neg hw], h⟩
    obtain ⟨v, hg, hrest⟩ := key
    obtain ⟨V, h1, h2⟩ := mix_valsP l (k + 1) _ hrest
    have hV : ∀ (B : Nat → Bool), ent l (fun j => if j = k then v else V j) B (k + 1) = ent l V B (k + 1) := fun B =>
      ent_congr _ _ _ _ _ _ fun i _ => ⟨by show (if k + 1 + i = k then v else V (k + 1 + i)) = _; rw [if_neg (by omega)], rfl⟩
    refine ⟨fun j => if j = k then v else V j, ?_, ?_⟩
    · intro i o' ho'
      cases i with
      | zero =>
        simp only [List.getElem?_cons_zero, Option.some.injEq] at ho'
        subst ho'
        have e : (fun j => if j = k then v else V j) (k + 0) = v := by simp
        rw [canon_none _ _ _ _ _ (fun i _ => by simp), e]
        exact hg
      | succ i =>
        simp only [List.getElem?_cons_succ] at ho'
        have := h1 i o' ho'
        simp only [ent, canon, hV, if_true]
        rw [if_pos (by simp), if_neg (by omega)]
        simpa only [show k + (i + 1) = k + 1 + i by omega] using this
    · simp only [ent, canon, hV, if_true]
      exact h2

structure MixInvP (ops : Array Oper) (l : List Oper) (I : World → Prop) (D : Nat → World → Prop) (a0 : Act) (V : Nat → Value) (listed : Array Bool) (a' : Act) (w' : World) : Prop where
  frame : a' = canon (ent l V (fun j => listed.getD j false) 0) a0
  holds : I w'
  head : HeadInv .any ops l.length listed
  done : ∀ i, listed.getD i false = true → D i w'

variable {l : List Oper} {a0 : Act} {V : Nat → Value} {Q : Exit → Act → World → Prop}
theorem agreeP (hB : headB l.toArray l.length = true) {listed : Array Bool} {i : Nat} {oi : Oper} (hi : i < l.length) (hoi : l[i]? = some oi) (hna : ∀ o ∈ l, isAlloc o = none)
    (hr : i ∈ Region.ready .any l.toArray listed) {t : Tmp} (ht : t ∈ oi.looksAt l.toArray) :
    (canon (ent l V (fun j => listed.getD j false) 0) a0).tmps[t]? = (canon (ent l V (fun j => decide (j < i)) 0) a0).tmps[t]? := by
  have h := agree (a0 := a0) (V := V) (G := fun _ => 0) hB (Nat.le_refl _) hi hoi hr ht
  rw [List.take_length] at h
  have hv : val l V (fun _ => 0) = V := by
    funext j
    unfold val
    cases hj : l[j]? with
    | none => rfl
    | some o => simp [hna o (List.mem_of_getElem? hj)]
  rwa [hv] at h

theorem mix_mainP (hB : mixB l.toArray l.length = true) (hna : ∀ o ∈ l, isAlloc o = none)
    (hI : ∀ w w', Grows w w' → I w → I w') (hD : ∀ k w w', Grows w w' → D k w → D k w') (hT : ∀ k, st k = false → ∀ w, D k w)
    (hgood : ∀ i o, l[i]? = some o → GoodP P l.toArray I D st i o (canon (ent l V (fun j => decide (j < i)) 0) a0) (V i))
    (hend : ∀ w', I w' → (∀ k, k < l.length → D k w') → Q .normal (canon (ent l V (fun _ => true) 0) a0) w') :
    ∀ f listed a' w', MixInvP l.toArray l I D a0 V listed a' w' → left listed l.length = f → wpAny P .any l.toArray Q f listed a' w' := by
  simp only [mixB, Bool.and_eq_true, decide_eq_true_eq, Bool.or_eq_true, List.size_toArray] at hB
  obtain ⟨⟨⟨⟨hsel, hn⟩, htail⟩, hseq⟩, hhead⟩ := hB
  intro f
  induction f with
  | zero =>
    intro listed a' w' inv hf
    have hls : listed.size = l.length := by rw [inv.head.size]; simp
    have hz := left_zero l.length hf
    have hz' : ∀ j, j < l.length → listed.getD j false = true := fun j hj => by
      have h1 := hz j hj
      simp [show j < listed.size by omega] at h1 ⊢; exact h1
    have hfr : a' = canon (ent l V (fun _ => true) 0) a0 := by
      rw [inv.frame]
      congr 1
      apply ent_congr
      intro i hi
      exact ⟨rfl, by simpa using hz' i hi⟩
    have hfin := hend w' inv.holds (fun k hk => inv.done k (hz' k hk))
    rw [← hfr] at hfin
    refine ⟨?_, hfin⟩
    apply List.eq_nil_iff_forall_not_mem.2
    intro i hi
    obtain ⟨hun, o, ho, _⟩ := mem_ready.1 hi
    have := (Array.getElem?_eq_some_iff.1 ho).1
    have h1 := hz i (by simpa using this)
    rw [hun] at h1; cases h1
  | succ f ih =>
    intro listed a' w' inv hf
    obtain ⟨i0, hi0, hun0, hbefore⟩ := left_some l.length (by omega : left listed l.length ≠ 0)
    have hls : listed.size = l.length := by rw [inv.head.size]; simp
    have hready : i0 ∈ Region.ready .any l.toArray listed := by
      obtain ⟨o0, ho0⟩ : ∃ o, l[i0]? = some o := ⟨_, List.getElem?_eq_getElem (by omega)⟩
      refine mem_ready.2 ⟨hun0, o0, by rw [List.getElem?_toArray]; exact ho0, fun e he hb => ?_⟩
      have hlt := (head_spec hhead hi0 ho0).1 e he hb
      have h1 := hbefore e.on hlt
      have h2 : e.on < listed.size := by omega
      simp [h2] at h1 ⊢; exact h1
    refine ⟨fun h => (by rw [h] at hready; cases hready), fun i hr => ?_⟩
    obtain ⟨hun, o, ho, hall⟩ := mem_ready.1 hr
    have hin : i < l.length := by have := (Array.getElem?_eq_some_iff.1 ho).1; simpa using this
    rw [List.getElem?_toArray] at ho
    have hsl : ∀ cs b, o.op ≠ .select cs b := fun cs b => Region.noSelect_spec hsel i o cs b (by rw [List.getElem?_toArray]; exact ho)
    have hg := hgood i o ho
    have hlook : ∀ t ∈ o.looksAt l.toArray, a'.tmps[t]? = (canon (ent l V (fun j => decide (j < i)) 0) a0).tmps[t]? := fun t ht => by
      rw [inv.frame]; exact agreeP hhead hin ho hna hr ht
    have hw := wanted_of_look hlook
    have hex := execOp_of_look hsl hlook
    have hcount : left (listed.setIfInBounds i true) l.length = f := by
      have := left_set hun l.length hin
      omega
    have hnext : ∀ (v : Value) (w'' : World), V i = v → I w'' → D i w'' → (∀ j, D j w' → D j w'') →
        wpAny P .any l.toArray Q f (listed.setIfInBounds i true) (a'.put o.dst v) w'' := by
      intro v w'' hv hi' hd' hds
      refine ih (listed.setIfInBounds i true) _ w'' ⟨?_, hi', inv.head.set hr hin, ?_⟩ hcount
      · rw [inv.frame]
        have hset := canon_set (ent l V (fun j => listed.getD j false) 0) i o.dst v (V i) (listed.getD i false) a0
          (by rw [ent_at, ho]; simp) (fun k x hx hki t ht => by
            rw [ent_at] at hx
            cases hk : l[k]? with
            | none => rw [hk] at hx; cases hx
            | some ok =>
              rw [hk] at hx
              simp only [Option.map_some, Option.some.injEq, Nat.zero_add] at hx
              subst hx
              have hkn : k < l.length := (List.getElem?_eq_some_iff.1 hk).1
              exact ((head_spec hhead hin ho).2 k ok hkn hk t ht).2 (fun e => hki e.symm))
        rw [hset, ← hv]
        congr 1
        refine ent_set ho (fun j hj => rfl) (fun j hj => getD_set_ne false (fun e => hj e.symm)) ?_
        have : i < listed.size := by omega
        simp [this]
      · intro j hj
        by_cases e : j = i
        · subst e; exact hd'
        · rw [getD_set_ne false (fun h => e h.symm)] at hj
          exact hds j (inv.done j hj)
    unfold wpOp
    simp only [List.getElem?_toArray, ho]
    unfold GoodP at hg
    by_cases hs : st i = true
    · rw [if_pos hs] at hg
      obtain ⟨⟨hgd, hst⟩, hv⟩ := hg
      obtain ⟨w'', h1, h2, h3, h4⟩ := hst ⟨w', inv.holds⟩
      rw [if_pos (by simp [Region.wanted, hgd])]
      refine .inl ?_
      unfold Oper.wp
      rw [hex, h1]
      simp only [Oper.upon]
      exact hnext _ w'' hv h2 h3 h4
    · rw [if_neg hs] at hg
      rw [← hw] at hg
      have hst' : st i = false := by simpa using hs
      by_cases hwt : Region.wanted o (yielded l.toArray a'.tmps) = true
      · rw [if_pos hwt] at hg ⊢
        refine .inl ?_
        have h3 := hg ⟨w', inv.holds⟩
        unfold mixAt at h3
        rw [← hex] at h3
        unfold Oper.wp
        generalize (execOp a'.eval o).run P w' = r at *
        cases r with
        | ok nx w'' =>
          cases nx <;> simp only [mixUpon] at h3 <;> simp only [Oper.upon]
          case value u =>
            obtain ⟨e1, e2⟩ := h3
            rw [e1, e2]
            exact hnext _ _ rfl inv.holds (hT i hst' _) (fun _ h => h)
          case skip =>
            obtain ⟨e1, e2⟩ := h3
            rw [e1, ← e2]
            exact hnext _ _ rfl inv.holds (hT i hst' _) (fun _ h => h)
          case enter fn args =>
            obtain ⟨e1, hc⟩ := h3
            rw [e1]
            exact hc.mono fun e w3 ⟨he, hg3⟩ => by subst he; exact hnext _ _ rfl (hI _ _ hg3 inv.holds) (hT i hst' _) (fun j hj => hD j _ _ hg3 hj)
        | halt x w'' => simp only [mixUpon] at h3
      · rw [if_neg hwt] at hg ⊢
        rw [← hg]
        exact hnext _ _ rfl inv.holds (hT i hst' _) (fun _ h => h)

/-- ONE WALK IN THE ORDER OF THE TEXT SERVES EVERY ORDER, stores of blocks with it that nothing else reads. -/
theorem wp_region_mixP {id : Nat} {a : Act} {w : World} (I : World → Prop) (D : Nat → World → Prop) (st : Nat → Bool) (hm : P.follows .mixedOrders = true) (hB : mixB l.toArray l.length = true) (hna : l.all (fun o => (isAlloc o).isNone) = true)
    (hw : I w) (hI : ∀ w w', Grows w w' → I w → I w') (hD : ∀ k w w', Grows w w' → D k w → D k w') (hT : ∀ k, st k = false → ∀ w, D k w)
    (h : wpMixP P l.toArray I D st (fun af => ∀ w' : World, I w' → (∀ k, k < l.length → D k w') → wpList P l.toArray Q [] af w') 0 l a) :
    (Code.region id l.toArray true).wp P Q a w := by
  obtain ⟨V, h1, h2⟩ := mix_valsP l 0 a h
  simp only [Nat.zero_add] at h1
  have hB' := hB
  simp only [mixB, Bool.and_eq_true, decide_eq_true_eq, Bool.or_eq_true, List.size_toArray] at hB'
  obtain ⟨⟨⟨⟨hsel, hn⟩, htail⟩, hseq⟩, hhead⟩ := hB'
  refine wp_region_any hm ?_
  have hna' : ∀ o ∈ l, isAlloc o = none := fun o ho => by simpa using List.all_eq_true.1 hna o ho
  have inv0 : HeadInv .any l.toArray l.length (Array.replicate l.toArray.size false) :=
    ⟨by simp, fun j oj _ hl => (by rw [getD_replicate_false] at hl; cases hl), fun t _ ht => getD_in (by simpa using ht) (getD_replicate_false _ _)⟩
  have hleft : left (Array.replicate l.toArray.size false) l.length = l.length := by
    have : ∀ m, m ≤ l.length → left (Array.replicate l.toArray.size false) m = m := by
      intro m
      induction m with
      | zero => intro _; rfl
      | succ m ih =>
        intro hm'
        simp only [left]
        rw [ih (by omega)]
        have : (Array.replicate l.toArray.size false).getD m true = false := getD_in (by simp; omega) (getD_replicate_false _ _)
        rw [this]
        simp
    exact this _ (Nat.le_refl _)
  have hfr0 : a = canon (ent l V (fun j => (Array.replicate l.toArray.size false).getD j false) 0) a := by
    rw [canon_none]
    intro i _
    exact getD_replicate_false _ _
  have main := mix_mainP (P := P) (a0 := a) (V := V) (Q := Q) hB hna' hI hD hT h1 h2 l.length (Array.replicate l.toArray.size false) a { w with drawn := w.drawn + 1 }
    ⟨hfr0, hI w _ (Bl_drew (Bl_refl w)) hw, inv0, fun i h => (by rw [getD_replicate_false] at h; cases h)⟩ hleft
  simpa using main
theorem wpMixP_nil {Q : Act → Prop} {k : Nat} {a : Act} (h : Q a) : wpMixP P ops I D st Q k [] a := h
theorem wpMixP_step {Q : Act → Prop} {k : Nat} {a : Act} {o : Oper} {rest : List Oper}
    (h : ∀ K : Act → Prop, (∀ a, wpMixP P ops I D st Q (k + 1) rest a → K a) → if st k then storeAt P I D k o a.eval ∧ K (a.put o.dst undef) else
      if Region.wanted o (yielded ops a.tmps) then ∃ v, (∀ g : In I, mixAt P o a.eval g.w v) ∧ K (a.put o.dst v) else K (a.put o.dst undef)) : wpMixP P ops I D st Q k (o :: rest) a :=
  h _ (fun _ h => h)
/-- A store of a whole block. -/
theorem run_store_row {o : Oper} {ρ : Operand → Value} {w : World} (ty : TypeId) (p v : Operand) (ho : o.op = .store ty p v) (g : Nat) (t : TypeId) (cs cs' : Array Value)
    (hp : ρ p = .pointer (some ⟨g, 0, none⟩)) (hv : ρ v = .agg cs') (hB : Blk w g t cs) (hi : (P.info? ty).map (·.size) = some cs'.size) (hs : cs.size = cs'.size) (h1 : cs'.all (·.oneCell') = true) :
    (execOp ρ o).run P w = .ok .skip (w.setRow g cs') := by
  unfold execOp
  simp only [ho, hp, hv, Instr.storeAt, Instr.sureAddr, Sem.run_bind, Sem.run_pure, Result.andThen_ok, run_storeVar_row w g t ty cs cs' hB hi hs h1]
end
theorem Blk.row_same {w : World} {g : Nat} {t : TypeId} {cs cs' : Array Value} (h : Blk w g t cs) : Blk (w.setRow g cs') g t cs' := setRow_heap w g cs cs' t (0, 0) h
theorem Blk.row_other {w : World} {g g' : Nat} {t : TypeId} {cs cs' : Array Value} (h : Blk w g t cs) (hn : g ≠ g') : Blk (w.setRow g' cs') g t cs := (setRow_other w g' g cs' hn).trans h
theorem Bl_row {B : Nat} {w w' : World} (h : Below B w w') {g : Nat} (hg : B ≤ g) (cs : Array Value) : Below B w (w'.setRow g cs) :=
  ⟨h.os, h.tape, h.output, by rw [size_setRow]; exact h.size, fun b hb => (setRow_other w' g b cs (by omega)).trans (h.block b hb)⟩
end Go.Proofs.YtmghpoagpiljhaaDoor
