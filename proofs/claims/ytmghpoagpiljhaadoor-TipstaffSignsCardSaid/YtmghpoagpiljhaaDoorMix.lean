/- A region that draws its order: operations that read, calls that make memory, new blocks; behind them a tail in one forced order. One walk in the order of the text serves every order. -/
import Derived.Test.YtmghpoagpiljhaaDoorBase
import Derived.StillTail
namespace Go.Proofs.YtmghpoagpiljhaaDoor
open Go Go.RowKit

/-- Of what was there nothing has turned. -/
def Grows (w w' : World) : Prop := Below w.heap.size w w'
theorem Grows.refl (w : World) : Grows w w := Below.refl _ _
theorem Grows.trans {a b c : World} (h : Grows a b) (k : Grows b c) : Grows a c := Bl_trans h k

/-- A later world: of what was there nothing has turned. -/
structure Later (w0 : World) where
  w : World
  is : Grows w0 w
instance (w0 : World) : Nonempty (Later w0) := ⟨⟨w0, Grows.refl w0⟩⟩

section
variable {P : Program} {ops : Array Oper} {w0 : World}

/-- One operation in a world: it reads, or calls what only makes memory. -/
def mixUpon (P : Program) (w : World) (v : Value) : Result Next → Prop
  | .ok (.value u) w' => w' = w ∧ u = v
  | .ok .skip w' => w' = w ∧ v = undef
  | .ok (.enter f args) w' => w' = w ∧ Calls P f args w (fun e w'' => e = .returned v ∧ Grows w w'')
  | _ => False
def mixAt (P : Program) (o : Oper) (ρ : Operand → Value) (w : World) (v : Value) : Prop := mixUpon P w v ((execOp ρ o).run P w)

/-- Is it a new variable's block? -/
def isAlloc (o : Oper) : Option TypeId := match o.op with | .alloc t => some t | _ => none

/-- The walk in the order of the text; a new block's place is left out. -/
def wpMix (P : Program) (ops : Array Oper) (w0 : World) (Q : Act → Prop) : List Oper → Act → Prop
  | [], a => Q a
  | o :: rest, a =>
    match isAlloc o with
    | some _ => o.guard = none ∧ wpMix P ops w0 Q rest (a.put o.dst undef)
    | none => if Region.wanted o (yielded ops a.tmps) then ∃ v, (∀ g : Later w0, mixAt P o a.eval g.w v) ∧ wpMix P ops w0 Q rest (a.put o.dst v) else wpMix P ops w0 Q rest (a.put o.dst undef)

/-- A frame: what is put, in the order of the text, where the truth says so. -/
def canon : List (Option Tmp × Value × Bool) → Act → Act
  | [], a => a
  | (d, v, b) :: rest, a => canon rest (if b then a.put d v else a)

theorem put_look {a a' : Act} {t : Tmp} (d : Option Tmp) (v : Value) (h : a.tmps[t]? = a'.tmps[t]?) : (a.put d v).tmps[t]? = (a'.put d v).tmps[t]? := by
  cases d with
  | none => exact h
  | some d =>
    simp only [Act.put, Array.getElem?_setIfInBounds]
    have hs : t < a.tmps.size ↔ t < a'.tmps.size := by
      constructor
      · intro hl
        rw [Array.getElem?_eq_getElem hl] at h
        exact (Array.getElem?_eq_some_iff.1 h.symm).1
      · intro hl
        rw [Array.getElem?_eq_getElem hl] at h
        exact (Array.getElem?_eq_some_iff.1 h).1
    by_cases e : d = t
    · subst e
      by_cases hl : d < a.tmps.size
      · simp [hl, hs.1 hl]
      · have hl' : ¬ d < a'.tmps.size := fun k => hl (hs.2 k)
        simp [hl, hl']
    · simp [e, h]
theorem put_other {a : Act} {t : Tmp} {d : Option Tmp} (v : Value) (h : d ≠ some t) : (a.put d v).tmps[t]? = a.tmps[t]? := by
  cases d with
  | none => rfl
  | some d =>
    have e : ¬ d = t := fun k => h (by rw [k])
    simp [Act.put, e]
/-- Two frames agree on a slot, where all that is put there agrees. -/
theorem look_canon {t : Tmp} : ∀ (L M : List (Option Tmp × Value × Bool)) (a a' : Act), L.length = M.length → a.tmps[t]? = a'.tmps[t]? →
    (∀ (k : Nat) (x y : Option Tmp × Value × Bool), L[k]? = some x → M[k]? = some y → x.1 = y.1 ∧ (x.1 = some t → x.2 = y.2)) → (canon L a).tmps[t]? = (canon M a').tmps[t]?
  | [], [], _, _, _, h, _ => h
  | [], _ :: _, _, _, hl, _, _ => by cases hl
  | _ :: _, [], _, _, hl, _, _ => by cases hl
  | (d, v, b) :: L, (d', v', b') :: M, a, a', hl, h, hk => by
    obtain ⟨e1, e2⟩ := hk 0 _ _ rfl rfl
    simp only at e1 e2
    subst e1
    refine look_canon L M _ _ (by simpa using hl) ?_ (fun k x y hx hy => hk (k + 1) x y (by simpa using hx) (by simpa using hy))
    by_cases e : d = some t
    · have := e2 e
      simp only [Prod.mk.injEq] at this
      obtain ⟨rfl, rfl⟩ := this
      cases b with
      | true => exact put_look _ _ h
      | false => exact h
    · cases b <;> cases b' <;> simp only [if_true, Bool.false_eq_true, if_false] <;> (try rw [put_other _ e]) <;> (try rw [put_other _ e]) <;> exact h
/-- What is put last may be put at its place. -/
theorem canon_put : ∀ (L : List (Option Tmp × Value × Bool)) (d : Option Tmp) (v : Value) (a : Act), (∀ x ∈ L, ∀ t, x.1 = some t → d ≠ some t) → (canon L a).put d v = canon L (a.put d v)
  | [], _, _, _, _ => rfl
  | (d', v', b) :: L, d, v, a, h => by
    have h' : ∀ x ∈ L, ∀ t, x.1 = some t → d ≠ some t := fun x hx => h x (List.mem_cons_of_mem _ hx)
    simp only [canon]
    rw [canon_put L d v _ h']
    cases b with
    | false => rfl
    | true =>
      simp only [if_true]
      rw [Act.put_comm a v' v (fun t ht => h (d', v', true) (List.mem_cons_self ..) t ht)]
theorem put_put (a : Act) (d : Option Tmp) (v u : Value) : (a.put d v).put d u = a.put d u := by
  cases d with
  | none => rfl
  | some d => simp [Act.put]
theorem canon_set : ∀ (L : List (Option Tmp × Value × Bool)) (i : Nat) (d : Option Tmp) (v v0 : Value) (b0 : Bool) (a : Act), L[i]? = some (d, v0, b0) →
    (∀ (k : Nat) (x : Option Tmp × Value × Bool), L[k]? = some x → k ≠ i → ∀ t, x.1 = some t → d ≠ some t) → (canon L a).put d v = canon (L.set i (d, v, true)) a
  | [], _, _, _, _, _, _, h, _ => by simp at h
  | x :: L, 0, d, v, v0, b0, a, h, hd => by
    simp only [List.getElem?_cons_zero, Option.some.injEq] at h
    subst h
    simp only [List.set_cons_zero, canon, if_true]
    rw [canon_put L d v _ (fun y hy t ht => by
      obtain ⟨k, hk, rfl⟩ := List.getElem_of_mem hy
      exact hd (k + 1) _ (by simp [hk]) (by omega) t ht)]
    cases b0 with
    | false => rfl
    | true => simp only [if_true]; rw [put_put]
  | (d', v', b) :: L, i + 1, d, v, v0, b0, a, h, hd => by
    simp only [List.set_cons_succ, canon]
    exact canon_set L i d v v0 b0 _ (by simpa using h) (fun k x hx hk t ht => hd (k + 1) x (by simpa using hx) (by omega) t ht)

/-- The entries of a head: of each operation where it writes, what, and whether it has come up. -/
def ent : List Oper → (Nat → Value) → (Nat → Bool) → Nat → List (Option Tmp × Value × Bool)
  | [], _, _, _ => []
  | o :: l, V, B, k => (o.dst, V k, B k) :: ent l V B (k + 1)
theorem ent_at : ∀ (l : List Oper) (V : Nat → Value) (B : Nat → Bool) (k i : Nat), (ent l V B k)[i]? = (l[i]?).map fun o => (o.dst, V (k + i), B (k + i))
  | [], _, _, _, _ => by simp [ent]
  | o :: l, V, B, k, 0 => by simp [ent]
  | o :: l, V, B, k, i + 1 => by
    simp only [ent, List.getElem?_cons_succ]
    rw [ent_at l V B (k + 1) i]
    simp only [show k + 1 + i = k + (i + 1) by omega]
theorem ent_len (l : List Oper) (V : Nat → Value) (B : Nat → Bool) (k : Nat) : (ent l V B k).length = l.length := by
  induction l generalizing k with
  | nil => rfl
  | cons o l ih => simp [ent, ih]
theorem ent_congr : ∀ (l : List Oper) (V V' : Nat → Value) (B B' : Nat → Bool) (k : Nat), (∀ i, i < l.length → V (k + i) = V' (k + i) ∧ B (k + i) = B' (k + i)) → ent l V B k = ent l V' B' k
  | [], _, _, _, _, _, _ => rfl
  | o :: l, V, V', B, B', k, h => by
    simp only [ent]
    have h0 := h 0 (by simp)
    simp only [Nat.add_zero] at h0
    rw [h0.1, h0.2, ent_congr l V V' B B' (k + 1) (fun i hi => by
      have := h (i + 1) (by simp; omega)
      rwa [show k + (i + 1) = k + 1 + i by omega] at this)]
theorem canon_none : ∀ (l : List Oper) (V : Nat → Value) (B : Nat → Bool) (k : Nat) (a : Act), (∀ i, i < l.length → B (k + i) = false) → canon (ent l V B k) a = a
  | [], _, _, _, _, _ => rfl
  | o :: l, V, B, k, a, h => by
    simp only [ent, canon]
    have h0 := h 0 (by simp)
    simp only [Nat.add_zero] at h0
    rw [h0]
    simp only [Bool.false_eq_true, if_false]
    exact canon_none l V B (k + 1) a (fun i hi => by
      have := h (i + 1) (by simp; omega)
      rwa [show k + (i + 1) = k + 1 + i by omega] at this)

/-- What the walk in the order of the text shows of one operation. -/
def Good (P : Program) (ops : Array Oper) (w0 : World) (o : Oper) (a : Act) (v : Value) : Prop :=
  match isAlloc o with
  | some _ => o.guard = none
  | none => if Region.wanted o (yielded ops a.tmps) then ∀ g : Later w0, mixAt P o a.eval g.w v else v = undef
theorem mix_vals {Q : Act → Prop} : ∀ (l : List Oper) (k : Nat) (a : Act), wpMix P ops w0 Q l a →
    ∃ V : Nat → Value, (∀ i o, l[i]? = some o → Good P ops w0 o (canon (ent l V (fun j => decide (j < k + i)) k) a) (V (k + i))) ∧ Q (canon (ent l V (fun _ => true) k) a) ∧ (∀ i o t, l[i]? = some o → isAlloc o = some t → V (k + i) = undef)
  | [], _, _, h => ⟨fun _ => undef, fun i o ho => by simp at ho, h, fun i o t ho => by simp at ho⟩
  | o :: l, k, a, h => by
    -- the value of this operation, and the rest behind it
    have key : ∃ v, Good P ops w0 o a v ∧ (∀ t, isAlloc o = some t → v = undef) ∧ wpMix P ops w0 Q l (a.put o.dst v) := by
      unfold wpMix at h
      unfold Good
      cases hal : isAlloc o with
      | some t => rw [hal] at h; exact ⟨undef, h.1, fun _ _ => rfl, h.2⟩
      | none =>
        rw [hal] at h
        simp only at h
        by_cases hw : Region.wanted o (yielded ops a.tmps) = true
        · rw [if_pos hw] at h
          obtain ⟨v, h1, h2⟩ := h
          exact ⟨v, by simp only; rw [if_pos hw]; exact h1, fun t ht => (by cases ht), h2⟩
        · rw [if_neg hw] at h
          exact ⟨undef, by simp [hw], fun _ _ => rfl, h⟩
    obtain ⟨v, hg, hu, hrest⟩ := key
    obtain ⟨V, h1, h2, h3⟩ := mix_vals l (k + 1) _ hrest
    have hV : ∀ (B : Nat → Bool), ent l (fun j => if j = k then v else V j) B (k + 1) = ent l V B (k + 1) := fun B =>
      ent_congr _ _ _ _ _ _ fun i _ => ⟨by show (if k + 1 + i = k then v else V (k + 1 + i)) = _; rw [if_neg (by omega)], rfl⟩
    refine ⟨fun j => if j = k then v else V j, ?_, ?_, ?_⟩
    · intro i o' ho'
      cases i with
      | zero =>
        simp only [List.getElem?_cons_zero, Option.some.injEq] at ho'
        subst ho'
        have e : (fun j => if j = k then v else V j) (k + 0) = v := by simp
        rw [canon_none _ _ _ _ _ (fun i _ => by simp), e]
        exact hg
      | succ i =>
        simp only [List.getElem?_cons_succ] at ho'
        have := h1 i o' ho'
        simp only [ent, canon, hV, if_true]
        rw [if_pos (by simp), if_neg (by omega)]
        simpa only [show k + (i + 1) = k + 1 + i by omega] using this
    · simp only [ent, canon, hV, if_true]
      exact h2
    · intro i o' t ho' ht
      cases i with
      | zero =>
        simp only [List.getElem?_cons_zero, Option.some.injEq] at ho'
        subst ho'
        simp only [Nat.add_zero, if_true]
        exact hu t ht
      | succ i =>
        simp only [List.getElem?_cons_succ] at ho'
        have := h3 i o' t ho' ht
        simp only [show k + (i + 1) = k + 1 + i by omega]
        rw [if_neg (by omega)]
        exact this

/-! ### the orders -/
/-- All edges of the head lead back; what an operation looks at is written by one that it waits for, and no new block's place is looked at; no two write one slot. -/
def headB (ops : Array Oper) (n : Nat) : Bool :=
  (List.range n).all fun i => match ops[i]? with
    | none => false
    | some oi => (oi.after.all fun e => !Region.binds .any e || decide (e.on < i)) &&
      (List.range n).all fun j => match ops[j]? with
        | none => false
        | some oj => match oj.dst with
          | none => true
          | some d => (!(oi.looksAt ops).contains d || (decide (j < i) && Region.waitsFor .any ops i j && (isAlloc oj).isNone)) && (decide (i = j) || oi.dst != some d)
def mixB (ops : Array Oper) (n : Nat) : Bool :=
  Region.noSelect ops && decide (n ≤ ops.size) && (decide (n = ops.size) || (Region.sinkB .any ops n && Region.chainB .any ops n)) &&
    Region.seqB .any ops (ops.size - n) n (Array.replicate n true ++ Array.replicate (ops.size - n) false) && headB ops n

def left (listed : Array Bool) : Nat → Nat
  | 0 => 0
  | k + 1 => left listed k + if listed.getD k true then 0 else 1
theorem left_same {listed listed' : Array Bool} : ∀ n, (∀ j, j < n → listed'.getD j true = listed.getD j true) → left listed' n = left listed n
  | 0, _ => rfl
  | n + 1, h => by
    simp only [left]
    rw [left_same n (fun j hj => h j (by omega)), h n (by omega)]
theorem left_set {listed : Array Bool} {i : Nat} (hi : listed.getD i true = false) : ∀ n, i < n → left (listed.setIfInBounds i true) n + 1 = left listed n
  | 0, h => by omega
  | n + 1, h => by
    have hlt : i < listed.size := by
      rcases Nat.lt_or_ge i listed.size with h' | h'
      · exact h'
      · simp [Array.getElem?_eq_none h'] at hi
    simp only [left]
    by_cases e : i = n
    · subst e
      rw [left_same i (fun j hj => getD_set_ne true (by omega))]
      rw [hi]
      have : (listed.setIfInBounds i true).getD i true = true := by simp [hlt]
      rw [this]
      simp
    · rw [getD_set_ne true e]
      have := left_set hi n (by omega)
      omega
theorem left_zero {listed : Array Bool} : ∀ n, left listed n = 0 → ∀ j, j < n → listed.getD j true = true
  | 0, _, j, hj => by omega
  | n + 1, h, j, hj => by
    simp only [left] at h
    by_cases e : j = n
    · subst e
      cases hl : listed.getD j true with
      | true => rfl
      | false => rw [hl] at h; simp at h
    · exact left_zero n (by omega) j (by omega)
theorem left_some {listed : Array Bool} : ∀ n, left listed n ≠ 0 → ∃ i, i < n ∧ listed.getD i true = false ∧ ∀ j, j < i → listed.getD j true = true
  | 0, h => absurd rfl h
  | n + 1, h => by
    by_cases e : left listed n = 0
    · refine ⟨n, by omega, ?_, left_zero n e⟩
      simp only [left, e] at h
      cases hl : listed.getD n true with
      | true => rw [hl] at h; simp at h
      | false => rfl
    · obtain ⟨i, h1, h2, h3⟩ := left_some n e
      exact ⟨i, by omega, h2, h3⟩

def val (hl : List Oper) (V : Nat → Value) (G : Nat → Nat) (j : Nat) : Value :=
  match (hl[j]?).bind isAlloc with
  | some _ => .pointer (some ⟨G j, 0, none⟩)
  | none => V j
structure MixInv (ops : Array Oper) (n : Nat) (hl : List Oper) (w0 : World) (a0 : Act) (V : Nat → Value) (Z : TypeId → Array Value) (listed : Array Bool) (G : Nat → Nat) (a' : Act) (w' : World) : Prop where
  frame : a' = canon (ent hl (val hl V G) (fun j => listed.getD j false) 0) a0
  grows : Grows w0 w'
  head : HeadInv .any ops n listed
  blks : ∀ i t, listed.getD i false = true → (hl[i]?).bind isAlloc = some t → Blk w' (G i) t (Z t) ∧ w0.heap.size ≤ G i
  dist : ∀ i j t u, listed.getD i false = true → listed.getD j false = true → (hl[i]?).bind isAlloc = some t → (hl[j]?).bind isAlloc = some u → i ≠ j → G i ≠ G j
theorem ent_set {hl : List Oper} {V V' : Nat → Value} {B B' : Nat → Bool} {i : Nat} {o : Oper} (ho : hl[i]? = some o) (hV : ∀ j, j ≠ i → V' j = V j) (hB : ∀ j, j ≠ i → B' j = B j) (hb : B' i = true) :
    (ent hl V B 0).set i (o.dst, V' i, true) = ent hl V' B' 0 := by
  apply List.ext_getElem?
  intro k
  rw [List.getElem?_set]
  have hl1 : i < (ent hl V B 0).length := by rw [ent_len]; exact (List.getElem?_eq_some_iff.1 ho).1
  by_cases e : i = k
  · subst e
    rw [if_pos rfl, if_pos hl1, ent_at, ho]
    simp [hb]
  · rw [if_neg e, ent_at, ent_at]
    simp only [Nat.zero_add]
    rw [hV k (fun h => e h.symm), hB k (fun h => e h.symm)]
theorem getD_false_of {listed : Array Bool} {i : Nat} (h : listed.getD i true = false) : listed.getD i false = false := getD_both h
section
variable {l : List Oper} {n : Nat} {a0 : Act} {V : Nat → Value} {Z : TypeId → Array Value} {Q : Exit → Act → World → Prop}
theorem head_spec (hB : headB l.toArray n = true) {i : Nat} {oi : Oper} (hi : i < n) (hoi : l[i]? = some oi) :
    (∀ e ∈ oi.after, Region.binds .any e = true → e.on < i) ∧ ∀ j oj, j < n → l[j]? = some oj → ∀ d, oj.dst = some d →
      (d ∈ oi.looksAt l.toArray → j < i ∧ Region.waitsFor .any l.toArray i j = true ∧ isAlloc oj = none) ∧ (i ≠ j → oi.dst ≠ some d) := by
  unfold headB at hB
  have h1 := List.all_eq_true.1 hB i (List.mem_range.2 hi)
  simp only [List.getElem?_toArray, hoi, Bool.and_eq_true] at h1
  obtain ⟨h1, h2⟩ := h1
  refine ⟨fun e he hb => ?_, fun j oj hj hoj d hd => ?_⟩
  · have := Array.all_eq_true_iff_forall_mem.1 h1 e he
    simpa [hb] using this
  · have h3 := List.all_eq_true.1 h2 j (List.mem_range.2 hj)
    simp only [hoj, hd, Bool.and_eq_true, Bool.or_eq_true, Bool.not_eq_true', decide_eq_true_eq] at h3
    refine ⟨fun hc => ?_, fun hne => ?_⟩
    · rcases h3.1 with h | h
      · have : (oi.looksAt l.toArray).contains d = true := by simpa using hc
        rw [h] at this; cases this
      · exact ⟨h.1.1, h.1.2, by simpa using h.2⟩
    · rcases h3.2 with h | h
      · exact absurd h hne
      · simpa using h
/-- What an operation looks at is as in the walk in the order of the text. -/
theorem agree (hB : headB l.toArray n = true) (hn : n ≤ l.length) {G : Nat → Nat} {listed : Array Bool} {i : Nat} {oi : Oper} (hi : i < n) (hoi : l[i]? = some oi)
    (hr : i ∈ Region.ready .any l.toArray listed) {t : Tmp} (ht : t ∈ oi.looksAt l.toArray) :
    (canon (ent (l.take n) (val (l.take n) V G) (fun j => listed.getD j false) 0) a0).tmps[t]? = (canon (ent (l.take n) V (fun j => decide (j < i)) 0) a0).tmps[t]? := by
  obtain ⟨_, o', ho', hall⟩ := mem_ready.1 hr
  have : o' = oi := by
    rw [List.getElem?_toArray, hoi] at ho'
    exact (Option.some.inj ho').symm
  subst this
  refine look_canon _ _ _ _ (by rw [ent_len, ent_len]) rfl (fun k x y hx hy => ?_)
  rw [ent_at] at hx hy
  cases hk : (l.take n)[k]? with
  | none => rw [hk] at hx; cases hx
  | some ok =>
    rw [hk] at hx hy
    simp only [Option.map_some, Option.some.injEq, Nat.zero_add] at hx hy
    subst hx; subst hy
    refine ⟨rfl, fun hd => ?_⟩
    have hkn : k < n := by
      have := (List.getElem?_eq_some_iff.1 hk).1
      simp at this
      omega
    have hlk : l[k]? = some ok := by rwa [List.getElem?_take_of_lt hkn] at hk
    obtain ⟨h1, h2, h3⟩ := ((head_spec hB hi hoi).2 k ok hkn hlk t hd).1 ht
    obtain ⟨oj, hoj, e, he, hb, hon⟩ := Region.waitsFor_spec h2
    have : oj = o' := by
      rw [List.getElem?_toArray, hoi] at hoj
      exact (Option.some.inj hoj).symm
    subst this
    have hl := hall e he hb
    rw [hon] at hl
    have hv : val (l.take n) V G k = V k := by unfold val; rw [hk]; simp [h3]
    simp only [hv, hl, h1, decide_true]
theorem eval_of_look {a a' : Act} {x : Operand} (h : ∀ t, x = .tmp t → a.tmps[t]? = a'.tmps[t]?) : a.eval x = a'.eval x := by
  cases x with
  | tmp t =>
    have := h t rfl
    simp only [Act.eval, Array.getD_eq_getD_getElem?, this]
  | _ => rfl
theorem wanted_of_look {a a' : Act} {o : Oper} (h : ∀ t ∈ o.looksAt ops, a.tmps[t]? = a'.tmps[t]?) : Region.wanted o (yielded ops a.tmps) = Region.wanted o (yielded ops a'.tmps) := by
  unfold Region.wanted
  cases hg : o.guard with
  | none => rfl
  | some gw =>
    obtain ⟨g, want⟩ := gw
    have hy : yielded ops a.tmps g = yielded ops a'.tmps g := by
      unfold yielded
      cases ht : (ops[g]?).bind (·.dst) with
      | none => rfl
      | some t =>
        have := h t (by unfold Oper.looksAt; rw [hg]; exact List.mem_append_right _ (by simp [ht]))
        simp only [Option.bind_some, this]
    simp only [hy]
theorem execOp_of_look {a a' : Act} {o : Oper} (hs : ∀ cs b, o.op ≠ .select cs b) (h : ∀ t ∈ o.looksAt ops, a.tmps[t]? = a'.tmps[t]?) : execOp a.eval o = execOp a'.eval o :=
  execOp_congr o hs fun x hx => eval_of_look fun t ht => h t (by
    subst ht
    unfold Oper.looksAt
    exact List.mem_append_left _ (List.mem_filterMap.2 ⟨.tmp t, by simpa using hx, rfl⟩))

theorem mix_main (hB : mixB l.toArray n = true)
    (hgood : ∀ i o, (l.take n)[i]? = some o → Good P l.toArray w0 o (canon (ent (l.take n) V (fun j => decide (j < i)) 0) a0) (V i))
    (hA : ∀ o t, o ∈ l.take n → isAlloc o = some t → ∀ ρ w, (execOp ρ o).run P w = .ok (.value (.pointer (some ⟨w.heap.size, 0, none⟩))) (w.alloc (.cells (Z t) t)))
    (hend : ∀ G w', Grows w0 w' → (∀ i t, ((l.take n)[i]?).bind isAlloc = some t → Blk w' (G i) t (Z t) ∧ w0.heap.size ≤ G i) →
      (∀ i j t u, ((l.take n)[i]?).bind isAlloc = some t → ((l.take n)[j]?).bind isAlloc = some u → i ≠ j → G i ≠ G j) →
      wpList P l.toArray Q (l.drop n) (canon (ent (l.take n) (val (l.take n) V G) (fun _ => true) 0) a0) w') :
    ∀ f listed G a' w', MixInv l.toArray n (l.take n) w0 a0 V Z listed G a' w' → left listed n = f → wpAny P .any l.toArray Q (f + (l.length - n)) listed a' w' := by
  simp only [mixB, Bool.and_eq_true, decide_eq_true_eq, Bool.or_eq_true, List.size_toArray] at hB
  obtain ⟨⟨⟨⟨hsel, hn⟩, htail⟩, hseq⟩, hhead⟩ := hB
  intro f
  induction f with
  | zero =>
    intro listed G a' w' inv hf
    have hz := left_zero n hf
    have hz' : ∀ j, j < n → listed.getD j false = true := fun j hj => by
      have h1 := hz j hj
      have h2 : j < listed.size := by rw [inv.head.size]; simp; omega
      simp [h2] at h1 ⊢; exact h1
    have hlisted : listed = Array.replicate n true ++ Array.replicate (l.length - n) false := by
      apply Array.ext
      · rw [inv.head.size]; simp; omega
      · intro i h1 h2
        have hs : listed.size = l.length := by rw [inv.head.size]; simp
        by_cases hi : i < n
        · have := hz i hi
          rw [Array.getElem_append_left (by simpa using hi)]
          simpa [h1] using this
        · have := inv.head.tail i (by omega) (by simpa using (by omega : i < l.length))
          rw [Array.getElem_append_right (by simpa using (by omega : n ≤ i))]
          simpa [h1] using this
    have hfr : a' = canon (ent (l.take n) (val (l.take n) V G) (fun _ => true) 0) a0 := by
      rw [inv.frame]
      congr 1
      apply ent_congr
      intro i hi
      have : i < n := by simp at hi; omega
      exact ⟨rfl, by simpa using hz' i this⟩
    have hlt : ∀ i t, ((l.take n)[i]?).bind isAlloc = some t → i < n := by
      intro i t h
      cases hx : (l.take n)[i]? with
      | none => rw [hx] at h; cases h
      | some o => have := (List.getElem?_eq_some_iff.1 hx).1; simp at this; omega
    have hfin := hend G w' inv.grows (fun i t h => inv.blks i t (hz' i (hlt i t h)) h) (fun i j t u h1 h2 => inv.dist i j t u (hz' i (hlt i t h1)) (hz' j (hlt j u h2)) h1 h2)
    rw [← hfr] at hfin
    have hdl : (l.drop n).length = l.length - n := by simp
    have := wpAny_of_seq (P := P) (md := .any) (ops := l.toArray) (Q' := Q) (l.drop n) n listed a' w' (fun j => by simp [List.getElem?_drop]) (by rw [hdl, hlisted]; exact hseq) hfin
    rwa [hdl, ← Nat.zero_add (l.length - n)] at this
  | succ f ih =>
    intro listed G a' w' inv hf
    rw [show f + 1 + (l.length - n) = (f + (l.length - n)) + 1 by omega]
    obtain ⟨i0, hi0, hun0, hbefore⟩ := left_some n (by omega : left listed n ≠ 0)
    have hls : listed.size = l.length := by rw [inv.head.size]; simp
    -- the first one that has not come up may come up
    have hready : i0 ∈ Region.ready .any l.toArray listed := by
      obtain ⟨o0, ho0⟩ : ∃ o, l[i0]? = some o := ⟨_, List.getElem?_eq_getElem (by omega)⟩
      refine mem_ready.2 ⟨hun0, o0, by rw [List.getElem?_toArray]; exact ho0, fun e he hb => ?_⟩
      have hlt := (head_spec hhead hi0 ho0).1 e he hb
      have h1 := hbefore e.on hlt
      have h2 : e.on < listed.size := by omega
      simp [h2] at h1 ⊢; exact h1
    refine ⟨fun h => (by rw [h] at hready; cases hready), fun i hr => ?_⟩
    have hin : i < n := by
      rcases Nat.lt_or_ge i n with h | h
      · exact h
      · rcases htail with h0 | ⟨hs, hc⟩
        · obtain ⟨_, o, ho, _⟩ := mem_ready.1 hr
          have := (Array.getElem?_eq_some_iff.1 ho).1
          simp at this; omega
        · rcases Nat.eq_or_lt_of_le hn with h0 | h0
          · obtain ⟨_, o, ho, _⟩ := mem_ready.1 hr
            have := (Array.getElem?_eq_some_iff.1 ho).1
            simp at this; omega
          · exact absurd hr (tail_waits hs hc (by simpa using h0) inv.head _ i0 rfl hi0 hun0 i h)
    obtain ⟨hun, o, ho, hall⟩ := mem_ready.1 hr
    rw [List.getElem?_toArray] at ho
    have hot : (l.take n)[i]? = some o := by rwa [List.getElem?_take_of_lt hin]
    have hmem : o ∈ l.take n := List.mem_of_getElem? hot
    have hsl : ∀ cs b, o.op ≠ .select cs b := fun cs b => Region.noSelect_spec hsel i o cs b (by rw [List.getElem?_toArray]; exact ho)
    have hg := hgood i o hot
    have hlook : ∀ t ∈ o.looksAt l.toArray, a'.tmps[t]? = (canon (ent (l.take n) V (fun j => decide (j < i)) 0) a0).tmps[t]? := fun t ht => by
      rw [inv.frame]; exact agree hhead hn hin ho hr ht
    have hw := wanted_of_look hlook
    have hex := execOp_of_look hsl hlook
    have hcount : left (listed.setIfInBounds i true) n = f := by
      have := left_set hun n hin
      omega
    -- what is handed on
    have hnext : ∀ (v : Value) (G' : Nat → Nat) (w'' : World), val (l.take n) V G' i = v → (∀ j, j ≠ i → G' j = G j) → Grows w' w'' →
        (∀ t, ((l.take n)[i]?).bind isAlloc = some t → Blk w'' (G' i) t (Z t) ∧ w0.heap.size ≤ G' i ∧ ∀ j, j ≠ i → ∀ u, listed.getD j false = true → ((l.take n)[j]?).bind isAlloc = some u → G' i ≠ G j) →
        wpAny P .any l.toArray Q (f + (l.length - n)) (listed.setIfInBounds i true) (a'.put o.dst v) w'' := by
      intro v G' w'' hv hG hgr hal
      refine ih (listed.setIfInBounds i true) G' _ w'' ⟨?_, inv.grows.trans hgr, inv.head.set hr hin, ?_, ?_⟩ hcount
      · rw [inv.frame]
        have hset := canon_set (ent (l.take n) (val (l.take n) V G) (fun j => listed.getD j false) 0) i o.dst v (val (l.take n) V G i) (listed.getD i false) a0
          (by rw [ent_at, hot]; simp) (fun k x hx hki t ht => by
            rw [ent_at] at hx
            cases hk : (l.take n)[k]? with
            | none => rw [hk] at hx; cases hx
            | some ok =>
              rw [hk] at hx
              simp only [Option.map_some, Option.some.injEq, Nat.zero_add] at hx
              subst hx
              have hkn : k < n := by
                have := (List.getElem?_eq_some_iff.1 hk).1
                simp at this
                omega
              have hlk : l[k]? = some ok := by rwa [List.getElem?_take_of_lt hkn] at hk
              exact ((head_spec hhead hin ho).2 k ok hkn hlk t ht).2 (fun e => hki e.symm))
        rw [hset, ← hv]
        congr 1
        refine ent_set hot (fun j hj => ?_) (fun j hj => getD_set_ne false (fun e => hj e.symm)) ?_
        · unfold val
          rw [hG j hj]
        · have : i < listed.size := by omega
          simp [this]
      · intro j t hl hj
        by_cases e : j = i
        · subst e
          exact ⟨(hal t hj).1, (hal t hj).2.1⟩
        · rw [getD_set_ne false (fun h => e h.symm)] at hl
          obtain ⟨h1, h2⟩ := inv.blks j t hl hj
          rw [hG j e]
          exact ⟨h1.next hgr, h2⟩
      · intro j k t u hlj hlk hj hk hne
        by_cases e : j = i
        · subst e
          have hk' : k ≠ j := fun h => hne h.symm
          rw [getD_set_ne false hne] at hlk
          rw [hG k hk']
          exact (hal t hj).2.2 k hk' u hlk hk
        · rw [getD_set_ne false (fun h => e h.symm)] at hlj
          rw [hG j e]
          by_cases e' : k = i
          · subst e'
            exact fun h => (hal u hk).2.2 j e t hlj hj h.symm
          · rw [getD_set_ne false (fun h => e' h.symm)] at hlk
            rw [hG k e']
            exact inv.dist j k t u hlj hlk hj hk hne
    unfold wpOp
    simp only [List.getElem?_toArray, ho]
    cases hal : isAlloc o with
    | some t =>
      have hguard : o.guard = none := by unfold Good at hg; rw [hal] at hg; exact hg
      rw [if_pos (by simp [Region.wanted, hguard])]
      refine .inl ?_
      unfold Oper.wp
      rw [hA o t hmem hal, Oper.upon_value]
      have hbi : ((l.take n)[i]?).bind isAlloc = some t := by rw [hot]; exact hal
      refine hnext _ (fun j => if j = i then w'.heap.size else G j) _ (by unfold val; rw [hbi]; simp) (fun j hj => by simp [hj]) (Bl_alloc (Bl_refl w') _) (fun u hu => ?_)
      rw [hbi] at hu
      obtain rfl := Option.some.inj hu
      simp only [if_true]
      refine ⟨Blk.new _ _ _, inv.grows.size, fun j hj u hl hju => ?_⟩
      have := (inv.blks j u hl hju).1.lt
      omega
    | none =>
      have hbi : ((l.take n)[i]?).bind isAlloc = none := by rw [hot]; exact hal
      have hvi : val (l.take n) V G i = V i := by unfold val; rw [hbi]
      have hno : ∀ w'' t, ((l.take n)[i]?).bind isAlloc = some t → Blk w'' (G i) t (Z t) ∧ w0.heap.size ≤ G i ∧ ∀ j, j ≠ i → ∀ u, listed.getD j false = true → ((l.take n)[j]?).bind isAlloc = some u → G i ≠ G j := fun w'' t ht => by
        rw [hbi] at ht; cases ht
      unfold Good at hg
      rw [hal] at hg
      simp only at hg
      rw [← hw] at hg
      by_cases hwt : Region.wanted o (yielded l.toArray a'.tmps) = true
      · rw [if_pos hwt] at hg ⊢
        refine .inl ?_
        have h3 := hg ⟨w', inv.grows⟩
        unfold mixAt at h3
        rw [← hex] at h3
        unfold Oper.wp
        generalize (execOp a'.eval o).run P w' = r at *
        cases r with
        | ok nx w'' =>
          cases nx <;> simp only [mixUpon] at h3 <;> simp only [Oper.upon]
          case value u =>
            obtain ⟨e1, e2⟩ := h3
            rw [e1, e2]
            exact hnext _ G _ hvi (fun _ _ => rfl) (Grows.refl _) (hno _)
          case skip =>
            obtain ⟨e1, e2⟩ := h3
            rw [e1, ← e2]
            exact hnext _ G _ hvi (fun _ _ => rfl) (Grows.refl _) (hno _)
          case enter fn args =>
            obtain ⟨e1, hc⟩ := h3
            rw [e1]
            exact hc.mono fun e w3 ⟨he, hg3⟩ => by subst he; exact hnext _ G _ hvi (fun _ _ => rfl) hg3 (hno _)
        | halt x w'' => simp only [mixUpon] at h3
      · rw [if_neg hwt] at hg ⊢
        rw [← hg]
        exact hnext _ G _ hvi (fun _ _ => rfl) (Grows.refl _) (hno _)

/-- The places of the new blocks, put into the frame. -/
def putAll : List Oper → (Nat → Nat) → Nat → Act → Act
  | [], _, _, a => a
  | o :: l, G, k, a => match isAlloc o with
    | some _ => putAll l G (k + 1) (a.put o.dst (.pointer (some ⟨G k, 0, none⟩)))
    | none => putAll l G (k + 1) a
theorem putAll_is (hB : headB l.toArray n = true) (hn : n ≤ l.length) {G : Nat → Nat} : ∀ (l' : List Oper) (k : Nat), (∀ j, l'[j]? = (l.take n)[k + j]?) →
    putAll l' G k (canon (ent (l.take n) (fun j => if j < k then val (l.take n) V G j else V j) (fun _ => true) 0) a0) = canon (ent (l.take n) (val (l.take n) V G) (fun _ => true) 0) a0
  | [], k, h => by
    simp only [putAll]
    congr 1
    apply ent_congr
    intro i hi
    have h0 := h 0
    simp only [List.getElem?_nil, Nat.add_zero] at h0
    have hk : (l.take n).length ≤ k := List.getElem?_eq_none_iff.1 h0.symm
    refine ⟨?_, rfl⟩
    simp only [Nat.zero_add]
    rw [if_pos (by omega)]
  | o :: l', k, h => by
    have h0 : (l.take n)[k]? = some o := by simpa using (h 0).symm
    have hrest : ∀ j, l'[j]? = (l.take n)[k + 1 + j]? := fun j => by
      have := h (j + 1)
      simpa [show k + (j + 1) = k + 1 + j by omega] using this
    have ih := putAll_is hB hn (G := G) l' (k + 1) hrest
    have hkn : k < n := by
      have := (List.getElem?_eq_some_iff.1 h0).1
      simp at this
      omega
    have hlk : l[k]? = some o := by rwa [List.getElem?_take_of_lt hkn] at h0
    simp only [putAll]
    cases hal : isAlloc o with
    | none =>
      simp only
      have hv : val (l.take n) V G k = V k := by unfold val; rw [h0]; simp [hal]
      have e : ent (l.take n) (fun j => if j < k then val (l.take n) V G j else V j) (fun _ => true) 0 = ent (l.take n) (fun j => if j < k + 1 then val (l.take n) V G j else V j) (fun _ => true) 0 := by
        apply ent_congr
        intro i _
        refine ⟨?_, rfl⟩
        simp only [Nat.zero_add]
        by_cases h1 : i < k
        · rw [if_pos h1, if_pos (by omega)]
        · by_cases h2 : i = k
          · subst h2
            rw [if_neg h1, if_pos (by omega), hv]
          · rw [if_neg h1, if_neg (by omega)]
      rw [e]
      exact ih
    | some t =>
      simp only
      have hv : val (l.take n) V G k = .pointer (some ⟨G k, 0, none⟩) := by unfold val; rw [h0]; simp [hal]
      have hset := canon_set (ent (l.take n) (fun j => if j < k then val (l.take n) V G j else V j) (fun _ => true) 0) k o.dst (.pointer (some ⟨G k, 0, none⟩)) (V k) true a0
        (by rw [ent_at, h0]; simp) (fun j x hx hjk t ht => by
          rw [ent_at] at hx
          cases hj : (l.take n)[j]? with
          | none => rw [hj] at hx; cases hx
          | some oj =>
            rw [hj] at hx
            simp only [Option.map_some, Option.some.injEq, Nat.zero_add] at hx
            subst hx
            have hjn : j < n := by
              have := (List.getElem?_eq_some_iff.1 hj).1
              simp at this
              omega
            have hlj : l[j]? = some oj := by rwa [List.getElem?_take_of_lt hjn] at hj
            exact ((head_spec hB hkn hlk).2 j oj hjn hlj t ht).2 (fun e => hjk e.symm))
      rw [hset, ← hv]
      have := ent_set (V := fun j => if j < k then val (l.take n) V G j else V j) (V' := fun j => if j < k + 1 then val (l.take n) V G j else V j) (B := fun _ => true) (B' := fun _ => true) h0
        (fun j hj => by
          by_cases h1 : j < k
          · simp only [h1, if_true]; rw [if_pos (by omega)]
          · simp only [h1, if_false]; rw [if_neg (by omega)]) (fun _ _ => rfl) rfl
      simp only [show k < k + 1 from Nat.lt_succ_self k, if_true] at this
      rw [this]
      exact ih
end
end
section
variable {P : Program}
/-- ONE WALK IN THE ORDER OF THE TEXT SERVES EVERY ORDER, new blocks and a forced tail with it. -/
theorem wp_region_mix {id : Nat} {Q : Exit → Act → World → Prop} {a : Act} {w : World} {l : List Oper} (n : Nat) (Z : TypeId → Array Value) (hm : P.follows .mixedOrders = true) (hB : mixB l.toArray n = true)
    (hA : ∀ o t, o ∈ l.take n → isAlloc o = some t → ∀ ρ w, (execOp ρ o).run P w = .ok (.value (.pointer (some ⟨w.heap.size, 0, none⟩))) (w.alloc (.cells (Z t) t)))
    (h : wpMix P l.toArray w (fun af => ∀ (G : Nat → Nat) (w' : World), Grows w w' → (∀ i t, ((l.take n)[i]?).bind isAlloc = some t → Blk w' (G i) t (Z t) ∧ w.heap.size ≤ G i) →
      (∀ i j t u, ((l.take n)[i]?).bind isAlloc = some t → ((l.take n)[j]?).bind isAlloc = some u → i ≠ j → G i ≠ G j) → wpList P l.toArray Q (l.drop n) (putAll (l.take n) G 0 af) w') (l.take n) a) :
    (Code.region id l.toArray true).wp P Q a w := by
  obtain ⟨V, h1, h2, _⟩ := mix_vals (l.take n) 0 a h
  simp only [Nat.zero_add] at h1
  have hB' := hB
  simp only [mixB, Bool.and_eq_true, decide_eq_true_eq, Bool.or_eq_true, List.size_toArray] at hB'
  obtain ⟨⟨⟨⟨hsel, hn⟩, htail⟩, hseq⟩, hhead⟩ := hB'
  refine wp_region_any hm ?_
  have hn' : n ≤ l.length := by simpa using hn
  have inv0 : HeadInv .any l.toArray n (Array.replicate l.toArray.size false) :=
    ⟨by simp, fun j oj _ hl => (by rw [getD_replicate_false] at hl; cases hl), fun t _ ht => getD_in (by simpa using ht) (getD_replicate_false _ _)⟩
  have hleft : left (Array.replicate l.toArray.size false) n = n := by
    have : ∀ m, m ≤ l.length → left (Array.replicate l.toArray.size false) m = m := by
      intro m
      induction m with
      | zero => intro _; rfl
      | succ m ih =>
        intro hm'
        simp only [left]
        rw [ih (by omega)]
        have : (Array.replicate l.toArray.size false).getD m true = false := getD_in (by simp; omega) (getD_replicate_false _ _)
        rw [this]
        simp
    exact this n hn'
  have hfr0 : a = canon (ent (l.take n) (val (l.take n) V (fun _ => 0)) (fun j => (Array.replicate l.toArray.size false).getD j false) 0) a := by
    rw [canon_none]
    intro i _
    exact getD_replicate_false _ _
  have hnone : ∀ i, (Array.replicate l.toArray.size false).getD i false = true → False := fun i h => by rw [getD_replicate_false] at h; cases h
  have main := mix_main (P := P) (w0 := w) (a0 := a) (V := V) (Z := Z) (Q := Q) hB h1 hA (fun G w' hg hb hd => by
    have := h2 G w' hg hb hd
    have e := putAll_is (V := V) (a0 := a) (G := G) hhead hn' (l.take n) 0 (fun j => by simp)
    have e0 : (fun j => if j < 0 then val (l.take n) V G j else V j) = V := by funext j; simp
    rw [e0] at e
    rwa [e] at this) n (Array.replicate l.toArray.size false) (fun _ => 0) a { w with drawn := w.drawn + 1 }
    ⟨hfr0, Bl_drew (Bl_refl w), inv0, fun i t h => (hnone i h).elim, fun i j t u h => (hnone i h).elim⟩ hleft
  have e : n + (l.length - n) = l.toArray.size := by simp; omega
  rwa [e] at main
theorem wpMix_nil {ops : Array Oper} {w0 : World} {Q : Act → Prop} {a : Act} (h : Q a) : wpMix P ops w0 Q [] a := h
theorem wpMix_step {ops : Array Oper} {w0 : World} {Q : Act → Prop} {a : Act} {o : Oper} {rest : List Oper}
    (h : ∀ K : Act → Prop, (∀ a, wpMix P ops w0 Q rest a → K a) → match isAlloc o with
      | some _ => o.guard = none ∧ K (a.put o.dst undef)
      | none => if Region.wanted o (yielded ops a.tmps) then ∃ v, (∀ g : Later w0, mixAt P o a.eval g.w v) ∧ K (a.put o.dst v) else K (a.put o.dst undef)) : wpMix P ops w0 Q (o :: rest) a :=
  h _ (fun _ h => h)
attribute [go_sem] mixAt mixUpon isAlloc
theorem Later.cell {w0 : World} (g : Later w0) {a : Addr} {v : Value} (h : w0.cell? a = some v) : g.w.cell? a = some v := (g.is.cell (World.block_lt_of_cell? w0 _ h)).trans h
theorem alloc_is {o : Oper} {t : TypeId} (h : isAlloc o = some t) : o.op = .alloc t := by
  unfold isAlloc at h
  split at h
  · rename_i e; rw [e]; rw [Option.some.inj h]
  · cases h
theorem no_alloc {l : List Oper} {n : Nat} {Z : TypeId → Array Value} (h : (l.take n).all (fun o => (isAlloc o).isNone) = true) :
    ∀ o t, o ∈ l.take n → isAlloc o = some t → ∀ (ρ : Operand → Value) (w : World), (execOp ρ o).run P w = .ok (.value (.pointer (some ⟨w.heap.size, 0, none⟩))) (w.alloc (.cells (Z t) t)) := fun o t ho ht => by
  have := List.all_eq_true.1 h o ho
  rw [ht] at this
  cases this
end
theorem cells2 {w : World} {g : Nat} {t : TypeId} {a0 a1 : Value} (B : Blk w g t #[a0, a1]) : w.cell? ⟨g, 0, none⟩ = some a0 ∧ w.cell? ⟨g, 1, none⟩ = some a1 :=
  ⟨B.cell 0, B.cell 1⟩
theorem lcells2 {w : World} {g : Nat} {t : TypeId} {a0 a1 : Value} (B : Blk w g t #[a0, a1]) : (∀ x : Later w, x.w.cell? ⟨g, 0, none⟩ = some a0) ∧ (∀ x : Later w, x.w.cell? ⟨g, 1, none⟩ = some a1) :=
  ⟨fun x => x.cell (B.cell 0), fun x => x.cell (B.cell 1)⟩
theorem cells6 {w : World} {g : Nat} {t : TypeId} {a0 a1 a2 a3 a4 a5 : Value} (B : Blk w g t #[a0, a1, a2, a3, a4, a5]) : w.cell? ⟨g, 0, none⟩ = some a0 ∧ w.cell? ⟨g, 1, none⟩ = some a1 ∧ w.cell? ⟨g, 2, none⟩ = some a2 ∧ w.cell? ⟨g, 3, none⟩ = some a3 ∧ w.cell? ⟨g, 4, none⟩ = some a4 ∧ w.cell? ⟨g, 5, none⟩ = some a5 :=
  ⟨B.cell 0, B.cell 1, B.cell 2, B.cell 3, B.cell 4, B.cell 5⟩
theorem lcells6 {w : World} {g : Nat} {t : TypeId} {a0 a1 a2 a3 a4 a5 : Value} (B : Blk w g t #[a0, a1, a2, a3, a4, a5]) : (∀ x : Later w, x.w.cell? ⟨g, 0, none⟩ = some a0) ∧ (∀ x : Later w, x.w.cell? ⟨g, 1, none⟩ = some a1) ∧ (∀ x : Later w, x.w.cell? ⟨g, 2, none⟩ = some a2) ∧ (∀ x : Later w, x.w.cell? ⟨g, 3, none⟩ = some a3) ∧ (∀ x : Later w, x.w.cell? ⟨g, 4, none⟩ = some a4) ∧ (∀ x : Later w, x.w.cell? ⟨g, 5, none⟩ = some a5) :=
  ⟨fun x => x.cell (B.cell 0), fun x => x.cell (B.cell 1), fun x => x.cell (B.cell 2), fun x => x.cell (B.cell 3), fun x => x.cell (B.cell 4), fun x => x.cell (B.cell 5)⟩
theorem cells12 {w : World} {g : Nat} {t : TypeId} {a0 a1 a2 a3 a4 a5 a6 a7 a8 a9 a10 a11 : Value} (B : Blk w g t #[a0, a1, a2, a3, a4, a5, a6, a7, a8, a9, a10, a11]) : w.cell? ⟨g, 0, none⟩ = some a0 ∧ w.cell? ⟨g, 1, none⟩ = some a1 ∧ w.cell? ⟨g, 2, none⟩ = some a2 ∧ w.cell? ⟨g, 3, none⟩ = some a3 ∧ w.cell? ⟨g, 4, none⟩ = some a4 ∧ w.cell? ⟨g, 5, none⟩ = some a5 ∧ w.cell? ⟨g, 6, none⟩ = some a6 ∧ w.cell? ⟨g, 7, none⟩ = some a7 ∧ w.cell? ⟨g, 8, none⟩ = some a8 ∧ w.cell? ⟨g, 9, none⟩ = some a9 ∧ w.cell? ⟨g, 10, none⟩ = some a10 ∧ w.cell? ⟨g, 11, none⟩ = some a11 :=
  ⟨B.cell 0, B.cell 1, B.cell 2, B.cell 3, B.cell 4, B.cell 5, B.cell 6, B.cell 7, B.cell 8, B.cell 9, B.cell 10, B.cell 11⟩
theorem lcells12 {w : World} {g : Nat} {t : TypeId} {a0 a1 a2 a3 a4 a5 a6 a7 a8 a9 a10 a11 : Value} (B : Blk w g t #[a0, a1, a2, a3, a4, a5, a6, a7, a8, a9, a10, a11]) : (∀ x : Later w, x.w.cell? ⟨g, 0, none⟩ = some a0) ∧ (∀ x : Later w, x.w.cell? ⟨g, 1, none⟩ = some a1) ∧ (∀ x : Later w, x.w.cell? ⟨g, 2, none⟩ = some a2) ∧ (∀ x : Later w, x.w.cell? ⟨g, 3, none⟩ = some a3) ∧ (∀ x : Later w, x.w.cell? ⟨g, 4, none⟩ = some a4) ∧ (∀ x : Later w, x.w.cell? ⟨g, 5, none⟩ = some a5) ∧ (∀ x : Later w, x.w.cell? ⟨g, 6, none⟩ = some a6) ∧ (∀ x : Later w, x.w.cell? ⟨g, 7, none⟩ = some a7) ∧ (∀ x : Later w, x.w.cell? ⟨g, 8, none⟩ = some a8) ∧ (∀ x : Later w, x.w.cell? ⟨g, 9, none⟩ = some a9) ∧ (∀ x : Later w, x.w.cell? ⟨g, 10, none⟩ = some a10) ∧ (∀ x : Later w, x.w.cell? ⟨g, 11, none⟩ = some a11) :=
  ⟨fun x => x.cell (B.cell 0), fun x => x.cell (B.cell 1), fun x => x.cell (B.cell 2), fun x => x.cell (B.cell 3), fun x => x.cell (B.cell 4), fun x => x.cell (B.cell 5), fun x => x.cell (B.cell 6), fun x => x.cell (B.cell 7), fun x => x.cell (B.cell 8), fun x => x.cell (B.cell 9), fun x => x.cell (B.cell 10), fun x => x.cell (B.cell 11)⟩
end Go.Proofs.YtmghpoagpiljhaaDoor
