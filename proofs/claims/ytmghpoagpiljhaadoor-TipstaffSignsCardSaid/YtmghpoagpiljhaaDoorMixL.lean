/- A region that draws its order, as in Mix; some operations of its head, that look at no world ('late'), may come up when the tail has begun. -/
import Derived.Test.YtmghpoagpiljhaaDoorMix
namespace Go.Proofs.YtmghpoagpiljhaaDoor
open Go Go.RowKit
section
variable {P : Program} {ops : Array Oper} {w0 : World}
/-- As wpMix; of a late operation the value is shown in every world. -/
def wpMixL (P : Program) (ops : Array Oper) (w0 : World) (late : Nat → Bool) (Q : Act → Prop) : Nat → List Oper → Act → Prop
  | _, [], a => Q a
  | k, o :: rest, a =>
    match isAlloc o with
    | some _ => o.guard = none ∧ wpMixL P ops w0 late Q (k + 1) rest (a.put o.dst undef)
    | none => if Region.wanted o (yielded ops a.tmps) then ∃ v, (∀ g : Later w0, mixAt P o a.eval g.w v) ∧ (late k = true → ∀ w, (execOp a.eval o).run P w = .ok (.value v) w) ∧ wpMixL P ops w0 late Q (k + 1) rest (a.put o.dst v) else wpMixL P ops w0 late Q (k + 1) rest (a.put o.dst undef)
def lateB (ops : Array Oper) (n : Nat) (late : Nat → Bool) : Bool :=
  (List.range n).all fun i => !late i || match ops[i]? with
    | none => false
    | some oi => oi.guard.isNone && (isAlloc oi).isNone && (List.range ops.size).all fun j => decide (i = j) || Region.waitsFor .any ops i j || Region.waitsFor .any ops j i || (match ops[j]? with | some oj => oi.apart ops oj | none => true)
def sinkLB (ops : Array Oper) (n : Nat) (late : Nat → Bool) : Bool :=
  (List.range n).all fun i => late i || (List.range (n + 1)).any fun j => decide (i < j) && Region.waitsFor .any ops j i && (decide (j = n) || !late j)
def mixLB (ops : Array Oper) (n : Nat) (late : Nat → Bool) : Bool :=
  Region.noSelect ops && decide (n < ops.size) && (sinkLB ops n late && Region.chainB .any ops n) &&
    Region.seqB .any ops (ops.size - n) n (Array.replicate n true ++ Array.replicate (ops.size - n) false) && headB ops n && lateB ops n late
theorem tail_waitsL {n : Nat} {late : Nat → Bool} {listed : Array Bool} (hs : sinkLB ops n late = true) (hc : Region.chainB .any ops n = true) (hn : n < ops.size) (inv : HeadInv .any ops n listed) :
    ∀ (d i : Nat), n - i = d → i < n → late i = false → listed.getD i true = false → ∀ t, n ≤ t → t ∉ Region.ready .any ops listed := by
  intro d
  induction d using Nat.strongRecOn with
  | _ d ih =>
    intro i hd hi hli hun t ht hr
    obtain ⟨_, ot, hot, hall⟩ := mem_ready.1 hr
    have htlt : t < ops.size := (Array.getElem?_eq_some_iff.1 hot).1
    by_cases htn : t = n
    · subst htn
      have h1 := List.all_eq_true.1 hs i (List.mem_range.2 hi)
      rw [hli, Bool.false_or] at h1
      obtain ⟨j, hj, hj2⟩ := List.any_eq_true.1 h1
      simp only [Bool.and_eq_true, decide_eq_true_eq, Bool.or_eq_true, Bool.not_eq_true'] at hj2
      obtain ⟨oj, hoj, e, he, hb, hon⟩ := Region.waitsFor_spec hj2.1.2
      have hjle : j ≤ t := by have := List.mem_range.1 hj; omega
      by_cases hjt : j = t
      · subst hjt
        have : oj = ot := Option.some.inj (hoj.symm.trans hot)
        subst this
        have h2 := hall e he hb
        rw [hon, getD_both hun] at h2
        cases h2
      · cases hl : listed.getD j false with
        | true =>
          have h2 := inv.closed j oj hoj hl e he hb
          rw [hon, getD_both hun] at h2
          cases h2
        | false =>
          have hjs : j < listed.size := by rw [inv.size]; omega
          exact ih (t - j) (by omega) j rfl (by omega) (hj2.2.resolve_left hjt) (getD_in hjs hl) t (Nat.le_refl _) hr
    · have h1 := List.all_eq_true.1 hc t (List.mem_range.2 htlt)
      simp only [Bool.or_eq_true, decide_eq_true_eq] at h1
      rcases h1 with h1 | h1
      · omega
      · obtain ⟨o', ho', e, he, hb, hon⟩ := Region.waitsFor_spec h1
        have : o' = ot := Option.some.inj (ho'.symm.trans hot)
        subst this
        have h2 := hall e he hb
        rw [hon, getD_both (inv.tail (t - 1) (by omega) (by omega))] at h2
        cases h2
theorem mix_valsL {late : Nat → Bool} {Q : Act → Prop} : ∀ (l : List Oper) (k : Nat) (a : Act), wpMixL P ops w0 late Q k l a →
    ∃ V : Nat → Value, (∀ i o, l[i]? = some o → Good P ops w0 o (canon (ent l V (fun j => decide (j < k + i)) k) a) (V (k + i))) ∧ Q (canon (ent l V (fun _ => true) k) a) ∧ (∀ i o t, l[i]? = some o → isAlloc o = some t → V (k + i) = undef) ∧
      (∀ i o, l[i]? = some o → late (k + i) = true → o.guard = none → isAlloc o = none → ∀ w, (execOp (canon (ent l V (fun j => decide (j < k + i)) k) a).eval o).run P w = .ok (.value (V (k + i))) w)
  | [], _, _, h => ⟨fun _ => undef, fun i o ho => by simp at ho, h, fun i o t ho => by simp at ho, fun i o ho => by simp at ho⟩
  | o :: l, k, a, h => by
    have key : ∃ v, Good P ops w0 o a v ∧ (∀ t, isAlloc o = some t → v = undef) ∧ (late k = true → o.guard = none → isAlloc o = none → ∀ w, (execOp a.eval o).run P w = .ok (.value v) w) ∧ wpMixL P ops w0 late Q (k + 1) l (a.put o.dst v) := by
      unfold wpMixL at h
      unfold Good
      cases hal : isAlloc o with
      | some t => rw [hal] at h; exact ⟨undef, h.1, fun _ _ => rfl, fun _ _ h => (by cases h), h.2⟩
      | none =>
        rw [hal] at h
        simp only at h
        by_cases hw : Region.wanted o (yielded ops a.tmps) = true
        · rw [if_pos hw] at h
          obtain ⟨v, h1, h2, h3⟩ := h
          exact ⟨v, by simp only; rw [if_pos hw]; exact h1, fun t ht => (by cases ht), fun hl _ _ => h2 hl, h3⟩
        · rw [if_neg hw] at h
          exact ⟨undef, by simp [hw], fun _ _ => rfl, fun _ hg _ => absurd (by simp [Region.wanted, hg]) hw, h⟩
    obtain ⟨v, hg, hu, hp, hrest⟩ := key
    obtain ⟨V, h1, h2, h3, h4⟩ := mix_valsL l (k + 1) _ hrest
    have hV : ∀ (B : Nat → Bool), ent l (fun j => if j = k then v else V j) B (k + 1) = ent l V B (k + 1) := fun B =>
      ent_congr _ _ _ _ _ _ fun i _ => ⟨by show (if k + 1 + i = k then v else V (k + 1 + i)) = _; rw [if_neg (by omega)], rfl⟩
    refine ⟨fun j => if j = k then v else V j, ?_, ?_, ?_, ?_⟩
    · intro i o' ho'
      cases i with
      | zero =>
        simp only [List.getElem?_cons_zero, Option.some.injEq] at ho'
        subst ho'
        have e : (fun j => if j = k then v else V j) (k + 0) = v := by simp
        rw [canon_none _ _ _ _ _ (fun i _ => by simp), e]
        exact hg
      | succ i =>
        simp only [List.getElem?_cons_succ] at ho'
        have := h1 i o' ho'
        simp only [ent, canon, hV, if_true]
        rw [if_pos (by simp), if_neg (by omega)]
        simpa only [show k + (i + 1) = k + 1 + i by omega] using this
    · simp only [ent, canon, hV, if_true]
      exact h2
    · intro i o' t ho' ht
      cases i with
      | zero =>
        simp only [List.getElem?_cons_zero, Option.some.injEq] at ho'
        subst ho'
        simp only [Nat.add_zero, if_true]
        exact hu t ht
      | succ i =>
        simp only [List.getElem?_cons_succ] at ho'
        have := h3 i o' t ho' ht
        simp only [show k + (i + 1) = k + 1 + i by omega]
        rw [if_neg (by omega)]
        exact this
    · intro i o' ho' hl hgd hal w
      cases i with
      | zero =>
        simp only [List.getElem?_cons_zero, Option.some.injEq] at ho'
        subst ho'
        have e : (fun j => if j = k then v else V j) (k + 0) = v := by simp
        rw [canon_none _ _ _ _ _ (fun i _ => by simp), e]
        exact hp hl hgd hal w
      | succ i =>
        simp only [List.getElem?_cons_succ] at ho'
        have := h4 i o' ho' (by simpa only [show k + (i + 1) = k + 1 + i by omega] using hl) hgd hal w
        simp only [ent, canon, hV, if_true]
        rw [if_pos (by simp), if_neg (by omega)]
        simpa only [show k + (i + 1) = k + 1 + i by omega] using this
section
variable {l : List Oper} {n : Nat} {a0 : Act} {V : Nat → Value} {Z : TypeId → Array Value} {Q : Exit → Act → World → Prop} {late : Nat → Bool}
theorem mix_mainL (hB : mixLB l.toArray n late = true) (hQ : ∀ d v c a w, Q (.panic c) (a.put d v) w → Q (.panic c) a w)
    (hpure : ∀ i o, (l.take n)[i]? = some o → late i = true → o.guard = none → isAlloc o = none → ∀ w, (execOp (canon (ent (l.take n) V (fun j => decide (j < i)) 0) a0).eval o).run P w = .ok (.value (V i)) w)
    (hgood : ∀ i o, (l.take n)[i]? = some o → Good P l.toArray w0 o (canon (ent (l.take n) V (fun j => decide (j < i)) 0) a0) (V i))
    (hA : ∀ o t, o ∈ l.take n → isAlloc o = some t → ∀ ρ w, (execOp ρ o).run P w = .ok (.value (.pointer (some ⟨w.heap.size, 0, none⟩))) (w.alloc (.cells (Z t) t)))
    (hend : ∀ G w', Grows w0 w' → (∀ i t, ((l.take n)[i]?).bind isAlloc = some t → Blk w' (G i) t (Z t) ∧ w0.heap.size ≤ G i) →
      (∀ i j t u, ((l.take n)[i]?).bind isAlloc = some t → ((l.take n)[j]?).bind isAlloc = some u → i ≠ j → G i ≠ G j) →
      wpList P l.toArray Q (l.drop n) (canon (ent (l.take n) (val (l.take n) V G) (fun _ => true) 0) a0) w') :
    ∀ f listed G a' w', MixInv l.toArray n (l.take n) w0 a0 V Z listed G a' w' → left listed n = f → wpAny P .any l.toArray Q (f + (l.length - n)) listed a' w' := by
  simp only [mixLB, Bool.and_eq_true, decide_eq_true_eq, List.size_toArray] at hB
  obtain ⟨⟨⟨⟨⟨hsel, hnlt⟩, hs, hc⟩, hseq⟩, hhead⟩, hlate⟩ := hB
  have hn : n ≤ l.length := Nat.le_of_lt hnlt
  intro f
  induction f with
  | zero =>
    intro listed G a' w' inv hf
    have hz := left_zero n hf
    have hz' : ∀ j, j < n → listed.getD j false = true := fun j hj => by
      have h1 := hz j hj
      have h2 : j < listed.size := by rw [inv.head.size]; simp; omega
      simp [h2] at h1 ⊢; exact h1
    have hlisted : listed = Array.replicate n true ++ Array.replicate (l.length - n) false := by
      apply Array.ext
      · rw [inv.head.size]; simp; omega
      · intro i h1 h2
        have hs : listed.size = l.length := by rw [inv.head.size]; simp
        by_cases hi : i < n
        · have := hz i hi
          rw [Array.getElem_append_left (by simpa using hi)]
          simpa [h1] using this
        · have := inv.head.tail i (by omega) (by simpa using (by omega : i < l.length))
          rw [Array.getElem_append_right (by simpa using (by omega : n ≤ i))]
          simpa [h1] using this
    have hfr : a' = canon (ent (l.take n) (val (l.take n) V G) (fun _ => true) 0) a0 := by
      rw [inv.frame]
      congr 1
      apply ent_congr
      intro i hi
      have : i < n := by simp at hi; omega
      exact ⟨rfl, by simpa using hz' i this⟩
    have hlt : ∀ i t, ((l.take n)[i]?).bind isAlloc = some t → i < n := by
      intro i t h
      cases hx : (l.take n)[i]? with
      | none => rw [hx] at h; cases h
      | some o => have := (List.getElem?_eq_some_iff.1 hx).1; simp at this; omega
    have hfin := hend G w' inv.grows (fun i t h => inv.blks i t (hz' i (hlt i t h)) h) (fun i j t u h1 h2 => inv.dist i j t u (hz' i (hlt i t h1)) (hz' j (hlt j u h2)) h1 h2)
    rw [← hfr] at hfin
    have hdl : (l.drop n).length = l.length - n := by simp
    have := wpAny_of_seq (P := P) (md := .any) (ops := l.toArray) (Q' := Q) (l.drop n) n listed a' w' (fun j => by simp [List.getElem?_drop]) (by rw [hdl, hlisted]; exact hseq) hfin
    rwa [hdl, ← Nat.zero_add (l.length - n)] at this
  | succ f ih =>
    intro listed G a' w' inv hf
    rw [show f + 1 + (l.length - n) = (f + (l.length - n)) + 1 by omega]
    obtain ⟨i0, hi0, hun0, hbefore⟩ := left_some n (by omega : left listed n ≠ 0)
    have hls : listed.size = l.length := by rw [inv.head.size]; simp
    -- the first one that has not come up may come up
    have hready : i0 ∈ Region.ready .any l.toArray listed := by
      obtain ⟨o0, ho0⟩ : ∃ o, l[i0]? = some o := ⟨_, List.getElem?_eq_getElem (by omega)⟩
      refine mem_ready.2 ⟨hun0, o0, by rw [List.getElem?_toArray]; exact ho0, fun e he hb => ?_⟩
      have hlt := (head_spec hhead hi0 ho0).1 e he hb
      have h1 := hbefore e.on hlt
      have h2 : e.on < listed.size := by omega
      simp [h2] at h1 ⊢; exact h1
    by_cases hx : ∃ i, i ∈ Region.ready .any l.toArray listed ∧ i < n ∧ late i = true
    · obtain ⟨i, hr, hin, hli⟩ := hx
      obtain ⟨hun, o, ho, hall⟩ := mem_ready.1 hr
      rw [List.getElem?_toArray] at ho
      have hot : (l.take n)[i]? = some o := by rwa [List.getElem?_take_of_lt hin]
      have hmem : o ∈ l.take n := List.mem_of_getElem? hot
      have hsl : ∀ cs b, o.op ≠ .select cs b := fun cs b => Region.noSelect_spec hsel i o cs b (by rw [List.getElem?_toArray]; exact ho)
      have hg := hgood i o hot
      have hlook : ∀ t ∈ o.looksAt l.toArray, a'.tmps[t]? = (canon (ent (l.take n) V (fun j => decide (j < i)) 0) a0).tmps[t]? := fun t ht => by
        rw [inv.frame]; exact agree hhead hn hin ho hr ht
      have hw := wanted_of_look hlook
      have hex := execOp_of_look hsl hlook
      have hcount : left (listed.setIfInBounds i true) n = f := by
        have := left_set hun n hin
        omega
      -- what is handed on
      have hnext : ∀ (v : Value) (G' : Nat → Nat) (w'' : World), val (l.take n) V G' i = v → (∀ j, j ≠ i → G' j = G j) → Grows w' w'' →
          (∀ t, ((l.take n)[i]?).bind isAlloc = some t → Blk w'' (G' i) t (Z t) ∧ w0.heap.size ≤ G' i ∧ ∀ j, j ≠ i → ∀ u, listed.getD j false = true → ((l.take n)[j]?).bind isAlloc = some u → G' i ≠ G j) →
          wpAny P .any l.toArray Q (f + (l.length - n)) (listed.setIfInBounds i true) (a'.put o.dst v) w'' := by
        intro v G' w'' hv hG hgr hal
        refine ih (listed.setIfInBounds i true) G' _ w'' ⟨?_, inv.grows.trans hgr, inv.head.set hr hin, ?_, ?_⟩ hcount
        · rw [inv.frame]
          have hset := canon_set (ent (l.take n) (val (l.take n) V G) (fun j => listed.getD j false) 0) i o.dst v (val (l.take n) V G i) (listed.getD i false) a0
            (by rw [ent_at, hot]; simp) (fun k x hx hki t ht => by
              rw [ent_at] at hx
              cases hk : (l.take n)[k]? with
              | none => rw [hk] at hx; cases hx
              | some ok =>
                rw [hk] at hx
                simp only [Option.map_some, Option.some.injEq, Nat.zero_add] at hx
                subst hx
                have hkn : k < n := by
                  have := (List.getElem?_eq_some_iff.1 hk).1
                  simp at this
                  omega
                have hlk : l[k]? = some ok := by rwa [List.getElem?_take_of_lt hkn] at hk
                exact ((head_spec hhead hin ho).2 k ok hkn hlk t ht).2 (fun e => hki e.symm))
          rw [hset, ← hv]
          congr 1
          refine ent_set hot (fun j hj => ?_) (fun j hj => getD_set_ne false (fun e => hj e.symm)) ?_
          · unfold val
            rw [hG j hj]
          · have : i < listed.size := by omega
            simp [this]
        · intro j t hl hj
          by_cases e : j = i
          · subst e
            exact ⟨(hal t hj).1, (hal t hj).2.1⟩
          · rw [getD_set_ne false (fun h => e h.symm)] at hl
            obtain ⟨h1, h2⟩ := inv.blks j t hl hj
            rw [hG j e]
            exact ⟨h1.next hgr, h2⟩
        · intro j k t u hlj hlk hj hk hne
          by_cases e : j = i
          · subst e
            have hk' : k ≠ j := fun h => hne h.symm
            rw [getD_set_ne false hne] at hlk
            rw [hG k hk']
            exact (hal t hj).2.2 k hk' u hlk hk
          · rw [getD_set_ne false (fun h => e h.symm)] at hlj
            rw [hG j e]
            by_cases e' : k = i
            · subst e'
              exact fun h => (hal u hk).2.2 j e t hlj hj h.symm
            · rw [getD_set_ne false (fun h => e' h.symm)] at hlk
              rw [hG k e']
              exact inv.dist j k t u hlj hlk hj hk hne
      have hlb := List.all_eq_true.1 hlate i (List.mem_range.2 hin)
      simp only [hli, List.getElem?_toArray, ho, Bool.not_true, Bool.false_or, Bool.and_eq_true] at hlb
      obtain ⟨⟨hgn, han⟩, hfr⟩ := hlb
      have hguard : o.guard = none := by simpa using hgn
      have hal : isAlloc o = none := by simpa using han
      have hbi : ((l.take n)[i]?).bind isAlloc = none := by rw [hot]; exact hal
      have hvi : val (l.take n) V G i = V i := by unfold val; rw [hbi]
      refine wpAny_first (oi := o) (v := V i) (by rw [List.getElem?_toArray]; exact ho) (fun j o cs b hj => Region.noSelect_spec hsel j o cs b hj) (fun c a w => hQ _ _ c a w) _ listed a' w' (fun j oj hoj hji hjun hno => ?_) hr ?_ ?_
      · have hjl : j < l.length := by have := (Array.getElem?_eq_some_iff.1 hoj).1; simpa using this
        have h1 := List.all_eq_true.1 hfr j (List.mem_range.2 (by simpa using hjl))
        simp only [Bool.or_eq_true, decide_eq_true_eq] at h1
        rcases h1 with ((h1 | h1) | h1) | h1
        · exact absurd h1.symm hji
        · obtain ⟨o', ho', e, he, hb, hon⟩ := Region.waitsFor_spec h1
          have : o' = o := by rw [List.getElem?_toArray, ho] at ho'; exact (Option.some.inj ho').symm
          subst this
          have h2 := hall e he hb
          rw [hon, getD_both hjun] at h2
          cases h2
        · obtain ⟨o', ho', e, he, hb, hon⟩ := Region.waitsFor_spec h1
          have : o' = oj := Option.some.inj (ho'.symm.trans hoj)
          subst this
          exact absurd hon (hno e he hb)
        · rw [List.getElem?_toArray] at hoj
          rw [hoj] at h1
          exact h1
      · refine .inl ⟨by simp [Region.wanted, hguard], fun w => ?_⟩
        rw [hex]
        exact hpure i o hot hli hguard hal w
      · exact hnext (V i) G w' hvi (fun _ _ => rfl) (Grows.refl _) (fun t ht => by rw [hbi] at ht; cases ht)
    refine ⟨fun h => (by rw [h] at hready; cases hready), fun i hr => ?_⟩
    have hin : i < n := by
      rcases Nat.lt_or_ge i n with h | h
      · exact h
      · cases hl0 : late i0 with
        | true => exact absurd ⟨i0, hready, hi0, hl0⟩ hx
        | false => exact absurd hr (tail_waitsL hs hc (by simpa using hnlt) inv.head _ i0 rfl hi0 hl0 hun0 i h)
    obtain ⟨hun, o, ho, hall⟩ := mem_ready.1 hr
    rw [List.getElem?_toArray] at ho
    have hot : (l.take n)[i]? = some o := by rwa [List.getElem?_take_of_lt hin]
    have hmem : o ∈ l.take n := List.mem_of_getElem? hot
    have hsl : ∀ cs b, o.op ≠ .select cs b := fun cs b => Region.noSelect_spec hsel i o cs b (by rw [List.getElem?_toArray]; exact ho)
    have hg := hgood i o hot
    have hlook : ∀ t ∈ o.looksAt l.toArray, a'.tmps[t]? = (canon (ent (l.take n) V (fun j => decide (j < i)) 0) a0).tmps[t]? := fun t ht => by
      rw [inv.frame]; exact agree hhead hn hin ho hr ht
    have hw := wanted_of_look hlook
    have hex := execOp_of_look hsl hlook
    have hcount : left (listed.setIfInBounds i true) n = f := by
      have := left_set hun n hin
      omega
    -- what is handed on
    have hnext : ∀ (v : Value) (G' : Nat → Nat) (w'' : World), val (l.take n) V G' i = v → (∀ j, j ≠ i → G' j = G j) → Grows w' w'' →
        (∀ t, ((l.take n)[i]?).bind isAlloc = some t → Blk w'' (G' i) t (Z t) ∧ w0.heap.size ≤ G' i ∧ ∀ j, j ≠ i → ∀ u, listed.getD j false = true → ((l.take n)[j]?).bind isAlloc = some u → G' i ≠ G j) →
        wpAny P .any l.toArray Q (f + (l.length - n)) (listed.setIfInBounds i true) (a'.put o.dst v) w'' := by
      intro v G' w'' hv hG hgr hal
      refine ih (listed.setIfInBounds i true) G' _ w'' ⟨?_, inv.grows.trans hgr, inv.head.set hr hin, ?_, ?_⟩ hcount
      · rw [inv.frame]
        have hset := canon_set (ent (l.take n) (val (l.take n) V G) (fun j => listed.getD j false) 0) i o.dst v (val (l.take n) V G i) (listed.getD i false) a0
          (by rw [ent_at, hot]; simp) (fun k x hx hki t ht => by
            rw [ent_at] at hx
            cases hk : (l.take n)[k]? with
            | none => rw [hk] at hx; cases hx
            | some ok =>
              rw [hk] at hx
              simp only [Option.map_some, Option.some.injEq, Nat.zero_add] at hx
              subst hx
              have hkn : k < n := by
                have := (List.getElem?_eq_some_iff.1 hk).1
                simp at this
                omega
              have hlk : l[k]? = some ok := by rwa [List.getElem?_take_of_lt hkn] at hk
              exact ((head_spec hhead hin ho).2 k ok hkn hlk t ht).2 (fun e => hki e.symm))
        rw [hset, ← hv]
        congr 1
        refine ent_set hot (fun j hj => ?_) (fun j hj => getD_set_ne false (fun e => hj e.symm)) ?_
        · unfold val
          rw [hG j hj]
        · have : i < listed.size := by omega
          simp [this]
      · intro j t hl hj
        by_cases e : j = i
        · subst e
          exact ⟨(hal t hj).1, (hal t hj).2.1⟩
        · rw [getD_set_ne false (fun h => e h.symm)] at hl
          obtain ⟨h1, h2⟩ := inv.blks j t hl hj
          rw [hG j e]
          exact ⟨h1.next hgr, h2⟩
      · intro j k t u hlj hlk hj hk hne
        by_cases e : j = i
        · subst e
          have hk' : k ≠ j := fun h => hne h.symm
          rw [getD_set_ne false hne] at hlk
          rw [hG k hk']
          exact (hal t hj).2.2 k hk' u hlk hk
        · rw [getD_set_ne false (fun h => e h.symm)] at hlj
          rw [hG j e]
          by_cases e' : k = i
          · subst e'
            exact fun h => (hal u hk).2.2 j e t hlj hj h.symm
          · rw [getD_set_ne false (fun h => e' h.symm)] at hlk
            rw [hG k e']
            exact inv.dist j k t u hlj hlk hj hk hne
    unfold wpOp
    simp only [List.getElem?_toArray, ho]
    cases hal : isAlloc o with
    | some t =>
      have hguard : o.guard = none := by unfold Good at hg; rw [hal] at hg; exact hg
      rw [if_pos (by simp [Region.wanted, hguard])]
      refine .inl ?_
      unfold Oper.wp
      rw [hA o t hmem hal, Oper.upon_value]
      have hbi : ((l.take n)[i]?).bind isAlloc = some t := by rw [hot]; exact hal
      refine hnext _ (fun j => if j = i then w'.heap.size else G j) _ (by unfold val; rw [hbi]; simp) (fun j hj => by simp [hj]) (Bl_alloc (Bl_refl w') _) (fun u hu => ?_)
      rw [hbi] at hu
      obtain rfl := Option.some.inj hu
      simp only [if_true]
      refine ⟨Blk.new _ _ _, inv.grows.size, fun j hj u hl hju => ?_⟩
      have := (inv.blks j u hl hju).1.lt
      omega
    | none =>
      have hbi : ((l.take n)[i]?).bind isAlloc = none := by rw [hot]; exact hal
      have hvi : val (l.take n) V G i = V i := by unfold val; rw [hbi]
      have hno : ∀ w'' t, ((l.take n)[i]?).bind isAlloc = some t → Blk w'' (G i) t (Z t) ∧ w0.heap.size ≤ G i ∧ ∀ j, j ≠ i → ∀ u, listed.getD j false = true → ((l.take n)[j]?).bind isAlloc = some u → G i ≠ G j := fun w'' t ht => by
        rw [hbi] at ht; cases ht
      unfold Good at hg
      rw [hal] at hg
      simp only at hg
      rw [← hw] at hg
      by_cases hwt : Region.wanted o (yielded l.toArray a'.tmps) = true
      · rw [if_pos hwt] at hg ⊢
        refine .inl ?_
        have h3 := hg ⟨w', inv.grows⟩
        unfold mixAt at h3
        rw [← hex] at h3
        unfold Oper.wp
        generalize (execOp a'.eval o).run P w' = r at *
        cases r with
        | ok nx w'' =>
          cases nx <;> simp only [mixUpon] at h3 <;> simp only [Oper.upon]
          case value u =>
            obtain ⟨e1, e2⟩ := h3
            rw [e1, e2]
            exact hnext _ G _ hvi (fun _ _ => rfl) (Grows.refl _) (hno _)
          case skip =>
            obtain ⟨e1, e2⟩ := h3
            rw [e1, ← e2]
            exact hnext _ G _ hvi (fun _ _ => rfl) (Grows.refl _) (hno _)
          case enter fn args =>
            obtain ⟨e1, hc⟩ := h3
            rw [e1]
            exact hc.mono fun e w3 ⟨he, hg3⟩ => by subst he; exact hnext _ G _ hvi (fun _ _ => rfl) hg3 (hno _)
        | halt x w'' => simp only [mixUpon] at h3
      · rw [if_neg hwt] at hg ⊢
        rw [← hg]
        exact hnext _ G _ hvi (fun _ _ => rfl) (Grows.refl _) (hno _)

end
end
section
variable {P : Program}
/-- ONE WALK IN THE ORDER OF THE TEXT SERVES EVERY ORDER, new blocks and a forced tail with it. -/
theorem wp_region_mixL {id : Nat} {Q : Exit → Act → World → Prop} {a : Act} {w : World} {l : List Oper} (n : Nat) (late : Nat → Bool) (Z : TypeId → Array Value) (hm : P.follows .mixedOrders = true) (hB : mixLB l.toArray n late = true) (hQ : ∀ d v c a w, Q (.panic c) (a.put d v) w → Q (.panic c) a w)
    (hA : ∀ o t, o ∈ l.take n → isAlloc o = some t → ∀ ρ w, (execOp ρ o).run P w = .ok (.value (.pointer (some ⟨w.heap.size, 0, none⟩))) (w.alloc (.cells (Z t) t)))
    (h : wpMixL P l.toArray w late (fun af => ∀ (G : Nat → Nat) (w' : World), Grows w w' → (∀ i t, ((l.take n)[i]?).bind isAlloc = some t → Blk w' (G i) t (Z t) ∧ w.heap.size ≤ G i) →
      (∀ i j t u, ((l.take n)[i]?).bind isAlloc = some t → ((l.take n)[j]?).bind isAlloc = some u → i ≠ j → G i ≠ G j) → wpList P l.toArray Q (l.drop n) (putAll (l.take n) G 0 af) w') 0 (l.take n) a) :
    (Code.region id l.toArray true).wp P Q a w := by
  obtain ⟨V, h1, h2, _, h4⟩ := mix_valsL (l.take n) 0 a h
  simp only [Nat.zero_add] at h1 h4
  have hB' := hB
  simp only [mixLB, Bool.and_eq_true, decide_eq_true_eq, List.size_toArray] at hB'
  obtain ⟨⟨⟨⟨⟨hsel, hnlt⟩, hs, hc⟩, hseq⟩, hhead⟩, hlate⟩ := hB'
  have hn : n ≤ l.length := Nat.le_of_lt hnlt
  refine wp_region_any hm ?_
  have hn' : n ≤ l.length := hn
  have inv0 : HeadInv .any l.toArray n (Array.replicate l.toArray.size false) :=
    ⟨by simp, fun j oj _ hl => (by rw [getD_replicate_false] at hl; cases hl), fun t _ ht => getD_in (by simpa using ht) (getD_replicate_false _ _)⟩
  have hleft : left (Array.replicate l.toArray.size false) n = n := by
    have : ∀ m, m ≤ l.length → left (Array.replicate l.toArray.size false) m = m := by
      intro m
      induction m with
      | zero => intro _; rfl
      | succ m ih =>
        intro hm'
        simp only [left]
        rw [ih (by omega)]
        have : (Array.replicate l.toArray.size false).getD m true = false := getD_in (by simp; omega) (getD_replicate_false _ _)
        rw [this]
        simp
    exact this n hn'
  have hfr0 : a = canon (ent (l.take n) (val (l.take n) V (fun _ => 0)) (fun j => (Array.replicate l.toArray.size false).getD j false) 0) a := by
    rw [canon_none]
    intro i _
    exact getD_replicate_false _ _
  have hnone : ∀ i, (Array.replicate l.toArray.size false).getD i false = true → False := fun i h => by rw [getD_replicate_false] at h; cases h
  have main := mix_mainL (P := P) (w0 := w) (a0 := a) (V := V) (Z := Z) (Q := Q) hB hQ h4 h1 hA (fun G w' hg hb hd => by
    have := h2 G w' hg hb hd
    have e := putAll_is (V := V) (a0 := a) (G := G) hhead hn' (l.take n) 0 (fun j => by simp)
    have e0 : (fun j => if j < 0 then val (l.take n) V G j else V j) = V := by funext j; simp
    rw [e0] at e
    rwa [e] at this) n (Array.replicate l.toArray.size false) (fun _ => 0) a { w with drawn := w.drawn + 1 }
    ⟨hfr0, Bl_drew (Bl_refl w), inv0, fun i t h => (hnone i h).elim, fun i j t u h => (hnone i h).elim⟩ hleft
  have e : n + (l.length - n) = l.toArray.size := by simp; omega
  rwa [e] at main
theorem wpMixL_nil {ops : Array Oper} {w0 : World} {late : Nat → Bool} {Q : Act → Prop} {k : Nat} {a : Act} (h : Q a) : wpMixL P ops w0 late Q k [] a := h
theorem wpMixL_step {ops : Array Oper} {w0 : World} {late : Nat → Bool} {Q : Act → Prop} {k : Nat} {a : Act} {o : Oper} {rest : List Oper}
    (h : ∀ K : Act → Prop, (∀ a, wpMixL P ops w0 late Q (k + 1) rest a → K a) → match isAlloc o with
      | some _ => o.guard = none ∧ K (a.put o.dst undef)
      | none => if Region.wanted o (yielded ops a.tmps) then ∃ v, (∀ g : Later w0, mixAt P o a.eval g.w v) ∧ (late k = true → ∀ w, (execOp a.eval o).run P w = .ok (.value v) w) ∧ K (a.put o.dst v) else K (a.put o.dst undef)) : wpMixL P ops w0 late Q k (o :: rest) a :=
  h _ (fun _ h => h)
end
end Go.Proofs.YtmghpoagpiljhaaDoor
