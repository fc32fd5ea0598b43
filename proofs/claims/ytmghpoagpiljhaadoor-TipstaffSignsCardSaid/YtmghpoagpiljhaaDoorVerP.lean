/- What Verify's loop keeps; plain regions in a round. -/
import Derived.Test.YtmghpoagpiljhaaDoorChk
set_option linter.unusedSimpArgs false
set_option linter.unusedVariables false
namespace Go.Proofs.YtmghpoagpiljhaaDoor
open Go.RowKit Go.Shelf
open PlainSha (secret leafT out sum allTo keyT)
/-! ### a plain region in a round -/
theorem wpListIn_of {P : Program} {ops : Array Oper} {Q : Exit → Act → World → Prop} {l n : Nat} (hL : ¬ LetsOut Q) : ∀ (L : List Oper) (a : Act) (w : World), (L.all fun o => !(match o.op with | .defer _ => true | _ => false)) = true → wpList P ops Q L a w → wpListIn (Fence.wide.inRound l) n P ops Q L a w
  | [], _, _, _, h => h
  | o :: L, a, w, hd, h => by
    rw [List.all_cons, Bool.and_eq_true] at hd
    unfold wpList at h
    unfold wpListIn
    by_cases hw : Region.wanted o (yielded ops a.tmps) = true
    · rw [if_pos hw] at h ⊢
      rcases h with h | ⟨_, h⟩
      · exact wpIn_round (fun c e => by have := hd.1; rw [e] at this; cases this) (Oper.wp_mono (fun a' w' k => wpListIn_of hL L a' w' hd.2 k) h)
      · exact absurd h hL
    · rw [if_neg hw] at h ⊢
      exact ⟨fun _ _ => trivial, wpListIn_of hL L _ _ hd.2 h⟩
theorem wpIn_region_L {P : Program} {Q : Exit → Act → World → Prop} {l n id : Nat} {L : List Oper} {a : Act} {w : World} (hL : ¬ LetsOut Q) (hd : (L.all fun o => !(match o.op with | .defer _ => true | _ => false)) = true)
    (h : wpList P L.toArray Q L a w) : (Code.region id L.toArray false).wpIn (Fence.wide.inRound l) n P Q a w := wpIn_region_lit (wpListIn_of hL L a w hd h)
/-! ### others are kept -/
theorem keeps_below {W W' : World} (h : Below W.heap.size W W') : KeepsOthers W W' := ⟨h.size, fun k o hk _ => (h.block k (Array.getElem?_eq_some_iff.1 hk).1).trans hk⟩
theorem keeps_but {p : Nat} {t : TypeId} {cs : Array Value} {W W' : World} (h : But p W W') (hB : Blk W p t cs) : KeepsOthers W W' := ⟨h.size, fun k o hk ho => by
  by_cases e : k = p
  · subst e
    have : some o = some (Obj.cells cs t (0, 0)) := hk.symm.trans hB
    cases this; cases ho
  · exact (h.block k (Array.getElem?_eq_some_iff.1 hk).1 e).trans hk⟩
theorem keeps_app {base n : Nat} {v : Value} {l : List (BitVec 8)} {W W' : World} (hO : OwnB W base v n l) (hg : W.grownBy W' v.ownBlock) : KeepsOthers W W' := KeepsOthers.of_grownBy hg fun j o e hj => by
  rcases hO.2 with ⟨rfl, _⟩ | ⟨g, cap, cur, rfl, _, hgb, _⟩
  · simp [Value.ownBlock] at e
  · obtain rfl : g = j := by simpa [Value.ownBlock] using e
    rw [hgb] at hj; cases hj; rfl
theorem blk_app {base n b : Nat} {t : TypeId} {cs : Array Value} {v : Value} {l : List (BitVec 8)} {W W' : World} (hB : Blk W b t cs) (ht : t ≠ 5) (hO : OwnB W base v n l) (hg : W.grownBy W' v.ownBlock) : Blk W' b t cs := by
  refine (hg.block b hB.lt fun e => ?_).trans hB
  rcases hO.2 with ⟨rfl, _⟩ | ⟨g, cap, cur, rfl, _, hgb, _⟩
  · simp [Value.ownBlock] at e
  · obtain rfl : b = g := by simpa [Value.ownBlock] using e
    have := (show W.heap[b]? = _ from hB).symm.trans hgb
    simp at this
    exact ht this.2
theorem own_set {base n b i : Nat} {t : TypeId} {cs : Array Value} {v u : Value} {l : List (BitVec 8)} {W : World} (hO : OwnB W base v n l) (hB : Blk W b t cs) (ht : t ≠ 5) : OwnB (W.setCell ⟨b, i, none⟩ u) base v n l := by
  refine hO.kept ⟨rfl, rfl, rfl, (KeepsWalks.setCell W _ u).size, fun k _ hk => Below.heap_setCell _ _ _ k (fun e => hk (by rw [e]))⟩ (.inr fun e => ?_)
  rcases hO.2 with ⟨rfl, _⟩ | ⟨g, cap, cur, rfl, _, hgb, _⟩
  · simp [Value.ownBlock] at e
  · obtain rfl : g = b := by simpa [Value.ownBlock] using e
    have := (show W.heap[g]? = _ from hB).symm.trans hgb
    simp at this
    exact ht this.2
theorem own_but {base n p : Nat} {t : TypeId} {cs : Array Value} {v : Value} {l : List (BitVec 8)} {W W' : World} (hO : OwnB W base v n l) (h : But p W W') (hB : Blk W p t cs) (ht : t ≠ 5) : OwnB W' base v n l := by
  refine hO.kept (row := some p) ⟨h.os, h.tape, h.output, h.size, fun k hk hn => h.block k hk (fun e => hn (by rw [e]))⟩ (.inr fun e => ?_)
  rcases hO.2 with ⟨rfl, _⟩ | ⟨g, cap, cur, rfl, _, hgb, _⟩
  · simp [Value.ownBlock] at e
  · obtain rfl : g = p := by simpa [Value.ownBlock] using e
    have := (show W.heap[g]? = _ from hB).symm.trans hgb
    simp at this
    exact ht this.2
theorem blk_kept {A B : World} {row : Option Nat} {b : Nat} {t : TypeId} {cs : Array Value} (h : Blk A b t cs) (hg : A.grownBy B row) (hr : ∀ r, row = some r → ∃ o : Obj, A.heap[r]? = some o ∧ o.isCells = false) : Blk B b t cs :=
  (hg.block b h.lt fun e => by obtain ⟨o, ho, hc⟩ := hr b e.symm; rw [show A.heap[b]? = _ from h] at ho; cases ho; cases hc).trans h
theorem own_kept {A B : World} {row : Option Nat} {base n : Nat} {v : Value} {l : List (BitVec 8)} (h : OwnB A base v n l) (hg : A.grownBy B row) (hr : ∀ r, row = some r → ∃ o : Obj, A.heap[r]? = some o ∧ o.isCells = false) : OwnB B base v n l := by
  refine h.kept hg ?_
  rcases h.2 with ⟨rfl, _⟩ | ⟨g, cap, cur, rfl, _, hgb, _⟩
  · exact .inl rfl
  · refine .inr fun e => ?_
    obtain ⟨o, ho, hc⟩ := hr g (by simpa [Value.ownBlock] using e.symm)
    rw [hgb] at ho; cases ho; cases hc
/-! ### what is put together -/
/-- A part's two halves, put in order. -/
def partV (l : List (BitVec 8)) (A B : Nat → List (BitVec 8)) (p x : Nat) : List (BitVec 8) := if bitN l p = 1 then B x ++ leafT (A x) else leafT (A x) ++ B x
def verT (l : List (BitVec 8)) (A B : Nat → List (BitVec 8)) (pre : List (Fin 32)) : List (BitVec 8) := (pre.zipIdx.map fun q => partV l A B q.2 q.1.1).flatten
theorem verT_snoc (l : List (BitVec 8)) (A B : Nat → List (BitVec 8)) (pre : List (Fin 32)) (x : Fin 32) : verT l A B (pre ++ [x]) = verT l A B pre ++ partV l A B pre.length x.1 := by
  unfold verT
  rw [List.zipIdx_append, List.map_append, List.flatten_append]
  simp
/-- A signature's parts give its key's list. -/
theorem verT_key (o : BitVec 8) (l : List (BitVec 8)) : ∀ k, k ≤ 32 → verT l (fun x => secret o x (bitN l x)) (fun x => leafT (secret o x (1 - bitN l x))) (upto k) = allTo o k
  | 0, _ => rfl
  | k + 1, h => by
    rw [upto_succ (by omega), verT_snoc, verT_key o l k (by omega), upto_len (by omega)]
    have hb := bitN_lt l k
    show _ ++ partV _ _ _ k k = allTo o k ++ leafT (secret o k 0) ++ leafT (secret o k 1)
    unfold partV
    rw [List.append_assoc]
    congr 1
    by_cases e : bitN l k = 1
    · rw [if_pos e]; dsimp only; rw [e]
    · rw [if_neg e]; dsimp only; rw [show bitN l k = 0 by omega]
end Go.Proofs.YtmghpoagpiljhaaDoor
