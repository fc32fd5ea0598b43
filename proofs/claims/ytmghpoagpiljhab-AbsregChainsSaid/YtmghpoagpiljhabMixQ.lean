/- Parts of blocks that are stored in a region that draws its order: what a block has while some of its parts may be old or new. -/
import Derived.Test.YtmghpoagpiljhabMixP
import Derived.Test.YtmghpoagpiljhabAbs
set_option linter.unusedSimpArgs false
namespace Go.Proofs.Ytmghpoagpiljhab
open Go.RowKit
/-- All but the free cells are as they were. -/
def Loose (w : World) (g : Nat) (t : TypeId) (orig : Array Value) (free : Nat → Bool) : Prop :=
  ∃ cs, Blk w g t cs ∧ cs.size = orig.size ∧ ∀ i, free i = false → cs[i]? = orig[i]?
/-- A part is as it was stored. -/
def Has (w : World) (g : Nat) (t : TypeId) (off : Nat) (vals : List Value) : Prop :=
  ∃ cs, Blk w g t cs ∧ ∀ j v, vals[j]? = some v → cs[off + j]? = some v
theorem Loose.of {w : World} {g : Nat} {t : TypeId} {orig : Array Value} (B : Blk w g t orig) (free : Nat → Bool) : Loose w g t orig free := ⟨orig, B, rfl, fun _ _ => rfl⟩
theorem Loose.lt {w : World} {g : Nat} {t : TypeId} {orig : Array Value} {free : Nat → Bool} (h : Loose w g t orig free) : g < w.heap.size := by obtain ⟨_, B, _⟩ := h; exact B.lt
theorem Loose.next {w w' : World} {g : Nat} {t : TypeId} {orig : Array Value} {free : Nat → Bool} (h : Loose w g t orig free) (b : Below w.heap.size w w') : Loose w' g t orig free := by
  obtain ⟨cs, B, h1, h2⟩ := h; exact ⟨cs, B.next b, h1, h2⟩
theorem Has.next {w w' : World} {g : Nat} {t : TypeId} {off : Nat} {vals : List Value} (h : Has w g t off vals) (b : Below w.heap.size w w') : Has w' g t off vals := by
  obtain ⟨cs, B, h1⟩ := h; exact ⟨cs, B.next b, h1⟩
theorem Loose.same {w w' : World} {g : Nat} {t : TypeId} {orig : Array Value} {free : Nat → Bool} (h : Loose w g t orig free) (e : w'.heap[g]? = w.heap[g]?) : Loose w' g t orig free := by
  obtain ⟨cs, B, h1, h2⟩ := h; exact ⟨cs, e.trans B, h1, h2⟩
theorem Has.same {w w' : World} {g : Nat} {t : TypeId} {off : Nat} {vals : List Value} (h : Has w g t off vals) (e : w'.heap[g]? = w.heap[g]?) : Has w' g t off vals := by
  obtain ⟨cs, B, h1⟩ := h; exact ⟨cs, e.trans B, h1⟩
theorem blk_one {w : World} {g : Nat} {t : TypeId} {a b : Array Value} (h : Blk w g t a) (h' : Blk w g t b) : a = b := by
  have e : some (Obj.cells a t (0, 0)) = some (Obj.cells b t (0, 0)) := (h.symm.trans h' :)
  injection e with e; injection e
theorem Has.at {w : World} {g : Nat} {t : TypeId} {off : Nat} {vals : List Value} {cs : Array Value} (h : Has w g t off vals) (B : Blk w g t cs) {j : Nat} {v : Value} (hj : vals[j]? = some v) : cs[off + j]? = some v := by
  obtain ⟨c2, B2, h2⟩ := h
  rw [blk_one B B2]; exact h2 j v hj
/-- The block, once all its parts are known. -/
theorem Loose.close {w : World} {g : Nat} {t : TypeId} {orig fin : Array Value} {free : Nat → Bool} (h : Loose w g t orig free) (hs : fin.size = orig.size)
    (h0 : ∀ i, free i = false → orig[i]? = fin[i]?) (h1 : ∀ cs, Blk w g t cs → ∀ i, i < orig.size → free i = true → cs[i]? = fin[i]?) : Blk w g t fin := by
  obtain ⟨cs, B, hz, hf⟩ := h
  have e : cs = fin := by
    apply Array.ext_getElem?
    intro i
    cases hi : free i
    · rw [hf i hi, h0 i hi]
    · by_cases hl : i < orig.size
      · exact h1 cs B i hl hi
      · rw [Array.getElem?_eq_none (by omega), Array.getElem?_eq_none (by omega)]
  rw [← e]; exact B
def free2 (o1 n1 o2 n2 : Nat) (i : Nat) : Bool := (decide (o1 ≤ i) && decide (i < o1 + n1)) || (decide (o2 ≤ i) && decide (i < o2 + n2))
theorem free2_l {o1 n1 o2 n2 i : Nat} (h1 : o1 ≤ i) (h2 : i < o1 + n1) : free2 o1 n1 o2 n2 i = true := by simp [free2, h1, h2]
theorem free2_r {o1 n1 o2 n2 i : Nat} (h1 : o2 ≤ i) (h2 : i < o2 + n2) : free2 o1 n1 o2 n2 i = true := by simp [free2, h1, h2]
theorem Loose.close2 {w : World} {g : Nat} {t : TypeId} {orig : Array Value} {o1 o2 : Nat} {v1 v2 : List Value} (h : Loose w g t orig (free2 o1 v1.length o2 v2.length)) (H1 : Has w g t o1 v1) (H2 : Has w g t o2 v2)
    (hd : o1 + v1.length ≤ o2) (hf : o2 + v2.length ≤ orig.size) : Blk w g t (setL (setL orig o1 v1) o2 v2) := by
  have hz : (setL orig o1 v1).size = orig.size := setL_size _ _ _
  have hg : ∀ i, (setL (setL orig o1 v1) o2 v2)[i]? = if o2 ≤ i ∧ i < o2 + v2.length then v2[i - o2]? else if o1 ≤ i ∧ i < o1 + v1.length then v1[i - o1]? else orig[i]? := fun i => by
    rw [setL_get _ _ _ _ (by rw [hz]; exact hf), setL_get _ _ _ _ (by omega)]
  refine h.close (by rw [setL_size, hz]) (fun i hi => ?_) (fun cs B i hi hfr => ?_)
  · rw [hg, if_neg, if_neg]
    · intro ⟨a, b⟩; rw [free2_l a b] at hi; cases hi
    · intro ⟨a, b⟩; rw [free2_r a b] at hi; cases hi
  · rw [hg]
    by_cases a : o2 ≤ i ∧ i < o2 + v2.length
    · rw [if_pos a]
      have e := List.getElem?_eq_getElem (l := v2) (i := i - o2) (by omega)
      have := H2.at B e
      rw [show o2 + (i - o2) = i by omega] at this
      rw [this, e]
    · rw [if_neg a]
      by_cases b : o1 ≤ i ∧ i < o1 + v1.length
      · rw [if_pos b]
        have e := List.getElem?_eq_getElem (l := v1) (i := i - o1) (by omega)
        have := H1.at B e
        rw [show o1 + (i - o1) = i by omega] at this
        rw [this, e]
      · exfalso
        simp [free2] at hfr
        omega
section
variable {P : Program}
theorem run_store_loose {o : Oper} {ρ : Operand → Value} {w : World} (ty : TypeId) (p v : Operand) (ho : o.op = .store ty p v) (g off : Nat) (t : TypeId) (orig vals : Array Value) (free : Nat → Bool)
    (hp : ρ p = .pointer (some ⟨g, off, none⟩)) (hv : ρ v = .agg vals) (hL : Loose w g t orig free) (hi : (P.info? ty).map (·.size) = some vals.size) (hfit : off + vals.size ≤ orig.size)
    (hfr : ∀ i, off ≤ i → i < off + vals.size → free i = true) (h1 : ∀ u ∈ vals.toList, u.oneCell' = true) :
    ∃ w', (execOp ρ o).run P w = .ok .skip w' ∧ Loose w' g t orig free ∧ Has w' g t off vals.toList ∧
      (∀ off' vals', (off' + vals'.length ≤ off ∨ off + vals.size ≤ off') → Has w g t off' vals' → Has w' g t off' vals') ∧
      (∀ g', g' ≠ g → w'.heap[g']? = w.heap[g']?) ∧ ∀ B w0, Below B w0 w → B ≤ g → Below B w0 w' := by
  obtain ⟨cur, hB, hz, hf⟩ := hL
  have hs := run_storeCells_part (P := P) g t off vals.toList 0 cur w hB (by simp; omega) h1
  have hrun : (storeVar ty ⟨g, off, none⟩ (.agg vals)).run P w = .ok () (w.setRow g (setL cur off vals.toList)) := by
    cases hq : P.info? ty with
    | none => simp [hq] at hi
    | some i =>
      have he : vals.size = i.size := by simp [hq] at hi; omega
      simp only [Nat.add_zero] at hs
      simp [storeVar, sizeOf, typeInfo, hq, Value.cells, he, hs]
  have hst := stored_row (X := setL cur off vals.toList) hB
  have hlen : vals.toList.length = vals.size := by simp
  refine ⟨_, ?_, ⟨_, hst.blk, by rw [setL_size]; exact hz, fun i hi' => ?_⟩, ⟨_, hst.blk, fun j u hj => ?_⟩, fun off' vals' hd ⟨c2, B2, h2⟩ => ⟨_, hst.blk, fun j u hj => ?_⟩, fun g' hg => setRow_other w g g' _ hg, fun B w0 hb hle => hst.bel hb hle⟩
  · unfold execOp
    simp only [ho, hp, hv, Instr.storeAt, Instr.sureAddr, Sem.run_bind, Sem.run_pure, Result.andThen_ok, hrun]
  · rw [setL_get _ _ _ _ (by rw [hlen]; omega), if_neg]
    · exact hf i hi'
    · intro h; rw [hlen] at h; rw [hfr i h.1 h.2] at hi'; cases hi'
  · have hjl : j < vals.toList.length := (List.getElem?_eq_some_iff.1 hj).1
    rw [setL_get _ _ _ _ (by rw [hlen]; omega), if_pos (by omega), show off + j - off = j by omega]; exact hj
  · have hjl : j < vals'.length := (List.getElem?_eq_some_iff.1 hj).1
    rw [setL_get _ _ _ _ (by rw [hlen]; omega), if_neg (by rw [hlen]; omega), blk_one hB B2]; exact h2 j u hj
end
end Go.Proofs.Ytmghpoagpiljhab
