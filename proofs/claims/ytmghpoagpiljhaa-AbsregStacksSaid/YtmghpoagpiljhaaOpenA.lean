/- A list of acts that came in. -/
import Derived.Test.YtmghpoagpiljhaaOpen
import Derived.ChangeArms
import Derived.ChangeSlices
import Derived.WideShapes
import Derived.Deep.Slices
namespace Go.Proofs.Ytmghpoagpiljhaa
open Go.ChangeShapes Go.WideShapes Go.ChangeAt Go.RowKit
/-- The cells of a list of acts. -/
def Acts (w : World) (ao : Option Addr) (n : Nat) : Prop := ∀ i, i < n → ∃ (g off : Nat) (z s : Int) (b : Bool), ao = some ⟨g, off, none⟩ ∧ -9223372036854775808 ≤ z ∧ z ≤ 9223372036854775807 ∧ w.cell? ⟨g, off + i * 3, none⟩ = some (.int .i64 z) ∧ w.cell? ⟨g, off + i * 3 + 1, none⟩ = some (.int .i64 s) ∧ w.cell? ⟨g, off + i * 3 + 2, none⟩ = some (.bool b)
theorem Acts.next {w w' : World} {ao : Option Addr} {n : Nat} (h : Acts w ao n) (hb : Below w.heap.size w w') : Acts w' ao n := by
  intro i hi
  obtain ⟨g, off, z, s, b, e, h1, h2, c0, c1, c2⟩ := h i hi
  exact ⟨g, off, z, s, b, e, h1, h2, (hb.cell (World.block_lt_of_cell? w _ c0)).trans c0, (hb.cell (World.block_lt_of_cell? w _ c1)).trans c1, (hb.cell (World.block_lt_of_cell? w _ c2)).trans c2⟩
section
variable {H : Type} {enc : TypeId × Value → H} {P : Program} {w w0 : World} {r : Reach} {base b0 : Nat} {spare : Nat → Bool} {held : Bool}
theorem open_acts {t e ti8 ti tb : TypeId} {fs : Array Field} {f0 f1 f2 : Field} {v : Value} {d : DataW H} {p : List MemPlace} (ht : P.underlying t = some (.slice e)) (he : P.underlying e = some (.struct fs)) (h0 : fs[0]? = some f0) (h1 : fs[1]? = some f1) (h2 : fs[2]? = some f2)
    (o0 : f0.offset = 0) (o1 : f1.offset = 1) (o2 : f2.offset = 2) (t0 : f0.type = ti8) (t1 : f1.type = ti) (t2 : f2.type = tb) (hi8 : P.underlying ti8 = some (.int .i64)) (hi : P.underlying ti = some (.int .i64)) (hb : P.underlying tb = some .bool)
    (n0 : P.cellsOf ti8 = 1) (n1 : P.cellsOf ti = 1) (n2 : P.cellsOf tb = 1) (ne : P.cellsOf e = 3)
    (hv : Value.okWide P w0 r b0 t v) (h : DataW.Trod enc P w base spare held t v d p) : ∃ ao n cap, v = .slice ao n cap ∧ n ≤ cap ∧ cap ≤ maxLen ∧ Acts w ao n := by
  obtain ⟨a, n, cap, rfl⟩ := okWide_slice ht hv
  obtain ⟨fuel, hf⟩ := h
  rcases Deep.open_slice ht hf with ⟨h0, _⟩ | ⟨a', len, cap', m, k, D, Pl, hcs, _, hl, hm, hmm, _, hx⟩
  · have e : Value.slice a n cap = .slice none 0 0 := by simpa [Value.cells] using h0
    cases e
    exact ⟨_, _, _, rfl, Nat.le_refl _, Nat.zero_le _, fun i hi => absurd hi (by omega)⟩
  · have e : Value.slice a n cap = .slice (some a') len cap' := by simpa [Value.cells] using hcs
    cases e
    refine ⟨_, _, _, rfl, hl, hm, fun i hi' => ?_⟩
    have him : i < m := by rw [hmm]; split <;> omega
    obtain ⟨cs', g1, g2⟩ := hx i him
    rw [ne] at g1
    obtain ⟨_, hlen, hcell⟩ := World.cells?_some g1
    obtain ⟨xs, k', _, _, _, hxl, hg⟩ := DataW.trod_struct he g2
    have l0 : 0 < xs.length := by rw [hxl]; exact (Array.getElem?_eq_some_iff.1 h0).1
    have l1 : 1 < xs.length := by rw [hxl]; exact (Array.getElem?_eq_some_iff.1 h1).1
    have l2 : 2 < xs.length := by rw [hxl]; exact (Array.getElem?_eq_some_iff.1 h2).1
    have q0 := hg 0 f0 h0; have q1 := hg 1 f1 h1; have q2 := hg 2 f2 h2
    rw [o0, t0, n0, List.getElem?_eq_getElem l0] at q0
    rw [o1, t1, n1, List.getElem?_eq_getElem l1] at q1
    rw [o2, t2, n2, List.getElem?_eq_getElem l2] at q2
    obtain ⟨z, e0, _, wz⟩ := DataW.trod_int hi8 q0
    obtain ⟨s, e1, _, _⟩ := DataW.trod_int hi q1
    obtain ⟨b, e2, _⟩ := DataW.trod_bool hb q2
    match cs', hlen with
    | [c0, c1, c2], _ =>
      simp only [List.drop_zero, List.drop_succ_cons, List.take_succ_cons, List.take_zero, List.cons.injEq, and_true] at e0 e1 e2
      subst e0; subst e1; subst e2
      have k0 := hcell 0 (by omega); have k1 := hcell 1 (by omega); have k2 := hcell 2 (by omega)
      rw [Deep.add_add] at k0 k1 k2
      have hsp : a' = ⟨a'.block, a'.off, none⟩ := by
        obtain ⟨cz, gz, _⟩ := hx 0 (by omega)
        rw [ne] at gz
        obtain ⟨_, hlz, hcz⟩ := World.cells?_some gz
        have hz := hcz 0 (by omega)
        rw [Deep.add_add] at hz
        have hz1 : w.cell? a' = some (cz[0]'(by omega)) := by rw [← List.getElem?_eq_getElem]; simpa [Addr.add] using hz
        unfold World.cell? at hz1
        cases hs : a'.spot with
        | none => cases a'; simp_all
        | some s => rw [hs] at hz1; split at hz1 <;> simp at hz1
      rw [hsp] at k0 k1 k2; simp only [Addr.add_lit] at k0 k1 k2
      have wz' : IntKind.i64.min ≤ z ∧ z ≤ IntKind.i64.max := by simpa [Lit.wf] using wz
      refine ⟨a'.block, a'.off, z, s, b, by rw [← hsp], by simpa [IntKind.min, IntKind.signed, IntKind.bits] using wz'.1, by simpa [IntKind.max, IntKind.signed, IntKind.bits] using wz'.2, ?_, ?_, ?_⟩
      · simpa using k0
      · simpa [Nat.add_assoc] using k1
      · simpa [Nat.add_assoc] using k2
end
end Go.Proofs.Ytmghpoagpiljhaa
