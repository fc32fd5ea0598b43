/- A slice of bytes that came in, opened: nil, or its bytes in their cells. -/
import Derived.Test.YtmghpoagpiljhaaDoorLay
import Derived.Test.YtmghpoagpiljhaaDoorCut
import Derived.ChangeSlices
import Derived.OpenShut
set_option linter.unusedSimpArgs false
set_option linter.unusedVariables false
namespace Go.Proofs.YtmghpoagpiljhaaDoor
open Go.ChangeShapes Go.WideShapes Go.ChangeAt Go.RowKit
theorem bv_of {n : Int} (h0 : 0 ≤ n) (h1 : n ≤ 255) : (Value.int .u8 n : Value) = bv (BitVec.ofNat 8 n.toNat) := by
  have e : n = T1 (BitVec.ofNat 8 n.toNat) := by unfold T1; rw [BitVec.toNat_ofNat]; omega
  exact congrArg (Value.int .u8) e
theorem open_bytes {H : Type} {enc : TypeId × Value → H} {P : Program} {W : World} {base : Nat} {t u : TypeId} {v : Value} {d : DataW H} {p : List MemPlace}
    (ht : P.underlying t = some (.slice u)) (hu : P.underlying u = some (.int .u8)) (hc : P.cellsOf u = 1)
    (hval : Value.okWide P W .any base t v) (h : DataW.Trod enc P W 0 (fun _ => true) true t v d p) :
    ∃ a n cap l, v = .slice a n cap ∧ Bytes W a n cap l := by
  obtain ⟨a1, len, cap, rfl⟩ := okWide_slice ht hval
  obtain ⟨fuel, hf⟩ := h
  rcases open_ints ht hu hc hf with ⟨hcs, hx⟩ | ⟨a, len', cap', zs, hcs, _, hl, hm, hz, hx, hcell, hwz⟩
  · simp [Value.cells] at hcs
    obtain ⟨rfl, rfl, rfl⟩ := hcs
    exact ⟨_, _, _, [], rfl, .inl ⟨rfl, rfl, rfl, rfl⟩⟩
  · simp [Value.cells] at hcs
    obtain ⟨rfl, rfl, rfl⟩ := hcs
    simp only [if_true] at hz
    have hlen : ((zs.take len).map fun n => BitVec.ofNat 8 n.toNat).length = len := by simp; omega
    refine ⟨_, _, _, (zs.take len).map fun n => BitVec.ofNat 8 n.toNat, rfl, .inr ⟨a, rfl, hl, hm, hlen, fun i hi => ?_⟩⟩
    have hb := range_u8 hwz i
    have hcl := hcell i (by omega)
    rw [List.getD_eq_getElem?_getD] at hcl
    rw [hcl, bv_of hb.1 hb.2, List.getD_eq_getElem?_getD, List.getElem?_map, List.getElem?_take, if_pos hi, List.getElem?_eq_getElem (by omega : i < zs.length)]
    rfl
end Go.Proofs.YtmghpoagpiljhaaDoor
