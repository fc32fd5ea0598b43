/- What the listed variables give the walks: the tables of digest lie as they were laid; bytes as arguments. -/
import Derived.Test.YtmghpoagpiljhaaDoorDg5
import Derived.Test.YtmghpoagpiljhaaDoorOpen
import Derived.LaidMore
import Derived.Lay
import Derived.Stop.Joined
import Derived.SizedLaws
set_option linter.unusedSimpArgs false
set_option linter.unusedVariables false
namespace Go.Proofs.YtmghpoagpiljhaaDoor
open Go.ChangeShapes Go.WideShapes Go.ChangeAt Go.RowKit
abbrev laidL {H : Type} : List (String × DataW H) := [("tipstaff/digest.k", Rows.laid_tipstaff_digest_k), ("tipstaff/digest.begin", Rows.laid_tipstaff_digest_begin)]
def beginL : List (BitVec 32) := [PlainSha.begin.a, PlainSha.begin.b, PlainSha.begin.c, PlainSha.begin.d, PlainSha.begin.e, PlainSha.begin.f, PlainSha.begin.g, PlainSha.begin.h]
theorem k_is : (Rows.laid_tipstaff_digest_k : DataW Unit) = .agg (PlainSha.ks.map fun x => .lit (.int .u32 (T3 x))) := by kernel_rfl
theorem begin_is : (Rows.laid_tipstaff_digest_begin : DataW Unit) = .agg (beginL.map fun x => .lit (.int .u32 (T3 x))) := by kernel_rfl
/-- A table of words reads as its words. -/
theorem table_cell {P : Program} {W : World} {g : Nat} {t e : TypeId} {l : List (BitVec 32)} {n fuel : Nat} {enc : TypeId × Value → Unit} {base : Nat} {spare : TypeId → Bool} {held : Bool} {q : List MemPlace} {cs : Array Value}
    (hu : P.underlying t = some (.array n e)) (he : P.underlying e = some (.int .u32)) (hc : P.cellsOf e = 1) (hl : l.length = n)
    (hcell : ∀ i, W.cell? ⟨g, i, none⟩ = cs[i]?)
    (hd : DataW.trod enc P W base spare held fuel t cs.toList = some (.agg (l.map fun x => .lit (.int .u32 (T3 x))), q)) (r : Nat) (hr : r < n) : W.cell? ⟨g, r, none⟩ = some (wv (l.getD r 0)) := by
  obtain ⟨xs, m, _, ex, _, hxl, hel⟩ := DataW.trod_array hu hd
  have hE := hel r hr
  rw [hc, Nat.mul_one, List.getElem?_eq_getElem (by omega)] at hE
  obtain ⟨z, e1, e2, _⟩ := DataW.trod_int he hE
  have e3 : (xs.map (·.1)) = l.map fun x => (.lit (.int .u32 (T3 x)) : DataW Unit) := (DataW.agg.inj (Prod.mk.inj ex).1).symm
  have e4 : (xs.map (·.1))[r]? = (l.map fun x => (.lit (.int .u32 (T3 x)) : DataW Unit))[r]? := by rw [e3]
  rw [List.getElem?_map, List.getElem?_map, List.getElem?_eq_getElem (by omega : r < xs.length), List.getElem?_eq_getElem (by omega : r < l.length), e2] at e4
  have hz : z = T3 (l.getD r 0) := by
    simp only [Option.map_some, Option.some.injEq, DataW.lit.injEq, Lit.int.injEq, true_and] at e4
    rw [e4, List.getD_eq_getElem?_getD, List.getElem?_eq_getElem (by omega : r < l.length)]; rfl
  rw [hcell r]
  have : cs.toList[r]? = some (.int .u32 z) := by
    have h0 : ((cs.toList.drop r).take 1)[0]? = some (.int .u32 z) := by rw [e1]; rfl
    simpa using h0
  rw [hz] at this
  have h2 : cs.toList[r]? = some (wv (l.getD r 0)) := this
  rw [Array.getElem?_toList] at h2
  exact h2
theorem tabs_of {W : World} (h : laidMetH Tryd.prog laidL W) : Tabs W := by
  rw [MakeChecks.laidMetH_plain _ _ _ (by kernel_rfl)] at h
  obtain ⟨ps, ⟨g0, t0, cs0, f0, p0, q0, hg0, ht0, hv0, hd0, ⟨g1, t1, cs1, f1, p1, q1, hg1, ht1, hv1, hd1, _, _⟩, _⟩, _, _⟩ := h
  obtain rfl := Option.some.inj ((show Tryd.prog.globalNamed "tipstaff/digest.k" = some 1 by kernel_rfl).symm.trans hg0)
  obtain rfl := Option.some.inj ((show Tryd.prog.globalNamed "tipstaff/digest.begin" = some 0 by kernel_rfl).symm.trans hg1)
  obtain rfl := Option.some.inj ((show (Tryd.prog.globals[1]?).map (·.type) = some 88 by kernel_rfl).symm.trans ht0)
  obtain rfl := Option.some.inj ((show (Tryd.prog.globals[0]?).map (·.type) = some 56 by kernel_rfl).symm.trans ht1)
  have c52 : Tryd.prog.cellsOf 52 = 1 := by kernel_rfl
  rw [k_is] at hd0
  rw [begin_is] at hd1
  have hk := table_cell Tryd.underlying88 Tryd.underlying52 c52 rfl (World.var?_cell hg0 hv0) hd0
  have hb := table_cell Tryd.underlying56 Tryd.underlying52 c52 rfl (World.var?_cell hg1 hv1) hd1
  refine ⟨⟨?_, fun j hj => hk j hj⟩, fun j hj => ?_⟩
  · have := hk 0 (by omega)
    exact World.block_lt_of_cell? W _ this
  · rw [hb j hj]
    match j, hj with
    | 0, _ | 1, _ | 2, _ | 3, _ | 4, _ | 5, _ | 6, _ | 7, _ => rfl
    | j + 8, h => omega
section
variable {P : Program} {w : World} {r : Reach} {base : Nat}
theorem is_T1 {n : Int} (h0 : 0 ≤ n) (h1 : n ≤ 255) : ∃ x : BitVec 8, n = T1 x := by
  refine ⟨BitVec.ofNat 8 n.toNat, ?_⟩
  unfold T1
  rw [BitVec.toNat_ofNat]
  omega
theorem cell_b {u : TypeId} {c : Value} (hu : P.underlying u = some (.int .u8)) (h : Cell.okWide P w r base u c) : ∃ x : BitVec 8, c = bv x := by
  obtain ⟨n, rfl, h0, h1⟩ := cell_int hu h
  obtain ⟨x, rfl⟩ := is_T1 (n := n) (by simpa [IntKind.min, IntKind.signed] using h0) (by simpa [IntKind.max, IntKind.signed, IntKind.bits] using h1)
  exact ⟨x, rfl⟩
theorem open_bbb {t u : TypeId} {v : Value} (hu : P.underlying u = some (.int .u8)) (hs : (match P.underlying t with | some (.struct _) | some (.array _ _) => true | _ => false) = true)
    (hc : P.cellTypes P.depth t = some [u, u, u]) (hn : P.cellsOf t = 3) (hv : Value.okWide P w r base t v) : ∃ x y z : BitVec 8, v = .agg #[bv x, bv y, bv z] := by
  obtain ⟨cs, rfl, hl, ok⟩ := open_flat hs hc hn hv
  have hl : cs.size = 3 := hl
  obtain ⟨x, ex⟩ := cell_b hu (ok 0 cs[0] u (by simp [hl]) rfl)
  obtain ⟨y, ey⟩ := cell_b hu (ok 1 cs[1] u (by simp [hl]) rfl)
  obtain ⟨z, ez⟩ := cell_b hu (ok 2 cs[2] u (by simp [hl]) rfl)
  refine ⟨x, y, z, ?_⟩
  congr 1
  apply Array.ext (by simp [hl])
  intro i h1 h2
  match i, (by omega : i < 3) with
  | 0, _ => exact ex
  | 1, _ => exact ey
  | 2, _ => exact ez
end
end Go.Proofs.YtmghpoagpiljhaaDoor
