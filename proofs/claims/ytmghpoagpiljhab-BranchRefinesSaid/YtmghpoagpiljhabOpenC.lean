/- An argument that is a struct of two lists, two numbers with a sign and two without (and more numbers behind): opened to its cells. -/
import Derived.Test.YtmghpoagpiljhabOpen
import Derived.ChangeArms
import Derived.ChangeSlices
import Derived.WideShapes
namespace Go.Proofs.Ytmghpoagpiljhab
open Go.ChangeShapes Go.WideShapes Go.ChangeAt Go.RowKit
/-- A list of numbers that came in, cut at eight. -/
def Raw (w : World) (v : Value) (L : List W) : Prop :=
  (∃ ao cap, v = .slice ao 0 cap ∧ L = []) ∨
    ∃ g off n cap, v = .slice (some ⟨g, off, none⟩) n cap ∧ 0 < n ∧ n ≤ cap ∧ L.length = min n 8 ∧ ∀ j, j < min n 8 → w.cell? ⟨g, off + j, none⟩ = some (.int .u64 (T (L.getD j 0#64)))
theorem Raw.next {w w' : World} {v : Value} {L : List W} (h : Raw w v L) (hb : Below w.heap.size w w') : Raw w' v L := by
  rcases h with h | ⟨g, off, n, cap, e, h1, h2, h3, h4⟩
  · exact .inl h
  · exact .inr ⟨g, off, n, cap, e, h1, h2, h3, fun j hj => (hb.cell (p := ⟨g, off + j, none⟩) (World.block_lt_of_cell? w _ (h4 j hj))).trans (h4 j hj)⟩
section
variable {H : Type} {enc : TypeId × Value → H} {P : Program} {w : World} {base : Nat} {spare : Nat → Bool} {held : Bool}
/-- A list of numbers without a sign. -/
theorem open_raw {t e : TypeId} {fuel : Nat} {cs : List Value} {x : DataW H × List MemPlace} (ht : P.underlying t = some (.slice e)) (he : P.underlying e = some (.int .u64)) (hc : P.cellsOf e = 1)
    (h : DataW.trod enc P w base spare held fuel t cs = some x) : ∃ v L, cs = [v] ∧ Raw w v L := by
  rcases open_ints ht he hc h with ⟨rfl, _⟩ | ⟨a, len, cap, zs, rfl, _, hl, _, hz, _, hcell, hwf⟩
  · exact ⟨_, _, rfl, .inl ⟨_, _, rfl, rfl⟩⟩
  · cases len with
    | zero => exact ⟨_, _, rfl, .inl ⟨_, _, rfl, rfl⟩⟩
    | succ m =>
      have hlz : m + 1 ≤ zs.length := by rw [hz]; split <;> omega
      have h0 := hcell 0 (by omega)
      have hsp : a = ⟨a.block, a.off, none⟩ := by
        have h1 : w.cell? a = some (.int .u64 (zs.getD 0 0)) := by simpa [Addr.add] using h0
        unfold World.cell? at h1
        cases hs : a.spot with
        | none => cases a; simp_all
        | some s => rw [hs] at h1; split at h1 <;> simp at h1
      refine ⟨_, (zs.take (min (m + 1) 8)).map fun n => BitVec.ofNat 64 n.toNat, rfl, .inr ⟨a.block, a.off, m + 1, cap, by rw [hsp], by omega, hl, by simp; omega, fun j hj => ?_⟩⟩
      have hj' : j < zs.length := by omega
      have hc1 := hcell j hj'
      rw [hsp, Addr.add_lit] at hc1
      have hwj := hwf (zs.getD j 0) (by simp [List.getD, hj'])
      have hT : ∃ y : W, zs.getD j 0 = T y := by
        have : IntKind.u64.min ≤ zs.getD j 0 ∧ zs.getD j 0 ≤ IntKind.u64.max := by simpa [Lit.wf] using hwj
        exact is_T (by simpa [IntKind.min, IntKind.signed] using this.1) (by simpa [IntKind.max, IntKind.signed, IntKind.bits] using this.2)
      obtain ⟨y, hy⟩ := hT
      rw [hc1, hy]
      have e : ((zs.take (min (m + 1) 8)).map fun n => BitVec.ofNat 64 n.toNat).getD j 0#64 = y := by
        have e1 : (zs.take (min (m + 1) 8))[j]? = some (zs.getD j 0) := by
          rw [List.getElem?_take_of_lt hj]; simp [List.getD, hj']
        rw [List.getD, List.getElem?_map, e1, hy]
        simp [T]
      rw [e]
end
section
variable {H : Type} {enc : TypeId × Value → H} {P : Program} {w w0 : World} {r : Reach} {base b0 : Nat} {spare : Nat → Bool} {held : Bool}
theorem open_case {t s e i : TypeId} {fs : Array Field} {f0 f1 : Field} {v : Value} {d : DataW H} {p : List MemPlace} {ts : List TypeId} (ht : P.underlying t = some (.struct fs)) (h0 : fs[0]? = some f0) (h1 : fs[1]? = some f1)
    (o0 : f0.offset = 0) (o1 : f1.offset = 1) (t0 : f0.type = s) (t1 : f1.type = s) (cs1 : P.cellsOf s = 1) (hs : P.underlying s = some (.slice e)) (he : P.underlying e = some (.int .u64)) (hi : P.underlying i = some (.int .i64)) (hce : P.cellsOf e = 1)
    (hct : P.cellTypes P.depth t = some ([s, s, i, i, e, e] ++ ts)) (hn : P.cellsOf t = ([s, s, i, i, e, e] ++ ts).length)
    (hv : Value.okWide P w0 r b0 t v) (h : DataW.Trod enc P w base spare held t v d p) :
    ∃ (A B : Value) (L M : List W) (x y : Int) (m0 m1 : W) (rest : List Value), v = .agg (#[A, B, .int .i64 x, .int .i64 y, .int .u64 (T m0), .int .u64 (T m1)] ++ rest.toArray) ∧ rest.length = ts.length ∧ Raw w A L ∧ Raw w B M ∧
      ∀ (j : Nat) (c : Value) (u : TypeId), rest[j]? = some c → ts[j]? = some u → Cell.okWide P w0 r b0 u c := by
  obtain ⟨cs, rfl, hsz, hcell⟩ := open_flat (by rw [ht]) hct hn hv
  obtain ⟨l⟩ := cs
  match l, hsz with
  | c0 :: c1 :: c2 :: c3 :: c4 :: c5 :: rest, hsz =>
    obtain ⟨fuel, hf⟩ := h
    obtain ⟨xs, n, _, hx, _, hlen, hg⟩ := DataW.trod_struct ht hf
    have g0 := hg 0 f0 h0
    have g1 := hg 1 f1 h1
    rw [o0, t0, cs1] at g0
    rw [o1, t1, cs1] at g1
    have l0 : 0 < xs.length := by rw [hlen]; exact (Array.getElem?_eq_some_iff.1 h0).1
    have l1 : 1 < xs.length := by rw [hlen]; exact (Array.getElem?_eq_some_iff.1 h1).1
    rw [List.getElem?_eq_getElem l0] at g0
    rw [List.getElem?_eq_getElem l1] at g1
    obtain ⟨A, L, eA, hA⟩ := open_raw hs he hce g0
    obtain ⟨B, M, eB, hB⟩ := open_raw hs he hce g1
    simp only [Value.cells, List.drop_zero, List.drop_succ_cons, List.take_succ_cons, List.take_zero, List.cons.injEq, and_true] at eA eB
    subst eA; subst eB
    obtain ⟨x, rfl, _, _⟩ := cell_int hi (hcell 2 c2 i rfl rfl)
    obtain ⟨y, rfl, _, _⟩ := cell_int hi (hcell 3 c3 i rfl rfl)
    obtain ⟨m0, rfl⟩ := cell_u64 he (hcell 4 c4 e rfl rfl)
    obtain ⟨m1, rfl⟩ := cell_u64 he (hcell 5 c5 e rfl rfl)
    exact ⟨_, _, L, M, x, y, m0, m1, rest, by simp, by simpa using hsz, hA, hB, fun j c u hj hu => hcell (j + 6) c u (by simpa using hj) (by simpa using hu)⟩
end
end Go.Proofs.Ytmghpoagpiljhab
