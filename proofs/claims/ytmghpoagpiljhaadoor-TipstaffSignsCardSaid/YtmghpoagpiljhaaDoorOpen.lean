/- Arguments by value, opened to their cells: numbers, truths, structs and arrays of these. -/
import Derived.Test.YtmghpoagpiljhaaDoorBase
import Derived.ProofKit
import Derived.ChangeOld
import Derived.Carry
import Derived.OpenShut
namespace Go.Proofs.YtmghpoagpiljhaaDoor
open Go.ChangeShapes Go.WideShapes Go.ChangeAt Go.RowKit

theorem own : ownKnob Tryd.prog.godebug = none := by kernel_rfl
theorem laidOut : laidOutB Tryd.prog = true := by kernel_rfl
section
variable {P : Program} {w : World} {r : Reach} {base : Nat}
theorem cell_int {u : TypeId} {k : IntKind} {c : Value} (hu : P.underlying u = some (.int k)) (h : Cell.okWide P w r base u c) : ∃ n, c = .int k n ∧ k.min ≤ n ∧ n ≤ k.max := by
  simp only [Cell.okWide, hu, Cell.ok] at h
  cases c <;> simp_all [IntKind.has]
theorem cell_bool {u : TypeId} {c : Value} (hu : P.underlying u = some .bool) (h : Cell.okWide P w r base u c) : ∃ b, c = .bool b := by
  simp only [Cell.okWide, hu, Cell.ok] at h
  cases c <;> simp_all
theorem ofNat_T {n : Nat} (h : n < 18446744073709551616) : (n : Int) = T (BitVec.ofNat 64 n) := by
  unfold T; rw [BitVec.toNat_ofNat, Nat.mod_eq_of_lt h]
theorem is_T {n : Int} (h0 : 0 ≤ n) (h1 : n ≤ 18446744073709551615) : ∃ x : W, n = T x := by
  refine ⟨BitVec.ofNat 64 n.toNat, ?_⟩
  rw [← ofNat_T (by omega)]
  omega
theorem is_S {n : Int} (h0 : -9223372036854775808 ≤ n) (h1 : n ≤ 9223372036854775807) : ∃ x : W, n = S x := by
  refine ⟨BitVec.ofInt 64 n, ?_⟩
  unfold S
  rw [BitVec.toInt_ofInt, Int.bmod_def]
  split <;> omega
theorem cell_u64 {u : TypeId} {c : Value} (hu : P.underlying u = some (.int .u64)) (h : Cell.okWide P w r base u c) : ∃ x : W, c = .int .u64 (T x) := by
  obtain ⟨n, rfl, h0, h1⟩ := cell_int hu h
  obtain ⟨x, rfl⟩ := is_T (n := n) (by simpa [IntKind.min, IntKind.signed] using h0) (by simpa [IntKind.max, IntKind.signed, IntKind.bits] using h1)
  exact ⟨x, rfl⟩
theorem cell_i64 {u : TypeId} {c : Value} (hu : P.underlying u = some (.int .i64)) (h : Cell.okWide P w r base u c) : ∃ x : W, c = .int .i64 (S x) := by
  obtain ⟨n, rfl, h0, h1⟩ := cell_int hu h
  obtain ⟨x, rfl⟩ := is_S (n := n) (by simpa [IntKind.min, IntKind.signed, IntKind.bits] using h0) (by simpa [IntKind.max, IntKind.signed, IntKind.bits] using h1)
  exact ⟨x, rfl⟩
/-- A struct or an array by value is its cells, one after the other. -/
theorem open_flat {t : TypeId} {v : Value} {ts : List TypeId} (hs : (match P.underlying t with | some (.struct _) | some (.array _ _) => true | _ => false) = true)
    (hc : P.cellTypes P.depth t = some ts) (hn : P.cellsOf t = ts.length) (hv : Value.okWide P w r base t v) :
    ∃ cs : Array Value, v = .agg cs ∧ cs.size = ts.length ∧ ∀ (i : Nat) (c : Value) (u : TypeId), cs[i]? = some c → ts[i]? = some u → Cell.okWide P w r base u c := by
  unfold Value.okWide at hv
  have key : (∃ cs, v = .agg cs ∧ cs.size = P.cellsOf t ∧ Row.okWide P w r base t cs) := by
    split at hv
    · exact hv
    · exact hv
    · rename_i h1 h2
      split at hs
      · rename_i h; exact absurd h (h1 _)
      · rename_i h; exact absurd h (h2 _ _)
      · cases hs
  obtain ⟨cs, h1, h2, ts', h3, _, h4⟩ := key
  rw [hc] at h3
  obtain rfl := Option.some.inj h3
  refine ⟨cs, h1, h2.trans hn, fun i c u hi hu => ?_⟩
  obtain ⟨u', e, ok⟩ := h4 i c hi
  have hl : i < ts.length := (List.getElem?_eq_some_iff.1 hu).1
  rw [Nat.mod_eq_of_lt hl, hu] at e
  obtain rfl := Option.some.inj e
  exact ok
/-- Two numbers without a sign: a num, an array of two. -/
theorem open_uu {t u : TypeId} {v : Value} (hu : P.underlying u = some (.int .u64)) (hs : (match P.underlying t with | some (.struct _) | some (.array _ _) => true | _ => false) = true)
    (hc : P.cellTypes P.depth t = some [u, u]) (hn : P.cellsOf t = 2) (hv : Value.okWide P w r base t v) : ∃ x y : W, v = .agg #[.int .u64 (T x), .int .u64 (T y)] := by
  obtain ⟨cs, rfl, hsz, hcell⟩ := open_flat hs hc hn hv
  obtain ⟨l⟩ := cs
  match l, hsz with
  | [c0, c1], _ =>
    obtain ⟨x, rfl⟩ := cell_u64 hu (hcell 0 c0 u rfl rfl)
    obtain ⟨y, rfl⟩ := cell_u64 hu (hcell 1 c1 u rfl rfl)
    exact ⟨x, y, rfl⟩
theorem open_u64 {t : TypeId} {v : Value} (hu : P.underlying t = some (.int .u64)) (hv : Value.okWide P w r base t v) : ∃ x : W, v = .int .u64 (T x) := by
  unfold Value.okWide at hv
  rw [hu] at hv
  exact cell_u64 hu hv
theorem open_i64 {t : TypeId} {v : Value} (hu : P.underlying t = some (.int .i64)) (hv : Value.okWide P w r base t v) : ∃ n : Int, v = .int .i64 n ∧ -9223372036854775808 ≤ n ∧ n ≤ 9223372036854775807 := by
  unfold Value.okWide at hv
  rw [hu] at hv
  obtain ⟨n, rfl, h0, h1⟩ := cell_int hu hv
  exact ⟨n, rfl, by simpa [IntKind.min, IntKind.signed, IntKind.bits] using h0, by simpa [IntKind.max, IntKind.signed, IntKind.bits] using h1⟩
theorem open_u8 {t : TypeId} {v : Value} (hu : P.underlying t = some (.int .u8)) (hv : Value.okWide P w r base t v) : ∃ n : Int, v = .int .u8 n ∧ 0 ≤ n ∧ n ≤ 255 := by
  unfold Value.okWide at hv
  rw [hu] at hv
  obtain ⟨n, rfl, h0, h1⟩ := cell_int hu hv
  exact ⟨n, rfl, by simpa [IntKind.min, IntKind.signed, IntKind.bits] using h0, by simpa [IntKind.max, IntKind.signed, IntKind.bits] using h1⟩
end
end Go.Proofs.YtmghpoagpiljhaaDoor
