/- A map from numbers to numbers, as the ids of a covering keep it: what it has, and what comes in. -/
import Derived.Test.YtmghpoagpiljhabMixR
import Derived.Test.YtmghpoagpiljhabAbs7
import Derived.Maps.OwnSet
set_option linter.unusedSimpArgs false
namespace Go.Proofs.Ytmghpoagpiljhab
namespace PlainAbs
abbrev Im := Int → Option Int
def may (M : Im) (x y : Int) : Bool × Im :=
  match M x with
  | some v => (v == y, M)
  | none => (true, fun k => if k = x then some y else M k)
def cov (M : Im) (a b : Rg) : Bool × Im :=
  if a.kind = 0 then (true, M)
  else if ¬ a.kind = b.kind then (false, M)
  else if a.kind = 1 then (PlainScalar.within b.r a.r, M)
  else if a.kind = 4 then (a.slot == b.slot, M)
  else if a.kind = 6 then (if a.slot = b.slot then may M a.id b.id else (false, M))
  else (a.slot == b.slot && decide (a.low ≤ b.low) && decide (b.high ≤ a.high), M)
/-- So many registers, in order, till one isn't covered. -/
def covN (M : Im) (f g : Nat → Rg) : Nat → Bool × Im
  | 0 => (true, M)
  | j + 1 => if (covN M f g j).1 = true then cov (covN M f g j).2 (f j) (g j) else (false, (covN M f g j).2)
def whatN (s t : St) : Nat → Bool
  | 0 => true
  | j + 1 => whatN s t j && (!s.what j || t.what j)
def covers (s t : St) : Bool :=
  (covN (fun _ => none) s.r t.r 11).1 && (covN (covN (fun _ => none) s.r t.r 11).2 s.kept t.kept 8).1 && whatN s t 64
end PlainAbs
open Go.RowKit
open Go.Maps (int_keyed keyOf_int_mk)
open PlainAbs (Rg St zr zs upd Im)
abbrev okKey (k : Int) : Prop := (Lit.int .i64 k).wf = true
def MapIs (w : World) (g n : Nat) (M : Im) : Prop :=
  ∃ D : DataW Unit, w.ownsMap Try.prog 3 (plainElem Try.prog 3) g n D ∧ ∀ k, Maps.has D (.int .i64 k) = (M k).isSome ∧ D.atKey (.int .i64 k) (.lit (.int .i64 0)) = .lit (.int .i64 ((M k).getD 0))
theorem zero_int (w : World) : (zeroValue 3).run Try.prog w = .ok (.int .i64 0) w := by kernel_rfl
theorem MapIs.look {w : World} {g n : Nat} {M : Im} (h : MapIs w g n M) {k : Int} (hk : okKey k) : (Instr.lookup 108 (.map (some g)) (.int .i64 k) true).run Try.prog w = .ok (.tuple #[.int .i64 ((M k).getD 0), .bool (M k).isSome]) w := by
  obtain ⟨D, ho, hM⟩ := h
  obtain ⟨v, ps, hrun, hv⟩ := ho.look_ok (int_keyed Try.underlying3) Try.underlying108 (zero_int w) (zd := .lit (.int .i64 0)) (zp := []) (plainElem_int Try.underlying3 (by decide)) (keyOf_int_mk Try.underlying3 hk)
  obtain ⟨x, rfl, hz, _⟩ := plainElem_int_inv Try.underlying3 hv
  rw [hrun, (hM k).1]
  have e := congrArg Prod.fst hz
  rw [(hM k).2] at e
  simp only [DataW.lit.injEq, Lit.int.injEq, true_and] at e
  rw [e]
theorem MapIs.put {w : World} {g n : Nat} {M : Im} (h : MapIs w g n M) (hn : n < 1000) {k v : Int} (hk : okKey k) (hv : okKey v) : ∃ w', (Instr.mapUpdate 108 (.map (some g)) (.int .i64 k) (.int .i64 v)).run Try.prog w = .ok () w' ∧ MapIs w' g (n + 1) (fun j => if j = k then some v else M j) ∧ w.grownBy w' (some g) := by
  obtain ⟨D, ho, hM⟩ := h
  obtain ⟨w', hrun, hown, hg⟩ := ho.update (int_keyed Try.underlying3) Try.underlying108 (Nat.lt_of_lt_of_le hn (by decide)) (keyOf_int_mk Try.underlying3 hk) (plainElem_int Try.underlying3 hv)
  refine ⟨w', hrun, ⟨_, hown, fun j => ?_⟩, hg⟩
  by_cases e : j = k
  · subst e
    have hkl := (int_keyed Try.underlying3).key (keyOf_int_mk Try.underlying3 hk)
    simp only [if_true]
    exact ⟨by rw [Maps.has_put_same ho.isMap hkl]; rfl, by rw [Maps.atKey_put_same ho.isMap hkl]; rfl⟩
  · simp only []
    rw [if_neg e]
    have hne : (Lit.int .i64 j) ≠ .int .i64 k := fun h => e (by injection h)
    rw [Maps.has_put_other hne, Maps.atKey_put_other hne]
    exact hM j
theorem MapIs.made (w : World) : MapIs (w.alloc (.map #[] 0)) w.heap.size 0 (fun _ => none) :=
  ⟨_, World.ownsMap_made w _ _ _, fun _ => ⟨rfl, rfl⟩⟩
theorem MapIs.next {w w' : World} {g n : Nat} {M : Im} (h : MapIs w g n M) (b : Below w.heap.size w w') : MapIs w' g n M := by
  obtain ⟨D, ho, hM⟩ := h
  exact ⟨D, ho.kept (row := none) ⟨b.os, b.tape, b.output, b.size, fun k hk _ => b.block k hk⟩ (by simp), hM⟩
theorem MapIs.setCell {w : World} {g n : Nat} {M : Im} (h : MapIs w g n M) {a : Addr} (ha : g ≠ a.block) (u : Value) : MapIs (w.setCell a u) g n M := by
  obtain ⟨D, ho, hM⟩ := h
  exact ⟨D, ho.setCell ha u, hM⟩
theorem MapIs.lt {w : World} {g n : Nat} {M : Im} (h : MapIs w g n M) : g < w.heap.size := by obtain ⟨D, ho, _⟩ := h; exact ho.lt
theorem MapIs.mono {w : World} {g n m : Nat} {M : Im} (h : MapIs w g n M) (hm : n ≤ m) : MapIs w g m M := by obtain ⟨D, ho, hM⟩ := h; exact ⟨D, ho.mono hm, hM⟩
theorem look_none {k : Int} (hk : okKey k) (w : World) : (Instr.lookup 108 (.map none) (.int .i64 k) true).run Try.prog w = .ok (.tuple #[.int .i64 0, .bool false]) w :=
  Maps.look_nil true (int_keyed Try.underlying3) Try.underlying108 (zero_int w) (keyOf_int_mk Try.underlying3 hk)
/-- The ids' block, and its map. -/
def Ids (w : World) (gx n : Nat) (M : Im) : Prop :=
  (Blk w gx 110 #[.map none] ∧ M = fun _ => none) ∨ ∃ g, gx < g ∧ Blk w gx 110 #[.map (some g)] ∧ MapIs w g n M
theorem Ids.next {w w' : World} {gx n : Nat} {M : Im} (h : Ids w gx n M) (b : Below w.heap.size w w') : Ids w' gx n M := by
  rcases h with ⟨B, e⟩ | ⟨g, hg, B, hm⟩
  · exact .inl ⟨B.next b, e⟩
  · exact .inr ⟨g, hg, B.next b, hm.next b⟩
theorem Ids.mono {w : World} {gx n m : Nat} {M : Im} (h : Ids w gx n M) (hm : n ≤ m) : Ids w gx m M := by
  rcases h with ⟨B, e⟩ | ⟨g, hg, B, h⟩
  · exact .inl ⟨B, e⟩
  · exact .inr ⟨g, hg, B, h.mono hm⟩
theorem Ids.lt {w : World} {gx n : Nat} {M : Im} (h : Ids w gx n M) : gx < w.heap.size := by
  rcases h with ⟨B, _⟩ | ⟨g, _, B, _⟩ <;> exact B.lt
end Go.Proofs.Ytmghpoagpiljhab
