/- The walks of the ids of a covering: maybe. -/
import Derived.Test.YtmghpoagpiljhabCov
import Derived.Laws.Cover3
set_option linter.unusedSimpArgs false
set_option linter.unusedVariables false
namespace Go.Proofs.Ytmghpoagpiljhab
open Go.RowKit
open PlainTnum (N)
open PlainScalar (Rng)
open PlainAbs (Rg St zr zs upd Im)
theorem row_other_map {w w' : World} {g gm : Nat} {t : TypeId} {cs : Array Value} (B : Blk w g t cs) (hg : w.grownBy w' (some gm)) (hne : g ≠ gm) : Blk w' g t cs :=
  (hg.block g B.lt (fun h => hne (Option.some.inj h))).trans B
theorem map_alloc (w : World) : (Instr.makeMap 108 none).run Try.prog w = .ok (.map (some w.heap.size)) (w.alloc (.map #[] 0)) := run_makeMap _ _
theorem map_is_nil (m : Option Nat) (w : World) : (binOp .eql 108 (.map m) (.map none)).run Try.prog w = .ok (.bool m.isNone) w := by
  simp [binOp, run_equal_map_nil w _ _ _ m Try.underlying108, Result.andThen]
set_option maxRecDepth 100000 in
set_option maxHeartbeats 800000 in
theorem maybe_there (a b : Rg) (gx n : Nat) (M : Im) (gm : Nat) (v : Int) (hk : okKey a.id) (hv : M a.id = some v) (w : World) (hx : Blk w gx 110 #[.map (some gm)]) (hm : MapIs w gm n M) : Calls Try.prog 70 #[.pointer (some ⟨gx, 0, none⟩), gv a, gv b] w fun e w' => e = .returned (.bool (v == b.id)) ∧ Below w.heap.size w w' := by
  go_enter Try.func70, Try.ntmps70
  go_wp2_with fail
  obtain ⟨ga, hga⟩ : ∃ g, g = w.heap.size := ⟨_, rfl⟩
  obtain ⟨gb, hgb⟩ : ∃ g, g = w.heap.size + 1 := ⟨_, rfl⟩
  have Ba : Blk ((w.alloc (.cells #[.int .i64 a.kind, uv a.r.b.v, uv a.r.b.m, uv a.r.lo, uv a.r.hi, sv a.r.sl, sv a.r.sh, .int .i64 a.slot, .int .i64 a.id, .int .i64 a.low, .int .i64 a.high] 29)).alloc (.cells #[.int .i64 b.kind, uv b.r.b.v, uv b.r.b.m, uv b.r.lo, uv b.r.hi, sv b.r.sl, sv b.r.sh, .int .i64 b.slot, .int .i64 b.id, .int .i64 b.low, .int .i64 b.high] 29)) (w.heap.size) 29 #[.int .i64 a.kind, uv a.r.b.v, uv a.r.b.m, uv a.r.lo, uv a.r.hi, sv a.r.sl, sv a.r.sh, .int .i64 a.slot, .int .i64 a.id, .int .i64 a.low, .int .i64 a.high] := ((Blk.new w 29 #[.int .i64 a.kind, uv a.r.b.v, uv a.r.b.m, uv a.r.lo, uv a.r.hi, sv a.r.sl, sv a.r.sh, .int .i64 a.slot, .int .i64 a.id, .int .i64 a.low, .int .i64 a.high])).alloc _
  have Bb : Blk ((w.alloc (.cells #[.int .i64 a.kind, uv a.r.b.v, uv a.r.b.m, uv a.r.lo, uv a.r.hi, sv a.r.sl, sv a.r.sh, .int .i64 a.slot, .int .i64 a.id, .int .i64 a.low, .int .i64 a.high] 29)).alloc (.cells #[.int .i64 b.kind, uv b.r.b.v, uv b.r.b.m, uv b.r.lo, uv b.r.hi, sv b.r.sl, sv b.r.sh, .int .i64 b.slot, .int .i64 b.id, .int .i64 b.low, .int .i64 b.high] 29)) (w.heap.size + 1) 29 #[.int .i64 b.kind, uv b.r.b.v, uv b.r.b.m, uv b.r.lo, uv b.r.hi, sv b.r.sl, sv b.r.sh, .int .i64 b.slot, .int .i64 b.id, .int .i64 b.low, .int .i64 b.high] := (by simpa using Blk.new (w.alloc (.cells #[.int .i64 a.kind, uv a.r.b.v, uv a.r.b.m, uv a.r.lo, uv a.r.hi, sv a.r.sl, sv a.r.sh, .int .i64 a.slot, .int .i64 a.id, .int .i64 a.low, .int .i64 a.high] 29)) 29 #[.int .i64 b.kind, uv b.r.b.v, uv b.r.b.m, uv b.r.lo, uv b.r.hi, sv b.r.sl, sv b.r.sh, .int .i64 b.slot, .int .i64 b.id, .int .i64 b.low, .int .i64 b.high] : Blk _ (w.heap.size + 1) 29 #[.int .i64 b.kind, uv b.r.b.v, uv b.r.b.m, uv b.r.lo, uv b.r.hi, sv b.r.sl, sv b.r.sh, .int .i64 b.slot, .int .i64 b.id, .int .i64 b.low, .int .i64 b.high])
  have hB : Below w.heap.size w ((w.alloc (.cells #[.int .i64 a.kind, uv a.r.b.v, uv a.r.b.m, uv a.r.lo, uv a.r.hi, sv a.r.sl, sv a.r.sh, .int .i64 a.slot, .int .i64 a.id, .int .i64 a.low, .int .i64 a.high] 29)).alloc (.cells #[.int .i64 b.kind, uv b.r.b.v, uv b.r.b.m, uv b.r.lo, uv b.r.hi, sv b.r.sl, sv b.r.sh, .int .i64 b.slot, .int .i64 b.id, .int .i64 b.low, .int .i64 b.high] 29)) := (Bl_alloc (Bl_alloc (Bl_refl w) _) _)
  clear hga
  clear ga
  clear hgb
  clear gb
  generalize ((w.alloc (.cells #[.int .i64 a.kind, uv a.r.b.v, uv a.r.b.m, uv a.r.lo, uv a.r.hi, sv a.r.sl, sv a.r.sh, .int .i64 a.slot, .int .i64 a.id, .int .i64 a.low, .int .i64 a.high] 29)).alloc (.cells #[.int .i64 b.kind, uv b.r.b.v, uv b.r.b.m, uv b.r.lo, uv b.r.hi, sv b.r.sl, sv b.r.sh, .int .i64 b.slot, .int .i64 b.id, .int .i64 b.low, .int .i64 b.high] 29)) = w1 at *
  have ca0 : w1.cell? ⟨w.heap.size, 0, none⟩ = some (.int .i64 a.kind) := Ba.cell 0
  have ca1 : w1.cell? ⟨w.heap.size, 1, none⟩ = some (uv a.r.b.v) := Ba.cell 1
  have ca2 : w1.cell? ⟨w.heap.size, 2, none⟩ = some (uv a.r.b.m) := Ba.cell 2
  have ca3 : w1.cell? ⟨w.heap.size, 3, none⟩ = some (uv a.r.lo) := Ba.cell 3
  have ca4 : w1.cell? ⟨w.heap.size, 4, none⟩ = some (uv a.r.hi) := Ba.cell 4
  have ca5 : w1.cell? ⟨w.heap.size, 5, none⟩ = some (sv a.r.sl) := Ba.cell 5
  have ca6 : w1.cell? ⟨w.heap.size, 6, none⟩ = some (sv a.r.sh) := Ba.cell 6
  have ca7 : w1.cell? ⟨w.heap.size, 7, none⟩ = some (.int .i64 a.slot) := Ba.cell 7
  have ca8 : w1.cell? ⟨w.heap.size, 8, none⟩ = some (.int .i64 a.id) := Ba.cell 8
  have ca9 : w1.cell? ⟨w.heap.size, 9, none⟩ = some (.int .i64 a.low) := Ba.cell 9
  have ca10 : w1.cell? ⟨w.heap.size, 10, none⟩ = some (.int .i64 a.high) := Ba.cell 10
  have fa := Ba.frozen; have la := Ba.lt
  have cb0 : w1.cell? ⟨w.heap.size + 1, 0, none⟩ = some (.int .i64 b.kind) := Bb.cell 0
  have cb1 : w1.cell? ⟨w.heap.size + 1, 1, none⟩ = some (uv b.r.b.v) := Bb.cell 1
  have cb2 : w1.cell? ⟨w.heap.size + 1, 2, none⟩ = some (uv b.r.b.m) := Bb.cell 2
  have cb3 : w1.cell? ⟨w.heap.size + 1, 3, none⟩ = some (uv b.r.lo) := Bb.cell 3
  have cb4 : w1.cell? ⟨w.heap.size + 1, 4, none⟩ = some (uv b.r.hi) := Bb.cell 4
  have cb5 : w1.cell? ⟨w.heap.size + 1, 5, none⟩ = some (sv b.r.sl) := Bb.cell 5
  have cb6 : w1.cell? ⟨w.heap.size + 1, 6, none⟩ = some (sv b.r.sh) := Bb.cell 6
  have cb7 : w1.cell? ⟨w.heap.size + 1, 7, none⟩ = some (.int .i64 b.slot) := Bb.cell 7
  have cb8 : w1.cell? ⟨w.heap.size + 1, 8, none⟩ = some (.int .i64 b.id) := Bb.cell 8
  have cb9 : w1.cell? ⟨w.heap.size + 1, 9, none⟩ = some (.int .i64 b.low) := Bb.cell 9
  have cb10 : w1.cell? ⟨w.heap.size + 1, 10, none⟩ = some (.int .i64 b.high) := Bb.cell 10
  have fb := Bb.frozen; have lb := Bb.lt
  have Bx := hx.next hB; have hlx := hx.lt; have cx0 := Bx.cell 0; have fx := Bx.frozen; have lx := Bx.lt
  have hnil : ∀ w : World, (binOp .eql 108 (.map (some gm)) (.map none)).run Try.prog w = .ok (.bool false) w := map_is_nil (some gm)
  have hlk : ∀ g : Later w1, (Instr.lookup 108 (.map (some gm)) (.int .i64 a.id) true).run Try.prog g.w = .ok (.tuple #[.int .i64 v, .bool true]) g.w := fun g => by have h := ((hm.next hB).next g.is).look hk; rw [hv] at h; exact h
  clear hm hv hk hx hlx
  go_wp2_with fail
  replace ca0 : ∀ g : Later w1, g.w.cell? ⟨w.heap.size, 0, none⟩ = some (.int .i64 a.kind) := fun g => g.cell (Ba.cell 0)
  replace ca1 : ∀ g : Later w1, g.w.cell? ⟨w.heap.size, 1, none⟩ = some (uv a.r.b.v) := fun g => g.cell (Ba.cell 1)
  replace ca2 : ∀ g : Later w1, g.w.cell? ⟨w.heap.size, 2, none⟩ = some (uv a.r.b.m) := fun g => g.cell (Ba.cell 2)
  replace ca3 : ∀ g : Later w1, g.w.cell? ⟨w.heap.size, 3, none⟩ = some (uv a.r.lo) := fun g => g.cell (Ba.cell 3)
  replace ca4 : ∀ g : Later w1, g.w.cell? ⟨w.heap.size, 4, none⟩ = some (uv a.r.hi) := fun g => g.cell (Ba.cell 4)
  replace ca5 : ∀ g : Later w1, g.w.cell? ⟨w.heap.size, 5, none⟩ = some (sv a.r.sl) := fun g => g.cell (Ba.cell 5)
  replace ca6 : ∀ g : Later w1, g.w.cell? ⟨w.heap.size, 6, none⟩ = some (sv a.r.sh) := fun g => g.cell (Ba.cell 6)
  replace ca7 : ∀ g : Later w1, g.w.cell? ⟨w.heap.size, 7, none⟩ = some (.int .i64 a.slot) := fun g => g.cell (Ba.cell 7)
  replace ca8 : ∀ g : Later w1, g.w.cell? ⟨w.heap.size, 8, none⟩ = some (.int .i64 a.id) := fun g => g.cell (Ba.cell 8)
  replace ca9 : ∀ g : Later w1, g.w.cell? ⟨w.heap.size, 9, none⟩ = some (.int .i64 a.low) := fun g => g.cell (Ba.cell 9)
  replace ca10 : ∀ g : Later w1, g.w.cell? ⟨w.heap.size, 10, none⟩ = some (.int .i64 a.high) := fun g => g.cell (Ba.cell 10)
  replace cb0 : ∀ g : Later w1, g.w.cell? ⟨w.heap.size + 1, 0, none⟩ = some (.int .i64 b.kind) := fun g => g.cell (Bb.cell 0)
  replace cb1 : ∀ g : Later w1, g.w.cell? ⟨w.heap.size + 1, 1, none⟩ = some (uv b.r.b.v) := fun g => g.cell (Bb.cell 1)
  replace cb2 : ∀ g : Later w1, g.w.cell? ⟨w.heap.size + 1, 2, none⟩ = some (uv b.r.b.m) := fun g => g.cell (Bb.cell 2)
  replace cb3 : ∀ g : Later w1, g.w.cell? ⟨w.heap.size + 1, 3, none⟩ = some (uv b.r.lo) := fun g => g.cell (Bb.cell 3)
  replace cb4 : ∀ g : Later w1, g.w.cell? ⟨w.heap.size + 1, 4, none⟩ = some (uv b.r.hi) := fun g => g.cell (Bb.cell 4)
  replace cb5 : ∀ g : Later w1, g.w.cell? ⟨w.heap.size + 1, 5, none⟩ = some (sv b.r.sl) := fun g => g.cell (Bb.cell 5)
  replace cb6 : ∀ g : Later w1, g.w.cell? ⟨w.heap.size + 1, 6, none⟩ = some (sv b.r.sh) := fun g => g.cell (Bb.cell 6)
  replace cb7 : ∀ g : Later w1, g.w.cell? ⟨w.heap.size + 1, 7, none⟩ = some (.int .i64 b.slot) := fun g => g.cell (Bb.cell 7)
  replace cb8 : ∀ g : Later w1, g.w.cell? ⟨w.heap.size + 1, 8, none⟩ = some (.int .i64 b.id) := fun g => g.cell (Bb.cell 8)
  replace cb9 : ∀ g : Later w1, g.w.cell? ⟨w.heap.size + 1, 9, none⟩ = some (.int .i64 b.low) := fun g => g.cell (Bb.cell 9)
  replace cb10 : ∀ g : Later w1, g.w.cell? ⟨w.heap.size + 1, 10, none⟩ = some (.int .i64 b.high) := fun g => g.cell (Bb.cell 10)
  replace cx0 : ∀ g : Later w1, g.w.cell? ⟨gx, 0, none⟩ = some (.map (some gm)) := fun g => g.cell (Bx.cell 0)
  refine wp_region_mix 12 (fun _ => #[]) (by kernel_rfl) (by kernel_rfl) (no_alloc (by kernel_rfl)) ?_
  simp only [List.take_succ_cons, List.take_zero, List.drop_succ_cons, List.drop_zero]
  repeat (refine wpMix_step (fun K hK => ?_); go_simp; first | (refine hK _ ?_; clear hK K))
  refine wpMix_nil ?_
  intro G w2 hgr hblk hdist
  have hb : Below w1.heap.size w1 w2 := hgr
  replace Ba := Ba.next hb
  replace Bb := Bb.next hb
  replace Bx := Bx.next hb
  clear ca0 ca1 ca2 ca3 ca4 ca5 ca6 ca7 ca8 ca9 ca10 fa la
  clear cb0 cb1 cb2 cb3 cb4 cb5 cb6 cb7 cb8 cb9 cb10 fb lb
  clear cx0 fx lx
  replace hB : Below w.heap.size w w2 := Bl_trans hB hb
  simp only [putAll, isAlloc]
  clear hb hgr hblk hdist
  have ca0 : w2.cell? ⟨w.heap.size, 0, none⟩ = some (.int .i64 a.kind) := Ba.cell 0
  have ca1 : w2.cell? ⟨w.heap.size, 1, none⟩ = some (uv a.r.b.v) := Ba.cell 1
  have ca2 : w2.cell? ⟨w.heap.size, 2, none⟩ = some (uv a.r.b.m) := Ba.cell 2
  have ca3 : w2.cell? ⟨w.heap.size, 3, none⟩ = some (uv a.r.lo) := Ba.cell 3
  have ca4 : w2.cell? ⟨w.heap.size, 4, none⟩ = some (uv a.r.hi) := Ba.cell 4
  have ca5 : w2.cell? ⟨w.heap.size, 5, none⟩ = some (sv a.r.sl) := Ba.cell 5
  have ca6 : w2.cell? ⟨w.heap.size, 6, none⟩ = some (sv a.r.sh) := Ba.cell 6
  have ca7 : w2.cell? ⟨w.heap.size, 7, none⟩ = some (.int .i64 a.slot) := Ba.cell 7
  have ca8 : w2.cell? ⟨w.heap.size, 8, none⟩ = some (.int .i64 a.id) := Ba.cell 8
  have ca9 : w2.cell? ⟨w.heap.size, 9, none⟩ = some (.int .i64 a.low) := Ba.cell 9
  have ca10 : w2.cell? ⟨w.heap.size, 10, none⟩ = some (.int .i64 a.high) := Ba.cell 10
  have fa := Ba.frozen; have la := Ba.lt
  have cb0 : w2.cell? ⟨w.heap.size + 1, 0, none⟩ = some (.int .i64 b.kind) := Bb.cell 0
  have cb1 : w2.cell? ⟨w.heap.size + 1, 1, none⟩ = some (uv b.r.b.v) := Bb.cell 1
  have cb2 : w2.cell? ⟨w.heap.size + 1, 2, none⟩ = some (uv b.r.b.m) := Bb.cell 2
  have cb3 : w2.cell? ⟨w.heap.size + 1, 3, none⟩ = some (uv b.r.lo) := Bb.cell 3
  have cb4 : w2.cell? ⟨w.heap.size + 1, 4, none⟩ = some (uv b.r.hi) := Bb.cell 4
  have cb5 : w2.cell? ⟨w.heap.size + 1, 5, none⟩ = some (sv b.r.sl) := Bb.cell 5
  have cb6 : w2.cell? ⟨w.heap.size + 1, 6, none⟩ = some (sv b.r.sh) := Bb.cell 6
  have cb7 : w2.cell? ⟨w.heap.size + 1, 7, none⟩ = some (.int .i64 b.slot) := Bb.cell 7
  have cb8 : w2.cell? ⟨w.heap.size + 1, 8, none⟩ = some (.int .i64 b.id) := Bb.cell 8
  have cb9 : w2.cell? ⟨w.heap.size + 1, 9, none⟩ = some (.int .i64 b.low) := Bb.cell 9
  have cb10 : w2.cell? ⟨w.heap.size + 1, 10, none⟩ = some (.int .i64 b.high) := Bb.cell 10
  have fb := Bb.frozen; have lb := Bb.lt
  have cx0 : w2.cell? ⟨gx, 0, none⟩ = some (.map (some gm)) := Bx.cell 0
  have fx := Bx.frozen; have lx := Bx.lt
  clear hlk
  go_wp2
  go_ret
  exact ⟨rfl, by repeat (first | exact hB | (refine Bl_set ?_ (by first | omega | (simp; omega)) _) | apply Bl_alloc)⟩
set_option maxRecDepth 100000 in
set_option maxHeartbeats 800000 in
theorem maybe_new (a b : Rg) (gx n : Nat) (M : Im) (gm : Nat) (hn : n < 1000) (hk : okKey a.id) (hk2 : okKey b.id) (hv : M a.id = none) (w : World) (hx : Blk w gx 110 #[.map (some gm)]) (hm : MapIs w gm n M) (hgm : gx < gm) : Calls Try.prog 70 #[.pointer (some ⟨gx, 0, none⟩), gv a, gv b] w fun e w' => e = .returned (.bool true) ∧ Ids w' gx (n + 1) (fun k => if k = a.id then some b.id else M k) ∧ Below gx w w' := by
  go_enter Try.func70, Try.ntmps70
  go_wp2_with fail
  obtain ⟨ga, hga⟩ : ∃ g, g = w.heap.size := ⟨_, rfl⟩
  obtain ⟨gb, hgb⟩ : ∃ g, g = w.heap.size + 1 := ⟨_, rfl⟩
  have Ba : Blk ((w.alloc (.cells #[.int .i64 a.kind, uv a.r.b.v, uv a.r.b.m, uv a.r.lo, uv a.r.hi, sv a.r.sl, sv a.r.sh, .int .i64 a.slot, .int .i64 a.id, .int .i64 a.low, .int .i64 a.high] 29)).alloc (.cells #[.int .i64 b.kind, uv b.r.b.v, uv b.r.b.m, uv b.r.lo, uv b.r.hi, sv b.r.sl, sv b.r.sh, .int .i64 b.slot, .int .i64 b.id, .int .i64 b.low, .int .i64 b.high] 29)) (w.heap.size) 29 #[.int .i64 a.kind, uv a.r.b.v, uv a.r.b.m, uv a.r.lo, uv a.r.hi, sv a.r.sl, sv a.r.sh, .int .i64 a.slot, .int .i64 a.id, .int .i64 a.low, .int .i64 a.high] := ((Blk.new w 29 #[.int .i64 a.kind, uv a.r.b.v, uv a.r.b.m, uv a.r.lo, uv a.r.hi, sv a.r.sl, sv a.r.sh, .int .i64 a.slot, .int .i64 a.id, .int .i64 a.low, .int .i64 a.high])).alloc _
  have Bb : Blk ((w.alloc (.cells #[.int .i64 a.kind, uv a.r.b.v, uv a.r.b.m, uv a.r.lo, uv a.r.hi, sv a.r.sl, sv a.r.sh, .int .i64 a.slot, .int .i64 a.id, .int .i64 a.low, .int .i64 a.high] 29)).alloc (.cells #[.int .i64 b.kind, uv b.r.b.v, uv b.r.b.m, uv b.r.lo, uv b.r.hi, sv b.r.sl, sv b.r.sh, .int .i64 b.slot, .int .i64 b.id, .int .i64 b.low, .int .i64 b.high] 29)) (w.heap.size + 1) 29 #[.int .i64 b.kind, uv b.r.b.v, uv b.r.b.m, uv b.r.lo, uv b.r.hi, sv b.r.sl, sv b.r.sh, .int .i64 b.slot, .int .i64 b.id, .int .i64 b.low, .int .i64 b.high] := (by simpa using Blk.new (w.alloc (.cells #[.int .i64 a.kind, uv a.r.b.v, uv a.r.b.m, uv a.r.lo, uv a.r.hi, sv a.r.sl, sv a.r.sh, .int .i64 a.slot, .int .i64 a.id, .int .i64 a.low, .int .i64 a.high] 29)) 29 #[.int .i64 b.kind, uv b.r.b.v, uv b.r.b.m, uv b.r.lo, uv b.r.hi, sv b.r.sl, sv b.r.sh, .int .i64 b.slot, .int .i64 b.id, .int .i64 b.low, .int .i64 b.high] : Blk _ (w.heap.size + 1) 29 #[.int .i64 b.kind, uv b.r.b.v, uv b.r.b.m, uv b.r.lo, uv b.r.hi, sv b.r.sl, sv b.r.sh, .int .i64 b.slot, .int .i64 b.id, .int .i64 b.low, .int .i64 b.high])
  have hB : Below w.heap.size w ((w.alloc (.cells #[.int .i64 a.kind, uv a.r.b.v, uv a.r.b.m, uv a.r.lo, uv a.r.hi, sv a.r.sl, sv a.r.sh, .int .i64 a.slot, .int .i64 a.id, .int .i64 a.low, .int .i64 a.high] 29)).alloc (.cells #[.int .i64 b.kind, uv b.r.b.v, uv b.r.b.m, uv b.r.lo, uv b.r.hi, sv b.r.sl, sv b.r.sh, .int .i64 b.slot, .int .i64 b.id, .int .i64 b.low, .int .i64 b.high] 29)) := (Bl_alloc (Bl_alloc (Bl_refl w) _) _)
  clear hga
  clear ga
  clear hgb
  clear gb
  generalize ((w.alloc (.cells #[.int .i64 a.kind, uv a.r.b.v, uv a.r.b.m, uv a.r.lo, uv a.r.hi, sv a.r.sl, sv a.r.sh, .int .i64 a.slot, .int .i64 a.id, .int .i64 a.low, .int .i64 a.high] 29)).alloc (.cells #[.int .i64 b.kind, uv b.r.b.v, uv b.r.b.m, uv b.r.lo, uv b.r.hi, sv b.r.sl, sv b.r.sh, .int .i64 b.slot, .int .i64 b.id, .int .i64 b.low, .int .i64 b.high] 29)) = w1 at *
  have ca0 : w1.cell? ⟨w.heap.size, 0, none⟩ = some (.int .i64 a.kind) := Ba.cell 0
  have ca1 : w1.cell? ⟨w.heap.size, 1, none⟩ = some (uv a.r.b.v) := Ba.cell 1
  have ca2 : w1.cell? ⟨w.heap.size, 2, none⟩ = some (uv a.r.b.m) := Ba.cell 2
  have ca3 : w1.cell? ⟨w.heap.size, 3, none⟩ = some (uv a.r.lo) := Ba.cell 3
  have ca4 : w1.cell? ⟨w.heap.size, 4, none⟩ = some (uv a.r.hi) := Ba.cell 4
  have ca5 : w1.cell? ⟨w.heap.size, 5, none⟩ = some (sv a.r.sl) := Ba.cell 5
  have ca6 : w1.cell? ⟨w.heap.size, 6, none⟩ = some (sv a.r.sh) := Ba.cell 6
  have ca7 : w1.cell? ⟨w.heap.size, 7, none⟩ = some (.int .i64 a.slot) := Ba.cell 7
  have ca8 : w1.cell? ⟨w.heap.size, 8, none⟩ = some (.int .i64 a.id) := Ba.cell 8
  have ca9 : w1.cell? ⟨w.heap.size, 9, none⟩ = some (.int .i64 a.low) := Ba.cell 9
  have ca10 : w1.cell? ⟨w.heap.size, 10, none⟩ = some (.int .i64 a.high) := Ba.cell 10
  have fa := Ba.frozen; have la := Ba.lt
  have cb0 : w1.cell? ⟨w.heap.size + 1, 0, none⟩ = some (.int .i64 b.kind) := Bb.cell 0
  have cb1 : w1.cell? ⟨w.heap.size + 1, 1, none⟩ = some (uv b.r.b.v) := Bb.cell 1
  have cb2 : w1.cell? ⟨w.heap.size + 1, 2, none⟩ = some (uv b.r.b.m) := Bb.cell 2
  have cb3 : w1.cell? ⟨w.heap.size + 1, 3, none⟩ = some (uv b.r.lo) := Bb.cell 3
  have cb4 : w1.cell? ⟨w.heap.size + 1, 4, none⟩ = some (uv b.r.hi) := Bb.cell 4
  have cb5 : w1.cell? ⟨w.heap.size + 1, 5, none⟩ = some (sv b.r.sl) := Bb.cell 5
  have cb6 : w1.cell? ⟨w.heap.size + 1, 6, none⟩ = some (sv b.r.sh) := Bb.cell 6
  have cb7 : w1.cell? ⟨w.heap.size + 1, 7, none⟩ = some (.int .i64 b.slot) := Bb.cell 7
  have cb8 : w1.cell? ⟨w.heap.size + 1, 8, none⟩ = some (.int .i64 b.id) := Bb.cell 8
  have cb9 : w1.cell? ⟨w.heap.size + 1, 9, none⟩ = some (.int .i64 b.low) := Bb.cell 9
  have cb10 : w1.cell? ⟨w.heap.size + 1, 10, none⟩ = some (.int .i64 b.high) := Bb.cell 10
  have fb := Bb.frozen; have lb := Bb.lt
  have Bx := hx.next hB; have hlx := hx.lt; have cx0 := Bx.cell 0; have fx := Bx.frozen; have lx := Bx.lt
  have hnil : ∀ w : World, (binOp .eql 108 (.map (some gm)) (.map none)).run Try.prog w = .ok (.bool false) w := map_is_nil (some gm)
  have hlk : ∀ g : Later w1, (Instr.lookup 108 (.map (some gm)) (.int .i64 a.id) true).run Try.prog g.w = .ok (.tuple #[.int .i64 0, .bool false]) g.w := fun g => by have h := ((hm.next hB).next g.is).look hk; rw [hv] at h; exact h
  have HX := Lib.hid hx; have HLX := Lib.hid hlx; have HM := Lib.hid hm; have HV := Lib.hid hv; have HK := Lib.hid (And.intro hk hk2); have HG := Lib.hid hgm; have HN := Lib.hid hn; clear hx hlx hm hv hk hk2 hgm hn
  go_wp2_with fail
  replace ca0 : ∀ g : Later w1, g.w.cell? ⟨w.heap.size, 0, none⟩ = some (.int .i64 a.kind) := fun g => g.cell (Ba.cell 0)
  replace ca1 : ∀ g : Later w1, g.w.cell? ⟨w.heap.size, 1, none⟩ = some (uv a.r.b.v) := fun g => g.cell (Ba.cell 1)
  replace ca2 : ∀ g : Later w1, g.w.cell? ⟨w.heap.size, 2, none⟩ = some (uv a.r.b.m) := fun g => g.cell (Ba.cell 2)
  replace ca3 : ∀ g : Later w1, g.w.cell? ⟨w.heap.size, 3, none⟩ = some (uv a.r.lo) := fun g => g.cell (Ba.cell 3)
  replace ca4 : ∀ g : Later w1, g.w.cell? ⟨w.heap.size, 4, none⟩ = some (uv a.r.hi) := fun g => g.cell (Ba.cell 4)
  replace ca5 : ∀ g : Later w1, g.w.cell? ⟨w.heap.size, 5, none⟩ = some (sv a.r.sl) := fun g => g.cell (Ba.cell 5)
  replace ca6 : ∀ g : Later w1, g.w.cell? ⟨w.heap.size, 6, none⟩ = some (sv a.r.sh) := fun g => g.cell (Ba.cell 6)
  replace ca7 : ∀ g : Later w1, g.w.cell? ⟨w.heap.size, 7, none⟩ = some (.int .i64 a.slot) := fun g => g.cell (Ba.cell 7)
  replace ca8 : ∀ g : Later w1, g.w.cell? ⟨w.heap.size, 8, none⟩ = some (.int .i64 a.id) := fun g => g.cell (Ba.cell 8)
  replace ca9 : ∀ g : Later w1, g.w.cell? ⟨w.heap.size, 9, none⟩ = some (.int .i64 a.low) := fun g => g.cell (Ba.cell 9)
  replace ca10 : ∀ g : Later w1, g.w.cell? ⟨w.heap.size, 10, none⟩ = some (.int .i64 a.high) := fun g => g.cell (Ba.cell 10)
  replace cb0 : ∀ g : Later w1, g.w.cell? ⟨w.heap.size + 1, 0, none⟩ = some (.int .i64 b.kind) := fun g => g.cell (Bb.cell 0)
  replace cb1 : ∀ g : Later w1, g.w.cell? ⟨w.heap.size + 1, 1, none⟩ = some (uv b.r.b.v) := fun g => g.cell (Bb.cell 1)
  replace cb2 : ∀ g : Later w1, g.w.cell? ⟨w.heap.size + 1, 2, none⟩ = some (uv b.r.b.m) := fun g => g.cell (Bb.cell 2)
  replace cb3 : ∀ g : Later w1, g.w.cell? ⟨w.heap.size + 1, 3, none⟩ = some (uv b.r.lo) := fun g => g.cell (Bb.cell 3)
  replace cb4 : ∀ g : Later w1, g.w.cell? ⟨w.heap.size + 1, 4, none⟩ = some (uv b.r.hi) := fun g => g.cell (Bb.cell 4)
  replace cb5 : ∀ g : Later w1, g.w.cell? ⟨w.heap.size + 1, 5, none⟩ = some (sv b.r.sl) := fun g => g.cell (Bb.cell 5)
  replace cb6 : ∀ g : Later w1, g.w.cell? ⟨w.heap.size + 1, 6, none⟩ = some (sv b.r.sh) := fun g => g.cell (Bb.cell 6)
  replace cb7 : ∀ g : Later w1, g.w.cell? ⟨w.heap.size + 1, 7, none⟩ = some (.int .i64 b.slot) := fun g => g.cell (Bb.cell 7)
  replace cb8 : ∀ g : Later w1, g.w.cell? ⟨w.heap.size + 1, 8, none⟩ = some (.int .i64 b.id) := fun g => g.cell (Bb.cell 8)
  replace cb9 : ∀ g : Later w1, g.w.cell? ⟨w.heap.size + 1, 9, none⟩ = some (.int .i64 b.low) := fun g => g.cell (Bb.cell 9)
  replace cb10 : ∀ g : Later w1, g.w.cell? ⟨w.heap.size + 1, 10, none⟩ = some (.int .i64 b.high) := fun g => g.cell (Bb.cell 10)
  replace cx0 : ∀ g : Later w1, g.w.cell? ⟨gx, 0, none⟩ = some (.map (some gm)) := fun g => g.cell (Bx.cell 0)
  refine wp_region_mix 12 (fun _ => #[]) (by kernel_rfl) (by kernel_rfl) (no_alloc (by kernel_rfl)) ?_
  simp only [List.take_succ_cons, List.take_zero, List.drop_succ_cons, List.drop_zero]
  repeat (refine wpMix_step (fun K hK => ?_); go_simp; first | (refine hK _ ?_; clear hK K))
  refine wpMix_nil ?_
  intro G w2 hgr hblk hdist
  have hb : Below w1.heap.size w1 w2 := hgr
  replace Ba := Ba.next hb
  replace Bb := Bb.next hb
  replace Bx := Bx.next hb
  clear ca0 ca1 ca2 ca3 ca4 ca5 ca6 ca7 ca8 ca9 ca10 fa la
  clear cb0 cb1 cb2 cb3 cb4 cb5 cb6 cb7 cb8 cb9 cb10 fb lb
  clear cx0 fx lx
  replace hB : Below w.heap.size w w2 := Bl_trans hB hb
  simp only [putAll, isAlloc]
  clear hb hgr hblk hdist
  have ca0 : w2.cell? ⟨w.heap.size, 0, none⟩ = some (.int .i64 a.kind) := Ba.cell 0
  have ca1 : w2.cell? ⟨w.heap.size, 1, none⟩ = some (uv a.r.b.v) := Ba.cell 1
  have ca2 : w2.cell? ⟨w.heap.size, 2, none⟩ = some (uv a.r.b.m) := Ba.cell 2
  have ca3 : w2.cell? ⟨w.heap.size, 3, none⟩ = some (uv a.r.lo) := Ba.cell 3
  have ca4 : w2.cell? ⟨w.heap.size, 4, none⟩ = some (uv a.r.hi) := Ba.cell 4
  have ca5 : w2.cell? ⟨w.heap.size, 5, none⟩ = some (sv a.r.sl) := Ba.cell 5
  have ca6 : w2.cell? ⟨w.heap.size, 6, none⟩ = some (sv a.r.sh) := Ba.cell 6
  have ca7 : w2.cell? ⟨w.heap.size, 7, none⟩ = some (.int .i64 a.slot) := Ba.cell 7
  have ca8 : w2.cell? ⟨w.heap.size, 8, none⟩ = some (.int .i64 a.id) := Ba.cell 8
  have ca9 : w2.cell? ⟨w.heap.size, 9, none⟩ = some (.int .i64 a.low) := Ba.cell 9
  have ca10 : w2.cell? ⟨w.heap.size, 10, none⟩ = some (.int .i64 a.high) := Ba.cell 10
  have fa := Ba.frozen; have la := Ba.lt
  have cb0 : w2.cell? ⟨w.heap.size + 1, 0, none⟩ = some (.int .i64 b.kind) := Bb.cell 0
  have cb1 : w2.cell? ⟨w.heap.size + 1, 1, none⟩ = some (uv b.r.b.v) := Bb.cell 1
  have cb2 : w2.cell? ⟨w.heap.size + 1, 2, none⟩ = some (uv b.r.b.m) := Bb.cell 2
  have cb3 : w2.cell? ⟨w.heap.size + 1, 3, none⟩ = some (uv b.r.lo) := Bb.cell 3
  have cb4 : w2.cell? ⟨w.heap.size + 1, 4, none⟩ = some (uv b.r.hi) := Bb.cell 4
  have cb5 : w2.cell? ⟨w.heap.size + 1, 5, none⟩ = some (sv b.r.sl) := Bb.cell 5
  have cb6 : w2.cell? ⟨w.heap.size + 1, 6, none⟩ = some (sv b.r.sh) := Bb.cell 6
  have cb7 : w2.cell? ⟨w.heap.size + 1, 7, none⟩ = some (.int .i64 b.slot) := Bb.cell 7
  have cb8 : w2.cell? ⟨w.heap.size + 1, 8, none⟩ = some (.int .i64 b.id) := Bb.cell 8
  have cb9 : w2.cell? ⟨w.heap.size + 1, 9, none⟩ = some (.int .i64 b.low) := Bb.cell 9
  have cb10 : w2.cell? ⟨w.heap.size + 1, 10, none⟩ = some (.int .i64 b.high) := Bb.cell 10
  have fb := Bb.frozen; have lb := Bb.lt
  have cx0 : w2.cell? ⟨gx, 0, none⟩ = some (.map (some gm)) := Bx.cell 0
  have fx := Bx.frozen; have lx := Bx.lt
  clear hlk
  go_wp2_with fail
  replace ca0 : ∀ g : Later w2, g.w.cell? ⟨w.heap.size, 0, none⟩ = some (.int .i64 a.kind) := fun g => g.cell (Ba.cell 0)
  replace ca1 : ∀ g : Later w2, g.w.cell? ⟨w.heap.size, 1, none⟩ = some (uv a.r.b.v) := fun g => g.cell (Ba.cell 1)
  replace ca2 : ∀ g : Later w2, g.w.cell? ⟨w.heap.size, 2, none⟩ = some (uv a.r.b.m) := fun g => g.cell (Ba.cell 2)
  replace ca3 : ∀ g : Later w2, g.w.cell? ⟨w.heap.size, 3, none⟩ = some (uv a.r.lo) := fun g => g.cell (Ba.cell 3)
  replace ca4 : ∀ g : Later w2, g.w.cell? ⟨w.heap.size, 4, none⟩ = some (uv a.r.hi) := fun g => g.cell (Ba.cell 4)
  replace ca5 : ∀ g : Later w2, g.w.cell? ⟨w.heap.size, 5, none⟩ = some (sv a.r.sl) := fun g => g.cell (Ba.cell 5)
  replace ca6 : ∀ g : Later w2, g.w.cell? ⟨w.heap.size, 6, none⟩ = some (sv a.r.sh) := fun g => g.cell (Ba.cell 6)
  replace ca7 : ∀ g : Later w2, g.w.cell? ⟨w.heap.size, 7, none⟩ = some (.int .i64 a.slot) := fun g => g.cell (Ba.cell 7)
  replace ca8 : ∀ g : Later w2, g.w.cell? ⟨w.heap.size, 8, none⟩ = some (.int .i64 a.id) := fun g => g.cell (Ba.cell 8)
  replace ca9 : ∀ g : Later w2, g.w.cell? ⟨w.heap.size, 9, none⟩ = some (.int .i64 a.low) := fun g => g.cell (Ba.cell 9)
  replace ca10 : ∀ g : Later w2, g.w.cell? ⟨w.heap.size, 10, none⟩ = some (.int .i64 a.high) := fun g => g.cell (Ba.cell 10)
  replace cb0 : ∀ g : Later w2, g.w.cell? ⟨w.heap.size + 1, 0, none⟩ = some (.int .i64 b.kind) := fun g => g.cell (Bb.cell 0)
  replace cb1 : ∀ g : Later w2, g.w.cell? ⟨w.heap.size + 1, 1, none⟩ = some (uv b.r.b.v) := fun g => g.cell (Bb.cell 1)
  replace cb2 : ∀ g : Later w2, g.w.cell? ⟨w.heap.size + 1, 2, none⟩ = some (uv b.r.b.m) := fun g => g.cell (Bb.cell 2)
  replace cb3 : ∀ g : Later w2, g.w.cell? ⟨w.heap.size + 1, 3, none⟩ = some (uv b.r.lo) := fun g => g.cell (Bb.cell 3)
  replace cb4 : ∀ g : Later w2, g.w.cell? ⟨w.heap.size + 1, 4, none⟩ = some (uv b.r.hi) := fun g => g.cell (Bb.cell 4)
  replace cb5 : ∀ g : Later w2, g.w.cell? ⟨w.heap.size + 1, 5, none⟩ = some (sv b.r.sl) := fun g => g.cell (Bb.cell 5)
  replace cb6 : ∀ g : Later w2, g.w.cell? ⟨w.heap.size + 1, 6, none⟩ = some (sv b.r.sh) := fun g => g.cell (Bb.cell 6)
  replace cb7 : ∀ g : Later w2, g.w.cell? ⟨w.heap.size + 1, 7, none⟩ = some (.int .i64 b.slot) := fun g => g.cell (Bb.cell 7)
  replace cb8 : ∀ g : Later w2, g.w.cell? ⟨w.heap.size + 1, 8, none⟩ = some (.int .i64 b.id) := fun g => g.cell (Bb.cell 8)
  replace cb9 : ∀ g : Later w2, g.w.cell? ⟨w.heap.size + 1, 9, none⟩ = some (.int .i64 b.low) := fun g => g.cell (Bb.cell 9)
  replace cb10 : ∀ g : Later w2, g.w.cell? ⟨w.heap.size + 1, 10, none⟩ = some (.int .i64 b.high) := fun g => g.cell (Bb.cell 10)
  replace cx0 : ∀ g : Later w2, g.w.cell? ⟨gx, 0, none⟩ = some (.map (some gm)) := fun g => g.cell (Bx.cell 0)
  refine wp_region_mix 8 (fun _ => #[]) (by kernel_rfl) (by kernel_rfl) (no_alloc (by kernel_rfl)) ?_
  simp only [List.take_succ_cons, List.take_zero, List.drop_succ_cons, List.drop_zero]
  repeat (refine wpMix_step (fun K hK => ?_); go_simp; first | (refine hK _ ?_; clear hK K))
  refine wpMix_nil ?_
  intro G w3 hgr hblk hdist
  have hb : Below w2.heap.size w2 w3 := hgr
  replace Ba := Ba.next hb
  replace Bb := Bb.next hb
  replace Bx := Bx.next hb
  clear ca0 ca1 ca2 ca3 ca4 ca5 ca6 ca7 ca8 ca9 ca10 fa la
  clear cb0 cb1 cb2 cb3 cb4 cb5 cb6 cb7 cb8 cb9 cb10 fb lb
  clear cx0 fx lx
  replace hB : Below w.heap.size w w3 := Bl_trans hB hb
  simp only [putAll, isAlloc]
  clear hb hgr hblk hdist
  have ca0 : w3.cell? ⟨w.heap.size, 0, none⟩ = some (.int .i64 a.kind) := Ba.cell 0
  have ca1 : w3.cell? ⟨w.heap.size, 1, none⟩ = some (uv a.r.b.v) := Ba.cell 1
  have ca2 : w3.cell? ⟨w.heap.size, 2, none⟩ = some (uv a.r.b.m) := Ba.cell 2
  have ca3 : w3.cell? ⟨w.heap.size, 3, none⟩ = some (uv a.r.lo) := Ba.cell 3
  have ca4 : w3.cell? ⟨w.heap.size, 4, none⟩ = some (uv a.r.hi) := Ba.cell 4
  have ca5 : w3.cell? ⟨w.heap.size, 5, none⟩ = some (sv a.r.sl) := Ba.cell 5
  have ca6 : w3.cell? ⟨w.heap.size, 6, none⟩ = some (sv a.r.sh) := Ba.cell 6
  have ca7 : w3.cell? ⟨w.heap.size, 7, none⟩ = some (.int .i64 a.slot) := Ba.cell 7
  have ca8 : w3.cell? ⟨w.heap.size, 8, none⟩ = some (.int .i64 a.id) := Ba.cell 8
  have ca9 : w3.cell? ⟨w.heap.size, 9, none⟩ = some (.int .i64 a.low) := Ba.cell 9
  have ca10 : w3.cell? ⟨w.heap.size, 10, none⟩ = some (.int .i64 a.high) := Ba.cell 10
  have fa := Ba.frozen; have la := Ba.lt
  have cb0 : w3.cell? ⟨w.heap.size + 1, 0, none⟩ = some (.int .i64 b.kind) := Bb.cell 0
  have cb1 : w3.cell? ⟨w.heap.size + 1, 1, none⟩ = some (uv b.r.b.v) := Bb.cell 1
  have cb2 : w3.cell? ⟨w.heap.size + 1, 2, none⟩ = some (uv b.r.b.m) := Bb.cell 2
  have cb3 : w3.cell? ⟨w.heap.size + 1, 3, none⟩ = some (uv b.r.lo) := Bb.cell 3
  have cb4 : w3.cell? ⟨w.heap.size + 1, 4, none⟩ = some (uv b.r.hi) := Bb.cell 4
  have cb5 : w3.cell? ⟨w.heap.size + 1, 5, none⟩ = some (sv b.r.sl) := Bb.cell 5
  have cb6 : w3.cell? ⟨w.heap.size + 1, 6, none⟩ = some (sv b.r.sh) := Bb.cell 6
  have cb7 : w3.cell? ⟨w.heap.size + 1, 7, none⟩ = some (.int .i64 b.slot) := Bb.cell 7
  have cb8 : w3.cell? ⟨w.heap.size + 1, 8, none⟩ = some (.int .i64 b.id) := Bb.cell 8
  have cb9 : w3.cell? ⟨w.heap.size + 1, 9, none⟩ = some (.int .i64 b.low) := Bb.cell 9
  have cb10 : w3.cell? ⟨w.heap.size + 1, 10, none⟩ = some (.int .i64 b.high) := Bb.cell 10
  have fb := Bb.frozen; have lb := Bb.lt
  have cx0 : w3.cell? ⟨gx, 0, none⟩ = some (.map (some gm)) := Bx.cell 0
  have fx := Bx.frozen; have lx := Bx.lt
  obtain ⟨wz, hrun, hmz, hgz⟩ := (HM.out.next hB).put HN.out HK.out.1 HK.out.2
  go_wp2
  go_ret
  exact ⟨rfl, .inr ⟨gm, HG.out, row_other_map Bx hgz (Nat.ne_of_lt HG.out), hmz⟩, (hB.mono (Nat.le_of_lt HLX.out)).grown hgz (Nat.le_of_lt lx) (fun k h => by cases h; exact Nat.le_of_lt HG.out)⟩
set_option maxRecDepth 100000 in
set_option maxHeartbeats 800000 in
theorem maybe_first (a b : Rg) (gx n : Nat) (M : Im) (hn : n < 1000) (hk : okKey a.id) (hk2 : okKey b.id) (hv : M = fun _ => none) (w : World) (hx : Blk w gx 110 #[.map none]) : Calls Try.prog 70 #[.pointer (some ⟨gx, 0, none⟩), gv a, gv b] w fun e w' => e = .returned (.bool true) ∧ Ids w' gx (n + 1) (fun k => if k = a.id then some b.id else M k) ∧ Below gx w w' := by
  go_enter Try.func70, Try.ntmps70
  go_wp2_with fail
  obtain ⟨ga, hga⟩ : ∃ g, g = w.heap.size := ⟨_, rfl⟩
  obtain ⟨gb, hgb⟩ : ∃ g, g = w.heap.size + 1 := ⟨_, rfl⟩
  have Ba : Blk ((w.alloc (.cells #[.int .i64 a.kind, uv a.r.b.v, uv a.r.b.m, uv a.r.lo, uv a.r.hi, sv a.r.sl, sv a.r.sh, .int .i64 a.slot, .int .i64 a.id, .int .i64 a.low, .int .i64 a.high] 29)).alloc (.cells #[.int .i64 b.kind, uv b.r.b.v, uv b.r.b.m, uv b.r.lo, uv b.r.hi, sv b.r.sl, sv b.r.sh, .int .i64 b.slot, .int .i64 b.id, .int .i64 b.low, .int .i64 b.high] 29)) (w.heap.size) 29 #[.int .i64 a.kind, uv a.r.b.v, uv a.r.b.m, uv a.r.lo, uv a.r.hi, sv a.r.sl, sv a.r.sh, .int .i64 a.slot, .int .i64 a.id, .int .i64 a.low, .int .i64 a.high] := ((Blk.new w 29 #[.int .i64 a.kind, uv a.r.b.v, uv a.r.b.m, uv a.r.lo, uv a.r.hi, sv a.r.sl, sv a.r.sh, .int .i64 a.slot, .int .i64 a.id, .int .i64 a.low, .int .i64 a.high])).alloc _
  have Bb : Blk ((w.alloc (.cells #[.int .i64 a.kind, uv a.r.b.v, uv a.r.b.m, uv a.r.lo, uv a.r.hi, sv a.r.sl, sv a.r.sh, .int .i64 a.slot, .int .i64 a.id, .int .i64 a.low, .int .i64 a.high] 29)).alloc (.cells #[.int .i64 b.kind, uv b.r.b.v, uv b.r.b.m, uv b.r.lo, uv b.r.hi, sv b.r.sl, sv b.r.sh, .int .i64 b.slot, .int .i64 b.id, .int .i64 b.low, .int .i64 b.high] 29)) (w.heap.size + 1) 29 #[.int .i64 b.kind, uv b.r.b.v, uv b.r.b.m, uv b.r.lo, uv b.r.hi, sv b.r.sl, sv b.r.sh, .int .i64 b.slot, .int .i64 b.id, .int .i64 b.low, .int .i64 b.high] := (by simpa using Blk.new (w.alloc (.cells #[.int .i64 a.kind, uv a.r.b.v, uv a.r.b.m, uv a.r.lo, uv a.r.hi, sv a.r.sl, sv a.r.sh, .int .i64 a.slot, .int .i64 a.id, .int .i64 a.low, .int .i64 a.high] 29)) 29 #[.int .i64 b.kind, uv b.r.b.v, uv b.r.b.m, uv b.r.lo, uv b.r.hi, sv b.r.sl, sv b.r.sh, .int .i64 b.slot, .int .i64 b.id, .int .i64 b.low, .int .i64 b.high] : Blk _ (w.heap.size + 1) 29 #[.int .i64 b.kind, uv b.r.b.v, uv b.r.b.m, uv b.r.lo, uv b.r.hi, sv b.r.sl, sv b.r.sh, .int .i64 b.slot, .int .i64 b.id, .int .i64 b.low, .int .i64 b.high])
  have hB : Below w.heap.size w ((w.alloc (.cells #[.int .i64 a.kind, uv a.r.b.v, uv a.r.b.m, uv a.r.lo, uv a.r.hi, sv a.r.sl, sv a.r.sh, .int .i64 a.slot, .int .i64 a.id, .int .i64 a.low, .int .i64 a.high] 29)).alloc (.cells #[.int .i64 b.kind, uv b.r.b.v, uv b.r.b.m, uv b.r.lo, uv b.r.hi, sv b.r.sl, sv b.r.sh, .int .i64 b.slot, .int .i64 b.id, .int .i64 b.low, .int .i64 b.high] 29)) := (Bl_alloc (Bl_alloc (Bl_refl w) _) _)
  clear hga
  clear ga
  clear hgb
  clear gb
  generalize ((w.alloc (.cells #[.int .i64 a.kind, uv a.r.b.v, uv a.r.b.m, uv a.r.lo, uv a.r.hi, sv a.r.sl, sv a.r.sh, .int .i64 a.slot, .int .i64 a.id, .int .i64 a.low, .int .i64 a.high] 29)).alloc (.cells #[.int .i64 b.kind, uv b.r.b.v, uv b.r.b.m, uv b.r.lo, uv b.r.hi, sv b.r.sl, sv b.r.sh, .int .i64 b.slot, .int .i64 b.id, .int .i64 b.low, .int .i64 b.high] 29)) = w1 at *
  have ca0 : w1.cell? ⟨w.heap.size, 0, none⟩ = some (.int .i64 a.kind) := Ba.cell 0
  have ca1 : w1.cell? ⟨w.heap.size, 1, none⟩ = some (uv a.r.b.v) := Ba.cell 1
  have ca2 : w1.cell? ⟨w.heap.size, 2, none⟩ = some (uv a.r.b.m) := Ba.cell 2
  have ca3 : w1.cell? ⟨w.heap.size, 3, none⟩ = some (uv a.r.lo) := Ba.cell 3
  have ca4 : w1.cell? ⟨w.heap.size, 4, none⟩ = some (uv a.r.hi) := Ba.cell 4
  have ca5 : w1.cell? ⟨w.heap.size, 5, none⟩ = some (sv a.r.sl) := Ba.cell 5
  have ca6 : w1.cell? ⟨w.heap.size, 6, none⟩ = some (sv a.r.sh) := Ba.cell 6
  have ca7 : w1.cell? ⟨w.heap.size, 7, none⟩ = some (.int .i64 a.slot) := Ba.cell 7
  have ca8 : w1.cell? ⟨w.heap.size, 8, none⟩ = some (.int .i64 a.id) := Ba.cell 8
  have ca9 : w1.cell? ⟨w.heap.size, 9, none⟩ = some (.int .i64 a.low) := Ba.cell 9
  have ca10 : w1.cell? ⟨w.heap.size, 10, none⟩ = some (.int .i64 a.high) := Ba.cell 10
  have fa := Ba.frozen; have la := Ba.lt
  have cb0 : w1.cell? ⟨w.heap.size + 1, 0, none⟩ = some (.int .i64 b.kind) := Bb.cell 0
  have cb1 : w1.cell? ⟨w.heap.size + 1, 1, none⟩ = some (uv b.r.b.v) := Bb.cell 1
  have cb2 : w1.cell? ⟨w.heap.size + 1, 2, none⟩ = some (uv b.r.b.m) := Bb.cell 2
  have cb3 : w1.cell? ⟨w.heap.size + 1, 3, none⟩ = some (uv b.r.lo) := Bb.cell 3
  have cb4 : w1.cell? ⟨w.heap.size + 1, 4, none⟩ = some (uv b.r.hi) := Bb.cell 4
  have cb5 : w1.cell? ⟨w.heap.size + 1, 5, none⟩ = some (sv b.r.sl) := Bb.cell 5
  have cb6 : w1.cell? ⟨w.heap.size + 1, 6, none⟩ = some (sv b.r.sh) := Bb.cell 6
  have cb7 : w1.cell? ⟨w.heap.size + 1, 7, none⟩ = some (.int .i64 b.slot) := Bb.cell 7
  have cb8 : w1.cell? ⟨w.heap.size + 1, 8, none⟩ = some (.int .i64 b.id) := Bb.cell 8
  have cb9 : w1.cell? ⟨w.heap.size + 1, 9, none⟩ = some (.int .i64 b.low) := Bb.cell 9
  have cb10 : w1.cell? ⟨w.heap.size + 1, 10, none⟩ = some (.int .i64 b.high) := Bb.cell 10
  have fb := Bb.frozen; have lb := Bb.lt
  have Bx := hx.next hB; have hlx := hx.lt; have cx0 := Bx.cell 0; have fx := Bx.frozen; have lx := Bx.lt
  have hnil : ∀ w : World, (binOp .eql 108 (.map none) (.map none)).run Try.prog w = .ok (.bool true) w := map_is_nil none
  have hlk : ∀ g : Later w1, (Instr.lookup 108 (.map none) (.int .i64 a.id) true).run Try.prog g.w = .ok (.tuple #[.int .i64 0, .bool false]) g.w := fun g => look_none hk g.w
  have hmm := map_alloc
  have HX := Lib.hid hx; have HLX := Lib.hid hlx; have HV := Lib.hid hv; have HK := Lib.hid (And.intro hk hk2); have HN := Lib.hid hn; clear hx hlx hv hk hk2 hn
  go_wp2_with fail
  replace ca0 : ∀ g : Later w1, g.w.cell? ⟨w.heap.size, 0, none⟩ = some (.int .i64 a.kind) := fun g => g.cell (Ba.cell 0)
  replace ca1 : ∀ g : Later w1, g.w.cell? ⟨w.heap.size, 1, none⟩ = some (uv a.r.b.v) := fun g => g.cell (Ba.cell 1)
  replace ca2 : ∀ g : Later w1, g.w.cell? ⟨w.heap.size, 2, none⟩ = some (uv a.r.b.m) := fun g => g.cell (Ba.cell 2)
  replace ca3 : ∀ g : Later w1, g.w.cell? ⟨w.heap.size, 3, none⟩ = some (uv a.r.lo) := fun g => g.cell (Ba.cell 3)
  replace ca4 : ∀ g : Later w1, g.w.cell? ⟨w.heap.size, 4, none⟩ = some (uv a.r.hi) := fun g => g.cell (Ba.cell 4)
  replace ca5 : ∀ g : Later w1, g.w.cell? ⟨w.heap.size, 5, none⟩ = some (sv a.r.sl) := fun g => g.cell (Ba.cell 5)
  replace ca6 : ∀ g : Later w1, g.w.cell? ⟨w.heap.size, 6, none⟩ = some (sv a.r.sh) := fun g => g.cell (Ba.cell 6)
  replace ca7 : ∀ g : Later w1, g.w.cell? ⟨w.heap.size, 7, none⟩ = some (.int .i64 a.slot) := fun g => g.cell (Ba.cell 7)
  replace ca8 : ∀ g : Later w1, g.w.cell? ⟨w.heap.size, 8, none⟩ = some (.int .i64 a.id) := fun g => g.cell (Ba.cell 8)
  replace ca9 : ∀ g : Later w1, g.w.cell? ⟨w.heap.size, 9, none⟩ = some (.int .i64 a.low) := fun g => g.cell (Ba.cell 9)
  replace ca10 : ∀ g : Later w1, g.w.cell? ⟨w.heap.size, 10, none⟩ = some (.int .i64 a.high) := fun g => g.cell (Ba.cell 10)
  replace cb0 : ∀ g : Later w1, g.w.cell? ⟨w.heap.size + 1, 0, none⟩ = some (.int .i64 b.kind) := fun g => g.cell (Bb.cell 0)
  replace cb1 : ∀ g : Later w1, g.w.cell? ⟨w.heap.size + 1, 1, none⟩ = some (uv b.r.b.v) := fun g => g.cell (Bb.cell 1)
  replace cb2 : ∀ g : Later w1, g.w.cell? ⟨w.heap.size + 1, 2, none⟩ = some (uv b.r.b.m) := fun g => g.cell (Bb.cell 2)
  replace cb3 : ∀ g : Later w1, g.w.cell? ⟨w.heap.size + 1, 3, none⟩ = some (uv b.r.lo) := fun g => g.cell (Bb.cell 3)
  replace cb4 : ∀ g : Later w1, g.w.cell? ⟨w.heap.size + 1, 4, none⟩ = some (uv b.r.hi) := fun g => g.cell (Bb.cell 4)
  replace cb5 : ∀ g : Later w1, g.w.cell? ⟨w.heap.size + 1, 5, none⟩ = some (sv b.r.sl) := fun g => g.cell (Bb.cell 5)
  replace cb6 : ∀ g : Later w1, g.w.cell? ⟨w.heap.size + 1, 6, none⟩ = some (sv b.r.sh) := fun g => g.cell (Bb.cell 6)
  replace cb7 : ∀ g : Later w1, g.w.cell? ⟨w.heap.size + 1, 7, none⟩ = some (.int .i64 b.slot) := fun g => g.cell (Bb.cell 7)
  replace cb8 : ∀ g : Later w1, g.w.cell? ⟨w.heap.size + 1, 8, none⟩ = some (.int .i64 b.id) := fun g => g.cell (Bb.cell 8)
  replace cb9 : ∀ g : Later w1, g.w.cell? ⟨w.heap.size + 1, 9, none⟩ = some (.int .i64 b.low) := fun g => g.cell (Bb.cell 9)
  replace cb10 : ∀ g : Later w1, g.w.cell? ⟨w.heap.size + 1, 10, none⟩ = some (.int .i64 b.high) := fun g => g.cell (Bb.cell 10)
  replace cx0 : ∀ g : Later w1, g.w.cell? ⟨gx, 0, none⟩ = some (.map none) := fun g => g.cell (Bx.cell 0)
  refine wp_region_mix 12 (fun _ => #[]) (by kernel_rfl) (by kernel_rfl) (no_alloc (by kernel_rfl)) ?_
  simp only [List.take_succ_cons, List.take_zero, List.drop_succ_cons, List.drop_zero]
  repeat (refine wpMix_step (fun K hK => ?_); go_simp; first | (refine hK _ ?_; clear hK K))
  refine wpMix_nil ?_
  intro G w2 hgr hblk hdist
  have hb : Below w1.heap.size w1 w2 := hgr
  replace Ba := Ba.next hb
  replace Bb := Bb.next hb
  replace Bx := Bx.next hb
  clear ca0 ca1 ca2 ca3 ca4 ca5 ca6 ca7 ca8 ca9 ca10 fa la
  clear cb0 cb1 cb2 cb3 cb4 cb5 cb6 cb7 cb8 cb9 cb10 fb lb
  clear cx0 fx lx
  replace hB : Below w.heap.size w w2 := Bl_trans hB hb
  simp only [putAll, isAlloc]
  clear hb hgr hblk hdist
  have ca0 : w2.cell? ⟨w.heap.size, 0, none⟩ = some (.int .i64 a.kind) := Ba.cell 0
  have ca1 : w2.cell? ⟨w.heap.size, 1, none⟩ = some (uv a.r.b.v) := Ba.cell 1
  have ca2 : w2.cell? ⟨w.heap.size, 2, none⟩ = some (uv a.r.b.m) := Ba.cell 2
  have ca3 : w2.cell? ⟨w.heap.size, 3, none⟩ = some (uv a.r.lo) := Ba.cell 3
  have ca4 : w2.cell? ⟨w.heap.size, 4, none⟩ = some (uv a.r.hi) := Ba.cell 4
  have ca5 : w2.cell? ⟨w.heap.size, 5, none⟩ = some (sv a.r.sl) := Ba.cell 5
  have ca6 : w2.cell? ⟨w.heap.size, 6, none⟩ = some (sv a.r.sh) := Ba.cell 6
  have ca7 : w2.cell? ⟨w.heap.size, 7, none⟩ = some (.int .i64 a.slot) := Ba.cell 7
  have ca8 : w2.cell? ⟨w.heap.size, 8, none⟩ = some (.int .i64 a.id) := Ba.cell 8
  have ca9 : w2.cell? ⟨w.heap.size, 9, none⟩ = some (.int .i64 a.low) := Ba.cell 9
  have ca10 : w2.cell? ⟨w.heap.size, 10, none⟩ = some (.int .i64 a.high) := Ba.cell 10
  have fa := Ba.frozen; have la := Ba.lt
  have cb0 : w2.cell? ⟨w.heap.size + 1, 0, none⟩ = some (.int .i64 b.kind) := Bb.cell 0
  have cb1 : w2.cell? ⟨w.heap.size + 1, 1, none⟩ = some (uv b.r.b.v) := Bb.cell 1
  have cb2 : w2.cell? ⟨w.heap.size + 1, 2, none⟩ = some (uv b.r.b.m) := Bb.cell 2
  have cb3 : w2.cell? ⟨w.heap.size + 1, 3, none⟩ = some (uv b.r.lo) := Bb.cell 3
  have cb4 : w2.cell? ⟨w.heap.size + 1, 4, none⟩ = some (uv b.r.hi) := Bb.cell 4
  have cb5 : w2.cell? ⟨w.heap.size + 1, 5, none⟩ = some (sv b.r.sl) := Bb.cell 5
  have cb6 : w2.cell? ⟨w.heap.size + 1, 6, none⟩ = some (sv b.r.sh) := Bb.cell 6
  have cb7 : w2.cell? ⟨w.heap.size + 1, 7, none⟩ = some (.int .i64 b.slot) := Bb.cell 7
  have cb8 : w2.cell? ⟨w.heap.size + 1, 8, none⟩ = some (.int .i64 b.id) := Bb.cell 8
  have cb9 : w2.cell? ⟨w.heap.size + 1, 9, none⟩ = some (.int .i64 b.low) := Bb.cell 9
  have cb10 : w2.cell? ⟨w.heap.size + 1, 10, none⟩ = some (.int .i64 b.high) := Bb.cell 10
  have fb := Bb.frozen; have lb := Bb.lt
  have cx0 : w2.cell? ⟨gx, 0, none⟩ = some (.map none) := Bx.cell 0
  have fx := Bx.frozen; have lx := Bx.lt
  clear hlk
  go_upto_region 6 with fail
  clear ca0 ca1 ca2 ca3 ca4 ca5 ca6 ca7 ca8 ca9 ca10 fa la
  clear cb0 cb1 cb2 cb3 cb4 cb5 cb6 cb7 cb8 cb9 cb10 fb lb
  clear cx0 fx lx
  have hlx := Bx.lt; have hle : gx ≤ w2.heap.size := Nat.le_of_lt hlx
  have hm0 : MapIs ((w2.setCell ⟨gx, 0, none⟩ (.map (some w2.heap.size))).alloc (.map #[] 0)) w2.heap.size 0 (fun _ => none) := by have h := MapIs.made (w2.setCell ⟨gx, 0, none⟩ (.map (some w2.heap.size))); have e : (w2.setCell ⟨gx, 0, none⟩ (.map (some w2.heap.size))).heap.size = w2.heap.size := (by simp); rw [e] at h; exact h
  replace Bx : Blk ((w2.setCell ⟨gx, 0, none⟩ (.map (some w2.heap.size))).alloc (.map #[] 0)) gx 110 #[.map (some w2.heap.size)] := (Bx.set_ 0 _).alloc _
  replace Ba : Blk ((w2.setCell ⟨gx, 0, none⟩ (.map (some w2.heap.size))).alloc (.map #[] 0)) (w.heap.size) 29 #[.int .i64 a.kind, uv a.r.b.v, uv a.r.b.m, uv a.r.lo, uv a.r.hi, sv a.r.sl, sv a.r.sh, .int .i64 a.slot, .int .i64 a.id, .int .i64 a.low, .int .i64 a.high] := (Ba.far (by have := HLX.out; simp; omega) _).alloc _
  replace Bb : Blk ((w2.setCell ⟨gx, 0, none⟩ (.map (some w2.heap.size))).alloc (.map #[] 0)) (w.heap.size + 1) 29 #[.int .i64 b.kind, uv b.r.b.v, uv b.r.b.m, uv b.r.lo, uv b.r.hi, sv b.r.sl, sv b.r.sh, .int .i64 b.slot, .int .i64 b.id, .int .i64 b.low, .int .i64 b.high] := (Bb.far (by have := HLX.out; simp; omega) _).alloc _
  have hB2 : Below gx w ((w2.setCell ⟨gx, 0, none⟩ (.map (some w2.heap.size))).alloc (.map #[] 0)) := ((hB.mono (Nat.le_of_lt HLX.out)).setCell (Nat.le_refl _) _).alloc (by simp; exact hle) _
  have hsz : w2.heap.size ≤ (((w2.setCell ⟨gx, 0, none⟩ (.map (some w2.heap.size))).alloc (.map #[] 0))).heap.size := by simp
  clear hB
  generalize hgm : w2.heap.size = gm at *
  generalize ((w2.setCell ⟨gx, 0, none⟩ (.map (some gm))).alloc (.map #[] 0)) = wq at *
  clear hle hmm hsz
  have ca0 : wq.cell? ⟨w.heap.size, 0, none⟩ = some (.int .i64 a.kind) := Ba.cell 0
  have ca1 : wq.cell? ⟨w.heap.size, 1, none⟩ = some (uv a.r.b.v) := Ba.cell 1
  have ca2 : wq.cell? ⟨w.heap.size, 2, none⟩ = some (uv a.r.b.m) := Ba.cell 2
  have ca3 : wq.cell? ⟨w.heap.size, 3, none⟩ = some (uv a.r.lo) := Ba.cell 3
  have ca4 : wq.cell? ⟨w.heap.size, 4, none⟩ = some (uv a.r.hi) := Ba.cell 4
  have ca5 : wq.cell? ⟨w.heap.size, 5, none⟩ = some (sv a.r.sl) := Ba.cell 5
  have ca6 : wq.cell? ⟨w.heap.size, 6, none⟩ = some (sv a.r.sh) := Ba.cell 6
  have ca7 : wq.cell? ⟨w.heap.size, 7, none⟩ = some (.int .i64 a.slot) := Ba.cell 7
  have ca8 : wq.cell? ⟨w.heap.size, 8, none⟩ = some (.int .i64 a.id) := Ba.cell 8
  have ca9 : wq.cell? ⟨w.heap.size, 9, none⟩ = some (.int .i64 a.low) := Ba.cell 9
  have ca10 : wq.cell? ⟨w.heap.size, 10, none⟩ = some (.int .i64 a.high) := Ba.cell 10
  have fa := Ba.frozen; have la := Ba.lt
  have cb0 : wq.cell? ⟨w.heap.size + 1, 0, none⟩ = some (.int .i64 b.kind) := Bb.cell 0
  have cb1 : wq.cell? ⟨w.heap.size + 1, 1, none⟩ = some (uv b.r.b.v) := Bb.cell 1
  have cb2 : wq.cell? ⟨w.heap.size + 1, 2, none⟩ = some (uv b.r.b.m) := Bb.cell 2
  have cb3 : wq.cell? ⟨w.heap.size + 1, 3, none⟩ = some (uv b.r.lo) := Bb.cell 3
  have cb4 : wq.cell? ⟨w.heap.size + 1, 4, none⟩ = some (uv b.r.hi) := Bb.cell 4
  have cb5 : wq.cell? ⟨w.heap.size + 1, 5, none⟩ = some (sv b.r.sl) := Bb.cell 5
  have cb6 : wq.cell? ⟨w.heap.size + 1, 6, none⟩ = some (sv b.r.sh) := Bb.cell 6
  have cb7 : wq.cell? ⟨w.heap.size + 1, 7, none⟩ = some (.int .i64 b.slot) := Bb.cell 7
  have cb8 : wq.cell? ⟨w.heap.size + 1, 8, none⟩ = some (.int .i64 b.id) := Bb.cell 8
  have cb9 : wq.cell? ⟨w.heap.size + 1, 9, none⟩ = some (.int .i64 b.low) := Bb.cell 9
  have cb10 : wq.cell? ⟨w.heap.size + 1, 10, none⟩ = some (.int .i64 b.high) := Bb.cell 10
  have fb := Bb.frozen; have lb := Bb.lt
  have cx0 : wq.cell? ⟨gx, 0, none⟩ = some (.map (some gm)) := Bx.cell 0
  have fx := Bx.frozen; have lx := Bx.lt
  have hB : Below wq.heap.size wq wq := Bl_refl wq
  have HGM := Lib.hid hgm; have HLT := Lib.hid hlx; clear hgm hlx
  have HM := Lib.hid hm0; have HB2 := Lib.hid hB2; clear hm0 hB2; have HLQ := Lib.hid (Nat.le_of_lt lx)
  go_wp2_with fail
  replace ca0 : ∀ g : Later wq, g.w.cell? ⟨w.heap.size, 0, none⟩ = some (.int .i64 a.kind) := fun g => g.cell (Ba.cell 0)
  replace ca1 : ∀ g : Later wq, g.w.cell? ⟨w.heap.size, 1, none⟩ = some (uv a.r.b.v) := fun g => g.cell (Ba.cell 1)
  replace ca2 : ∀ g : Later wq, g.w.cell? ⟨w.heap.size, 2, none⟩ = some (uv a.r.b.m) := fun g => g.cell (Ba.cell 2)
  replace ca3 : ∀ g : Later wq, g.w.cell? ⟨w.heap.size, 3, none⟩ = some (uv a.r.lo) := fun g => g.cell (Ba.cell 3)
  replace ca4 : ∀ g : Later wq, g.w.cell? ⟨w.heap.size, 4, none⟩ = some (uv a.r.hi) := fun g => g.cell (Ba.cell 4)
  replace ca5 : ∀ g : Later wq, g.w.cell? ⟨w.heap.size, 5, none⟩ = some (sv a.r.sl) := fun g => g.cell (Ba.cell 5)
  replace ca6 : ∀ g : Later wq, g.w.cell? ⟨w.heap.size, 6, none⟩ = some (sv a.r.sh) := fun g => g.cell (Ba.cell 6)
  replace ca7 : ∀ g : Later wq, g.w.cell? ⟨w.heap.size, 7, none⟩ = some (.int .i64 a.slot) := fun g => g.cell (Ba.cell 7)
  replace ca8 : ∀ g : Later wq, g.w.cell? ⟨w.heap.size, 8, none⟩ = some (.int .i64 a.id) := fun g => g.cell (Ba.cell 8)
  replace ca9 : ∀ g : Later wq, g.w.cell? ⟨w.heap.size, 9, none⟩ = some (.int .i64 a.low) := fun g => g.cell (Ba.cell 9)
  replace ca10 : ∀ g : Later wq, g.w.cell? ⟨w.heap.size, 10, none⟩ = some (.int .i64 a.high) := fun g => g.cell (Ba.cell 10)
  replace cb0 : ∀ g : Later wq, g.w.cell? ⟨w.heap.size + 1, 0, none⟩ = some (.int .i64 b.kind) := fun g => g.cell (Bb.cell 0)
  replace cb1 : ∀ g : Later wq, g.w.cell? ⟨w.heap.size + 1, 1, none⟩ = some (uv b.r.b.v) := fun g => g.cell (Bb.cell 1)
  replace cb2 : ∀ g : Later wq, g.w.cell? ⟨w.heap.size + 1, 2, none⟩ = some (uv b.r.b.m) := fun g => g.cell (Bb.cell 2)
  replace cb3 : ∀ g : Later wq, g.w.cell? ⟨w.heap.size + 1, 3, none⟩ = some (uv b.r.lo) := fun g => g.cell (Bb.cell 3)
  replace cb4 : ∀ g : Later wq, g.w.cell? ⟨w.heap.size + 1, 4, none⟩ = some (uv b.r.hi) := fun g => g.cell (Bb.cell 4)
  replace cb5 : ∀ g : Later wq, g.w.cell? ⟨w.heap.size + 1, 5, none⟩ = some (sv b.r.sl) := fun g => g.cell (Bb.cell 5)
  replace cb6 : ∀ g : Later wq, g.w.cell? ⟨w.heap.size + 1, 6, none⟩ = some (sv b.r.sh) := fun g => g.cell (Bb.cell 6)
  replace cb7 : ∀ g : Later wq, g.w.cell? ⟨w.heap.size + 1, 7, none⟩ = some (.int .i64 b.slot) := fun g => g.cell (Bb.cell 7)
  replace cb8 : ∀ g : Later wq, g.w.cell? ⟨w.heap.size + 1, 8, none⟩ = some (.int .i64 b.id) := fun g => g.cell (Bb.cell 8)
  replace cb9 : ∀ g : Later wq, g.w.cell? ⟨w.heap.size + 1, 9, none⟩ = some (.int .i64 b.low) := fun g => g.cell (Bb.cell 9)
  replace cb10 : ∀ g : Later wq, g.w.cell? ⟨w.heap.size + 1, 10, none⟩ = some (.int .i64 b.high) := fun g => g.cell (Bb.cell 10)
  replace cx0 : ∀ g : Later wq, g.w.cell? ⟨gx, 0, none⟩ = some (.map (some gm)) := fun g => g.cell (Bx.cell 0)
  refine wp_region_mix 8 (fun _ => #[]) (by kernel_rfl) (by kernel_rfl) (no_alloc (by kernel_rfl)) ?_
  simp only [List.take_succ_cons, List.take_zero, List.drop_succ_cons, List.drop_zero]
  repeat (refine wpMix_step (fun K hK => ?_); go_simp; first | (refine hK _ ?_; clear hK K))
  refine wpMix_nil ?_
  intro G w3 hgr hblk hdist
  have hb : Below wq.heap.size wq w3 := hgr
  replace Ba := Ba.next hb
  replace Bb := Bb.next hb
  replace Bx := Bx.next hb
  have hle := Nat.le_of_lt la
  clear ca0 ca1 ca2 ca3 ca4 ca5 ca6 ca7 ca8 ca9 ca10 fa la
  clear cb0 cb1 cb2 cb3 cb4 cb5 cb6 cb7 cb8 cb9 cb10 fb lb
  clear cx0 fx lx
  replace hB : Below wq.heap.size wq w3 := Bl_trans hB hb
  simp only [putAll, isAlloc]
  clear hb hgr hblk hdist
  have ca0 : w3.cell? ⟨w.heap.size, 0, none⟩ = some (.int .i64 a.kind) := Ba.cell 0
  have ca1 : w3.cell? ⟨w.heap.size, 1, none⟩ = some (uv a.r.b.v) := Ba.cell 1
  have ca2 : w3.cell? ⟨w.heap.size, 2, none⟩ = some (uv a.r.b.m) := Ba.cell 2
  have ca3 : w3.cell? ⟨w.heap.size, 3, none⟩ = some (uv a.r.lo) := Ba.cell 3
  have ca4 : w3.cell? ⟨w.heap.size, 4, none⟩ = some (uv a.r.hi) := Ba.cell 4
  have ca5 : w3.cell? ⟨w.heap.size, 5, none⟩ = some (sv a.r.sl) := Ba.cell 5
  have ca6 : w3.cell? ⟨w.heap.size, 6, none⟩ = some (sv a.r.sh) := Ba.cell 6
  have ca7 : w3.cell? ⟨w.heap.size, 7, none⟩ = some (.int .i64 a.slot) := Ba.cell 7
  have ca8 : w3.cell? ⟨w.heap.size, 8, none⟩ = some (.int .i64 a.id) := Ba.cell 8
  have ca9 : w3.cell? ⟨w.heap.size, 9, none⟩ = some (.int .i64 a.low) := Ba.cell 9
  have ca10 : w3.cell? ⟨w.heap.size, 10, none⟩ = some (.int .i64 a.high) := Ba.cell 10
  have fa := Ba.frozen; have la := Ba.lt
  have cb0 : w3.cell? ⟨w.heap.size + 1, 0, none⟩ = some (.int .i64 b.kind) := Bb.cell 0
  have cb1 : w3.cell? ⟨w.heap.size + 1, 1, none⟩ = some (uv b.r.b.v) := Bb.cell 1
  have cb2 : w3.cell? ⟨w.heap.size + 1, 2, none⟩ = some (uv b.r.b.m) := Bb.cell 2
  have cb3 : w3.cell? ⟨w.heap.size + 1, 3, none⟩ = some (uv b.r.lo) := Bb.cell 3
  have cb4 : w3.cell? ⟨w.heap.size + 1, 4, none⟩ = some (uv b.r.hi) := Bb.cell 4
  have cb5 : w3.cell? ⟨w.heap.size + 1, 5, none⟩ = some (sv b.r.sl) := Bb.cell 5
  have cb6 : w3.cell? ⟨w.heap.size + 1, 6, none⟩ = some (sv b.r.sh) := Bb.cell 6
  have cb7 : w3.cell? ⟨w.heap.size + 1, 7, none⟩ = some (.int .i64 b.slot) := Bb.cell 7
  have cb8 : w3.cell? ⟨w.heap.size + 1, 8, none⟩ = some (.int .i64 b.id) := Bb.cell 8
  have cb9 : w3.cell? ⟨w.heap.size + 1, 9, none⟩ = some (.int .i64 b.low) := Bb.cell 9
  have cb10 : w3.cell? ⟨w.heap.size + 1, 10, none⟩ = some (.int .i64 b.high) := Bb.cell 10
  have fb := Bb.frozen; have lb := Bb.lt
  have cx0 : w3.cell? ⟨gx, 0, none⟩ = some (.map (some gm)) := Bx.cell 0
  have fx := Bx.frozen; have lx := Bx.lt
  obtain ⟨wz, hrun, hmz, hgz⟩ := (HM.out.next hB).put (Nat.lt_of_lt_of_le (by decide : 0 < 1) (by decide)) HK.out.1 HK.out.2
  go_wp2
  go_ret
  have hgg : gx < gm := by have h1 := HLT.out; exact h1
  refine ⟨rfl, .inr ⟨gm, hgg, row_other_map Bx hgz (Nat.ne_of_lt hgg), ?_⟩, ?_⟩
  · rw [HV.out]; exact hmz.mono (by omega)
  · exact (HB2.out.trans (hB.mono HLQ.out)).grown hgz (Nat.le_of_lt lx) (fun k h => by cases h; exact Nat.le_of_lt hgg)
theorem maybe_c (a b : Rg) (gx n : Nat) (M : Im) (w : World) (hI : Ids w gx n M) (hn : n < 1000) (hk : okKey a.id) (hk2 : okKey b.id) : Calls Try.prog 70 #[.pointer (some ⟨gx, 0, none⟩), gv a, gv b] w fun e w' => e = .returned (.bool (PlainAbs.may M a.id b.id).1) ∧ Ids w' gx (n + 1) (PlainAbs.may M a.id b.id).2 ∧ Below gx w w' := by
  unfold PlainAbs.may
  rcases hI with ⟨B, rfl⟩ | ⟨gm, hg, B, hm⟩
  · exact maybe_first a b gx n _ hn hk hk2 rfl w B
  · cases hv : M a.id with
    | none => exact maybe_new a b gx n M gm hn hk hk2 hv w B hm hg
    | some v => exact (maybe_there a b gx n M gm v hk hv w B hm).mono fun e w' ⟨he, hb⟩ => ⟨he, (Ids.next (.inr ⟨gm, hg, B, hm⟩) hb).mono (Nat.le_succ n), hb.mono (Nat.le_of_lt B.lt)⟩
set_option maxRecDepth 100000 in
set_option maxHeartbeats 800000 in
theorem cov_0 (a b : Rg) (gx : Nat) (k : Int) (w : World) : Calls Try.prog 58 #[.pointer (some ⟨gx, 0, none⟩), .agg #[.int .i64 0, uv a.r.b.v, uv a.r.b.m, uv a.r.lo, uv a.r.hi, sv a.r.sl, sv a.r.sh, .int .i64 a.slot, .int .i64 a.id, .int .i64 a.low, .int .i64 a.high], .agg #[.int .i64 k, uv b.r.b.v, uv b.r.b.m, uv b.r.lo, uv b.r.hi, sv b.r.sl, sv b.r.sh, .int .i64 b.slot, .int .i64 b.id, .int .i64 b.low, .int .i64 b.high]] w fun e w' => e = .returned (.bool true) ∧ Below w.heap.size w w' := by
  go_enter Try.func58, Try.ntmps58
  go_wp2_with fail
  obtain ⟨ga, hga⟩ : ∃ g, g = w.heap.size := ⟨_, rfl⟩
  obtain ⟨gb, hgb⟩ : ∃ g, g = w.heap.size + 1 := ⟨_, rfl⟩
  have Ba : Blk ((w.alloc (.cells #[.int .i64 0, uv a.r.b.v, uv a.r.b.m, uv a.r.lo, uv a.r.hi, sv a.r.sl, sv a.r.sh, .int .i64 a.slot, .int .i64 a.id, .int .i64 a.low, .int .i64 a.high] 29)).alloc (.cells #[.int .i64 k, uv b.r.b.v, uv b.r.b.m, uv b.r.lo, uv b.r.hi, sv b.r.sl, sv b.r.sh, .int .i64 b.slot, .int .i64 b.id, .int .i64 b.low, .int .i64 b.high] 29)) (w.heap.size) 29 #[.int .i64 0, uv a.r.b.v, uv a.r.b.m, uv a.r.lo, uv a.r.hi, sv a.r.sl, sv a.r.sh, .int .i64 a.slot, .int .i64 a.id, .int .i64 a.low, .int .i64 a.high] := ((Blk.new w 29 #[.int .i64 0, uv a.r.b.v, uv a.r.b.m, uv a.r.lo, uv a.r.hi, sv a.r.sl, sv a.r.sh, .int .i64 a.slot, .int .i64 a.id, .int .i64 a.low, .int .i64 a.high])).alloc _
  have Bb : Blk ((w.alloc (.cells #[.int .i64 0, uv a.r.b.v, uv a.r.b.m, uv a.r.lo, uv a.r.hi, sv a.r.sl, sv a.r.sh, .int .i64 a.slot, .int .i64 a.id, .int .i64 a.low, .int .i64 a.high] 29)).alloc (.cells #[.int .i64 k, uv b.r.b.v, uv b.r.b.m, uv b.r.lo, uv b.r.hi, sv b.r.sl, sv b.r.sh, .int .i64 b.slot, .int .i64 b.id, .int .i64 b.low, .int .i64 b.high] 29)) (w.heap.size + 1) 29 #[.int .i64 k, uv b.r.b.v, uv b.r.b.m, uv b.r.lo, uv b.r.hi, sv b.r.sl, sv b.r.sh, .int .i64 b.slot, .int .i64 b.id, .int .i64 b.low, .int .i64 b.high] := (by simpa using Blk.new (w.alloc (.cells #[.int .i64 0, uv a.r.b.v, uv a.r.b.m, uv a.r.lo, uv a.r.hi, sv a.r.sl, sv a.r.sh, .int .i64 a.slot, .int .i64 a.id, .int .i64 a.low, .int .i64 a.high] 29)) 29 #[.int .i64 k, uv b.r.b.v, uv b.r.b.m, uv b.r.lo, uv b.r.hi, sv b.r.sl, sv b.r.sh, .int .i64 b.slot, .int .i64 b.id, .int .i64 b.low, .int .i64 b.high] : Blk _ (w.heap.size + 1) 29 #[.int .i64 k, uv b.r.b.v, uv b.r.b.m, uv b.r.lo, uv b.r.hi, sv b.r.sl, sv b.r.sh, .int .i64 b.slot, .int .i64 b.id, .int .i64 b.low, .int .i64 b.high])
  have hB : Below w.heap.size w ((w.alloc (.cells #[.int .i64 0, uv a.r.b.v, uv a.r.b.m, uv a.r.lo, uv a.r.hi, sv a.r.sl, sv a.r.sh, .int .i64 a.slot, .int .i64 a.id, .int .i64 a.low, .int .i64 a.high] 29)).alloc (.cells #[.int .i64 k, uv b.r.b.v, uv b.r.b.m, uv b.r.lo, uv b.r.hi, sv b.r.sl, sv b.r.sh, .int .i64 b.slot, .int .i64 b.id, .int .i64 b.low, .int .i64 b.high] 29)) := (Bl_alloc (Bl_alloc (Bl_refl w) _) _)
  clear hga
  clear ga
  clear hgb
  clear gb
  generalize ((w.alloc (.cells #[.int .i64 0, uv a.r.b.v, uv a.r.b.m, uv a.r.lo, uv a.r.hi, sv a.r.sl, sv a.r.sh, .int .i64 a.slot, .int .i64 a.id, .int .i64 a.low, .int .i64 a.high] 29)).alloc (.cells #[.int .i64 k, uv b.r.b.v, uv b.r.b.m, uv b.r.lo, uv b.r.hi, sv b.r.sl, sv b.r.sh, .int .i64 b.slot, .int .i64 b.id, .int .i64 b.low, .int .i64 b.high] 29)) = w1 at *
  have ca0 : w1.cell? ⟨w.heap.size, 0, none⟩ = some (.int .i64 0) := Ba.cell 0
  have ca1 : w1.cell? ⟨w.heap.size, 1, none⟩ = some (uv a.r.b.v) := Ba.cell 1
  have ca2 : w1.cell? ⟨w.heap.size, 2, none⟩ = some (uv a.r.b.m) := Ba.cell 2
  have ca3 : w1.cell? ⟨w.heap.size, 3, none⟩ = some (uv a.r.lo) := Ba.cell 3
  have ca4 : w1.cell? ⟨w.heap.size, 4, none⟩ = some (uv a.r.hi) := Ba.cell 4
  have ca5 : w1.cell? ⟨w.heap.size, 5, none⟩ = some (sv a.r.sl) := Ba.cell 5
  have ca6 : w1.cell? ⟨w.heap.size, 6, none⟩ = some (sv a.r.sh) := Ba.cell 6
  have ca7 : w1.cell? ⟨w.heap.size, 7, none⟩ = some (.int .i64 a.slot) := Ba.cell 7
  have ca8 : w1.cell? ⟨w.heap.size, 8, none⟩ = some (.int .i64 a.id) := Ba.cell 8
  have ca9 : w1.cell? ⟨w.heap.size, 9, none⟩ = some (.int .i64 a.low) := Ba.cell 9
  have ca10 : w1.cell? ⟨w.heap.size, 10, none⟩ = some (.int .i64 a.high) := Ba.cell 10
  have fa := Ba.frozen; have la := Ba.lt
  have cb0 : w1.cell? ⟨w.heap.size + 1, 0, none⟩ = some (.int .i64 k) := Bb.cell 0
  have cb1 : w1.cell? ⟨w.heap.size + 1, 1, none⟩ = some (uv b.r.b.v) := Bb.cell 1
  have cb2 : w1.cell? ⟨w.heap.size + 1, 2, none⟩ = some (uv b.r.b.m) := Bb.cell 2
  have cb3 : w1.cell? ⟨w.heap.size + 1, 3, none⟩ = some (uv b.r.lo) := Bb.cell 3
  have cb4 : w1.cell? ⟨w.heap.size + 1, 4, none⟩ = some (uv b.r.hi) := Bb.cell 4
  have cb5 : w1.cell? ⟨w.heap.size + 1, 5, none⟩ = some (sv b.r.sl) := Bb.cell 5
  have cb6 : w1.cell? ⟨w.heap.size + 1, 6, none⟩ = some (sv b.r.sh) := Bb.cell 6
  have cb7 : w1.cell? ⟨w.heap.size + 1, 7, none⟩ = some (.int .i64 b.slot) := Bb.cell 7
  have cb8 : w1.cell? ⟨w.heap.size + 1, 8, none⟩ = some (.int .i64 b.id) := Bb.cell 8
  have cb9 : w1.cell? ⟨w.heap.size + 1, 9, none⟩ = some (.int .i64 b.low) := Bb.cell 9
  have cb10 : w1.cell? ⟨w.heap.size + 1, 10, none⟩ = some (.int .i64 b.high) := Bb.cell 10
  have fb := Bb.frozen; have lb := Bb.lt
  go_wp2
  go_ret
  exact ⟨rfl, by repeat (first | exact hB | (refine Bl_set ?_ (by first | omega | (simp; omega)) _) | apply Bl_alloc)⟩
set_option maxRecDepth 100000 in
set_option maxHeartbeats 800000 in
theorem cov_ne (a b : Rg) (gx : Nat) (k k' : Int) (h0 : (k == 0) = false) (h1 : (k == k') = false) (w : World) : Calls Try.prog 58 #[.pointer (some ⟨gx, 0, none⟩), .agg #[.int .i64 k, uv a.r.b.v, uv a.r.b.m, uv a.r.lo, uv a.r.hi, sv a.r.sl, sv a.r.sh, .int .i64 a.slot, .int .i64 a.id, .int .i64 a.low, .int .i64 a.high], .agg #[.int .i64 k', uv b.r.b.v, uv b.r.b.m, uv b.r.lo, uv b.r.hi, sv b.r.sl, sv b.r.sh, .int .i64 b.slot, .int .i64 b.id, .int .i64 b.low, .int .i64 b.high]] w fun e w' => e = .returned (.bool false) ∧ Below w.heap.size w w' := by
  go_enter Try.func58, Try.ntmps58
  go_wp2_with fail
  obtain ⟨ga, hga⟩ : ∃ g, g = w.heap.size := ⟨_, rfl⟩
  obtain ⟨gb, hgb⟩ : ∃ g, g = w.heap.size + 1 := ⟨_, rfl⟩
  have Ba : Blk ((w.alloc (.cells #[.int .i64 k, uv a.r.b.v, uv a.r.b.m, uv a.r.lo, uv a.r.hi, sv a.r.sl, sv a.r.sh, .int .i64 a.slot, .int .i64 a.id, .int .i64 a.low, .int .i64 a.high] 29)).alloc (.cells #[.int .i64 k', uv b.r.b.v, uv b.r.b.m, uv b.r.lo, uv b.r.hi, sv b.r.sl, sv b.r.sh, .int .i64 b.slot, .int .i64 b.id, .int .i64 b.low, .int .i64 b.high] 29)) (w.heap.size) 29 #[.int .i64 k, uv a.r.b.v, uv a.r.b.m, uv a.r.lo, uv a.r.hi, sv a.r.sl, sv a.r.sh, .int .i64 a.slot, .int .i64 a.id, .int .i64 a.low, .int .i64 a.high] := ((Blk.new w 29 #[.int .i64 k, uv a.r.b.v, uv a.r.b.m, uv a.r.lo, uv a.r.hi, sv a.r.sl, sv a.r.sh, .int .i64 a.slot, .int .i64 a.id, .int .i64 a.low, .int .i64 a.high])).alloc _
  have Bb : Blk ((w.alloc (.cells #[.int .i64 k, uv a.r.b.v, uv a.r.b.m, uv a.r.lo, uv a.r.hi, sv a.r.sl, sv a.r.sh, .int .i64 a.slot, .int .i64 a.id, .int .i64 a.low, .int .i64 a.high] 29)).alloc (.cells #[.int .i64 k', uv b.r.b.v, uv b.r.b.m, uv b.r.lo, uv b.r.hi, sv b.r.sl, sv b.r.sh, .int .i64 b.slot, .int .i64 b.id, .int .i64 b.low, .int .i64 b.high] 29)) (w.heap.size + 1) 29 #[.int .i64 k', uv b.r.b.v, uv b.r.b.m, uv b.r.lo, uv b.r.hi, sv b.r.sl, sv b.r.sh, .int .i64 b.slot, .int .i64 b.id, .int .i64 b.low, .int .i64 b.high] := (by simpa using Blk.new (w.alloc (.cells #[.int .i64 k, uv a.r.b.v, uv a.r.b.m, uv a.r.lo, uv a.r.hi, sv a.r.sl, sv a.r.sh, .int .i64 a.slot, .int .i64 a.id, .int .i64 a.low, .int .i64 a.high] 29)) 29 #[.int .i64 k', uv b.r.b.v, uv b.r.b.m, uv b.r.lo, uv b.r.hi, sv b.r.sl, sv b.r.sh, .int .i64 b.slot, .int .i64 b.id, .int .i64 b.low, .int .i64 b.high] : Blk _ (w.heap.size + 1) 29 #[.int .i64 k', uv b.r.b.v, uv b.r.b.m, uv b.r.lo, uv b.r.hi, sv b.r.sl, sv b.r.sh, .int .i64 b.slot, .int .i64 b.id, .int .i64 b.low, .int .i64 b.high])
  have hB : Below w.heap.size w ((w.alloc (.cells #[.int .i64 k, uv a.r.b.v, uv a.r.b.m, uv a.r.lo, uv a.r.hi, sv a.r.sl, sv a.r.sh, .int .i64 a.slot, .int .i64 a.id, .int .i64 a.low, .int .i64 a.high] 29)).alloc (.cells #[.int .i64 k', uv b.r.b.v, uv b.r.b.m, uv b.r.lo, uv b.r.hi, sv b.r.sl, sv b.r.sh, .int .i64 b.slot, .int .i64 b.id, .int .i64 b.low, .int .i64 b.high] 29)) := (Bl_alloc (Bl_alloc (Bl_refl w) _) _)
  clear hga
  clear ga
  clear hgb
  clear gb
  generalize ((w.alloc (.cells #[.int .i64 k, uv a.r.b.v, uv a.r.b.m, uv a.r.lo, uv a.r.hi, sv a.r.sl, sv a.r.sh, .int .i64 a.slot, .int .i64 a.id, .int .i64 a.low, .int .i64 a.high] 29)).alloc (.cells #[.int .i64 k', uv b.r.b.v, uv b.r.b.m, uv b.r.lo, uv b.r.hi, sv b.r.sl, sv b.r.sh, .int .i64 b.slot, .int .i64 b.id, .int .i64 b.low, .int .i64 b.high] 29)) = w1 at *
  have ca0 : w1.cell? ⟨w.heap.size, 0, none⟩ = some (.int .i64 k) := Ba.cell 0
  have ca1 : w1.cell? ⟨w.heap.size, 1, none⟩ = some (uv a.r.b.v) := Ba.cell 1
  have ca2 : w1.cell? ⟨w.heap.size, 2, none⟩ = some (uv a.r.b.m) := Ba.cell 2
  have ca3 : w1.cell? ⟨w.heap.size, 3, none⟩ = some (uv a.r.lo) := Ba.cell 3
  have ca4 : w1.cell? ⟨w.heap.size, 4, none⟩ = some (uv a.r.hi) := Ba.cell 4
  have ca5 : w1.cell? ⟨w.heap.size, 5, none⟩ = some (sv a.r.sl) := Ba.cell 5
  have ca6 : w1.cell? ⟨w.heap.size, 6, none⟩ = some (sv a.r.sh) := Ba.cell 6
  have ca7 : w1.cell? ⟨w.heap.size, 7, none⟩ = some (.int .i64 a.slot) := Ba.cell 7
  have ca8 : w1.cell? ⟨w.heap.size, 8, none⟩ = some (.int .i64 a.id) := Ba.cell 8
  have ca9 : w1.cell? ⟨w.heap.size, 9, none⟩ = some (.int .i64 a.low) := Ba.cell 9
  have ca10 : w1.cell? ⟨w.heap.size, 10, none⟩ = some (.int .i64 a.high) := Ba.cell 10
  have fa := Ba.frozen; have la := Ba.lt
  have cb0 : w1.cell? ⟨w.heap.size + 1, 0, none⟩ = some (.int .i64 k') := Bb.cell 0
  have cb1 : w1.cell? ⟨w.heap.size + 1, 1, none⟩ = some (uv b.r.b.v) := Bb.cell 1
  have cb2 : w1.cell? ⟨w.heap.size + 1, 2, none⟩ = some (uv b.r.b.m) := Bb.cell 2
  have cb3 : w1.cell? ⟨w.heap.size + 1, 3, none⟩ = some (uv b.r.lo) := Bb.cell 3
  have cb4 : w1.cell? ⟨w.heap.size + 1, 4, none⟩ = some (uv b.r.hi) := Bb.cell 4
  have cb5 : w1.cell? ⟨w.heap.size + 1, 5, none⟩ = some (sv b.r.sl) := Bb.cell 5
  have cb6 : w1.cell? ⟨w.heap.size + 1, 6, none⟩ = some (sv b.r.sh) := Bb.cell 6
  have cb7 : w1.cell? ⟨w.heap.size + 1, 7, none⟩ = some (.int .i64 b.slot) := Bb.cell 7
  have cb8 : w1.cell? ⟨w.heap.size + 1, 8, none⟩ = some (.int .i64 b.id) := Bb.cell 8
  have cb9 : w1.cell? ⟨w.heap.size + 1, 9, none⟩ = some (.int .i64 b.low) := Bb.cell 9
  have cb10 : w1.cell? ⟨w.heap.size + 1, 10, none⟩ = some (.int .i64 b.high) := Bb.cell 10
  have fb := Bb.frozen; have lb := Bb.lt
  go_wp2
  go_ret
  exact ⟨rfl, by repeat (first | exact hB | (refine Bl_set ?_ (by first | omega | (simp; omega)) _) | apply Bl_alloc)⟩
set_option maxRecDepth 100000 in
set_option maxHeartbeats 800000 in
theorem cov_1 (a b : Rg) (gx : Nat)  (w : World) : Calls Try.prog 58 #[.pointer (some ⟨gx, 0, none⟩), .agg #[.int .i64 1, uv a.r.b.v, uv a.r.b.m, uv a.r.lo, uv a.r.hi, sv a.r.sl, sv a.r.sh, .int .i64 a.slot, .int .i64 a.id, .int .i64 a.low, .int .i64 a.high], .agg #[.int .i64 1, uv b.r.b.v, uv b.r.b.m, uv b.r.lo, uv b.r.hi, sv b.r.sl, sv b.r.sh, .int .i64 b.slot, .int .i64 b.id, .int .i64 b.low, .int .i64 b.high]] w fun e w' => e = .returned (.bool (PlainScalar.within b.r a.r)) ∧ Below w.heap.size w w' := by
  go_enter Try.func58, Try.ntmps58
  go_wp2_with fail
  obtain ⟨ga, hga⟩ : ∃ g, g = w.heap.size := ⟨_, rfl⟩
  obtain ⟨gb, hgb⟩ : ∃ g, g = w.heap.size + 1 := ⟨_, rfl⟩
  have Ba : Blk ((w.alloc (.cells #[.int .i64 1, uv a.r.b.v, uv a.r.b.m, uv a.r.lo, uv a.r.hi, sv a.r.sl, sv a.r.sh, .int .i64 a.slot, .int .i64 a.id, .int .i64 a.low, .int .i64 a.high] 29)).alloc (.cells #[.int .i64 1, uv b.r.b.v, uv b.r.b.m, uv b.r.lo, uv b.r.hi, sv b.r.sl, sv b.r.sh, .int .i64 b.slot, .int .i64 b.id, .int .i64 b.low, .int .i64 b.high] 29)) (w.heap.size) 29 #[.int .i64 1, uv a.r.b.v, uv a.r.b.m, uv a.r.lo, uv a.r.hi, sv a.r.sl, sv a.r.sh, .int .i64 a.slot, .int .i64 a.id, .int .i64 a.low, .int .i64 a.high] := ((Blk.new w 29 #[.int .i64 1, uv a.r.b.v, uv a.r.b.m, uv a.r.lo, uv a.r.hi, sv a.r.sl, sv a.r.sh, .int .i64 a.slot, .int .i64 a.id, .int .i64 a.low, .int .i64 a.high])).alloc _
  have Bb : Blk ((w.alloc (.cells #[.int .i64 1, uv a.r.b.v, uv a.r.b.m, uv a.r.lo, uv a.r.hi, sv a.r.sl, sv a.r.sh, .int .i64 a.slot, .int .i64 a.id, .int .i64 a.low, .int .i64 a.high] 29)).alloc (.cells #[.int .i64 1, uv b.r.b.v, uv b.r.b.m, uv b.r.lo, uv b.r.hi, sv b.r.sl, sv b.r.sh, .int .i64 b.slot, .int .i64 b.id, .int .i64 b.low, .int .i64 b.high] 29)) (w.heap.size + 1) 29 #[.int .i64 1, uv b.r.b.v, uv b.r.b.m, uv b.r.lo, uv b.r.hi, sv b.r.sl, sv b.r.sh, .int .i64 b.slot, .int .i64 b.id, .int .i64 b.low, .int .i64 b.high] := (by simpa using Blk.new (w.alloc (.cells #[.int .i64 1, uv a.r.b.v, uv a.r.b.m, uv a.r.lo, uv a.r.hi, sv a.r.sl, sv a.r.sh, .int .i64 a.slot, .int .i64 a.id, .int .i64 a.low, .int .i64 a.high] 29)) 29 #[.int .i64 1, uv b.r.b.v, uv b.r.b.m, uv b.r.lo, uv b.r.hi, sv b.r.sl, sv b.r.sh, .int .i64 b.slot, .int .i64 b.id, .int .i64 b.low, .int .i64 b.high] : Blk _ (w.heap.size + 1) 29 #[.int .i64 1, uv b.r.b.v, uv b.r.b.m, uv b.r.lo, uv b.r.hi, sv b.r.sl, sv b.r.sh, .int .i64 b.slot, .int .i64 b.id, .int .i64 b.low, .int .i64 b.high])
  have hB : Below w.heap.size w ((w.alloc (.cells #[.int .i64 1, uv a.r.b.v, uv a.r.b.m, uv a.r.lo, uv a.r.hi, sv a.r.sl, sv a.r.sh, .int .i64 a.slot, .int .i64 a.id, .int .i64 a.low, .int .i64 a.high] 29)).alloc (.cells #[.int .i64 1, uv b.r.b.v, uv b.r.b.m, uv b.r.lo, uv b.r.hi, sv b.r.sl, sv b.r.sh, .int .i64 b.slot, .int .i64 b.id, .int .i64 b.low, .int .i64 b.high] 29)) := (Bl_alloc (Bl_alloc (Bl_refl w) _) _)
  clear hga
  clear ga
  clear hgb
  clear gb
  generalize ((w.alloc (.cells #[.int .i64 1, uv a.r.b.v, uv a.r.b.m, uv a.r.lo, uv a.r.hi, sv a.r.sl, sv a.r.sh, .int .i64 a.slot, .int .i64 a.id, .int .i64 a.low, .int .i64 a.high] 29)).alloc (.cells #[.int .i64 1, uv b.r.b.v, uv b.r.b.m, uv b.r.lo, uv b.r.hi, sv b.r.sl, sv b.r.sh, .int .i64 b.slot, .int .i64 b.id, .int .i64 b.low, .int .i64 b.high] 29)) = w1 at *
  have ca0 : w1.cell? ⟨w.heap.size, 0, none⟩ = some (.int .i64 1) := Ba.cell 0
  have ca1 : w1.cell? ⟨w.heap.size, 1, none⟩ = some (uv a.r.b.v) := Ba.cell 1
  have ca2 : w1.cell? ⟨w.heap.size, 2, none⟩ = some (uv a.r.b.m) := Ba.cell 2
  have ca3 : w1.cell? ⟨w.heap.size, 3, none⟩ = some (uv a.r.lo) := Ba.cell 3
  have ca4 : w1.cell? ⟨w.heap.size, 4, none⟩ = some (uv a.r.hi) := Ba.cell 4
  have ca5 : w1.cell? ⟨w.heap.size, 5, none⟩ = some (sv a.r.sl) := Ba.cell 5
  have ca6 : w1.cell? ⟨w.heap.size, 6, none⟩ = some (sv a.r.sh) := Ba.cell 6
  have ca7 : w1.cell? ⟨w.heap.size, 7, none⟩ = some (.int .i64 a.slot) := Ba.cell 7
  have ca8 : w1.cell? ⟨w.heap.size, 8, none⟩ = some (.int .i64 a.id) := Ba.cell 8
  have ca9 : w1.cell? ⟨w.heap.size, 9, none⟩ = some (.int .i64 a.low) := Ba.cell 9
  have ca10 : w1.cell? ⟨w.heap.size, 10, none⟩ = some (.int .i64 a.high) := Ba.cell 10
  have fa := Ba.frozen; have la := Ba.lt
  have cb0 : w1.cell? ⟨w.heap.size + 1, 0, none⟩ = some (.int .i64 1) := Bb.cell 0
  have cb1 : w1.cell? ⟨w.heap.size + 1, 1, none⟩ = some (uv b.r.b.v) := Bb.cell 1
  have cb2 : w1.cell? ⟨w.heap.size + 1, 2, none⟩ = some (uv b.r.b.m) := Bb.cell 2
  have cb3 : w1.cell? ⟨w.heap.size + 1, 3, none⟩ = some (uv b.r.lo) := Bb.cell 3
  have cb4 : w1.cell? ⟨w.heap.size + 1, 4, none⟩ = some (uv b.r.hi) := Bb.cell 4
  have cb5 : w1.cell? ⟨w.heap.size + 1, 5, none⟩ = some (sv b.r.sl) := Bb.cell 5
  have cb6 : w1.cell? ⟨w.heap.size + 1, 6, none⟩ = some (sv b.r.sh) := Bb.cell 6
  have cb7 : w1.cell? ⟨w.heap.size + 1, 7, none⟩ = some (.int .i64 b.slot) := Bb.cell 7
  have cb8 : w1.cell? ⟨w.heap.size + 1, 8, none⟩ = some (.int .i64 b.id) := Bb.cell 8
  have cb9 : w1.cell? ⟨w.heap.size + 1, 9, none⟩ = some (.int .i64 b.low) := Bb.cell 9
  have cb10 : w1.cell? ⟨w.heap.size + 1, 10, none⟩ = some (.int .i64 b.high) := Bb.cell 10
  have fb := Bb.frozen; have lb := Bb.lt
  go_wp2_with fail
  refine (swithin_c b.r a.r _).mono ?_
  rintro e w2 ⟨rfl, hb⟩
  clear ca0 ca1 ca2 ca3 ca4 ca5 ca6 ca7 ca8 ca9 ca10 fa la
  clear cb0 cb1 cb2 cb3 cb4 cb5 cb6 cb7 cb8 cb9 cb10 fb lb
  replace Ba := (Ba).next hb
  replace Bb := (Bb).next hb
  replace hB : Below w.heap.size w w2 := by repeat (first | exact hB | (refine Bl_set ?_ (by first | omega | (simp; omega)) _) | apply Bl_alloc | (refine Bl_trans ?_ hb))
  clear hb
  have ca0 : w2.cell? ⟨w.heap.size, 0, none⟩ = some (.int .i64 1) := Ba.cell 0
  have ca1 : w2.cell? ⟨w.heap.size, 1, none⟩ = some (uv a.r.b.v) := Ba.cell 1
  have ca2 : w2.cell? ⟨w.heap.size, 2, none⟩ = some (uv a.r.b.m) := Ba.cell 2
  have ca3 : w2.cell? ⟨w.heap.size, 3, none⟩ = some (uv a.r.lo) := Ba.cell 3
  have ca4 : w2.cell? ⟨w.heap.size, 4, none⟩ = some (uv a.r.hi) := Ba.cell 4
  have ca5 : w2.cell? ⟨w.heap.size, 5, none⟩ = some (sv a.r.sl) := Ba.cell 5
  have ca6 : w2.cell? ⟨w.heap.size, 6, none⟩ = some (sv a.r.sh) := Ba.cell 6
  have ca7 : w2.cell? ⟨w.heap.size, 7, none⟩ = some (.int .i64 a.slot) := Ba.cell 7
  have ca8 : w2.cell? ⟨w.heap.size, 8, none⟩ = some (.int .i64 a.id) := Ba.cell 8
  have ca9 : w2.cell? ⟨w.heap.size, 9, none⟩ = some (.int .i64 a.low) := Ba.cell 9
  have ca10 : w2.cell? ⟨w.heap.size, 10, none⟩ = some (.int .i64 a.high) := Ba.cell 10
  have fa := Ba.frozen; have la := Ba.lt
  have cb0 : w2.cell? ⟨w.heap.size + 1, 0, none⟩ = some (.int .i64 1) := Bb.cell 0
  have cb1 : w2.cell? ⟨w.heap.size + 1, 1, none⟩ = some (uv b.r.b.v) := Bb.cell 1
  have cb2 : w2.cell? ⟨w.heap.size + 1, 2, none⟩ = some (uv b.r.b.m) := Bb.cell 2
  have cb3 : w2.cell? ⟨w.heap.size + 1, 3, none⟩ = some (uv b.r.lo) := Bb.cell 3
  have cb4 : w2.cell? ⟨w.heap.size + 1, 4, none⟩ = some (uv b.r.hi) := Bb.cell 4
  have cb5 : w2.cell? ⟨w.heap.size + 1, 5, none⟩ = some (sv b.r.sl) := Bb.cell 5
  have cb6 : w2.cell? ⟨w.heap.size + 1, 6, none⟩ = some (sv b.r.sh) := Bb.cell 6
  have cb7 : w2.cell? ⟨w.heap.size + 1, 7, none⟩ = some (.int .i64 b.slot) := Bb.cell 7
  have cb8 : w2.cell? ⟨w.heap.size + 1, 8, none⟩ = some (.int .i64 b.id) := Bb.cell 8
  have cb9 : w2.cell? ⟨w.heap.size + 1, 9, none⟩ = some (.int .i64 b.low) := Bb.cell 9
  have cb10 : w2.cell? ⟨w.heap.size + 1, 10, none⟩ = some (.int .i64 b.high) := Bb.cell 10
  have fb := Bb.frozen; have lb := Bb.lt
  go_wp2
  go_ret
  exact ⟨rfl, by repeat (first | exact hB | (refine Bl_set ?_ (by first | omega | (simp; omega)) _) | apply Bl_alloc)⟩
set_option maxRecDepth 100000 in
set_option maxHeartbeats 800000 in
theorem cov_4 (a b : Rg) (gx : Nat)  (w : World) : Calls Try.prog 58 #[.pointer (some ⟨gx, 0, none⟩), .agg #[.int .i64 4, uv a.r.b.v, uv a.r.b.m, uv a.r.lo, uv a.r.hi, sv a.r.sl, sv a.r.sh, .int .i64 a.slot, .int .i64 a.id, .int .i64 a.low, .int .i64 a.high], .agg #[.int .i64 4, uv b.r.b.v, uv b.r.b.m, uv b.r.lo, uv b.r.hi, sv b.r.sl, sv b.r.sh, .int .i64 b.slot, .int .i64 b.id, .int .i64 b.low, .int .i64 b.high]] w fun e w' => e = .returned (.bool (a.slot == b.slot)) ∧ Below w.heap.size w w' := by
  go_enter Try.func58, Try.ntmps58
  go_wp2_with fail
  obtain ⟨ga, hga⟩ : ∃ g, g = w.heap.size := ⟨_, rfl⟩
  obtain ⟨gb, hgb⟩ : ∃ g, g = w.heap.size + 1 := ⟨_, rfl⟩
  have Ba : Blk ((w.alloc (.cells #[.int .i64 4, uv a.r.b.v, uv a.r.b.m, uv a.r.lo, uv a.r.hi, sv a.r.sl, sv a.r.sh, .int .i64 a.slot, .int .i64 a.id, .int .i64 a.low, .int .i64 a.high] 29)).alloc (.cells #[.int .i64 4, uv b.r.b.v, uv b.r.b.m, uv b.r.lo, uv b.r.hi, sv b.r.sl, sv b.r.sh, .int .i64 b.slot, .int .i64 b.id, .int .i64 b.low, .int .i64 b.high] 29)) (w.heap.size) 29 #[.int .i64 4, uv a.r.b.v, uv a.r.b.m, uv a.r.lo, uv a.r.hi, sv a.r.sl, sv a.r.sh, .int .i64 a.slot, .int .i64 a.id, .int .i64 a.low, .int .i64 a.high] := ((Blk.new w 29 #[.int .i64 4, uv a.r.b.v, uv a.r.b.m, uv a.r.lo, uv a.r.hi, sv a.r.sl, sv a.r.sh, .int .i64 a.slot, .int .i64 a.id, .int .i64 a.low, .int .i64 a.high])).alloc _
  have Bb : Blk ((w.alloc (.cells #[.int .i64 4, uv a.r.b.v, uv a.r.b.m, uv a.r.lo, uv a.r.hi, sv a.r.sl, sv a.r.sh, .int .i64 a.slot, .int .i64 a.id, .int .i64 a.low, .int .i64 a.high] 29)).alloc (.cells #[.int .i64 4, uv b.r.b.v, uv b.r.b.m, uv b.r.lo, uv b.r.hi, sv b.r.sl, sv b.r.sh, .int .i64 b.slot, .int .i64 b.id, .int .i64 b.low, .int .i64 b.high] 29)) (w.heap.size + 1) 29 #[.int .i64 4, uv b.r.b.v, uv b.r.b.m, uv b.r.lo, uv b.r.hi, sv b.r.sl, sv b.r.sh, .int .i64 b.slot, .int .i64 b.id, .int .i64 b.low, .int .i64 b.high] := (by simpa using Blk.new (w.alloc (.cells #[.int .i64 4, uv a.r.b.v, uv a.r.b.m, uv a.r.lo, uv a.r.hi, sv a.r.sl, sv a.r.sh, .int .i64 a.slot, .int .i64 a.id, .int .i64 a.low, .int .i64 a.high] 29)) 29 #[.int .i64 4, uv b.r.b.v, uv b.r.b.m, uv b.r.lo, uv b.r.hi, sv b.r.sl, sv b.r.sh, .int .i64 b.slot, .int .i64 b.id, .int .i64 b.low, .int .i64 b.high] : Blk _ (w.heap.size + 1) 29 #[.int .i64 4, uv b.r.b.v, uv b.r.b.m, uv b.r.lo, uv b.r.hi, sv b.r.sl, sv b.r.sh, .int .i64 b.slot, .int .i64 b.id, .int .i64 b.low, .int .i64 b.high])
  have hB : Below w.heap.size w ((w.alloc (.cells #[.int .i64 4, uv a.r.b.v, uv a.r.b.m, uv a.r.lo, uv a.r.hi, sv a.r.sl, sv a.r.sh, .int .i64 a.slot, .int .i64 a.id, .int .i64 a.low, .int .i64 a.high] 29)).alloc (.cells #[.int .i64 4, uv b.r.b.v, uv b.r.b.m, uv b.r.lo, uv b.r.hi, sv b.r.sl, sv b.r.sh, .int .i64 b.slot, .int .i64 b.id, .int .i64 b.low, .int .i64 b.high] 29)) := (Bl_alloc (Bl_alloc (Bl_refl w) _) _)
  clear hga
  clear ga
  clear hgb
  clear gb
  generalize ((w.alloc (.cells #[.int .i64 4, uv a.r.b.v, uv a.r.b.m, uv a.r.lo, uv a.r.hi, sv a.r.sl, sv a.r.sh, .int .i64 a.slot, .int .i64 a.id, .int .i64 a.low, .int .i64 a.high] 29)).alloc (.cells #[.int .i64 4, uv b.r.b.v, uv b.r.b.m, uv b.r.lo, uv b.r.hi, sv b.r.sl, sv b.r.sh, .int .i64 b.slot, .int .i64 b.id, .int .i64 b.low, .int .i64 b.high] 29)) = w1 at *
  have ca0 : w1.cell? ⟨w.heap.size, 0, none⟩ = some (.int .i64 4) := Ba.cell 0
  have ca1 : w1.cell? ⟨w.heap.size, 1, none⟩ = some (uv a.r.b.v) := Ba.cell 1
  have ca2 : w1.cell? ⟨w.heap.size, 2, none⟩ = some (uv a.r.b.m) := Ba.cell 2
  have ca3 : w1.cell? ⟨w.heap.size, 3, none⟩ = some (uv a.r.lo) := Ba.cell 3
  have ca4 : w1.cell? ⟨w.heap.size, 4, none⟩ = some (uv a.r.hi) := Ba.cell 4
  have ca5 : w1.cell? ⟨w.heap.size, 5, none⟩ = some (sv a.r.sl) := Ba.cell 5
  have ca6 : w1.cell? ⟨w.heap.size, 6, none⟩ = some (sv a.r.sh) := Ba.cell 6
  have ca7 : w1.cell? ⟨w.heap.size, 7, none⟩ = some (.int .i64 a.slot) := Ba.cell 7
  have ca8 : w1.cell? ⟨w.heap.size, 8, none⟩ = some (.int .i64 a.id) := Ba.cell 8
  have ca9 : w1.cell? ⟨w.heap.size, 9, none⟩ = some (.int .i64 a.low) := Ba.cell 9
  have ca10 : w1.cell? ⟨w.heap.size, 10, none⟩ = some (.int .i64 a.high) := Ba.cell 10
  have fa := Ba.frozen; have la := Ba.lt
  have cb0 : w1.cell? ⟨w.heap.size + 1, 0, none⟩ = some (.int .i64 4) := Bb.cell 0
  have cb1 : w1.cell? ⟨w.heap.size + 1, 1, none⟩ = some (uv b.r.b.v) := Bb.cell 1
  have cb2 : w1.cell? ⟨w.heap.size + 1, 2, none⟩ = some (uv b.r.b.m) := Bb.cell 2
  have cb3 : w1.cell? ⟨w.heap.size + 1, 3, none⟩ = some (uv b.r.lo) := Bb.cell 3
  have cb4 : w1.cell? ⟨w.heap.size + 1, 4, none⟩ = some (uv b.r.hi) := Bb.cell 4
  have cb5 : w1.cell? ⟨w.heap.size + 1, 5, none⟩ = some (sv b.r.sl) := Bb.cell 5
  have cb6 : w1.cell? ⟨w.heap.size + 1, 6, none⟩ = some (sv b.r.sh) := Bb.cell 6
  have cb7 : w1.cell? ⟨w.heap.size + 1, 7, none⟩ = some (.int .i64 b.slot) := Bb.cell 7
  have cb8 : w1.cell? ⟨w.heap.size + 1, 8, none⟩ = some (.int .i64 b.id) := Bb.cell 8
  have cb9 : w1.cell? ⟨w.heap.size + 1, 9, none⟩ = some (.int .i64 b.low) := Bb.cell 9
  have cb10 : w1.cell? ⟨w.heap.size + 1, 10, none⟩ = some (.int .i64 b.high) := Bb.cell 10
  have fb := Bb.frozen; have lb := Bb.lt
  go_wp2
  go_ret
  exact ⟨rfl, by repeat (first | exact hB | (refine Bl_set ?_ (by first | omega | (simp; omega)) _) | apply Bl_alloc)⟩
set_option maxRecDepth 100000 in
set_option maxHeartbeats 800000 in
theorem cov_6n (a b : Rg) (gx : Nat) (h1 : (a.slot == b.slot) = false) (w : World) : Calls Try.prog 58 #[.pointer (some ⟨gx, 0, none⟩), .agg #[.int .i64 6, uv a.r.b.v, uv a.r.b.m, uv a.r.lo, uv a.r.hi, sv a.r.sl, sv a.r.sh, .int .i64 a.slot, .int .i64 a.id, .int .i64 a.low, .int .i64 a.high], .agg #[.int .i64 6, uv b.r.b.v, uv b.r.b.m, uv b.r.lo, uv b.r.hi, sv b.r.sl, sv b.r.sh, .int .i64 b.slot, .int .i64 b.id, .int .i64 b.low, .int .i64 b.high]] w fun e w' => e = .returned (.bool false) ∧ Below w.heap.size w w' := by
  go_enter Try.func58, Try.ntmps58
  go_wp2_with fail
  obtain ⟨ga, hga⟩ : ∃ g, g = w.heap.size := ⟨_, rfl⟩
  obtain ⟨gb, hgb⟩ : ∃ g, g = w.heap.size + 1 := ⟨_, rfl⟩
  have Ba : Blk ((w.alloc (.cells #[.int .i64 6, uv a.r.b.v, uv a.r.b.m, uv a.r.lo, uv a.r.hi, sv a.r.sl, sv a.r.sh, .int .i64 a.slot, .int .i64 a.id, .int .i64 a.low, .int .i64 a.high] 29)).alloc (.cells #[.int .i64 6, uv b.r.b.v, uv b.r.b.m, uv b.r.lo, uv b.r.hi, sv b.r.sl, sv b.r.sh, .int .i64 b.slot, .int .i64 b.id, .int .i64 b.low, .int .i64 b.high] 29)) (w.heap.size) 29 #[.int .i64 6, uv a.r.b.v, uv a.r.b.m, uv a.r.lo, uv a.r.hi, sv a.r.sl, sv a.r.sh, .int .i64 a.slot, .int .i64 a.id, .int .i64 a.low, .int .i64 a.high] := ((Blk.new w 29 #[.int .i64 6, uv a.r.b.v, uv a.r.b.m, uv a.r.lo, uv a.r.hi, sv a.r.sl, sv a.r.sh, .int .i64 a.slot, .int .i64 a.id, .int .i64 a.low, .int .i64 a.high])).alloc _
  have Bb : Blk ((w.alloc (.cells #[.int .i64 6, uv a.r.b.v, uv a.r.b.m, uv a.r.lo, uv a.r.hi, sv a.r.sl, sv a.r.sh, .int .i64 a.slot, .int .i64 a.id, .int .i64 a.low, .int .i64 a.high] 29)).alloc (.cells #[.int .i64 6, uv b.r.b.v, uv b.r.b.m, uv b.r.lo, uv b.r.hi, sv b.r.sl, sv b.r.sh, .int .i64 b.slot, .int .i64 b.id, .int .i64 b.low, .int .i64 b.high] 29)) (w.heap.size + 1) 29 #[.int .i64 6, uv b.r.b.v, uv b.r.b.m, uv b.r.lo, uv b.r.hi, sv b.r.sl, sv b.r.sh, .int .i64 b.slot, .int .i64 b.id, .int .i64 b.low, .int .i64 b.high] := (by simpa using Blk.new (w.alloc (.cells #[.int .i64 6, uv a.r.b.v, uv a.r.b.m, uv a.r.lo, uv a.r.hi, sv a.r.sl, sv a.r.sh, .int .i64 a.slot, .int .i64 a.id, .int .i64 a.low, .int .i64 a.high] 29)) 29 #[.int .i64 6, uv b.r.b.v, uv b.r.b.m, uv b.r.lo, uv b.r.hi, sv b.r.sl, sv b.r.sh, .int .i64 b.slot, .int .i64 b.id, .int .i64 b.low, .int .i64 b.high] : Blk _ (w.heap.size + 1) 29 #[.int .i64 6, uv b.r.b.v, uv b.r.b.m, uv b.r.lo, uv b.r.hi, sv b.r.sl, sv b.r.sh, .int .i64 b.slot, .int .i64 b.id, .int .i64 b.low, .int .i64 b.high])
  have hB : Below w.heap.size w ((w.alloc (.cells #[.int .i64 6, uv a.r.b.v, uv a.r.b.m, uv a.r.lo, uv a.r.hi, sv a.r.sl, sv a.r.sh, .int .i64 a.slot, .int .i64 a.id, .int .i64 a.low, .int .i64 a.high] 29)).alloc (.cells #[.int .i64 6, uv b.r.b.v, uv b.r.b.m, uv b.r.lo, uv b.r.hi, sv b.r.sl, sv b.r.sh, .int .i64 b.slot, .int .i64 b.id, .int .i64 b.low, .int .i64 b.high] 29)) := (Bl_alloc (Bl_alloc (Bl_refl w) _) _)
  clear hga
  clear ga
  clear hgb
  clear gb
  generalize ((w.alloc (.cells #[.int .i64 6, uv a.r.b.v, uv a.r.b.m, uv a.r.lo, uv a.r.hi, sv a.r.sl, sv a.r.sh, .int .i64 a.slot, .int .i64 a.id, .int .i64 a.low, .int .i64 a.high] 29)).alloc (.cells #[.int .i64 6, uv b.r.b.v, uv b.r.b.m, uv b.r.lo, uv b.r.hi, sv b.r.sl, sv b.r.sh, .int .i64 b.slot, .int .i64 b.id, .int .i64 b.low, .int .i64 b.high] 29)) = w1 at *
  have ca0 : w1.cell? ⟨w.heap.size, 0, none⟩ = some (.int .i64 6) := Ba.cell 0
  have ca1 : w1.cell? ⟨w.heap.size, 1, none⟩ = some (uv a.r.b.v) := Ba.cell 1
  have ca2 : w1.cell? ⟨w.heap.size, 2, none⟩ = some (uv a.r.b.m) := Ba.cell 2
  have ca3 : w1.cell? ⟨w.heap.size, 3, none⟩ = some (uv a.r.lo) := Ba.cell 3
  have ca4 : w1.cell? ⟨w.heap.size, 4, none⟩ = some (uv a.r.hi) := Ba.cell 4
  have ca5 : w1.cell? ⟨w.heap.size, 5, none⟩ = some (sv a.r.sl) := Ba.cell 5
  have ca6 : w1.cell? ⟨w.heap.size, 6, none⟩ = some (sv a.r.sh) := Ba.cell 6
  have ca7 : w1.cell? ⟨w.heap.size, 7, none⟩ = some (.int .i64 a.slot) := Ba.cell 7
  have ca8 : w1.cell? ⟨w.heap.size, 8, none⟩ = some (.int .i64 a.id) := Ba.cell 8
  have ca9 : w1.cell? ⟨w.heap.size, 9, none⟩ = some (.int .i64 a.low) := Ba.cell 9
  have ca10 : w1.cell? ⟨w.heap.size, 10, none⟩ = some (.int .i64 a.high) := Ba.cell 10
  have fa := Ba.frozen; have la := Ba.lt
  have cb0 : w1.cell? ⟨w.heap.size + 1, 0, none⟩ = some (.int .i64 6) := Bb.cell 0
  have cb1 : w1.cell? ⟨w.heap.size + 1, 1, none⟩ = some (uv b.r.b.v) := Bb.cell 1
  have cb2 : w1.cell? ⟨w.heap.size + 1, 2, none⟩ = some (uv b.r.b.m) := Bb.cell 2
  have cb3 : w1.cell? ⟨w.heap.size + 1, 3, none⟩ = some (uv b.r.lo) := Bb.cell 3
  have cb4 : w1.cell? ⟨w.heap.size + 1, 4, none⟩ = some (uv b.r.hi) := Bb.cell 4
  have cb5 : w1.cell? ⟨w.heap.size + 1, 5, none⟩ = some (sv b.r.sl) := Bb.cell 5
  have cb6 : w1.cell? ⟨w.heap.size + 1, 6, none⟩ = some (sv b.r.sh) := Bb.cell 6
  have cb7 : w1.cell? ⟨w.heap.size + 1, 7, none⟩ = some (.int .i64 b.slot) := Bb.cell 7
  have cb8 : w1.cell? ⟨w.heap.size + 1, 8, none⟩ = some (.int .i64 b.id) := Bb.cell 8
  have cb9 : w1.cell? ⟨w.heap.size + 1, 9, none⟩ = some (.int .i64 b.low) := Bb.cell 9
  have cb10 : w1.cell? ⟨w.heap.size + 1, 10, none⟩ = some (.int .i64 b.high) := Bb.cell 10
  have fb := Bb.frozen; have lb := Bb.lt
  go_wp2
  go_ret
  exact ⟨rfl, by repeat (first | exact hB | (refine Bl_set ?_ (by first | omega | (simp; omega)) _) | apply Bl_alloc)⟩
set_option maxRecDepth 100000 in
set_option maxHeartbeats 800000 in
theorem cov_k1 (a b : Rg) (gx : Nat) (k : Int) (h0 : (k == 0) = false) (h1 : (k == 1) = false) (h4 : (k == 4) = false) (h6 : (k == 6) = false) (hs : (a.slot == b.slot) = false) (w : World) : Calls Try.prog 58 #[.pointer (some ⟨gx, 0, none⟩), .agg #[.int .i64 k, uv a.r.b.v, uv a.r.b.m, uv a.r.lo, uv a.r.hi, sv a.r.sl, sv a.r.sh, .int .i64 a.slot, .int .i64 a.id, .int .i64 a.low, .int .i64 a.high], .agg #[.int .i64 k, uv b.r.b.v, uv b.r.b.m, uv b.r.lo, uv b.r.hi, sv b.r.sl, sv b.r.sh, .int .i64 b.slot, .int .i64 b.id, .int .i64 b.low, .int .i64 b.high]] w fun e w' => e = .returned (.bool false) ∧ Below w.heap.size w w' := by
  go_enter Try.func58, Try.ntmps58
  go_wp2_with fail
  obtain ⟨ga, hga⟩ : ∃ g, g = w.heap.size := ⟨_, rfl⟩
  obtain ⟨gb, hgb⟩ : ∃ g, g = w.heap.size + 1 := ⟨_, rfl⟩
  have Ba : Blk ((w.alloc (.cells #[.int .i64 k, uv a.r.b.v, uv a.r.b.m, uv a.r.lo, uv a.r.hi, sv a.r.sl, sv a.r.sh, .int .i64 a.slot, .int .i64 a.id, .int .i64 a.low, .int .i64 a.high] 29)).alloc (.cells #[.int .i64 k, uv b.r.b.v, uv b.r.b.m, uv b.r.lo, uv b.r.hi, sv b.r.sl, sv b.r.sh, .int .i64 b.slot, .int .i64 b.id, .int .i64 b.low, .int .i64 b.high] 29)) (w.heap.size) 29 #[.int .i64 k, uv a.r.b.v, uv a.r.b.m, uv a.r.lo, uv a.r.hi, sv a.r.sl, sv a.r.sh, .int .i64 a.slot, .int .i64 a.id, .int .i64 a.low, .int .i64 a.high] := ((Blk.new w 29 #[.int .i64 k, uv a.r.b.v, uv a.r.b.m, uv a.r.lo, uv a.r.hi, sv a.r.sl, sv a.r.sh, .int .i64 a.slot, .int .i64 a.id, .int .i64 a.low, .int .i64 a.high])).alloc _
  have Bb : Blk ((w.alloc (.cells #[.int .i64 k, uv a.r.b.v, uv a.r.b.m, uv a.r.lo, uv a.r.hi, sv a.r.sl, sv a.r.sh, .int .i64 a.slot, .int .i64 a.id, .int .i64 a.low, .int .i64 a.high] 29)).alloc (.cells #[.int .i64 k, uv b.r.b.v, uv b.r.b.m, uv b.r.lo, uv b.r.hi, sv b.r.sl, sv b.r.sh, .int .i64 b.slot, .int .i64 b.id, .int .i64 b.low, .int .i64 b.high] 29)) (w.heap.size + 1) 29 #[.int .i64 k, uv b.r.b.v, uv b.r.b.m, uv b.r.lo, uv b.r.hi, sv b.r.sl, sv b.r.sh, .int .i64 b.slot, .int .i64 b.id, .int .i64 b.low, .int .i64 b.high] := (by simpa using Blk.new (w.alloc (.cells #[.int .i64 k, uv a.r.b.v, uv a.r.b.m, uv a.r.lo, uv a.r.hi, sv a.r.sl, sv a.r.sh, .int .i64 a.slot, .int .i64 a.id, .int .i64 a.low, .int .i64 a.high] 29)) 29 #[.int .i64 k, uv b.r.b.v, uv b.r.b.m, uv b.r.lo, uv b.r.hi, sv b.r.sl, sv b.r.sh, .int .i64 b.slot, .int .i64 b.id, .int .i64 b.low, .int .i64 b.high] : Blk _ (w.heap.size + 1) 29 #[.int .i64 k, uv b.r.b.v, uv b.r.b.m, uv b.r.lo, uv b.r.hi, sv b.r.sl, sv b.r.sh, .int .i64 b.slot, .int .i64 b.id, .int .i64 b.low, .int .i64 b.high])
  have hB : Below w.heap.size w ((w.alloc (.cells #[.int .i64 k, uv a.r.b.v, uv a.r.b.m, uv a.r.lo, uv a.r.hi, sv a.r.sl, sv a.r.sh, .int .i64 a.slot, .int .i64 a.id, .int .i64 a.low, .int .i64 a.high] 29)).alloc (.cells #[.int .i64 k, uv b.r.b.v, uv b.r.b.m, uv b.r.lo, uv b.r.hi, sv b.r.sl, sv b.r.sh, .int .i64 b.slot, .int .i64 b.id, .int .i64 b.low, .int .i64 b.high] 29)) := (Bl_alloc (Bl_alloc (Bl_refl w) _) _)
  clear hga
  clear ga
  clear hgb
  clear gb
  generalize ((w.alloc (.cells #[.int .i64 k, uv a.r.b.v, uv a.r.b.m, uv a.r.lo, uv a.r.hi, sv a.r.sl, sv a.r.sh, .int .i64 a.slot, .int .i64 a.id, .int .i64 a.low, .int .i64 a.high] 29)).alloc (.cells #[.int .i64 k, uv b.r.b.v, uv b.r.b.m, uv b.r.lo, uv b.r.hi, sv b.r.sl, sv b.r.sh, .int .i64 b.slot, .int .i64 b.id, .int .i64 b.low, .int .i64 b.high] 29)) = w1 at *
  have ca0 : w1.cell? ⟨w.heap.size, 0, none⟩ = some (.int .i64 k) := Ba.cell 0
  have ca1 : w1.cell? ⟨w.heap.size, 1, none⟩ = some (uv a.r.b.v) := Ba.cell 1
  have ca2 : w1.cell? ⟨w.heap.size, 2, none⟩ = some (uv a.r.b.m) := Ba.cell 2
  have ca3 : w1.cell? ⟨w.heap.size, 3, none⟩ = some (uv a.r.lo) := Ba.cell 3
  have ca4 : w1.cell? ⟨w.heap.size, 4, none⟩ = some (uv a.r.hi) := Ba.cell 4
  have ca5 : w1.cell? ⟨w.heap.size, 5, none⟩ = some (sv a.r.sl) := Ba.cell 5
  have ca6 : w1.cell? ⟨w.heap.size, 6, none⟩ = some (sv a.r.sh) := Ba.cell 6
  have ca7 : w1.cell? ⟨w.heap.size, 7, none⟩ = some (.int .i64 a.slot) := Ba.cell 7
  have ca8 : w1.cell? ⟨w.heap.size, 8, none⟩ = some (.int .i64 a.id) := Ba.cell 8
  have ca9 : w1.cell? ⟨w.heap.size, 9, none⟩ = some (.int .i64 a.low) := Ba.cell 9
  have ca10 : w1.cell? ⟨w.heap.size, 10, none⟩ = some (.int .i64 a.high) := Ba.cell 10
  have fa := Ba.frozen; have la := Ba.lt
  have cb0 : w1.cell? ⟨w.heap.size + 1, 0, none⟩ = some (.int .i64 k) := Bb.cell 0
  have cb1 : w1.cell? ⟨w.heap.size + 1, 1, none⟩ = some (uv b.r.b.v) := Bb.cell 1
  have cb2 : w1.cell? ⟨w.heap.size + 1, 2, none⟩ = some (uv b.r.b.m) := Bb.cell 2
  have cb3 : w1.cell? ⟨w.heap.size + 1, 3, none⟩ = some (uv b.r.lo) := Bb.cell 3
  have cb4 : w1.cell? ⟨w.heap.size + 1, 4, none⟩ = some (uv b.r.hi) := Bb.cell 4
  have cb5 : w1.cell? ⟨w.heap.size + 1, 5, none⟩ = some (sv b.r.sl) := Bb.cell 5
  have cb6 : w1.cell? ⟨w.heap.size + 1, 6, none⟩ = some (sv b.r.sh) := Bb.cell 6
  have cb7 : w1.cell? ⟨w.heap.size + 1, 7, none⟩ = some (.int .i64 b.slot) := Bb.cell 7
  have cb8 : w1.cell? ⟨w.heap.size + 1, 8, none⟩ = some (.int .i64 b.id) := Bb.cell 8
  have cb9 : w1.cell? ⟨w.heap.size + 1, 9, none⟩ = some (.int .i64 b.low) := Bb.cell 9
  have cb10 : w1.cell? ⟨w.heap.size + 1, 10, none⟩ = some (.int .i64 b.high) := Bb.cell 10
  have fb := Bb.frozen; have lb := Bb.lt
  go_wp2
  go_ret
  exact ⟨rfl, by repeat (first | exact hB | (refine Bl_set ?_ (by first | omega | (simp; omega)) _) | apply Bl_alloc)⟩
set_option maxRecDepth 100000 in
set_option maxHeartbeats 800000 in
theorem cov_k2 (a b : Rg) (gx : Nat) (k : Int) (h0 : (k == 0) = false) (h1 : (k == 1) = false) (h4 : (k == 4) = false) (h6 : (k == 6) = false) (hs : (a.slot == b.slot) = true) (hl : decide (a.low ≤ b.low) = false) (w : World) : Calls Try.prog 58 #[.pointer (some ⟨gx, 0, none⟩), .agg #[.int .i64 k, uv a.r.b.v, uv a.r.b.m, uv a.r.lo, uv a.r.hi, sv a.r.sl, sv a.r.sh, .int .i64 a.slot, .int .i64 a.id, .int .i64 a.low, .int .i64 a.high], .agg #[.int .i64 k, uv b.r.b.v, uv b.r.b.m, uv b.r.lo, uv b.r.hi, sv b.r.sl, sv b.r.sh, .int .i64 b.slot, .int .i64 b.id, .int .i64 b.low, .int .i64 b.high]] w fun e w' => e = .returned (.bool false) ∧ Below w.heap.size w w' := by
  go_enter Try.func58, Try.ntmps58
  go_wp2_with fail
  obtain ⟨ga, hga⟩ : ∃ g, g = w.heap.size := ⟨_, rfl⟩
  obtain ⟨gb, hgb⟩ : ∃ g, g = w.heap.size + 1 := ⟨_, rfl⟩
  have Ba : Blk ((w.alloc (.cells #[.int .i64 k, uv a.r.b.v, uv a.r.b.m, uv a.r.lo, uv a.r.hi, sv a.r.sl, sv a.r.sh, .int .i64 a.slot, .int .i64 a.id, .int .i64 a.low, .int .i64 a.high] 29)).alloc (.cells #[.int .i64 k, uv b.r.b.v, uv b.r.b.m, uv b.r.lo, uv b.r.hi, sv b.r.sl, sv b.r.sh, .int .i64 b.slot, .int .i64 b.id, .int .i64 b.low, .int .i64 b.high] 29)) (w.heap.size) 29 #[.int .i64 k, uv a.r.b.v, uv a.r.b.m, uv a.r.lo, uv a.r.hi, sv a.r.sl, sv a.r.sh, .int .i64 a.slot, .int .i64 a.id, .int .i64 a.low, .int .i64 a.high] := ((Blk.new w 29 #[.int .i64 k, uv a.r.b.v, uv a.r.b.m, uv a.r.lo, uv a.r.hi, sv a.r.sl, sv a.r.sh, .int .i64 a.slot, .int .i64 a.id, .int .i64 a.low, .int .i64 a.high])).alloc _
  have Bb : Blk ((w.alloc (.cells #[.int .i64 k, uv a.r.b.v, uv a.r.b.m, uv a.r.lo, uv a.r.hi, sv a.r.sl, sv a.r.sh, .int .i64 a.slot, .int .i64 a.id, .int .i64 a.low, .int .i64 a.high] 29)).alloc (.cells #[.int .i64 k, uv b.r.b.v, uv b.r.b.m, uv b.r.lo, uv b.r.hi, sv b.r.sl, sv b.r.sh, .int .i64 b.slot, .int .i64 b.id, .int .i64 b.low, .int .i64 b.high] 29)) (w.heap.size + 1) 29 #[.int .i64 k, uv b.r.b.v, uv b.r.b.m, uv b.r.lo, uv b.r.hi, sv b.r.sl, sv b.r.sh, .int .i64 b.slot, .int .i64 b.id, .int .i64 b.low, .int .i64 b.high] := (by simpa using Blk.new (w.alloc (.cells #[.int .i64 k, uv a.r.b.v, uv a.r.b.m, uv a.r.lo, uv a.r.hi, sv a.r.sl, sv a.r.sh, .int .i64 a.slot, .int .i64 a.id, .int .i64 a.low, .int .i64 a.high] 29)) 29 #[.int .i64 k, uv b.r.b.v, uv b.r.b.m, uv b.r.lo, uv b.r.hi, sv b.r.sl, sv b.r.sh, .int .i64 b.slot, .int .i64 b.id, .int .i64 b.low, .int .i64 b.high] : Blk _ (w.heap.size + 1) 29 #[.int .i64 k, uv b.r.b.v, uv b.r.b.m, uv b.r.lo, uv b.r.hi, sv b.r.sl, sv b.r.sh, .int .i64 b.slot, .int .i64 b.id, .int .i64 b.low, .int .i64 b.high])
  have hB : Below w.heap.size w ((w.alloc (.cells #[.int .i64 k, uv a.r.b.v, uv a.r.b.m, uv a.r.lo, uv a.r.hi, sv a.r.sl, sv a.r.sh, .int .i64 a.slot, .int .i64 a.id, .int .i64 a.low, .int .i64 a.high] 29)).alloc (.cells #[.int .i64 k, uv b.r.b.v, uv b.r.b.m, uv b.r.lo, uv b.r.hi, sv b.r.sl, sv b.r.sh, .int .i64 b.slot, .int .i64 b.id, .int .i64 b.low, .int .i64 b.high] 29)) := (Bl_alloc (Bl_alloc (Bl_refl w) _) _)
  clear hga
  clear ga
  clear hgb
  clear gb
  generalize ((w.alloc (.cells #[.int .i64 k, uv a.r.b.v, uv a.r.b.m, uv a.r.lo, uv a.r.hi, sv a.r.sl, sv a.r.sh, .int .i64 a.slot, .int .i64 a.id, .int .i64 a.low, .int .i64 a.high] 29)).alloc (.cells #[.int .i64 k, uv b.r.b.v, uv b.r.b.m, uv b.r.lo, uv b.r.hi, sv b.r.sl, sv b.r.sh, .int .i64 b.slot, .int .i64 b.id, .int .i64 b.low, .int .i64 b.high] 29)) = w1 at *
  have ca0 : w1.cell? ⟨w.heap.size, 0, none⟩ = some (.int .i64 k) := Ba.cell 0
  have ca1 : w1.cell? ⟨w.heap.size, 1, none⟩ = some (uv a.r.b.v) := Ba.cell 1
  have ca2 : w1.cell? ⟨w.heap.size, 2, none⟩ = some (uv a.r.b.m) := Ba.cell 2
  have ca3 : w1.cell? ⟨w.heap.size, 3, none⟩ = some (uv a.r.lo) := Ba.cell 3
  have ca4 : w1.cell? ⟨w.heap.size, 4, none⟩ = some (uv a.r.hi) := Ba.cell 4
  have ca5 : w1.cell? ⟨w.heap.size, 5, none⟩ = some (sv a.r.sl) := Ba.cell 5
  have ca6 : w1.cell? ⟨w.heap.size, 6, none⟩ = some (sv a.r.sh) := Ba.cell 6
  have ca7 : w1.cell? ⟨w.heap.size, 7, none⟩ = some (.int .i64 a.slot) := Ba.cell 7
  have ca8 : w1.cell? ⟨w.heap.size, 8, none⟩ = some (.int .i64 a.id) := Ba.cell 8
  have ca9 : w1.cell? ⟨w.heap.size, 9, none⟩ = some (.int .i64 a.low) := Ba.cell 9
  have ca10 : w1.cell? ⟨w.heap.size, 10, none⟩ = some (.int .i64 a.high) := Ba.cell 10
  have fa := Ba.frozen; have la := Ba.lt
  have cb0 : w1.cell? ⟨w.heap.size + 1, 0, none⟩ = some (.int .i64 k) := Bb.cell 0
  have cb1 : w1.cell? ⟨w.heap.size + 1, 1, none⟩ = some (uv b.r.b.v) := Bb.cell 1
  have cb2 : w1.cell? ⟨w.heap.size + 1, 2, none⟩ = some (uv b.r.b.m) := Bb.cell 2
  have cb3 : w1.cell? ⟨w.heap.size + 1, 3, none⟩ = some (uv b.r.lo) := Bb.cell 3
  have cb4 : w1.cell? ⟨w.heap.size + 1, 4, none⟩ = some (uv b.r.hi) := Bb.cell 4
  have cb5 : w1.cell? ⟨w.heap.size + 1, 5, none⟩ = some (sv b.r.sl) := Bb.cell 5
  have cb6 : w1.cell? ⟨w.heap.size + 1, 6, none⟩ = some (sv b.r.sh) := Bb.cell 6
  have cb7 : w1.cell? ⟨w.heap.size + 1, 7, none⟩ = some (.int .i64 b.slot) := Bb.cell 7
  have cb8 : w1.cell? ⟨w.heap.size + 1, 8, none⟩ = some (.int .i64 b.id) := Bb.cell 8
  have cb9 : w1.cell? ⟨w.heap.size + 1, 9, none⟩ = some (.int .i64 b.low) := Bb.cell 9
  have cb10 : w1.cell? ⟨w.heap.size + 1, 10, none⟩ = some (.int .i64 b.high) := Bb.cell 10
  have fb := Bb.frozen; have lb := Bb.lt
  go_wp2
  go_ret
  exact ⟨rfl, by repeat (first | exact hB | (refine Bl_set ?_ (by first | omega | (simp; omega)) _) | apply Bl_alloc)⟩
set_option maxRecDepth 100000 in
set_option maxHeartbeats 800000 in
theorem cov_k3 (a b : Rg) (gx : Nat) (k : Int) (h0 : (k == 0) = false) (h1 : (k == 1) = false) (h4 : (k == 4) = false) (h6 : (k == 6) = false) (hs : (a.slot == b.slot) = true) (hl : decide (a.low ≤ b.low) = true) (w : World) : Calls Try.prog 58 #[.pointer (some ⟨gx, 0, none⟩), .agg #[.int .i64 k, uv a.r.b.v, uv a.r.b.m, uv a.r.lo, uv a.r.hi, sv a.r.sl, sv a.r.sh, .int .i64 a.slot, .int .i64 a.id, .int .i64 a.low, .int .i64 a.high], .agg #[.int .i64 k, uv b.r.b.v, uv b.r.b.m, uv b.r.lo, uv b.r.hi, sv b.r.sl, sv b.r.sh, .int .i64 b.slot, .int .i64 b.id, .int .i64 b.low, .int .i64 b.high]] w fun e w' => e = .returned (.bool (decide (b.high ≤ a.high))) ∧ Below w.heap.size w w' := by
  go_enter Try.func58, Try.ntmps58
  go_wp2_with fail
  obtain ⟨ga, hga⟩ : ∃ g, g = w.heap.size := ⟨_, rfl⟩
  obtain ⟨gb, hgb⟩ : ∃ g, g = w.heap.size + 1 := ⟨_, rfl⟩
  have Ba : Blk ((w.alloc (.cells #[.int .i64 k, uv a.r.b.v, uv a.r.b.m, uv a.r.lo, uv a.r.hi, sv a.r.sl, sv a.r.sh, .int .i64 a.slot, .int .i64 a.id, .int .i64 a.low, .int .i64 a.high] 29)).alloc (.cells #[.int .i64 k, uv b.r.b.v, uv b.r.b.m, uv b.r.lo, uv b.r.hi, sv b.r.sl, sv b.r.sh, .int .i64 b.slot, .int .i64 b.id, .int .i64 b.low, .int .i64 b.high] 29)) (w.heap.size) 29 #[.int .i64 k, uv a.r.b.v, uv a.r.b.m, uv a.r.lo, uv a.r.hi, sv a.r.sl, sv a.r.sh, .int .i64 a.slot, .int .i64 a.id, .int .i64 a.low, .int .i64 a.high] := ((Blk.new w 29 #[.int .i64 k, uv a.r.b.v, uv a.r.b.m, uv a.r.lo, uv a.r.hi, sv a.r.sl, sv a.r.sh, .int .i64 a.slot, .int .i64 a.id, .int .i64 a.low, .int .i64 a.high])).alloc _
  have Bb : Blk ((w.alloc (.cells #[.int .i64 k, uv a.r.b.v, uv a.r.b.m, uv a.r.lo, uv a.r.hi, sv a.r.sl, sv a.r.sh, .int .i64 a.slot, .int .i64 a.id, .int .i64 a.low, .int .i64 a.high] 29)).alloc (.cells #[.int .i64 k, uv b.r.b.v, uv b.r.b.m, uv b.r.lo, uv b.r.hi, sv b.r.sl, sv b.r.sh, .int .i64 b.slot, .int .i64 b.id, .int .i64 b.low, .int .i64 b.high] 29)) (w.heap.size + 1) 29 #[.int .i64 k, uv b.r.b.v, uv b.r.b.m, uv b.r.lo, uv b.r.hi, sv b.r.sl, sv b.r.sh, .int .i64 b.slot, .int .i64 b.id, .int .i64 b.low, .int .i64 b.high] := (by simpa using Blk.new (w.alloc (.cells #[.int .i64 k, uv a.r.b.v, uv a.r.b.m, uv a.r.lo, uv a.r.hi, sv a.r.sl, sv a.r.sh, .int .i64 a.slot, .int .i64 a.id, .int .i64 a.low, .int .i64 a.high] 29)) 29 #[.int .i64 k, uv b.r.b.v, uv b.r.b.m, uv b.r.lo, uv b.r.hi, sv b.r.sl, sv b.r.sh, .int .i64 b.slot, .int .i64 b.id, .int .i64 b.low, .int .i64 b.high] : Blk _ (w.heap.size + 1) 29 #[.int .i64 k, uv b.r.b.v, uv b.r.b.m, uv b.r.lo, uv b.r.hi, sv b.r.sl, sv b.r.sh, .int .i64 b.slot, .int .i64 b.id, .int .i64 b.low, .int .i64 b.high])
  have hB : Below w.heap.size w ((w.alloc (.cells #[.int .i64 k, uv a.r.b.v, uv a.r.b.m, uv a.r.lo, uv a.r.hi, sv a.r.sl, sv a.r.sh, .int .i64 a.slot, .int .i64 a.id, .int .i64 a.low, .int .i64 a.high] 29)).alloc (.cells #[.int .i64 k, uv b.r.b.v, uv b.r.b.m, uv b.r.lo, uv b.r.hi, sv b.r.sl, sv b.r.sh, .int .i64 b.slot, .int .i64 b.id, .int .i64 b.low, .int .i64 b.high] 29)) := (Bl_alloc (Bl_alloc (Bl_refl w) _) _)
  clear hga
  clear ga
  clear hgb
  clear gb
  generalize ((w.alloc (.cells #[.int .i64 k, uv a.r.b.v, uv a.r.b.m, uv a.r.lo, uv a.r.hi, sv a.r.sl, sv a.r.sh, .int .i64 a.slot, .int .i64 a.id, .int .i64 a.low, .int .i64 a.high] 29)).alloc (.cells #[.int .i64 k, uv b.r.b.v, uv b.r.b.m, uv b.r.lo, uv b.r.hi, sv b.r.sl, sv b.r.sh, .int .i64 b.slot, .int .i64 b.id, .int .i64 b.low, .int .i64 b.high] 29)) = w1 at *
  have ca0 : w1.cell? ⟨w.heap.size, 0, none⟩ = some (.int .i64 k) := Ba.cell 0
  have ca1 : w1.cell? ⟨w.heap.size, 1, none⟩ = some (uv a.r.b.v) := Ba.cell 1
  have ca2 : w1.cell? ⟨w.heap.size, 2, none⟩ = some (uv a.r.b.m) := Ba.cell 2
  have ca3 : w1.cell? ⟨w.heap.size, 3, none⟩ = some (uv a.r.lo) := Ba.cell 3
  have ca4 : w1.cell? ⟨w.heap.size, 4, none⟩ = some (uv a.r.hi) := Ba.cell 4
  have ca5 : w1.cell? ⟨w.heap.size, 5, none⟩ = some (sv a.r.sl) := Ba.cell 5
  have ca6 : w1.cell? ⟨w.heap.size, 6, none⟩ = some (sv a.r.sh) := Ba.cell 6
  have ca7 : w1.cell? ⟨w.heap.size, 7, none⟩ = some (.int .i64 a.slot) := Ba.cell 7
  have ca8 : w1.cell? ⟨w.heap.size, 8, none⟩ = some (.int .i64 a.id) := Ba.cell 8
  have ca9 : w1.cell? ⟨w.heap.size, 9, none⟩ = some (.int .i64 a.low) := Ba.cell 9
  have ca10 : w1.cell? ⟨w.heap.size, 10, none⟩ = some (.int .i64 a.high) := Ba.cell 10
  have fa := Ba.frozen; have la := Ba.lt
  have cb0 : w1.cell? ⟨w.heap.size + 1, 0, none⟩ = some (.int .i64 k) := Bb.cell 0
  have cb1 : w1.cell? ⟨w.heap.size + 1, 1, none⟩ = some (uv b.r.b.v) := Bb.cell 1
  have cb2 : w1.cell? ⟨w.heap.size + 1, 2, none⟩ = some (uv b.r.b.m) := Bb.cell 2
  have cb3 : w1.cell? ⟨w.heap.size + 1, 3, none⟩ = some (uv b.r.lo) := Bb.cell 3
  have cb4 : w1.cell? ⟨w.heap.size + 1, 4, none⟩ = some (uv b.r.hi) := Bb.cell 4
  have cb5 : w1.cell? ⟨w.heap.size + 1, 5, none⟩ = some (sv b.r.sl) := Bb.cell 5
  have cb6 : w1.cell? ⟨w.heap.size + 1, 6, none⟩ = some (sv b.r.sh) := Bb.cell 6
  have cb7 : w1.cell? ⟨w.heap.size + 1, 7, none⟩ = some (.int .i64 b.slot) := Bb.cell 7
  have cb8 : w1.cell? ⟨w.heap.size + 1, 8, none⟩ = some (.int .i64 b.id) := Bb.cell 8
  have cb9 : w1.cell? ⟨w.heap.size + 1, 9, none⟩ = some (.int .i64 b.low) := Bb.cell 9
  have cb10 : w1.cell? ⟨w.heap.size + 1, 10, none⟩ = some (.int .i64 b.high) := Bb.cell 10
  have fb := Bb.frozen; have lb := Bb.lt
  go_wp2
  go_ret
  exact ⟨rfl, by repeat (first | exact hB | (refine Bl_set ?_ (by first | omega | (simp; omega)) _) | apply Bl_alloc)⟩
end Go.Proofs.Ytmghpoagpiljhab
