/- The walks of absreg's settled and Settle. -/
import Derived.Test.YtmghpoagpiljhabCov5
set_option linter.unusedSimpArgs false
set_option linter.unusedVariables false
namespace Go.Proofs.Ytmghpoagpiljhab
namespace PlainAbs
def setl (x : Rg) (id : Int) (cell : Bool) : Rg :=
  if (x.kind == 6) = false then x
  else if (x.id == id) = false then x
  else if cell = true then { zr with kind := 5, slot := x.slot }
  else number (PlainScalar.const 0#64)
def stR (s : St) (id : Int) (cell : Bool) : Nat → St
  | 0 => s
  | j + 1 => { stR s id cell j with r := upd (stR s id cell j).r j (setl (s.r j) id cell) }
def stK (s : St) (id : Int) (cell : Bool) : Nat → St
  | 0 => stR s id cell 11
  | j + 1 => if ((setl (s.kept j) id cell).kind == 1) = true then mark { stK s id cell j with kept := upd (stK s id cell j).kept j zr } (8 * j) true 8 else { stK s id cell j with kept := upd (stK s id cell j).kept j (setl (s.kept j) id cell) }
def settleS (s : St) (id : Int) (cell : Bool) : St := stK s id cell 8
end PlainAbs
open Go.RowKit
open PlainTnum (N)
open PlainScalar (Rng)
open PlainAbs (Rg St zr zs upd Im)
set_option maxRecDepth 100000 in
set_option maxHeartbeats 400000 in
theorem stl_k (x : Rg) (id : Int) (cell : Bool) (k : Int) (hk : (k == 6) = false) (w : World) : Calls Try.prog 59 #[.agg #[.int .i64 k, uv x.r.b.v, uv x.r.b.m, uv x.r.lo, uv x.r.hi, sv x.r.sl, sv x.r.sh, .int .i64 x.slot, .int .i64 x.id, .int .i64 x.low, .int .i64 x.high], .int .i64 id, .bool cell] w fun e w' => e = .returned (.agg #[.int .i64 k, uv x.r.b.v, uv x.r.b.m, uv x.r.lo, uv x.r.hi, sv x.r.sl, sv x.r.sh, .int .i64 x.slot, .int .i64 x.id, .int .i64 x.low, .int .i64 x.high]) ∧ Below w.heap.size w w' := by
  go_enter Try.func59, Try.ntmps59
  go_upto_region 1 with fail
  obtain ⟨gx, hgx⟩ : ∃ g, g = w.heap.size := ⟨_, rfl⟩
  obtain ⟨gr, hgr⟩ : ∃ g, g = w.heap.size + 1 := ⟨_, rfl⟩
  have Bx : Blk ((w.alloc (.cells #[.int .i64 k, uv x.r.b.v, uv x.r.b.m, uv x.r.lo, uv x.r.hi, sv x.r.sl, sv x.r.sh, .int .i64 x.slot, .int .i64 x.id, .int .i64 x.low, .int .i64 x.high] 29)).alloc (.cells #[.int .i64 0, .int .u64 0, .int .u64 0, .int .u64 0, .int .u64 0, .int .i64 0, .int .i64 0, .int .i64 0, .int .i64 0, .int .i64 0, .int .i64 0] 29)) (w.heap.size) 29 #[.int .i64 k, uv x.r.b.v, uv x.r.b.m, uv x.r.lo, uv x.r.hi, sv x.r.sl, sv x.r.sh, .int .i64 x.slot, .int .i64 x.id, .int .i64 x.low, .int .i64 x.high] := ((Blk.new w 29 #[.int .i64 k, uv x.r.b.v, uv x.r.b.m, uv x.r.lo, uv x.r.hi, sv x.r.sl, sv x.r.sh, .int .i64 x.slot, .int .i64 x.id, .int .i64 x.low, .int .i64 x.high])).alloc _
  have Br : Blk ((w.alloc (.cells #[.int .i64 k, uv x.r.b.v, uv x.r.b.m, uv x.r.lo, uv x.r.hi, sv x.r.sl, sv x.r.sh, .int .i64 x.slot, .int .i64 x.id, .int .i64 x.low, .int .i64 x.high] 29)).alloc (.cells #[.int .i64 0, .int .u64 0, .int .u64 0, .int .u64 0, .int .u64 0, .int .i64 0, .int .i64 0, .int .i64 0, .int .i64 0, .int .i64 0, .int .i64 0] 29)) (w.heap.size + 1) 29 #[.int .i64 0, .int .u64 0, .int .u64 0, .int .u64 0, .int .u64 0, .int .i64 0, .int .i64 0, .int .i64 0, .int .i64 0, .int .i64 0, .int .i64 0] := (by simpa using Blk.new (w.alloc (.cells #[.int .i64 k, uv x.r.b.v, uv x.r.b.m, uv x.r.lo, uv x.r.hi, sv x.r.sl, sv x.r.sh, .int .i64 x.slot, .int .i64 x.id, .int .i64 x.low, .int .i64 x.high] 29)) 29 #[.int .i64 0, .int .u64 0, .int .u64 0, .int .u64 0, .int .u64 0, .int .i64 0, .int .i64 0, .int .i64 0, .int .i64 0, .int .i64 0, .int .i64 0] : Blk _ (w.heap.size + 1) 29 #[.int .i64 0, .int .u64 0, .int .u64 0, .int .u64 0, .int .u64 0, .int .i64 0, .int .i64 0, .int .i64 0, .int .i64 0, .int .i64 0, .int .i64 0])
  have hB : Below w.heap.size w ((w.alloc (.cells #[.int .i64 k, uv x.r.b.v, uv x.r.b.m, uv x.r.lo, uv x.r.hi, sv x.r.sl, sv x.r.sh, .int .i64 x.slot, .int .i64 x.id, .int .i64 x.low, .int .i64 x.high] 29)).alloc (.cells #[.int .i64 0, .int .u64 0, .int .u64 0, .int .u64 0, .int .u64 0, .int .i64 0, .int .i64 0, .int .i64 0, .int .i64 0, .int .i64 0, .int .i64 0] 29)) := (Bl_alloc (Bl_alloc (Bl_refl w) _) _)
  clear hgx
  clear gx
  clear hgr
  clear gr
  generalize ((w.alloc (.cells #[.int .i64 k, uv x.r.b.v, uv x.r.b.m, uv x.r.lo, uv x.r.hi, sv x.r.sl, sv x.r.sh, .int .i64 x.slot, .int .i64 x.id, .int .i64 x.low, .int .i64 x.high] 29)).alloc (.cells #[.int .i64 0, .int .u64 0, .int .u64 0, .int .u64 0, .int .u64 0, .int .i64 0, .int .i64 0, .int .i64 0, .int .i64 0, .int .i64 0, .int .i64 0] 29)) = w1 at *
  have cx0 : w1.cell? ⟨w.heap.size, 0, none⟩ = some (.int .i64 k) := Bx.cell 0
  have cx1 : w1.cell? ⟨w.heap.size, 1, none⟩ = some (uv x.r.b.v) := Bx.cell 1
  have cx2 : w1.cell? ⟨w.heap.size, 2, none⟩ = some (uv x.r.b.m) := Bx.cell 2
  have cx3 : w1.cell? ⟨w.heap.size, 3, none⟩ = some (uv x.r.lo) := Bx.cell 3
  have cx4 : w1.cell? ⟨w.heap.size, 4, none⟩ = some (uv x.r.hi) := Bx.cell 4
  have cx5 : w1.cell? ⟨w.heap.size, 5, none⟩ = some (sv x.r.sl) := Bx.cell 5
  have cx6 : w1.cell? ⟨w.heap.size, 6, none⟩ = some (sv x.r.sh) := Bx.cell 6
  have cx7 : w1.cell? ⟨w.heap.size, 7, none⟩ = some (.int .i64 x.slot) := Bx.cell 7
  have cx8 : w1.cell? ⟨w.heap.size, 8, none⟩ = some (.int .i64 x.id) := Bx.cell 8
  have cx9 : w1.cell? ⟨w.heap.size, 9, none⟩ = some (.int .i64 x.low) := Bx.cell 9
  have cx10 : w1.cell? ⟨w.heap.size, 10, none⟩ = some (.int .i64 x.high) := Bx.cell 10
  have fx := Bx.frozen; have lx := Bx.lt
  have cr0 : w1.cell? ⟨w.heap.size + 1, 0, none⟩ = some (.int .i64 0) := Br.cell 0
  have cr1 : w1.cell? ⟨w.heap.size + 1, 1, none⟩ = some (.int .u64 0) := Br.cell 1
  have cr2 : w1.cell? ⟨w.heap.size + 1, 2, none⟩ = some (.int .u64 0) := Br.cell 2
  have cr3 : w1.cell? ⟨w.heap.size + 1, 3, none⟩ = some (.int .u64 0) := Br.cell 3
  have cr4 : w1.cell? ⟨w.heap.size + 1, 4, none⟩ = some (.int .u64 0) := Br.cell 4
  have cr5 : w1.cell? ⟨w.heap.size + 1, 5, none⟩ = some (.int .i64 0) := Br.cell 5
  have cr6 : w1.cell? ⟨w.heap.size + 1, 6, none⟩ = some (.int .i64 0) := Br.cell 6
  have cr7 : w1.cell? ⟨w.heap.size + 1, 7, none⟩ = some (.int .i64 0) := Br.cell 7
  have cr8 : w1.cell? ⟨w.heap.size + 1, 8, none⟩ = some (.int .i64 0) := Br.cell 8
  have cr9 : w1.cell? ⟨w.heap.size + 1, 9, none⟩ = some (.int .i64 0) := Br.cell 9
  have cr10 : w1.cell? ⟨w.heap.size + 1, 10, none⟩ = some (.int .i64 0) := Br.cell 10
  have fr := Br.frozen; have lr := Br.lt
  go_upto_region 2 with fail
  go_wp2_with (first | (refine wpList_store_whole rfl 29 (.tmp 6) (.tmp 17) rfl (w.heap.size + 1) #[.int .i64 k, uv x.r.b.v, uv x.r.b.m, uv x.r.lo, uv x.r.hi, sv x.r.sl, sv x.r.sh, .int .i64 x.slot, .int .i64 x.id, .int .i64 x.low, .int .i64 x.high] rfl rfl 29 _ Br (size_re _ _ _ _ _ _ _ _ _ _ _) rfl (by simp [Value.oneCell']) ?_) | (refine wpList_store_whole rfl 29 (.tmp 6) (.tmp 22) rfl (w.heap.size + 1) #[.int .i64 k, uv x.r.b.v, uv x.r.b.m, uv x.r.lo, uv x.r.hi, sv x.r.sl, sv x.r.sh, .int .i64 x.slot, .int .i64 x.id, .int .i64 x.low, .int .i64 x.high] rfl rfl 29 _ Br (size_re _ _ _ _ _ _ _ _ _ _ _) rfl (by simp [Value.oneCell']) ?_) | (refine wpList_store_whole rfl 29 (.tmp 6) (.tmp 24) rfl (w.heap.size + 1) #[.int .i64 k, uv x.r.b.v, uv x.r.b.m, uv x.r.lo, uv x.r.hi, sv x.r.sl, sv x.r.sh, .int .i64 x.slot, .int .i64 x.id, .int .i64 x.low, .int .i64 x.high] rfl rfl 29 _ Br (size_re _ _ _ _ _ _ _ _ _ _ _) rfl (by simp [Value.oneCell']) ?_))
  intro w2 hS
  clear cx0 cx1 cx2 cx3 cx4 cx5 cx6 cx7 cx8 cx9 cx10 fx lx
  clear cr0 cr1 cr2 cr3 cr4 cr5 cr6 cr7 cr8 cr9 cr10 fr lr
  replace Bx := hS.far (by first | (simp; done) | (simp; omega) | (simp [*]; done) | (simp only [ne_eq]; constructor <;> omega)) Bx
  replace Br : Blk w2 (w.heap.size + 1) 29 #[.int .i64 k, uv x.r.b.v, uv x.r.b.m, uv x.r.lo, uv x.r.hi, sv x.r.sl, sv x.r.sh, .int .i64 x.slot, .int .i64 x.id, .int .i64 x.low, .int .i64 x.high] := hS.blk
  replace hB := hS.bel hB (by first | omega | (simp; omega))
  clear hS
  have cx0 : w2.cell? ⟨w.heap.size, 0, none⟩ = some (.int .i64 k) := Bx.cell 0
  have cx1 : w2.cell? ⟨w.heap.size, 1, none⟩ = some (uv x.r.b.v) := Bx.cell 1
  have cx2 : w2.cell? ⟨w.heap.size, 2, none⟩ = some (uv x.r.b.m) := Bx.cell 2
  have cx3 : w2.cell? ⟨w.heap.size, 3, none⟩ = some (uv x.r.lo) := Bx.cell 3
  have cx4 : w2.cell? ⟨w.heap.size, 4, none⟩ = some (uv x.r.hi) := Bx.cell 4
  have cx5 : w2.cell? ⟨w.heap.size, 5, none⟩ = some (sv x.r.sl) := Bx.cell 5
  have cx6 : w2.cell? ⟨w.heap.size, 6, none⟩ = some (sv x.r.sh) := Bx.cell 6
  have cx7 : w2.cell? ⟨w.heap.size, 7, none⟩ = some (.int .i64 x.slot) := Bx.cell 7
  have cx8 : w2.cell? ⟨w.heap.size, 8, none⟩ = some (.int .i64 x.id) := Bx.cell 8
  have cx9 : w2.cell? ⟨w.heap.size, 9, none⟩ = some (.int .i64 x.low) := Bx.cell 9
  have cx10 : w2.cell? ⟨w.heap.size, 10, none⟩ = some (.int .i64 x.high) := Bx.cell 10
  have fx := Bx.frozen; have lx := Bx.lt
  have cr0 : w2.cell? ⟨w.heap.size + 1, 0, none⟩ = some (.int .i64 k) := Br.cell 0
  have cr1 : w2.cell? ⟨w.heap.size + 1, 1, none⟩ = some (uv x.r.b.v) := Br.cell 1
  have cr2 : w2.cell? ⟨w.heap.size + 1, 2, none⟩ = some (uv x.r.b.m) := Br.cell 2
  have cr3 : w2.cell? ⟨w.heap.size + 1, 3, none⟩ = some (uv x.r.lo) := Br.cell 3
  have cr4 : w2.cell? ⟨w.heap.size + 1, 4, none⟩ = some (uv x.r.hi) := Br.cell 4
  have cr5 : w2.cell? ⟨w.heap.size + 1, 5, none⟩ = some (sv x.r.sl) := Br.cell 5
  have cr6 : w2.cell? ⟨w.heap.size + 1, 6, none⟩ = some (sv x.r.sh) := Br.cell 6
  have cr7 : w2.cell? ⟨w.heap.size + 1, 7, none⟩ = some (.int .i64 x.slot) := Br.cell 7
  have cr8 : w2.cell? ⟨w.heap.size + 1, 8, none⟩ = some (.int .i64 x.id) := Br.cell 8
  have cr9 : w2.cell? ⟨w.heap.size + 1, 9, none⟩ = some (.int .i64 x.low) := Br.cell 9
  have cr10 : w2.cell? ⟨w.heap.size + 1, 10, none⟩ = some (.int .i64 x.high) := Br.cell 10
  have fr := Br.frozen; have lr := Br.lt
  go_wp2
  exact bodyPost_ret (v := .agg #[.int .i64 k, uv x.r.b.v, uv x.r.b.m, uv x.r.lo, uv x.r.hi, sv x.r.sl, sv x.r.sh, .int .i64 x.slot, .int .i64 x.id, .int .i64 x.low, .int .i64 x.high]) (by simp [results, Try.results59, go_sem, cr0, cr1, cr2, cr3, cr4, cr5, cr6, cr7, cr8, cr9, cr10, lr]) rfl ⟨rfl, by repeat (first | (with_reducible exact hB) | (with_reducible refine Bl_set ?_ (by first | omega | (simp; done) | (simp; omega)) _) | with_reducible apply Bl_alloc)⟩
set_option maxRecDepth 100000 in
set_option maxHeartbeats 400000 in
theorem stl_i (x : Rg) (id : Int) (cell : Bool) (hk : (x.id == id) = false) (w : World) : Calls Try.prog 59 #[.agg #[.int .i64 6, uv x.r.b.v, uv x.r.b.m, uv x.r.lo, uv x.r.hi, sv x.r.sl, sv x.r.sh, .int .i64 x.slot, .int .i64 x.id, .int .i64 x.low, .int .i64 x.high], .int .i64 id, .bool cell] w fun e w' => e = .returned (.agg #[.int .i64 6, uv x.r.b.v, uv x.r.b.m, uv x.r.lo, uv x.r.hi, sv x.r.sl, sv x.r.sh, .int .i64 x.slot, .int .i64 x.id, .int .i64 x.low, .int .i64 x.high]) ∧ Below w.heap.size w w' := by
  go_enter Try.func59, Try.ntmps59
  go_upto_region 1 with fail
  obtain ⟨gx, hgx⟩ : ∃ g, g = w.heap.size := ⟨_, rfl⟩
  obtain ⟨gr, hgr⟩ : ∃ g, g = w.heap.size + 1 := ⟨_, rfl⟩
  have Bx : Blk ((w.alloc (.cells #[.int .i64 6, uv x.r.b.v, uv x.r.b.m, uv x.r.lo, uv x.r.hi, sv x.r.sl, sv x.r.sh, .int .i64 x.slot, .int .i64 x.id, .int .i64 x.low, .int .i64 x.high] 29)).alloc (.cells #[.int .i64 0, .int .u64 0, .int .u64 0, .int .u64 0, .int .u64 0, .int .i64 0, .int .i64 0, .int .i64 0, .int .i64 0, .int .i64 0, .int .i64 0] 29)) (w.heap.size) 29 #[.int .i64 6, uv x.r.b.v, uv x.r.b.m, uv x.r.lo, uv x.r.hi, sv x.r.sl, sv x.r.sh, .int .i64 x.slot, .int .i64 x.id, .int .i64 x.low, .int .i64 x.high] := ((Blk.new w 29 #[.int .i64 6, uv x.r.b.v, uv x.r.b.m, uv x.r.lo, uv x.r.hi, sv x.r.sl, sv x.r.sh, .int .i64 x.slot, .int .i64 x.id, .int .i64 x.low, .int .i64 x.high])).alloc _
  have Br : Blk ((w.alloc (.cells #[.int .i64 6, uv x.r.b.v, uv x.r.b.m, uv x.r.lo, uv x.r.hi, sv x.r.sl, sv x.r.sh, .int .i64 x.slot, .int .i64 x.id, .int .i64 x.low, .int .i64 x.high] 29)).alloc (.cells #[.int .i64 0, .int .u64 0, .int .u64 0, .int .u64 0, .int .u64 0, .int .i64 0, .int .i64 0, .int .i64 0, .int .i64 0, .int .i64 0, .int .i64 0] 29)) (w.heap.size + 1) 29 #[.int .i64 0, .int .u64 0, .int .u64 0, .int .u64 0, .int .u64 0, .int .i64 0, .int .i64 0, .int .i64 0, .int .i64 0, .int .i64 0, .int .i64 0] := (by simpa using Blk.new (w.alloc (.cells #[.int .i64 6, uv x.r.b.v, uv x.r.b.m, uv x.r.lo, uv x.r.hi, sv x.r.sl, sv x.r.sh, .int .i64 x.slot, .int .i64 x.id, .int .i64 x.low, .int .i64 x.high] 29)) 29 #[.int .i64 0, .int .u64 0, .int .u64 0, .int .u64 0, .int .u64 0, .int .i64 0, .int .i64 0, .int .i64 0, .int .i64 0, .int .i64 0, .int .i64 0] : Blk _ (w.heap.size + 1) 29 #[.int .i64 0, .int .u64 0, .int .u64 0, .int .u64 0, .int .u64 0, .int .i64 0, .int .i64 0, .int .i64 0, .int .i64 0, .int .i64 0, .int .i64 0])
  have hB : Below w.heap.size w ((w.alloc (.cells #[.int .i64 6, uv x.r.b.v, uv x.r.b.m, uv x.r.lo, uv x.r.hi, sv x.r.sl, sv x.r.sh, .int .i64 x.slot, .int .i64 x.id, .int .i64 x.low, .int .i64 x.high] 29)).alloc (.cells #[.int .i64 0, .int .u64 0, .int .u64 0, .int .u64 0, .int .u64 0, .int .i64 0, .int .i64 0, .int .i64 0, .int .i64 0, .int .i64 0, .int .i64 0] 29)) := (Bl_alloc (Bl_alloc (Bl_refl w) _) _)
  clear hgx
  clear gx
  clear hgr
  clear gr
  generalize ((w.alloc (.cells #[.int .i64 6, uv x.r.b.v, uv x.r.b.m, uv x.r.lo, uv x.r.hi, sv x.r.sl, sv x.r.sh, .int .i64 x.slot, .int .i64 x.id, .int .i64 x.low, .int .i64 x.high] 29)).alloc (.cells #[.int .i64 0, .int .u64 0, .int .u64 0, .int .u64 0, .int .u64 0, .int .i64 0, .int .i64 0, .int .i64 0, .int .i64 0, .int .i64 0, .int .i64 0] 29)) = w1 at *
  have cx0 : w1.cell? ⟨w.heap.size, 0, none⟩ = some (.int .i64 6) := Bx.cell 0
  have cx1 : w1.cell? ⟨w.heap.size, 1, none⟩ = some (uv x.r.b.v) := Bx.cell 1
  have cx2 : w1.cell? ⟨w.heap.size, 2, none⟩ = some (uv x.r.b.m) := Bx.cell 2
  have cx3 : w1.cell? ⟨w.heap.size, 3, none⟩ = some (uv x.r.lo) := Bx.cell 3
  have cx4 : w1.cell? ⟨w.heap.size, 4, none⟩ = some (uv x.r.hi) := Bx.cell 4
  have cx5 : w1.cell? ⟨w.heap.size, 5, none⟩ = some (sv x.r.sl) := Bx.cell 5
  have cx6 : w1.cell? ⟨w.heap.size, 6, none⟩ = some (sv x.r.sh) := Bx.cell 6
  have cx7 : w1.cell? ⟨w.heap.size, 7, none⟩ = some (.int .i64 x.slot) := Bx.cell 7
  have cx8 : w1.cell? ⟨w.heap.size, 8, none⟩ = some (.int .i64 x.id) := Bx.cell 8
  have cx9 : w1.cell? ⟨w.heap.size, 9, none⟩ = some (.int .i64 x.low) := Bx.cell 9
  have cx10 : w1.cell? ⟨w.heap.size, 10, none⟩ = some (.int .i64 x.high) := Bx.cell 10
  have fx := Bx.frozen; have lx := Bx.lt
  have cr0 : w1.cell? ⟨w.heap.size + 1, 0, none⟩ = some (.int .i64 0) := Br.cell 0
  have cr1 : w1.cell? ⟨w.heap.size + 1, 1, none⟩ = some (.int .u64 0) := Br.cell 1
  have cr2 : w1.cell? ⟨w.heap.size + 1, 2, none⟩ = some (.int .u64 0) := Br.cell 2
  have cr3 : w1.cell? ⟨w.heap.size + 1, 3, none⟩ = some (.int .u64 0) := Br.cell 3
  have cr4 : w1.cell? ⟨w.heap.size + 1, 4, none⟩ = some (.int .u64 0) := Br.cell 4
  have cr5 : w1.cell? ⟨w.heap.size + 1, 5, none⟩ = some (.int .i64 0) := Br.cell 5
  have cr6 : w1.cell? ⟨w.heap.size + 1, 6, none⟩ = some (.int .i64 0) := Br.cell 6
  have cr7 : w1.cell? ⟨w.heap.size + 1, 7, none⟩ = some (.int .i64 0) := Br.cell 7
  have cr8 : w1.cell? ⟨w.heap.size + 1, 8, none⟩ = some (.int .i64 0) := Br.cell 8
  have cr9 : w1.cell? ⟨w.heap.size + 1, 9, none⟩ = some (.int .i64 0) := Br.cell 9
  have cr10 : w1.cell? ⟨w.heap.size + 1, 10, none⟩ = some (.int .i64 0) := Br.cell 10
  have fr := Br.frozen; have lr := Br.lt
  go_upto_region 2 with fail
  go_wp2_with (first | (refine wpList_store_whole rfl 29 (.tmp 6) (.tmp 17) rfl (w.heap.size + 1) #[.int .i64 6, uv x.r.b.v, uv x.r.b.m, uv x.r.lo, uv x.r.hi, sv x.r.sl, sv x.r.sh, .int .i64 x.slot, .int .i64 x.id, .int .i64 x.low, .int .i64 x.high] rfl rfl 29 _ Br (size_re _ _ _ _ _ _ _ _ _ _ _) rfl (by simp [Value.oneCell']) ?_) | (refine wpList_store_whole rfl 29 (.tmp 6) (.tmp 22) rfl (w.heap.size + 1) #[.int .i64 6, uv x.r.b.v, uv x.r.b.m, uv x.r.lo, uv x.r.hi, sv x.r.sl, sv x.r.sh, .int .i64 x.slot, .int .i64 x.id, .int .i64 x.low, .int .i64 x.high] rfl rfl 29 _ Br (size_re _ _ _ _ _ _ _ _ _ _ _) rfl (by simp [Value.oneCell']) ?_) | (refine wpList_store_whole rfl 29 (.tmp 6) (.tmp 24) rfl (w.heap.size + 1) #[.int .i64 6, uv x.r.b.v, uv x.r.b.m, uv x.r.lo, uv x.r.hi, sv x.r.sl, sv x.r.sh, .int .i64 x.slot, .int .i64 x.id, .int .i64 x.low, .int .i64 x.high] rfl rfl 29 _ Br (size_re _ _ _ _ _ _ _ _ _ _ _) rfl (by simp [Value.oneCell']) ?_))
  intro w2 hS
  clear cx0 cx1 cx2 cx3 cx4 cx5 cx6 cx7 cx8 cx9 cx10 fx lx
  clear cr0 cr1 cr2 cr3 cr4 cr5 cr6 cr7 cr8 cr9 cr10 fr lr
  replace Bx := hS.far (by first | (simp; done) | (simp; omega) | (simp [*]; done) | (simp only [ne_eq]; constructor <;> omega)) Bx
  replace Br : Blk w2 (w.heap.size + 1) 29 #[.int .i64 6, uv x.r.b.v, uv x.r.b.m, uv x.r.lo, uv x.r.hi, sv x.r.sl, sv x.r.sh, .int .i64 x.slot, .int .i64 x.id, .int .i64 x.low, .int .i64 x.high] := hS.blk
  replace hB := hS.bel hB (by first | omega | (simp; omega))
  clear hS
  have cx0 : w2.cell? ⟨w.heap.size, 0, none⟩ = some (.int .i64 6) := Bx.cell 0
  have cx1 : w2.cell? ⟨w.heap.size, 1, none⟩ = some (uv x.r.b.v) := Bx.cell 1
  have cx2 : w2.cell? ⟨w.heap.size, 2, none⟩ = some (uv x.r.b.m) := Bx.cell 2
  have cx3 : w2.cell? ⟨w.heap.size, 3, none⟩ = some (uv x.r.lo) := Bx.cell 3
  have cx4 : w2.cell? ⟨w.heap.size, 4, none⟩ = some (uv x.r.hi) := Bx.cell 4
  have cx5 : w2.cell? ⟨w.heap.size, 5, none⟩ = some (sv x.r.sl) := Bx.cell 5
  have cx6 : w2.cell? ⟨w.heap.size, 6, none⟩ = some (sv x.r.sh) := Bx.cell 6
  have cx7 : w2.cell? ⟨w.heap.size, 7, none⟩ = some (.int .i64 x.slot) := Bx.cell 7
  have cx8 : w2.cell? ⟨w.heap.size, 8, none⟩ = some (.int .i64 x.id) := Bx.cell 8
  have cx9 : w2.cell? ⟨w.heap.size, 9, none⟩ = some (.int .i64 x.low) := Bx.cell 9
  have cx10 : w2.cell? ⟨w.heap.size, 10, none⟩ = some (.int .i64 x.high) := Bx.cell 10
  have fx := Bx.frozen; have lx := Bx.lt
  have cr0 : w2.cell? ⟨w.heap.size + 1, 0, none⟩ = some (.int .i64 6) := Br.cell 0
  have cr1 : w2.cell? ⟨w.heap.size + 1, 1, none⟩ = some (uv x.r.b.v) := Br.cell 1
  have cr2 : w2.cell? ⟨w.heap.size + 1, 2, none⟩ = some (uv x.r.b.m) := Br.cell 2
  have cr3 : w2.cell? ⟨w.heap.size + 1, 3, none⟩ = some (uv x.r.lo) := Br.cell 3
  have cr4 : w2.cell? ⟨w.heap.size + 1, 4, none⟩ = some (uv x.r.hi) := Br.cell 4
  have cr5 : w2.cell? ⟨w.heap.size + 1, 5, none⟩ = some (sv x.r.sl) := Br.cell 5
  have cr6 : w2.cell? ⟨w.heap.size + 1, 6, none⟩ = some (sv x.r.sh) := Br.cell 6
  have cr7 : w2.cell? ⟨w.heap.size + 1, 7, none⟩ = some (.int .i64 x.slot) := Br.cell 7
  have cr8 : w2.cell? ⟨w.heap.size + 1, 8, none⟩ = some (.int .i64 x.id) := Br.cell 8
  have cr9 : w2.cell? ⟨w.heap.size + 1, 9, none⟩ = some (.int .i64 x.low) := Br.cell 9
  have cr10 : w2.cell? ⟨w.heap.size + 1, 10, none⟩ = some (.int .i64 x.high) := Br.cell 10
  have fr := Br.frozen; have lr := Br.lt
  go_wp2
  exact bodyPost_ret (v := .agg #[.int .i64 6, uv x.r.b.v, uv x.r.b.m, uv x.r.lo, uv x.r.hi, sv x.r.sl, sv x.r.sh, .int .i64 x.slot, .int .i64 x.id, .int .i64 x.low, .int .i64 x.high]) (by simp [results, Try.results59, go_sem, cr0, cr1, cr2, cr3, cr4, cr5, cr6, cr7, cr8, cr9, cr10, lr]) rfl ⟨rfl, by repeat (first | (with_reducible exact hB) | (with_reducible refine Bl_set ?_ (by first | omega | (simp; done) | (simp; omega)) _) | with_reducible apply Bl_alloc)⟩
set_option maxRecDepth 100000 in
set_option maxHeartbeats 400000 in
theorem stl_c (x : Rg) (id : Int) (hk : (x.id == id) = true) (w : World) : Calls Try.prog 59 #[.agg #[.int .i64 6, uv x.r.b.v, uv x.r.b.m, uv x.r.lo, uv x.r.hi, sv x.r.sl, sv x.r.sh, .int .i64 x.slot, .int .i64 x.id, .int .i64 x.low, .int .i64 x.high], .int .i64 id, .bool true] w fun e w' => e = .returned (.agg #[.int .i64 5, .int .u64 0, .int .u64 0, .int .u64 0, .int .u64 0, .int .i64 0, .int .i64 0, .int .i64 x.slot, .int .i64 0, .int .i64 0, .int .i64 0]) ∧ Below w.heap.size w w' := by
  go_enter Try.func59, Try.ntmps59
  go_upto_region 1 with fail
  obtain ⟨gx, hgx⟩ : ∃ g, g = w.heap.size := ⟨_, rfl⟩
  obtain ⟨gr, hgr⟩ : ∃ g, g = w.heap.size + 1 := ⟨_, rfl⟩
  have Bx : Blk ((w.alloc (.cells #[.int .i64 6, uv x.r.b.v, uv x.r.b.m, uv x.r.lo, uv x.r.hi, sv x.r.sl, sv x.r.sh, .int .i64 x.slot, .int .i64 x.id, .int .i64 x.low, .int .i64 x.high] 29)).alloc (.cells #[.int .i64 0, .int .u64 0, .int .u64 0, .int .u64 0, .int .u64 0, .int .i64 0, .int .i64 0, .int .i64 0, .int .i64 0, .int .i64 0, .int .i64 0] 29)) (w.heap.size) 29 #[.int .i64 6, uv x.r.b.v, uv x.r.b.m, uv x.r.lo, uv x.r.hi, sv x.r.sl, sv x.r.sh, .int .i64 x.slot, .int .i64 x.id, .int .i64 x.low, .int .i64 x.high] := ((Blk.new w 29 #[.int .i64 6, uv x.r.b.v, uv x.r.b.m, uv x.r.lo, uv x.r.hi, sv x.r.sl, sv x.r.sh, .int .i64 x.slot, .int .i64 x.id, .int .i64 x.low, .int .i64 x.high])).alloc _
  have Br : Blk ((w.alloc (.cells #[.int .i64 6, uv x.r.b.v, uv x.r.b.m, uv x.r.lo, uv x.r.hi, sv x.r.sl, sv x.r.sh, .int .i64 x.slot, .int .i64 x.id, .int .i64 x.low, .int .i64 x.high] 29)).alloc (.cells #[.int .i64 0, .int .u64 0, .int .u64 0, .int .u64 0, .int .u64 0, .int .i64 0, .int .i64 0, .int .i64 0, .int .i64 0, .int .i64 0, .int .i64 0] 29)) (w.heap.size + 1) 29 #[.int .i64 0, .int .u64 0, .int .u64 0, .int .u64 0, .int .u64 0, .int .i64 0, .int .i64 0, .int .i64 0, .int .i64 0, .int .i64 0, .int .i64 0] := (by simpa using Blk.new (w.alloc (.cells #[.int .i64 6, uv x.r.b.v, uv x.r.b.m, uv x.r.lo, uv x.r.hi, sv x.r.sl, sv x.r.sh, .int .i64 x.slot, .int .i64 x.id, .int .i64 x.low, .int .i64 x.high] 29)) 29 #[.int .i64 0, .int .u64 0, .int .u64 0, .int .u64 0, .int .u64 0, .int .i64 0, .int .i64 0, .int .i64 0, .int .i64 0, .int .i64 0, .int .i64 0] : Blk _ (w.heap.size + 1) 29 #[.int .i64 0, .int .u64 0, .int .u64 0, .int .u64 0, .int .u64 0, .int .i64 0, .int .i64 0, .int .i64 0, .int .i64 0, .int .i64 0, .int .i64 0])
  have hB : Below w.heap.size w ((w.alloc (.cells #[.int .i64 6, uv x.r.b.v, uv x.r.b.m, uv x.r.lo, uv x.r.hi, sv x.r.sl, sv x.r.sh, .int .i64 x.slot, .int .i64 x.id, .int .i64 x.low, .int .i64 x.high] 29)).alloc (.cells #[.int .i64 0, .int .u64 0, .int .u64 0, .int .u64 0, .int .u64 0, .int .i64 0, .int .i64 0, .int .i64 0, .int .i64 0, .int .i64 0, .int .i64 0] 29)) := (Bl_alloc (Bl_alloc (Bl_refl w) _) _)
  clear hgx
  clear gx
  clear hgr
  clear gr
  generalize ((w.alloc (.cells #[.int .i64 6, uv x.r.b.v, uv x.r.b.m, uv x.r.lo, uv x.r.hi, sv x.r.sl, sv x.r.sh, .int .i64 x.slot, .int .i64 x.id, .int .i64 x.low, .int .i64 x.high] 29)).alloc (.cells #[.int .i64 0, .int .u64 0, .int .u64 0, .int .u64 0, .int .u64 0, .int .i64 0, .int .i64 0, .int .i64 0, .int .i64 0, .int .i64 0, .int .i64 0] 29)) = w1 at *
  have cx0 : w1.cell? ⟨w.heap.size, 0, none⟩ = some (.int .i64 6) := Bx.cell 0
  have cx1 : w1.cell? ⟨w.heap.size, 1, none⟩ = some (uv x.r.b.v) := Bx.cell 1
  have cx2 : w1.cell? ⟨w.heap.size, 2, none⟩ = some (uv x.r.b.m) := Bx.cell 2
  have cx3 : w1.cell? ⟨w.heap.size, 3, none⟩ = some (uv x.r.lo) := Bx.cell 3
  have cx4 : w1.cell? ⟨w.heap.size, 4, none⟩ = some (uv x.r.hi) := Bx.cell 4
  have cx5 : w1.cell? ⟨w.heap.size, 5, none⟩ = some (sv x.r.sl) := Bx.cell 5
  have cx6 : w1.cell? ⟨w.heap.size, 6, none⟩ = some (sv x.r.sh) := Bx.cell 6
  have cx7 : w1.cell? ⟨w.heap.size, 7, none⟩ = some (.int .i64 x.slot) := Bx.cell 7
  have cx8 : w1.cell? ⟨w.heap.size, 8, none⟩ = some (.int .i64 x.id) := Bx.cell 8
  have cx9 : w1.cell? ⟨w.heap.size, 9, none⟩ = some (.int .i64 x.low) := Bx.cell 9
  have cx10 : w1.cell? ⟨w.heap.size, 10, none⟩ = some (.int .i64 x.high) := Bx.cell 10
  have fx := Bx.frozen; have lx := Bx.lt
  have cr0 : w1.cell? ⟨w.heap.size + 1, 0, none⟩ = some (.int .i64 0) := Br.cell 0
  have cr1 : w1.cell? ⟨w.heap.size + 1, 1, none⟩ = some (.int .u64 0) := Br.cell 1
  have cr2 : w1.cell? ⟨w.heap.size + 1, 2, none⟩ = some (.int .u64 0) := Br.cell 2
  have cr3 : w1.cell? ⟨w.heap.size + 1, 3, none⟩ = some (.int .u64 0) := Br.cell 3
  have cr4 : w1.cell? ⟨w.heap.size + 1, 4, none⟩ = some (.int .u64 0) := Br.cell 4
  have cr5 : w1.cell? ⟨w.heap.size + 1, 5, none⟩ = some (.int .i64 0) := Br.cell 5
  have cr6 : w1.cell? ⟨w.heap.size + 1, 6, none⟩ = some (.int .i64 0) := Br.cell 6
  have cr7 : w1.cell? ⟨w.heap.size + 1, 7, none⟩ = some (.int .i64 0) := Br.cell 7
  have cr8 : w1.cell? ⟨w.heap.size + 1, 8, none⟩ = some (.int .i64 0) := Br.cell 8
  have cr9 : w1.cell? ⟨w.heap.size + 1, 9, none⟩ = some (.int .i64 0) := Br.cell 9
  have cr10 : w1.cell? ⟨w.heap.size + 1, 10, none⟩ = some (.int .i64 0) := Br.cell 10
  have fr := Br.frozen; have lr := Br.lt
  go_upto_region 4 with fail
  go_wp2_with (first | (refine wpList_store_whole rfl 29 (.tmp 6) (.tmp 17) rfl (w.heap.size + 1) #[.int .i64 5, .int .u64 0, .int .u64 0, .int .u64 0, .int .u64 0, .int .i64 0, .int .i64 0, .int .i64 x.slot, .int .i64 0, .int .i64 0, .int .i64 0] rfl rfl 29 _ Br (size_re _ _ _ _ _ _ _ _ _ _ _) rfl (by simp [Value.oneCell']) ?_) | (refine wpList_store_whole rfl 29 (.tmp 6) (.tmp 22) rfl (w.heap.size + 1) #[.int .i64 5, .int .u64 0, .int .u64 0, .int .u64 0, .int .u64 0, .int .i64 0, .int .i64 0, .int .i64 x.slot, .int .i64 0, .int .i64 0, .int .i64 0] rfl rfl 29 _ Br (size_re _ _ _ _ _ _ _ _ _ _ _) rfl (by simp [Value.oneCell']) ?_) | (refine wpList_store_whole rfl 29 (.tmp 6) (.tmp 24) rfl (w.heap.size + 1) #[.int .i64 5, .int .u64 0, .int .u64 0, .int .u64 0, .int .u64 0, .int .i64 0, .int .i64 0, .int .i64 x.slot, .int .i64 0, .int .i64 0, .int .i64 0] rfl rfl 29 _ Br (size_re _ _ _ _ _ _ _ _ _ _ _) rfl (by simp [Value.oneCell']) ?_))
  intro w2 hS
  clear cx0 cx1 cx2 cx3 cx4 cx5 cx6 cx7 cx8 cx9 cx10 fx lx
  clear cr0 cr1 cr2 cr3 cr4 cr5 cr6 cr7 cr8 cr9 cr10 fr lr
  replace Bx := hS.far (by first | (simp; done) | (simp; omega) | (simp [*]; done) | (simp only [ne_eq]; constructor <;> omega)) Bx
  replace Br : Blk w2 (w.heap.size + 1) 29 #[.int .i64 5, .int .u64 0, .int .u64 0, .int .u64 0, .int .u64 0, .int .i64 0, .int .i64 0, .int .i64 x.slot, .int .i64 0, .int .i64 0, .int .i64 0] := hS.blk
  replace hB := hS.bel hB (by first | omega | (simp; omega))
  clear hS
  have cx0 : w2.cell? ⟨w.heap.size, 0, none⟩ = some (.int .i64 6) := Bx.cell 0
  have cx1 : w2.cell? ⟨w.heap.size, 1, none⟩ = some (uv x.r.b.v) := Bx.cell 1
  have cx2 : w2.cell? ⟨w.heap.size, 2, none⟩ = some (uv x.r.b.m) := Bx.cell 2
  have cx3 : w2.cell? ⟨w.heap.size, 3, none⟩ = some (uv x.r.lo) := Bx.cell 3
  have cx4 : w2.cell? ⟨w.heap.size, 4, none⟩ = some (uv x.r.hi) := Bx.cell 4
  have cx5 : w2.cell? ⟨w.heap.size, 5, none⟩ = some (sv x.r.sl) := Bx.cell 5
  have cx6 : w2.cell? ⟨w.heap.size, 6, none⟩ = some (sv x.r.sh) := Bx.cell 6
  have cx7 : w2.cell? ⟨w.heap.size, 7, none⟩ = some (.int .i64 x.slot) := Bx.cell 7
  have cx8 : w2.cell? ⟨w.heap.size, 8, none⟩ = some (.int .i64 x.id) := Bx.cell 8
  have cx9 : w2.cell? ⟨w.heap.size, 9, none⟩ = some (.int .i64 x.low) := Bx.cell 9
  have cx10 : w2.cell? ⟨w.heap.size, 10, none⟩ = some (.int .i64 x.high) := Bx.cell 10
  have fx := Bx.frozen; have lx := Bx.lt
  have cr0 : w2.cell? ⟨w.heap.size + 1, 0, none⟩ = some (.int .i64 5) := Br.cell 0
  have cr1 : w2.cell? ⟨w.heap.size + 1, 1, none⟩ = some (.int .u64 0) := Br.cell 1
  have cr2 : w2.cell? ⟨w.heap.size + 1, 2, none⟩ = some (.int .u64 0) := Br.cell 2
  have cr3 : w2.cell? ⟨w.heap.size + 1, 3, none⟩ = some (.int .u64 0) := Br.cell 3
  have cr4 : w2.cell? ⟨w.heap.size + 1, 4, none⟩ = some (.int .u64 0) := Br.cell 4
  have cr5 : w2.cell? ⟨w.heap.size + 1, 5, none⟩ = some (.int .i64 0) := Br.cell 5
  have cr6 : w2.cell? ⟨w.heap.size + 1, 6, none⟩ = some (.int .i64 0) := Br.cell 6
  have cr7 : w2.cell? ⟨w.heap.size + 1, 7, none⟩ = some (.int .i64 x.slot) := Br.cell 7
  have cr8 : w2.cell? ⟨w.heap.size + 1, 8, none⟩ = some (.int .i64 0) := Br.cell 8
  have cr9 : w2.cell? ⟨w.heap.size + 1, 9, none⟩ = some (.int .i64 0) := Br.cell 9
  have cr10 : w2.cell? ⟨w.heap.size + 1, 10, none⟩ = some (.int .i64 0) := Br.cell 10
  have fr := Br.frozen; have lr := Br.lt
  go_wp2
  exact bodyPost_ret (v := .agg #[.int .i64 5, .int .u64 0, .int .u64 0, .int .u64 0, .int .u64 0, .int .i64 0, .int .i64 0, .int .i64 x.slot, .int .i64 0, .int .i64 0, .int .i64 0]) (by simp [results, Try.results59, go_sem, cr0, cr1, cr2, cr3, cr4, cr5, cr6, cr7, cr8, cr9, cr10, lr]) rfl ⟨rfl, by repeat (first | (with_reducible exact hB) | (with_reducible refine Bl_set ?_ (by first | omega | (simp; done) | (simp; omega)) _) | with_reducible apply Bl_alloc)⟩
set_option maxRecDepth 100000 in
set_option maxHeartbeats 400000 in
theorem stl_n (x : Rg) (id : Int) (hk : (x.id == id) = true) (v : Rng) (k_c : ∀ w : World, Calls Try.prog 34 #[.int .u64 0] w fun e w' => e = .returned (rv v) ∧ Below w.heap.size w w') (w : World) : Calls Try.prog 59 #[.agg #[.int .i64 6, uv x.r.b.v, uv x.r.b.m, uv x.r.lo, uv x.r.hi, sv x.r.sl, sv x.r.sh, .int .i64 x.slot, .int .i64 x.id, .int .i64 x.low, .int .i64 x.high], .int .i64 id, .bool false] w fun e w' => e = .returned (gv (PlainAbs.number v)) ∧ Below w.heap.size w w' := by
  go_enter Try.func59, Try.ntmps59
  go_upto_region 1 with fail
  obtain ⟨gx, hgx⟩ : ∃ g, g = w.heap.size := ⟨_, rfl⟩
  obtain ⟨gr, hgr⟩ : ∃ g, g = w.heap.size + 1 := ⟨_, rfl⟩
  have Bx : Blk ((w.alloc (.cells #[.int .i64 6, uv x.r.b.v, uv x.r.b.m, uv x.r.lo, uv x.r.hi, sv x.r.sl, sv x.r.sh, .int .i64 x.slot, .int .i64 x.id, .int .i64 x.low, .int .i64 x.high] 29)).alloc (.cells #[.int .i64 0, .int .u64 0, .int .u64 0, .int .u64 0, .int .u64 0, .int .i64 0, .int .i64 0, .int .i64 0, .int .i64 0, .int .i64 0, .int .i64 0] 29)) (w.heap.size) 29 #[.int .i64 6, uv x.r.b.v, uv x.r.b.m, uv x.r.lo, uv x.r.hi, sv x.r.sl, sv x.r.sh, .int .i64 x.slot, .int .i64 x.id, .int .i64 x.low, .int .i64 x.high] := ((Blk.new w 29 #[.int .i64 6, uv x.r.b.v, uv x.r.b.m, uv x.r.lo, uv x.r.hi, sv x.r.sl, sv x.r.sh, .int .i64 x.slot, .int .i64 x.id, .int .i64 x.low, .int .i64 x.high])).alloc _
  have Br : Blk ((w.alloc (.cells #[.int .i64 6, uv x.r.b.v, uv x.r.b.m, uv x.r.lo, uv x.r.hi, sv x.r.sl, sv x.r.sh, .int .i64 x.slot, .int .i64 x.id, .int .i64 x.low, .int .i64 x.high] 29)).alloc (.cells #[.int .i64 0, .int .u64 0, .int .u64 0, .int .u64 0, .int .u64 0, .int .i64 0, .int .i64 0, .int .i64 0, .int .i64 0, .int .i64 0, .int .i64 0] 29)) (w.heap.size + 1) 29 #[.int .i64 0, .int .u64 0, .int .u64 0, .int .u64 0, .int .u64 0, .int .i64 0, .int .i64 0, .int .i64 0, .int .i64 0, .int .i64 0, .int .i64 0] := (by simpa using Blk.new (w.alloc (.cells #[.int .i64 6, uv x.r.b.v, uv x.r.b.m, uv x.r.lo, uv x.r.hi, sv x.r.sl, sv x.r.sh, .int .i64 x.slot, .int .i64 x.id, .int .i64 x.low, .int .i64 x.high] 29)) 29 #[.int .i64 0, .int .u64 0, .int .u64 0, .int .u64 0, .int .u64 0, .int .i64 0, .int .i64 0, .int .i64 0, .int .i64 0, .int .i64 0, .int .i64 0] : Blk _ (w.heap.size + 1) 29 #[.int .i64 0, .int .u64 0, .int .u64 0, .int .u64 0, .int .u64 0, .int .i64 0, .int .i64 0, .int .i64 0, .int .i64 0, .int .i64 0, .int .i64 0])
  have hB : Below w.heap.size w ((w.alloc (.cells #[.int .i64 6, uv x.r.b.v, uv x.r.b.m, uv x.r.lo, uv x.r.hi, sv x.r.sl, sv x.r.sh, .int .i64 x.slot, .int .i64 x.id, .int .i64 x.low, .int .i64 x.high] 29)).alloc (.cells #[.int .i64 0, .int .u64 0, .int .u64 0, .int .u64 0, .int .u64 0, .int .i64 0, .int .i64 0, .int .i64 0, .int .i64 0, .int .i64 0, .int .i64 0] 29)) := (Bl_alloc (Bl_alloc (Bl_refl w) _) _)
  clear hgx
  clear gx
  clear hgr
  clear gr
  generalize ((w.alloc (.cells #[.int .i64 6, uv x.r.b.v, uv x.r.b.m, uv x.r.lo, uv x.r.hi, sv x.r.sl, sv x.r.sh, .int .i64 x.slot, .int .i64 x.id, .int .i64 x.low, .int .i64 x.high] 29)).alloc (.cells #[.int .i64 0, .int .u64 0, .int .u64 0, .int .u64 0, .int .u64 0, .int .i64 0, .int .i64 0, .int .i64 0, .int .i64 0, .int .i64 0, .int .i64 0] 29)) = w1 at *
  have cx0 : w1.cell? ⟨w.heap.size, 0, none⟩ = some (.int .i64 6) := Bx.cell 0
  have cx1 : w1.cell? ⟨w.heap.size, 1, none⟩ = some (uv x.r.b.v) := Bx.cell 1
  have cx2 : w1.cell? ⟨w.heap.size, 2, none⟩ = some (uv x.r.b.m) := Bx.cell 2
  have cx3 : w1.cell? ⟨w.heap.size, 3, none⟩ = some (uv x.r.lo) := Bx.cell 3
  have cx4 : w1.cell? ⟨w.heap.size, 4, none⟩ = some (uv x.r.hi) := Bx.cell 4
  have cx5 : w1.cell? ⟨w.heap.size, 5, none⟩ = some (sv x.r.sl) := Bx.cell 5
  have cx6 : w1.cell? ⟨w.heap.size, 6, none⟩ = some (sv x.r.sh) := Bx.cell 6
  have cx7 : w1.cell? ⟨w.heap.size, 7, none⟩ = some (.int .i64 x.slot) := Bx.cell 7
  have cx8 : w1.cell? ⟨w.heap.size, 8, none⟩ = some (.int .i64 x.id) := Bx.cell 8
  have cx9 : w1.cell? ⟨w.heap.size, 9, none⟩ = some (.int .i64 x.low) := Bx.cell 9
  have cx10 : w1.cell? ⟨w.heap.size, 10, none⟩ = some (.int .i64 x.high) := Bx.cell 10
  have fx := Bx.frozen; have lx := Bx.lt
  have cr0 : w1.cell? ⟨w.heap.size + 1, 0, none⟩ = some (.int .i64 0) := Br.cell 0
  have cr1 : w1.cell? ⟨w.heap.size + 1, 1, none⟩ = some (.int .u64 0) := Br.cell 1
  have cr2 : w1.cell? ⟨w.heap.size + 1, 2, none⟩ = some (.int .u64 0) := Br.cell 2
  have cr3 : w1.cell? ⟨w.heap.size + 1, 3, none⟩ = some (.int .u64 0) := Br.cell 3
  have cr4 : w1.cell? ⟨w.heap.size + 1, 4, none⟩ = some (.int .u64 0) := Br.cell 4
  have cr5 : w1.cell? ⟨w.heap.size + 1, 5, none⟩ = some (.int .i64 0) := Br.cell 5
  have cr6 : w1.cell? ⟨w.heap.size + 1, 6, none⟩ = some (.int .i64 0) := Br.cell 6
  have cr7 : w1.cell? ⟨w.heap.size + 1, 7, none⟩ = some (.int .i64 0) := Br.cell 7
  have cr8 : w1.cell? ⟨w.heap.size + 1, 8, none⟩ = some (.int .i64 0) := Br.cell 8
  have cr9 : w1.cell? ⟨w.heap.size + 1, 9, none⟩ = some (.int .i64 0) := Br.cell 9
  have cr10 : w1.cell? ⟨w.heap.size + 1, 10, none⟩ = some (.int .i64 0) := Br.cell 10
  have fr := Br.frozen; have lr := Br.lt
  go_wp2_with fail
  refine (k_c _).mono ?_
  rintro e w2 ⟨rfl, hb⟩
  clear cx0 cx1 cx2 cx3 cx4 cx5 cx6 cx7 cx8 cx9 cx10 fx lx
  clear cr0 cr1 cr2 cr3 cr4 cr5 cr6 cr7 cr8 cr9 cr10 fr lr
  replace Bx := (Bx).next hb
  replace Br := (Br).next hb
  replace hB : Below w.heap.size w w2 := by repeat (first | exact hB | (refine Bl_set ?_ (by first | omega | (simp; omega)) _) | apply Bl_alloc | (refine Bl_trans ?_ hb))
  clear hb
  have cx0 : w2.cell? ⟨w.heap.size, 0, none⟩ = some (.int .i64 6) := Bx.cell 0
  have cx1 : w2.cell? ⟨w.heap.size, 1, none⟩ = some (uv x.r.b.v) := Bx.cell 1
  have cx2 : w2.cell? ⟨w.heap.size, 2, none⟩ = some (uv x.r.b.m) := Bx.cell 2
  have cx3 : w2.cell? ⟨w.heap.size, 3, none⟩ = some (uv x.r.lo) := Bx.cell 3
  have cx4 : w2.cell? ⟨w.heap.size, 4, none⟩ = some (uv x.r.hi) := Bx.cell 4
  have cx5 : w2.cell? ⟨w.heap.size, 5, none⟩ = some (sv x.r.sl) := Bx.cell 5
  have cx6 : w2.cell? ⟨w.heap.size, 6, none⟩ = some (sv x.r.sh) := Bx.cell 6
  have cx7 : w2.cell? ⟨w.heap.size, 7, none⟩ = some (.int .i64 x.slot) := Bx.cell 7
  have cx8 : w2.cell? ⟨w.heap.size, 8, none⟩ = some (.int .i64 x.id) := Bx.cell 8
  have cx9 : w2.cell? ⟨w.heap.size, 9, none⟩ = some (.int .i64 x.low) := Bx.cell 9
  have cx10 : w2.cell? ⟨w.heap.size, 10, none⟩ = some (.int .i64 x.high) := Bx.cell 10
  have fx := Bx.frozen; have lx := Bx.lt
  have cr0 : w2.cell? ⟨w.heap.size + 1, 0, none⟩ = some (.int .i64 0) := Br.cell 0
  have cr1 : w2.cell? ⟨w.heap.size + 1, 1, none⟩ = some (.int .u64 0) := Br.cell 1
  have cr2 : w2.cell? ⟨w.heap.size + 1, 2, none⟩ = some (.int .u64 0) := Br.cell 2
  have cr3 : w2.cell? ⟨w.heap.size + 1, 3, none⟩ = some (.int .u64 0) := Br.cell 3
  have cr4 : w2.cell? ⟨w.heap.size + 1, 4, none⟩ = some (.int .u64 0) := Br.cell 4
  have cr5 : w2.cell? ⟨w.heap.size + 1, 5, none⟩ = some (.int .i64 0) := Br.cell 5
  have cr6 : w2.cell? ⟨w.heap.size + 1, 6, none⟩ = some (.int .i64 0) := Br.cell 6
  have cr7 : w2.cell? ⟨w.heap.size + 1, 7, none⟩ = some (.int .i64 0) := Br.cell 7
  have cr8 : w2.cell? ⟨w.heap.size + 1, 8, none⟩ = some (.int .i64 0) := Br.cell 8
  have cr9 : w2.cell? ⟨w.heap.size + 1, 9, none⟩ = some (.int .i64 0) := Br.cell 9
  have cr10 : w2.cell? ⟨w.heap.size + 1, 10, none⟩ = some (.int .i64 0) := Br.cell 10
  have fr := Br.frozen; have lr := Br.lt
  go_wp2_with (first | (refine wpList_store_whole rfl 29 (.tmp 6) (.tmp 17) rfl (w.heap.size + 1) #[.int .i64 1, uv v.b.v, uv v.b.m, uv v.lo, uv v.hi, sv v.sl, sv v.sh, .int .i64 0, .int .i64 0, .int .i64 0, .int .i64 0] rfl rfl 29 _ Br (size_re _ _ _ _ _ _ _ _ _ _ _) rfl (by simp [Value.oneCell']) ?_) | (refine wpList_store_whole rfl 29 (.tmp 6) (.tmp 22) rfl (w.heap.size + 1) #[.int .i64 1, uv v.b.v, uv v.b.m, uv v.lo, uv v.hi, sv v.sl, sv v.sh, .int .i64 0, .int .i64 0, .int .i64 0, .int .i64 0] rfl rfl 29 _ Br (size_re _ _ _ _ _ _ _ _ _ _ _) rfl (by simp [Value.oneCell']) ?_) | (refine wpList_store_whole rfl 29 (.tmp 6) (.tmp 24) rfl (w.heap.size + 1) #[.int .i64 1, uv v.b.v, uv v.b.m, uv v.lo, uv v.hi, sv v.sl, sv v.sh, .int .i64 0, .int .i64 0, .int .i64 0, .int .i64 0] rfl rfl 29 _ Br (size_re _ _ _ _ _ _ _ _ _ _ _) rfl (by simp [Value.oneCell']) ?_))
  intro w3 hS
  clear cx0 cx1 cx2 cx3 cx4 cx5 cx6 cx7 cx8 cx9 cx10 fx lx
  clear cr0 cr1 cr2 cr3 cr4 cr5 cr6 cr7 cr8 cr9 cr10 fr lr
  replace Bx := hS.far (by first | (simp; done) | (simp; omega) | (simp [*]; done) | (simp only [ne_eq]; constructor <;> omega)) Bx
  replace Br : Blk w3 (w.heap.size + 1) 29 #[.int .i64 1, uv v.b.v, uv v.b.m, uv v.lo, uv v.hi, sv v.sl, sv v.sh, .int .i64 0, .int .i64 0, .int .i64 0, .int .i64 0] := hS.blk
  replace hB := hS.bel hB (by first | omega | (simp; omega))
  clear hS
  have cx0 : w3.cell? ⟨w.heap.size, 0, none⟩ = some (.int .i64 6) := Bx.cell 0
  have cx1 : w3.cell? ⟨w.heap.size, 1, none⟩ = some (uv x.r.b.v) := Bx.cell 1
  have cx2 : w3.cell? ⟨w.heap.size, 2, none⟩ = some (uv x.r.b.m) := Bx.cell 2
  have cx3 : w3.cell? ⟨w.heap.size, 3, none⟩ = some (uv x.r.lo) := Bx.cell 3
  have cx4 : w3.cell? ⟨w.heap.size, 4, none⟩ = some (uv x.r.hi) := Bx.cell 4
  have cx5 : w3.cell? ⟨w.heap.size, 5, none⟩ = some (sv x.r.sl) := Bx.cell 5
  have cx6 : w3.cell? ⟨w.heap.size, 6, none⟩ = some (sv x.r.sh) := Bx.cell 6
  have cx7 : w3.cell? ⟨w.heap.size, 7, none⟩ = some (.int .i64 x.slot) := Bx.cell 7
  have cx8 : w3.cell? ⟨w.heap.size, 8, none⟩ = some (.int .i64 x.id) := Bx.cell 8
  have cx9 : w3.cell? ⟨w.heap.size, 9, none⟩ = some (.int .i64 x.low) := Bx.cell 9
  have cx10 : w3.cell? ⟨w.heap.size, 10, none⟩ = some (.int .i64 x.high) := Bx.cell 10
  have fx := Bx.frozen; have lx := Bx.lt
  have cr0 : w3.cell? ⟨w.heap.size + 1, 0, none⟩ = some (.int .i64 1) := Br.cell 0
  have cr1 : w3.cell? ⟨w.heap.size + 1, 1, none⟩ = some (uv v.b.v) := Br.cell 1
  have cr2 : w3.cell? ⟨w.heap.size + 1, 2, none⟩ = some (uv v.b.m) := Br.cell 2
  have cr3 : w3.cell? ⟨w.heap.size + 1, 3, none⟩ = some (uv v.lo) := Br.cell 3
  have cr4 : w3.cell? ⟨w.heap.size + 1, 4, none⟩ = some (uv v.hi) := Br.cell 4
  have cr5 : w3.cell? ⟨w.heap.size + 1, 5, none⟩ = some (sv v.sl) := Br.cell 5
  have cr6 : w3.cell? ⟨w.heap.size + 1, 6, none⟩ = some (sv v.sh) := Br.cell 6
  have cr7 : w3.cell? ⟨w.heap.size + 1, 7, none⟩ = some (.int .i64 0) := Br.cell 7
  have cr8 : w3.cell? ⟨w.heap.size + 1, 8, none⟩ = some (.int .i64 0) := Br.cell 8
  have cr9 : w3.cell? ⟨w.heap.size + 1, 9, none⟩ = some (.int .i64 0) := Br.cell 9
  have cr10 : w3.cell? ⟨w.heap.size + 1, 10, none⟩ = some (.int .i64 0) := Br.cell 10
  have fr := Br.frozen; have lr := Br.lt
  go_wp2
  exact bodyPost_ret (v := gv (PlainAbs.number v)) (by simp [results, Try.results59, go_sem, cr0, cr1, cr2, cr3, cr4, cr5, cr6, cr7, cr8, cr9, cr10, lr, PlainAbs.number, PlainAbs.zr]) rfl ⟨rfl, by repeat (first | (with_reducible exact hB) | (with_reducible refine Bl_set ?_ (by first | omega | (simp; done) | (simp; omega)) _) | with_reducible apply Bl_alloc)⟩
theorem asettled_c (x : Rg) (id : Int) (cell : Bool) (w : World) : Calls Try.prog 59 #[gv x, .int .i64 id, .bool cell] w fun e w' => e = .returned (gv (PlainAbs.setl x id cell)) ∧ Below w.heap.size w w' := by
  obtain ⟨k, r, sl, i, l, u⟩ := x
  unfold PlainAbs.setl
  simp only []
  cases hk : (k == 6)
  · exact stl_k ⟨k, r, sl, i, l, u⟩ id cell k hk w
  · obtain rfl : k = 6 := by simpa using hk
    rw [if_neg (by decide)]
    cases hi : (i == id)
    · exact stl_i ⟨6, r, sl, i, l, u⟩ id cell hi w
    · rw [if_neg (by decide)]
      cases cell
      · exact stl_n ⟨6, r, sl, i, l, u⟩ id hi _ (sconst_c 0#64) w
      · exact stl_c ⟨6, r, sl, i, l, u⟩ id hi w
end Go.Proofs.Ytmghpoagpiljhab
