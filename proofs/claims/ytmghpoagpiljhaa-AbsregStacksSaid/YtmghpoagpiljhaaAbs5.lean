/- The walks of package absreg: Save. -/
import Derived.Test.YtmghpoagpiljhaaAbs4
set_option linter.unusedSimpArgs false
set_option linter.unusedVariables false
namespace Go.Proofs.Ytmghpoagpiljhaa
open Go.RowKit
open PlainTnum (N)
open PlainScalar (Rng)
open PlainAbs (Rg St zr zs upd)
theorem zero_bool (w : World) : (zeroValue 4).run Try.prog w = .ok (.bool false) w := by kernel_rfl
set_option maxRecDepth 100000 in
set_option maxHeartbeats 800000 in
theorem save_unsized (s : St) (z : Int) (n : Int) (v : Int) (b : Bool) (hz : PlainAbs.sized n = false) (h8 : (n == 8) = false) (x : Rg) (k_f : ∀ w : World, Calls Try.prog 61 #[.int .i64 z, .int .i64 n] w fun e w' => e = .returned (.tuple #[.int .i64 v, .bool b]) ∧ w = w') (w : World) : Calls Try.prog 48 #[.agg (stv s), .int .i64 z, .int .i64 n, gv x] w fun e w' => e = .returned (.tuple #[.agg (stv s), .bool false]) ∧ Below w.heap.size w w' := by
  have h8' : ¬ n = 8 := by simpa using h8
  have k_z := sized_c n; rw [hz] at k_z; clear hz
  have hzs := zero_st
  go_enter Try.func48, Try.ntmps48
  go_wp2_with fail
  obtain ⟨gs, hgs⟩ : ∃ g, g = w.heap.size := ⟨_, rfl⟩
  obtain ⟨gx, hgx⟩ : ∃ g, g = w.heap.size + 1 := ⟨_, rfl⟩
  obtain ⟨gr, hgr⟩ : ∃ g, g = w.heap.size + 1 + 1 := ⟨_, rfl⟩
  have Bs : Blk (((w.alloc (.cells (stv s) 69)).alloc (.cells #[.int .i64 x.kind, uv x.r.b.v, uv x.r.b.m, uv x.r.lo, uv x.r.hi, sv x.r.sl, sv x.r.sh, .int .i64 x.slot, .int .i64 x.id, .int .i64 x.low, .int .i64 x.high] 64)).alloc (.cells (stv zs) 69)) (w.heap.size) 69 (stv s) := (((Blk.new w 69 (stv s))).alloc _).alloc _
  have Bx : Blk (((w.alloc (.cells (stv s) 69)).alloc (.cells #[.int .i64 x.kind, uv x.r.b.v, uv x.r.b.m, uv x.r.lo, uv x.r.hi, sv x.r.sl, sv x.r.sh, .int .i64 x.slot, .int .i64 x.id, .int .i64 x.low, .int .i64 x.high] 64)).alloc (.cells (stv zs) 69)) (w.heap.size + 1) 64 #[.int .i64 x.kind, uv x.r.b.v, uv x.r.b.m, uv x.r.lo, uv x.r.hi, sv x.r.sl, sv x.r.sh, .int .i64 x.slot, .int .i64 x.id, .int .i64 x.low, .int .i64 x.high] := ((by simpa using Blk.new (w.alloc (.cells (stv s) 69)) 64 #[.int .i64 x.kind, uv x.r.b.v, uv x.r.b.m, uv x.r.lo, uv x.r.hi, sv x.r.sl, sv x.r.sh, .int .i64 x.slot, .int .i64 x.id, .int .i64 x.low, .int .i64 x.high] : Blk _ (w.heap.size + 1) 64 #[.int .i64 x.kind, uv x.r.b.v, uv x.r.b.m, uv x.r.lo, uv x.r.hi, sv x.r.sl, sv x.r.sh, .int .i64 x.slot, .int .i64 x.id, .int .i64 x.low, .int .i64 x.high])).alloc _
  have Br : Blk (((w.alloc (.cells (stv s) 69)).alloc (.cells #[.int .i64 x.kind, uv x.r.b.v, uv x.r.b.m, uv x.r.lo, uv x.r.hi, sv x.r.sl, sv x.r.sh, .int .i64 x.slot, .int .i64 x.id, .int .i64 x.low, .int .i64 x.high] 64)).alloc (.cells (stv zs) 69)) (w.heap.size + 1 + 1) 69 (stv zs) := (by simpa using Blk.new ((w.alloc (.cells (stv s) 69)).alloc (.cells #[.int .i64 x.kind, uv x.r.b.v, uv x.r.b.m, uv x.r.lo, uv x.r.hi, sv x.r.sl, sv x.r.sh, .int .i64 x.slot, .int .i64 x.id, .int .i64 x.low, .int .i64 x.high] 64)) 69 (stv zs) : Blk _ (w.heap.size + 1 + 1) 69 (stv zs))
  have hB : Below w.heap.size w (((w.alloc (.cells (stv s) 69)).alloc (.cells #[.int .i64 x.kind, uv x.r.b.v, uv x.r.b.m, uv x.r.lo, uv x.r.hi, sv x.r.sl, sv x.r.sh, .int .i64 x.slot, .int .i64 x.id, .int .i64 x.low, .int .i64 x.high] 64)).alloc (.cells (stv zs) 69)) := (Bl_alloc (Bl_alloc (Bl_alloc (Bl_refl w) _) _) _)
  clear hgs
  clear gs
  clear hgx
  clear gx
  clear hgr
  clear gr
  generalize (((w.alloc (.cells (stv s) 69)).alloc (.cells #[.int .i64 x.kind, uv x.r.b.v, uv x.r.b.m, uv x.r.lo, uv x.r.hi, sv x.r.sl, sv x.r.sh, .int .i64 x.slot, .int .i64 x.id, .int .i64 x.low, .int .i64 x.high] 64)).alloc (.cells (stv zs) 69)) = w1 at *
  have fs := Bs.frozen; have ls := Bs.lt
  have cx0 : w1.cell? ⟨w.heap.size + 1, 0, none⟩ = some (.int .i64 x.kind) := Bx.cell 0
  have cx1 : w1.cell? ⟨w.heap.size + 1, 1, none⟩ = some (uv x.r.b.v) := Bx.cell 1
  have cx2 : w1.cell? ⟨w.heap.size + 1, 2, none⟩ = some (uv x.r.b.m) := Bx.cell 2
  have cx3 : w1.cell? ⟨w.heap.size + 1, 3, none⟩ = some (uv x.r.lo) := Bx.cell 3
  have cx4 : w1.cell? ⟨w.heap.size + 1, 4, none⟩ = some (uv x.r.hi) := Bx.cell 4
  have cx5 : w1.cell? ⟨w.heap.size + 1, 5, none⟩ = some (sv x.r.sl) := Bx.cell 5
  have cx6 : w1.cell? ⟨w.heap.size + 1, 6, none⟩ = some (sv x.r.sh) := Bx.cell 6
  have cx7 : w1.cell? ⟨w.heap.size + 1, 7, none⟩ = some (.int .i64 x.slot) := Bx.cell 7
  have cx8 : w1.cell? ⟨w.heap.size + 1, 8, none⟩ = some (.int .i64 x.id) := Bx.cell 8
  have cx9 : w1.cell? ⟨w.heap.size + 1, 9, none⟩ = some (.int .i64 x.low) := Bx.cell 9
  have cx10 : w1.cell? ⟨w.heap.size + 1, 10, none⟩ = some (.int .i64 x.high) := Bx.cell 10
  have fx := Bx.frozen; have lx := Bx.lt
  have fr := Br.frozen; have lr := Br.lt
  clear hzs
  go_wp2_with fail
  refine (k_f _).mono ?_
  rintro e w' ⟨rfl, rfl⟩
  go_wp2_with fail
  refine (k_z _).mono ?_
  rintro e w' ⟨rfl, rfl⟩
  go_upto_region 4 with fail
  go_wp2_with (first | (refine wpList_load_whole rfl 69 (.tmp 4) rfl (w.heap.size) rfl 69 (stv s) _ Bs Try.underlying69 rfl (size_st s) ?_) | (refine wpList_store_whole rfl 69 (.tmp 8) (.tmp 50) rfl (w.heap.size + 1 + 1) (stv s) rfl rfl 69 (stv zs) Br (size_st s) (by rw [stv_size, stv_size]) (stv_one s) ?_))
  intro w2 hS
  clear  fs ls
  clear cx0 cx1 cx2 cx3 cx4 cx5 cx6 cx7 cx8 cx9 cx10 fx lx
  clear  fr lr
  replace Bs := hS.far (by first | (simp; done) | (simp; omega) | (simp [*]; done) | (simp only [ne_eq]; constructor <;> omega)) Bs
  replace Bx := hS.far (by first | (simp; done) | (simp; omega) | (simp [*]; done) | (simp only [ne_eq]; constructor <;> omega)) Bx
  replace Br : Blk w2 (w.heap.size + 1 + 1) 69 (stv s) := hS.blk
  replace hB := hS.bel hB (by first | omega | (simp; omega))
  clear hS
  have fs := Bs.frozen; have ls := Bs.lt
  have cx0 : w2.cell? ⟨w.heap.size + 1, 0, none⟩ = some (.int .i64 x.kind) := Bx.cell 0
  have cx1 : w2.cell? ⟨w.heap.size + 1, 1, none⟩ = some (uv x.r.b.v) := Bx.cell 1
  have cx2 : w2.cell? ⟨w.heap.size + 1, 2, none⟩ = some (uv x.r.b.m) := Bx.cell 2
  have cx3 : w2.cell? ⟨w.heap.size + 1, 3, none⟩ = some (uv x.r.lo) := Bx.cell 3
  have cx4 : w2.cell? ⟨w.heap.size + 1, 4, none⟩ = some (uv x.r.hi) := Bx.cell 4
  have cx5 : w2.cell? ⟨w.heap.size + 1, 5, none⟩ = some (sv x.r.sl) := Bx.cell 5
  have cx6 : w2.cell? ⟨w.heap.size + 1, 6, none⟩ = some (sv x.r.sh) := Bx.cell 6
  have cx7 : w2.cell? ⟨w.heap.size + 1, 7, none⟩ = some (.int .i64 x.slot) := Bx.cell 7
  have cx8 : w2.cell? ⟨w.heap.size + 1, 8, none⟩ = some (.int .i64 x.id) := Bx.cell 8
  have cx9 : w2.cell? ⟨w.heap.size + 1, 9, none⟩ = some (.int .i64 x.low) := Bx.cell 9
  have cx10 : w2.cell? ⟨w.heap.size + 1, 10, none⟩ = some (.int .i64 x.high) := Bx.cell 10
  have fx := Bx.frozen; have lx := Bx.lt
  have fr := Br.frozen; have lr := Br.lt
  go_wp2_with fail
  exact bodyPost_ret (v := .tuple #[.agg (stv s), .bool false]) (results_row_tmp Try.results48 _ _ (w.heap.size + 1 + 1) 69 (stv s) _ rfl Br Try.underlying69 rfl (size_st _)) rfl ⟨rfl, hB⟩
set_option maxRecDepth 100000 in
set_option maxHeartbeats 800000 in
theorem save_b1 (s : St) (z : Int) (n : Int) (hz : PlainAbs.sized n = true) (h8 : (n == 8) = false) (x : Rg) (k_f : ∀ w : World, Calls Try.prog 61 #[.int .i64 z, .int .i64 n] w fun e w' => e = .returned (.tuple #[.int .i64 0, .bool false]) ∧ w = w') (w : World) : Calls Try.prog 48 #[.agg (stv s), .int .i64 z, .int .i64 n, gv x] w fun e w' => e = .returned (.tuple #[.agg (stv s), .bool false]) ∧ Below w.heap.size w w' := by
  have h8' : ¬ n = 8 := by simpa using h8
  have k_z := sized_c n; rw [hz] at k_z; clear hz
  have hzs := zero_st
  go_enter Try.func48, Try.ntmps48
  go_wp2_with fail
  obtain ⟨gs, hgs⟩ : ∃ g, g = w.heap.size := ⟨_, rfl⟩
  obtain ⟨gx, hgx⟩ : ∃ g, g = w.heap.size + 1 := ⟨_, rfl⟩
  obtain ⟨gr, hgr⟩ : ∃ g, g = w.heap.size + 1 + 1 := ⟨_, rfl⟩
  have Bs : Blk (((w.alloc (.cells (stv s) 69)).alloc (.cells #[.int .i64 x.kind, uv x.r.b.v, uv x.r.b.m, uv x.r.lo, uv x.r.hi, sv x.r.sl, sv x.r.sh, .int .i64 x.slot, .int .i64 x.id, .int .i64 x.low, .int .i64 x.high] 64)).alloc (.cells (stv zs) 69)) (w.heap.size) 69 (stv s) := (((Blk.new w 69 (stv s))).alloc _).alloc _
  have Bx : Blk (((w.alloc (.cells (stv s) 69)).alloc (.cells #[.int .i64 x.kind, uv x.r.b.v, uv x.r.b.m, uv x.r.lo, uv x.r.hi, sv x.r.sl, sv x.r.sh, .int .i64 x.slot, .int .i64 x.id, .int .i64 x.low, .int .i64 x.high] 64)).alloc (.cells (stv zs) 69)) (w.heap.size + 1) 64 #[.int .i64 x.kind, uv x.r.b.v, uv x.r.b.m, uv x.r.lo, uv x.r.hi, sv x.r.sl, sv x.r.sh, .int .i64 x.slot, .int .i64 x.id, .int .i64 x.low, .int .i64 x.high] := ((by simpa using Blk.new (w.alloc (.cells (stv s) 69)) 64 #[.int .i64 x.kind, uv x.r.b.v, uv x.r.b.m, uv x.r.lo, uv x.r.hi, sv x.r.sl, sv x.r.sh, .int .i64 x.slot, .int .i64 x.id, .int .i64 x.low, .int .i64 x.high] : Blk _ (w.heap.size + 1) 64 #[.int .i64 x.kind, uv x.r.b.v, uv x.r.b.m, uv x.r.lo, uv x.r.hi, sv x.r.sl, sv x.r.sh, .int .i64 x.slot, .int .i64 x.id, .int .i64 x.low, .int .i64 x.high])).alloc _
  have Br : Blk (((w.alloc (.cells (stv s) 69)).alloc (.cells #[.int .i64 x.kind, uv x.r.b.v, uv x.r.b.m, uv x.r.lo, uv x.r.hi, sv x.r.sl, sv x.r.sh, .int .i64 x.slot, .int .i64 x.id, .int .i64 x.low, .int .i64 x.high] 64)).alloc (.cells (stv zs) 69)) (w.heap.size + 1 + 1) 69 (stv zs) := (by simpa using Blk.new ((w.alloc (.cells (stv s) 69)).alloc (.cells #[.int .i64 x.kind, uv x.r.b.v, uv x.r.b.m, uv x.r.lo, uv x.r.hi, sv x.r.sl, sv x.r.sh, .int .i64 x.slot, .int .i64 x.id, .int .i64 x.low, .int .i64 x.high] 64)) 69 (stv zs) : Blk _ (w.heap.size + 1 + 1) 69 (stv zs))
  have hB : Below w.heap.size w (((w.alloc (.cells (stv s) 69)).alloc (.cells #[.int .i64 x.kind, uv x.r.b.v, uv x.r.b.m, uv x.r.lo, uv x.r.hi, sv x.r.sl, sv x.r.sh, .int .i64 x.slot, .int .i64 x.id, .int .i64 x.low, .int .i64 x.high] 64)).alloc (.cells (stv zs) 69)) := (Bl_alloc (Bl_alloc (Bl_alloc (Bl_refl w) _) _) _)
  clear hgs
  clear gs
  clear hgx
  clear gx
  clear hgr
  clear gr
  generalize (((w.alloc (.cells (stv s) 69)).alloc (.cells #[.int .i64 x.kind, uv x.r.b.v, uv x.r.b.m, uv x.r.lo, uv x.r.hi, sv x.r.sl, sv x.r.sh, .int .i64 x.slot, .int .i64 x.id, .int .i64 x.low, .int .i64 x.high] 64)).alloc (.cells (stv zs) 69)) = w1 at *
  have fs := Bs.frozen; have ls := Bs.lt
  have cx0 : w1.cell? ⟨w.heap.size + 1, 0, none⟩ = some (.int .i64 x.kind) := Bx.cell 0
  have cx1 : w1.cell? ⟨w.heap.size + 1, 1, none⟩ = some (uv x.r.b.v) := Bx.cell 1
  have cx2 : w1.cell? ⟨w.heap.size + 1, 2, none⟩ = some (uv x.r.b.m) := Bx.cell 2
  have cx3 : w1.cell? ⟨w.heap.size + 1, 3, none⟩ = some (uv x.r.lo) := Bx.cell 3
  have cx4 : w1.cell? ⟨w.heap.size + 1, 4, none⟩ = some (uv x.r.hi) := Bx.cell 4
  have cx5 : w1.cell? ⟨w.heap.size + 1, 5, none⟩ = some (sv x.r.sl) := Bx.cell 5
  have cx6 : w1.cell? ⟨w.heap.size + 1, 6, none⟩ = some (sv x.r.sh) := Bx.cell 6
  have cx7 : w1.cell? ⟨w.heap.size + 1, 7, none⟩ = some (.int .i64 x.slot) := Bx.cell 7
  have cx8 : w1.cell? ⟨w.heap.size + 1, 8, none⟩ = some (.int .i64 x.id) := Bx.cell 8
  have cx9 : w1.cell? ⟨w.heap.size + 1, 9, none⟩ = some (.int .i64 x.low) := Bx.cell 9
  have cx10 : w1.cell? ⟨w.heap.size + 1, 10, none⟩ = some (.int .i64 x.high) := Bx.cell 10
  have fx := Bx.frozen; have lx := Bx.lt
  have fr := Br.frozen; have lr := Br.lt
  clear hzs
  go_wp2_with fail
  refine (k_f _).mono ?_
  rintro e w' ⟨rfl, rfl⟩
  go_wp2_with fail
  refine (k_z _).mono ?_
  rintro e w' ⟨rfl, rfl⟩
  go_upto_region 4 with fail
  go_wp2_with (first | (refine wpList_load_whole rfl 69 (.tmp 4) rfl (w.heap.size) rfl 69 (stv s) _ Bs Try.underlying69 rfl (size_st s) ?_) | (refine wpList_store_whole rfl 69 (.tmp 8) (.tmp 50) rfl (w.heap.size + 1 + 1) (stv s) rfl rfl 69 (stv zs) Br (size_st s) (by rw [stv_size, stv_size]) (stv_one s) ?_))
  intro w2 hS
  clear  fs ls
  clear cx0 cx1 cx2 cx3 cx4 cx5 cx6 cx7 cx8 cx9 cx10 fx lx
  clear  fr lr
  replace Bs := hS.far (by first | (simp; done) | (simp; omega) | (simp [*]; done) | (simp only [ne_eq]; constructor <;> omega)) Bs
  replace Bx := hS.far (by first | (simp; done) | (simp; omega) | (simp [*]; done) | (simp only [ne_eq]; constructor <;> omega)) Bx
  replace Br : Blk w2 (w.heap.size + 1 + 1) 69 (stv s) := hS.blk
  replace hB := hS.bel hB (by first | omega | (simp; omega))
  clear hS
  have fs := Bs.frozen; have ls := Bs.lt
  have cx0 : w2.cell? ⟨w.heap.size + 1, 0, none⟩ = some (.int .i64 x.kind) := Bx.cell 0
  have cx1 : w2.cell? ⟨w.heap.size + 1, 1, none⟩ = some (uv x.r.b.v) := Bx.cell 1
  have cx2 : w2.cell? ⟨w.heap.size + 1, 2, none⟩ = some (uv x.r.b.m) := Bx.cell 2
  have cx3 : w2.cell? ⟨w.heap.size + 1, 3, none⟩ = some (uv x.r.lo) := Bx.cell 3
  have cx4 : w2.cell? ⟨w.heap.size + 1, 4, none⟩ = some (uv x.r.hi) := Bx.cell 4
  have cx5 : w2.cell? ⟨w.heap.size + 1, 5, none⟩ = some (sv x.r.sl) := Bx.cell 5
  have cx6 : w2.cell? ⟨w.heap.size + 1, 6, none⟩ = some (sv x.r.sh) := Bx.cell 6
  have cx7 : w2.cell? ⟨w.heap.size + 1, 7, none⟩ = some (.int .i64 x.slot) := Bx.cell 7
  have cx8 : w2.cell? ⟨w.heap.size + 1, 8, none⟩ = some (.int .i64 x.id) := Bx.cell 8
  have cx9 : w2.cell? ⟨w.heap.size + 1, 9, none⟩ = some (.int .i64 x.low) := Bx.cell 9
  have cx10 : w2.cell? ⟨w.heap.size + 1, 10, none⟩ = some (.int .i64 x.high) := Bx.cell 10
  have fx := Bx.frozen; have lx := Bx.lt
  have fr := Br.frozen; have lr := Br.lt
  go_wp2_with fail
  exact bodyPost_ret (v := .tuple #[.agg (stv s), .bool false]) (results_row_tmp Try.results48 _ _ (w.heap.size + 1 + 1) 69 (stv s) _ rfl Br Try.underlying69 rfl (size_st _)) rfl ⟨rfl, hB⟩
set_option maxRecDepth 100000 in
set_option maxHeartbeats 800000 in
theorem save_b2 (s : St) (z : Int)  (x : Rg) (k_f : ∀ w : World, Calls Try.prog 61 #[.int .i64 z, .int .i64 8] w fun e w' => e = .returned (.tuple #[.int .i64 0, .bool false]) ∧ w = w') (w : World) : Calls Try.prog 48 #[.agg (stv s), .int .i64 z, .int .i64 8, gv x] w fun e w' => e = .returned (.tuple #[.agg (stv s), .bool false]) ∧ Below w.heap.size w w' := by
  have k_z := sized_c 8
  have hzs := zero_st
  go_enter Try.func48, Try.ntmps48
  go_wp2_with fail
  obtain ⟨gs, hgs⟩ : ∃ g, g = w.heap.size := ⟨_, rfl⟩
  obtain ⟨gx, hgx⟩ : ∃ g, g = w.heap.size + 1 := ⟨_, rfl⟩
  obtain ⟨gr, hgr⟩ : ∃ g, g = w.heap.size + 1 + 1 := ⟨_, rfl⟩
  have Bs : Blk (((w.alloc (.cells (stv s) 69)).alloc (.cells #[.int .i64 x.kind, uv x.r.b.v, uv x.r.b.m, uv x.r.lo, uv x.r.hi, sv x.r.sl, sv x.r.sh, .int .i64 x.slot, .int .i64 x.id, .int .i64 x.low, .int .i64 x.high] 64)).alloc (.cells (stv zs) 69)) (w.heap.size) 69 (stv s) := (((Blk.new w 69 (stv s))).alloc _).alloc _
  have Bx : Blk (((w.alloc (.cells (stv s) 69)).alloc (.cells #[.int .i64 x.kind, uv x.r.b.v, uv x.r.b.m, uv x.r.lo, uv x.r.hi, sv x.r.sl, sv x.r.sh, .int .i64 x.slot, .int .i64 x.id, .int .i64 x.low, .int .i64 x.high] 64)).alloc (.cells (stv zs) 69)) (w.heap.size + 1) 64 #[.int .i64 x.kind, uv x.r.b.v, uv x.r.b.m, uv x.r.lo, uv x.r.hi, sv x.r.sl, sv x.r.sh, .int .i64 x.slot, .int .i64 x.id, .int .i64 x.low, .int .i64 x.high] := ((by simpa using Blk.new (w.alloc (.cells (stv s) 69)) 64 #[.int .i64 x.kind, uv x.r.b.v, uv x.r.b.m, uv x.r.lo, uv x.r.hi, sv x.r.sl, sv x.r.sh, .int .i64 x.slot, .int .i64 x.id, .int .i64 x.low, .int .i64 x.high] : Blk _ (w.heap.size + 1) 64 #[.int .i64 x.kind, uv x.r.b.v, uv x.r.b.m, uv x.r.lo, uv x.r.hi, sv x.r.sl, sv x.r.sh, .int .i64 x.slot, .int .i64 x.id, .int .i64 x.low, .int .i64 x.high])).alloc _
  have Br : Blk (((w.alloc (.cells (stv s) 69)).alloc (.cells #[.int .i64 x.kind, uv x.r.b.v, uv x.r.b.m, uv x.r.lo, uv x.r.hi, sv x.r.sl, sv x.r.sh, .int .i64 x.slot, .int .i64 x.id, .int .i64 x.low, .int .i64 x.high] 64)).alloc (.cells (stv zs) 69)) (w.heap.size + 1 + 1) 69 (stv zs) := (by simpa using Blk.new ((w.alloc (.cells (stv s) 69)).alloc (.cells #[.int .i64 x.kind, uv x.r.b.v, uv x.r.b.m, uv x.r.lo, uv x.r.hi, sv x.r.sl, sv x.r.sh, .int .i64 x.slot, .int .i64 x.id, .int .i64 x.low, .int .i64 x.high] 64)) 69 (stv zs) : Blk _ (w.heap.size + 1 + 1) 69 (stv zs))
  have hB : Below w.heap.size w (((w.alloc (.cells (stv s) 69)).alloc (.cells #[.int .i64 x.kind, uv x.r.b.v, uv x.r.b.m, uv x.r.lo, uv x.r.hi, sv x.r.sl, sv x.r.sh, .int .i64 x.slot, .int .i64 x.id, .int .i64 x.low, .int .i64 x.high] 64)).alloc (.cells (stv zs) 69)) := (Bl_alloc (Bl_alloc (Bl_alloc (Bl_refl w) _) _) _)
  clear hgs
  clear gs
  clear hgx
  clear gx
  clear hgr
  clear gr
  generalize (((w.alloc (.cells (stv s) 69)).alloc (.cells #[.int .i64 x.kind, uv x.r.b.v, uv x.r.b.m, uv x.r.lo, uv x.r.hi, sv x.r.sl, sv x.r.sh, .int .i64 x.slot, .int .i64 x.id, .int .i64 x.low, .int .i64 x.high] 64)).alloc (.cells (stv zs) 69)) = w1 at *
  have fs := Bs.frozen; have ls := Bs.lt
  have cx0 : w1.cell? ⟨w.heap.size + 1, 0, none⟩ = some (.int .i64 x.kind) := Bx.cell 0
  have cx1 : w1.cell? ⟨w.heap.size + 1, 1, none⟩ = some (uv x.r.b.v) := Bx.cell 1
  have cx2 : w1.cell? ⟨w.heap.size + 1, 2, none⟩ = some (uv x.r.b.m) := Bx.cell 2
  have cx3 : w1.cell? ⟨w.heap.size + 1, 3, none⟩ = some (uv x.r.lo) := Bx.cell 3
  have cx4 : w1.cell? ⟨w.heap.size + 1, 4, none⟩ = some (uv x.r.hi) := Bx.cell 4
  have cx5 : w1.cell? ⟨w.heap.size + 1, 5, none⟩ = some (sv x.r.sl) := Bx.cell 5
  have cx6 : w1.cell? ⟨w.heap.size + 1, 6, none⟩ = some (sv x.r.sh) := Bx.cell 6
  have cx7 : w1.cell? ⟨w.heap.size + 1, 7, none⟩ = some (.int .i64 x.slot) := Bx.cell 7
  have cx8 : w1.cell? ⟨w.heap.size + 1, 8, none⟩ = some (.int .i64 x.id) := Bx.cell 8
  have cx9 : w1.cell? ⟨w.heap.size + 1, 9, none⟩ = some (.int .i64 x.low) := Bx.cell 9
  have cx10 : w1.cell? ⟨w.heap.size + 1, 10, none⟩ = some (.int .i64 x.high) := Bx.cell 10
  have fx := Bx.frozen; have lx := Bx.lt
  have fr := Br.frozen; have lr := Br.lt
  clear hzs
  go_wp2_with fail
  refine (k_f _).mono ?_
  rintro e w' ⟨rfl, rfl⟩
  go_wp2_with fail
  refine (k_z _).mono ?_
  rintro e w' ⟨rfl, rfl⟩
  go_upto_region 4 with fail
  go_wp2_with (first | (refine wpList_load_whole rfl 69 (.tmp 4) rfl (w.heap.size) rfl 69 (stv s) _ Bs Try.underlying69 rfl (size_st s) ?_) | (refine wpList_store_whole rfl 69 (.tmp 8) (.tmp 50) rfl (w.heap.size + 1 + 1) (stv s) rfl rfl 69 (stv zs) Br (size_st s) (by rw [stv_size, stv_size]) (stv_one s) ?_))
  intro w2 hS
  clear  fs ls
  clear cx0 cx1 cx2 cx3 cx4 cx5 cx6 cx7 cx8 cx9 cx10 fx lx
  clear  fr lr
  replace Bs := hS.far (by first | (simp; done) | (simp; omega) | (simp [*]; done) | (simp only [ne_eq]; constructor <;> omega)) Bs
  replace Bx := hS.far (by first | (simp; done) | (simp; omega) | (simp [*]; done) | (simp only [ne_eq]; constructor <;> omega)) Bx
  replace Br : Blk w2 (w.heap.size + 1 + 1) 69 (stv s) := hS.blk
  replace hB := hS.bel hB (by first | omega | (simp; omega))
  clear hS
  have fs := Bs.frozen; have ls := Bs.lt
  have cx0 : w2.cell? ⟨w.heap.size + 1, 0, none⟩ = some (.int .i64 x.kind) := Bx.cell 0
  have cx1 : w2.cell? ⟨w.heap.size + 1, 1, none⟩ = some (uv x.r.b.v) := Bx.cell 1
  have cx2 : w2.cell? ⟨w.heap.size + 1, 2, none⟩ = some (uv x.r.b.m) := Bx.cell 2
  have cx3 : w2.cell? ⟨w.heap.size + 1, 3, none⟩ = some (uv x.r.lo) := Bx.cell 3
  have cx4 : w2.cell? ⟨w.heap.size + 1, 4, none⟩ = some (uv x.r.hi) := Bx.cell 4
  have cx5 : w2.cell? ⟨w.heap.size + 1, 5, none⟩ = some (sv x.r.sl) := Bx.cell 5
  have cx6 : w2.cell? ⟨w.heap.size + 1, 6, none⟩ = some (sv x.r.sh) := Bx.cell 6
  have cx7 : w2.cell? ⟨w.heap.size + 1, 7, none⟩ = some (.int .i64 x.slot) := Bx.cell 7
  have cx8 : w2.cell? ⟨w.heap.size + 1, 8, none⟩ = some (.int .i64 x.id) := Bx.cell 8
  have cx9 : w2.cell? ⟨w.heap.size + 1, 9, none⟩ = some (.int .i64 x.low) := Bx.cell 9
  have cx10 : w2.cell? ⟨w.heap.size + 1, 10, none⟩ = some (.int .i64 x.high) := Bx.cell 10
  have fx := Bx.frozen; have lx := Bx.lt
  have fr := Br.frozen; have lr := Br.lt
  go_wp2_with fail
  exact bodyPost_ret (v := .tuple #[.agg (stv s), .bool false]) (results_row_tmp Try.results48 _ _ (w.heap.size + 1 + 1) 69 (stv s) _ rfl Br Try.underlying69 rfl (size_st _)) rfl ⟨rfl, hB⟩
set_option maxRecDepth 100000 in
set_option maxHeartbeats 800000 in
theorem save_c1 (s : St) (z : Int) (f m : Nat) (hm : ¬ m = 8) (hz : PlainAbs.sized (m : Int) = true) (x : Rg) (h0 : (x.kind == 0) = true) (h1 : (x.kind == 1) = false) (k_f : ∀ w : World, Calls Try.prog 61 #[.int .i64 z, .int .i64 (m : Int)] w fun e w' => e = .returned (.tuple #[.int .i64 (f : Int), .bool true]) ∧ w = w') (w : World) : Calls Try.prog 48 #[.agg (stv s), .int .i64 z, .int .i64 (m : Int), gv x] w fun e w' => e = .returned (.tuple #[.agg (stv s), .bool false]) ∧ Below w.heap.size w w' := by
  have hm1 : ¬ (m : Int) = 8 := by omega
  have hm2 : ((m : Int) == 8) = false := by simpa using hm1
  have k_z := sized_c (m : Int); rw [hz] at k_z; clear hz
  have h1n : (x.kind != 1) = true := by unfold bne; rw [h1]; rfl
  have hzs := zero_st
  go_enter Try.func48, Try.ntmps48
  go_wp2_with fail
  obtain ⟨gs, hgs⟩ : ∃ g, g = w.heap.size := ⟨_, rfl⟩
  obtain ⟨gx, hgx⟩ : ∃ g, g = w.heap.size + 1 := ⟨_, rfl⟩
  obtain ⟨gr, hgr⟩ : ∃ g, g = w.heap.size + 1 + 1 := ⟨_, rfl⟩
  have Bs : Blk (((w.alloc (.cells (stv s) 69)).alloc (.cells #[.int .i64 x.kind, uv x.r.b.v, uv x.r.b.m, uv x.r.lo, uv x.r.hi, sv x.r.sl, sv x.r.sh, .int .i64 x.slot, .int .i64 x.id, .int .i64 x.low, .int .i64 x.high] 64)).alloc (.cells (stv zs) 69)) (w.heap.size) 69 (stv s) := (((Blk.new w 69 (stv s))).alloc _).alloc _
  have Bx : Blk (((w.alloc (.cells (stv s) 69)).alloc (.cells #[.int .i64 x.kind, uv x.r.b.v, uv x.r.b.m, uv x.r.lo, uv x.r.hi, sv x.r.sl, sv x.r.sh, .int .i64 x.slot, .int .i64 x.id, .int .i64 x.low, .int .i64 x.high] 64)).alloc (.cells (stv zs) 69)) (w.heap.size + 1) 64 #[.int .i64 x.kind, uv x.r.b.v, uv x.r.b.m, uv x.r.lo, uv x.r.hi, sv x.r.sl, sv x.r.sh, .int .i64 x.slot, .int .i64 x.id, .int .i64 x.low, .int .i64 x.high] := ((by simpa using Blk.new (w.alloc (.cells (stv s) 69)) 64 #[.int .i64 x.kind, uv x.r.b.v, uv x.r.b.m, uv x.r.lo, uv x.r.hi, sv x.r.sl, sv x.r.sh, .int .i64 x.slot, .int .i64 x.id, .int .i64 x.low, .int .i64 x.high] : Blk _ (w.heap.size + 1) 64 #[.int .i64 x.kind, uv x.r.b.v, uv x.r.b.m, uv x.r.lo, uv x.r.hi, sv x.r.sl, sv x.r.sh, .int .i64 x.slot, .int .i64 x.id, .int .i64 x.low, .int .i64 x.high])).alloc _
  have Br : Blk (((w.alloc (.cells (stv s) 69)).alloc (.cells #[.int .i64 x.kind, uv x.r.b.v, uv x.r.b.m, uv x.r.lo, uv x.r.hi, sv x.r.sl, sv x.r.sh, .int .i64 x.slot, .int .i64 x.id, .int .i64 x.low, .int .i64 x.high] 64)).alloc (.cells (stv zs) 69)) (w.heap.size + 1 + 1) 69 (stv zs) := (by simpa using Blk.new ((w.alloc (.cells (stv s) 69)).alloc (.cells #[.int .i64 x.kind, uv x.r.b.v, uv x.r.b.m, uv x.r.lo, uv x.r.hi, sv x.r.sl, sv x.r.sh, .int .i64 x.slot, .int .i64 x.id, .int .i64 x.low, .int .i64 x.high] 64)) 69 (stv zs) : Blk _ (w.heap.size + 1 + 1) 69 (stv zs))
  have hB : Below w.heap.size w (((w.alloc (.cells (stv s) 69)).alloc (.cells #[.int .i64 x.kind, uv x.r.b.v, uv x.r.b.m, uv x.r.lo, uv x.r.hi, sv x.r.sl, sv x.r.sh, .int .i64 x.slot, .int .i64 x.id, .int .i64 x.low, .int .i64 x.high] 64)).alloc (.cells (stv zs) 69)) := (Bl_alloc (Bl_alloc (Bl_alloc (Bl_refl w) _) _) _)
  clear hgs
  clear gs
  clear hgx
  clear gx
  clear hgr
  clear gr
  generalize (((w.alloc (.cells (stv s) 69)).alloc (.cells #[.int .i64 x.kind, uv x.r.b.v, uv x.r.b.m, uv x.r.lo, uv x.r.hi, sv x.r.sl, sv x.r.sh, .int .i64 x.slot, .int .i64 x.id, .int .i64 x.low, .int .i64 x.high] 64)).alloc (.cells (stv zs) 69)) = w1 at *
  have fs := Bs.frozen; have ls := Bs.lt
  have cx0 : w1.cell? ⟨w.heap.size + 1, 0, none⟩ = some (.int .i64 x.kind) := Bx.cell 0
  have cx1 : w1.cell? ⟨w.heap.size + 1, 1, none⟩ = some (uv x.r.b.v) := Bx.cell 1
  have cx2 : w1.cell? ⟨w.heap.size + 1, 2, none⟩ = some (uv x.r.b.m) := Bx.cell 2
  have cx3 : w1.cell? ⟨w.heap.size + 1, 3, none⟩ = some (uv x.r.lo) := Bx.cell 3
  have cx4 : w1.cell? ⟨w.heap.size + 1, 4, none⟩ = some (uv x.r.hi) := Bx.cell 4
  have cx5 : w1.cell? ⟨w.heap.size + 1, 5, none⟩ = some (sv x.r.sl) := Bx.cell 5
  have cx6 : w1.cell? ⟨w.heap.size + 1, 6, none⟩ = some (sv x.r.sh) := Bx.cell 6
  have cx7 : w1.cell? ⟨w.heap.size + 1, 7, none⟩ = some (.int .i64 x.slot) := Bx.cell 7
  have cx8 : w1.cell? ⟨w.heap.size + 1, 8, none⟩ = some (.int .i64 x.id) := Bx.cell 8
  have cx9 : w1.cell? ⟨w.heap.size + 1, 9, none⟩ = some (.int .i64 x.low) := Bx.cell 9
  have cx10 : w1.cell? ⟨w.heap.size + 1, 10, none⟩ = some (.int .i64 x.high) := Bx.cell 10
  have fx := Bx.frozen; have lx := Bx.lt
  have fr := Br.frozen; have lr := Br.lt
  clear hzs
  go_wp2_with fail
  refine (k_f _).mono ?_
  rintro e w' ⟨rfl, rfl⟩
  go_wp2_with fail
  refine (k_z _).mono ?_
  rintro e w' ⟨rfl, rfl⟩
  go_upto_region 4 with fail
  go_wp2_with (first | (refine wpList_load_whole rfl 69 (.tmp 4) rfl (w.heap.size) rfl 69 (stv s) _ Bs Try.underlying69 rfl (size_st s) ?_) | (refine wpList_store_whole rfl 69 (.tmp 8) (.tmp 50) rfl (w.heap.size + 1 + 1) (stv s) rfl rfl 69 (stv zs) Br (size_st s) (by rw [stv_size, stv_size]) (stv_one s) ?_))
  intro w2 hS
  clear  fs ls
  clear cx0 cx1 cx2 cx3 cx4 cx5 cx6 cx7 cx8 cx9 cx10 fx lx
  clear  fr lr
  replace Bs := hS.far (by first | (simp; done) | (simp; omega) | (simp [*]; done) | (simp only [ne_eq]; constructor <;> omega)) Bs
  replace Bx := hS.far (by first | (simp; done) | (simp; omega) | (simp [*]; done) | (simp only [ne_eq]; constructor <;> omega)) Bx
  replace Br : Blk w2 (w.heap.size + 1 + 1) 69 (stv s) := hS.blk
  replace hB := hS.bel hB (by first | omega | (simp; omega))
  clear hS
  have fs := Bs.frozen; have ls := Bs.lt
  have cx0 : w2.cell? ⟨w.heap.size + 1, 0, none⟩ = some (.int .i64 x.kind) := Bx.cell 0
  have cx1 : w2.cell? ⟨w.heap.size + 1, 1, none⟩ = some (uv x.r.b.v) := Bx.cell 1
  have cx2 : w2.cell? ⟨w.heap.size + 1, 2, none⟩ = some (uv x.r.b.m) := Bx.cell 2
  have cx3 : w2.cell? ⟨w.heap.size + 1, 3, none⟩ = some (uv x.r.lo) := Bx.cell 3
  have cx4 : w2.cell? ⟨w.heap.size + 1, 4, none⟩ = some (uv x.r.hi) := Bx.cell 4
  have cx5 : w2.cell? ⟨w.heap.size + 1, 5, none⟩ = some (sv x.r.sl) := Bx.cell 5
  have cx6 : w2.cell? ⟨w.heap.size + 1, 6, none⟩ = some (sv x.r.sh) := Bx.cell 6
  have cx7 : w2.cell? ⟨w.heap.size + 1, 7, none⟩ = some (.int .i64 x.slot) := Bx.cell 7
  have cx8 : w2.cell? ⟨w.heap.size + 1, 8, none⟩ = some (.int .i64 x.id) := Bx.cell 8
  have cx9 : w2.cell? ⟨w.heap.size + 1, 9, none⟩ = some (.int .i64 x.low) := Bx.cell 9
  have cx10 : w2.cell? ⟨w.heap.size + 1, 10, none⟩ = some (.int .i64 x.high) := Bx.cell 10
  have fx := Bx.frozen; have lx := Bx.lt
  have fr := Br.frozen; have lr := Br.lt
  go_wp2_with fail
  exact bodyPost_ret (v := .tuple #[.agg (stv s), .bool false]) (results_row_tmp Try.results48 _ _ (w.heap.size + 1 + 1) 69 (stv s) _ rfl Br Try.underlying69 rfl (size_st _)) rfl ⟨rfl, hB⟩
set_option maxRecDepth 100000 in
set_option maxHeartbeats 800000 in
theorem save_c2 (s : St) (z : Int) (f : Nat) (h8 : ¬ f % 8 = 0) (x : Rg) (h0 : (x.kind == 0) = true) (h1 : (x.kind == 1) = false) (k_f : ∀ w : World, Calls Try.prog 61 #[.int .i64 z, .int .i64 8] w fun e w' => e = .returned (.tuple #[.int .i64 (f : Int), .bool true]) ∧ w = w') (w : World) : Calls Try.prog 48 #[.agg (stv s), .int .i64 z, .int .i64 8, gv x] w fun e w' => e = .returned (.tuple #[.agg (stv s), .bool false]) ∧ Below w.heap.size w w' := by
  have k_z := sized_c 8
  have h8i : ¬ (f : Int) % 8 = 0 := by omega
  have h8j : ((f : Int) % 8 == 0) = false := by simpa using h8i
  have h1n : (x.kind != 1) = true := by unfold bne; rw [h1]; rfl
  have hzs := zero_st
  go_enter Try.func48, Try.ntmps48
  go_wp2_with fail
  obtain ⟨gs, hgs⟩ : ∃ g, g = w.heap.size := ⟨_, rfl⟩
  obtain ⟨gx, hgx⟩ : ∃ g, g = w.heap.size + 1 := ⟨_, rfl⟩
  obtain ⟨gr, hgr⟩ : ∃ g, g = w.heap.size + 1 + 1 := ⟨_, rfl⟩
  have Bs : Blk (((w.alloc (.cells (stv s) 69)).alloc (.cells #[.int .i64 x.kind, uv x.r.b.v, uv x.r.b.m, uv x.r.lo, uv x.r.hi, sv x.r.sl, sv x.r.sh, .int .i64 x.slot, .int .i64 x.id, .int .i64 x.low, .int .i64 x.high] 64)).alloc (.cells (stv zs) 69)) (w.heap.size) 69 (stv s) := (((Blk.new w 69 (stv s))).alloc _).alloc _
  have Bx : Blk (((w.alloc (.cells (stv s) 69)).alloc (.cells #[.int .i64 x.kind, uv x.r.b.v, uv x.r.b.m, uv x.r.lo, uv x.r.hi, sv x.r.sl, sv x.r.sh, .int .i64 x.slot, .int .i64 x.id, .int .i64 x.low, .int .i64 x.high] 64)).alloc (.cells (stv zs) 69)) (w.heap.size + 1) 64 #[.int .i64 x.kind, uv x.r.b.v, uv x.r.b.m, uv x.r.lo, uv x.r.hi, sv x.r.sl, sv x.r.sh, .int .i64 x.slot, .int .i64 x.id, .int .i64 x.low, .int .i64 x.high] := ((by simpa using Blk.new (w.alloc (.cells (stv s) 69)) 64 #[.int .i64 x.kind, uv x.r.b.v, uv x.r.b.m, uv x.r.lo, uv x.r.hi, sv x.r.sl, sv x.r.sh, .int .i64 x.slot, .int .i64 x.id, .int .i64 x.low, .int .i64 x.high] : Blk _ (w.heap.size + 1) 64 #[.int .i64 x.kind, uv x.r.b.v, uv x.r.b.m, uv x.r.lo, uv x.r.hi, sv x.r.sl, sv x.r.sh, .int .i64 x.slot, .int .i64 x.id, .int .i64 x.low, .int .i64 x.high])).alloc _
  have Br : Blk (((w.alloc (.cells (stv s) 69)).alloc (.cells #[.int .i64 x.kind, uv x.r.b.v, uv x.r.b.m, uv x.r.lo, uv x.r.hi, sv x.r.sl, sv x.r.sh, .int .i64 x.slot, .int .i64 x.id, .int .i64 x.low, .int .i64 x.high] 64)).alloc (.cells (stv zs) 69)) (w.heap.size + 1 + 1) 69 (stv zs) := (by simpa using Blk.new ((w.alloc (.cells (stv s) 69)).alloc (.cells #[.int .i64 x.kind, uv x.r.b.v, uv x.r.b.m, uv x.r.lo, uv x.r.hi, sv x.r.sl, sv x.r.sh, .int .i64 x.slot, .int .i64 x.id, .int .i64 x.low, .int .i64 x.high] 64)) 69 (stv zs) : Blk _ (w.heap.size + 1 + 1) 69 (stv zs))
  have hB : Below w.heap.size w (((w.alloc (.cells (stv s) 69)).alloc (.cells #[.int .i64 x.kind, uv x.r.b.v, uv x.r.b.m, uv x.r.lo, uv x.r.hi, sv x.r.sl, sv x.r.sh, .int .i64 x.slot, .int .i64 x.id, .int .i64 x.low, .int .i64 x.high] 64)).alloc (.cells (stv zs) 69)) := (Bl_alloc (Bl_alloc (Bl_alloc (Bl_refl w) _) _) _)
  clear hgs
  clear gs
  clear hgx
  clear gx
  clear hgr
  clear gr
  generalize (((w.alloc (.cells (stv s) 69)).alloc (.cells #[.int .i64 x.kind, uv x.r.b.v, uv x.r.b.m, uv x.r.lo, uv x.r.hi, sv x.r.sl, sv x.r.sh, .int .i64 x.slot, .int .i64 x.id, .int .i64 x.low, .int .i64 x.high] 64)).alloc (.cells (stv zs) 69)) = w1 at *
  have fs := Bs.frozen; have ls := Bs.lt
  have cx0 : w1.cell? ⟨w.heap.size + 1, 0, none⟩ = some (.int .i64 x.kind) := Bx.cell 0
  have cx1 : w1.cell? ⟨w.heap.size + 1, 1, none⟩ = some (uv x.r.b.v) := Bx.cell 1
  have cx2 : w1.cell? ⟨w.heap.size + 1, 2, none⟩ = some (uv x.r.b.m) := Bx.cell 2
  have cx3 : w1.cell? ⟨w.heap.size + 1, 3, none⟩ = some (uv x.r.lo) := Bx.cell 3
  have cx4 : w1.cell? ⟨w.heap.size + 1, 4, none⟩ = some (uv x.r.hi) := Bx.cell 4
  have cx5 : w1.cell? ⟨w.heap.size + 1, 5, none⟩ = some (sv x.r.sl) := Bx.cell 5
  have cx6 : w1.cell? ⟨w.heap.size + 1, 6, none⟩ = some (sv x.r.sh) := Bx.cell 6
  have cx7 : w1.cell? ⟨w.heap.size + 1, 7, none⟩ = some (.int .i64 x.slot) := Bx.cell 7
  have cx8 : w1.cell? ⟨w.heap.size + 1, 8, none⟩ = some (.int .i64 x.id) := Bx.cell 8
  have cx9 : w1.cell? ⟨w.heap.size + 1, 9, none⟩ = some (.int .i64 x.low) := Bx.cell 9
  have cx10 : w1.cell? ⟨w.heap.size + 1, 10, none⟩ = some (.int .i64 x.high) := Bx.cell 10
  have fx := Bx.frozen; have lx := Bx.lt
  have fr := Br.frozen; have lr := Br.lt
  clear hzs
  go_wp2_with fail
  refine (k_f _).mono ?_
  rintro e w' ⟨rfl, rfl⟩
  go_wp2_with fail
  refine (k_z _).mono ?_
  rintro e w' ⟨rfl, rfl⟩
  go_upto_region 4 with fail
  go_wp2_with (first | (refine wpList_load_whole rfl 69 (.tmp 4) rfl (w.heap.size) rfl 69 (stv s) _ Bs Try.underlying69 rfl (size_st s) ?_) | (refine wpList_store_whole rfl 69 (.tmp 8) (.tmp 50) rfl (w.heap.size + 1 + 1) (stv s) rfl rfl 69 (stv zs) Br (size_st s) (by rw [stv_size, stv_size]) (stv_one s) ?_))
  intro w2 hS
  clear  fs ls
  clear cx0 cx1 cx2 cx3 cx4 cx5 cx6 cx7 cx8 cx9 cx10 fx lx
  clear  fr lr
  replace Bs := hS.far (by first | (simp; done) | (simp; omega) | (simp [*]; done) | (simp only [ne_eq]; constructor <;> omega)) Bs
  replace Bx := hS.far (by first | (simp; done) | (simp; omega) | (simp [*]; done) | (simp only [ne_eq]; constructor <;> omega)) Bx
  replace Br : Blk w2 (w.heap.size + 1 + 1) 69 (stv s) := hS.blk
  replace hB := hS.bel hB (by first | omega | (simp; omega))
  clear hS
  have fs := Bs.frozen; have ls := Bs.lt
  have cx0 : w2.cell? ⟨w.heap.size + 1, 0, none⟩ = some (.int .i64 x.kind) := Bx.cell 0
  have cx1 : w2.cell? ⟨w.heap.size + 1, 1, none⟩ = some (uv x.r.b.v) := Bx.cell 1
  have cx2 : w2.cell? ⟨w.heap.size + 1, 2, none⟩ = some (uv x.r.b.m) := Bx.cell 2
  have cx3 : w2.cell? ⟨w.heap.size + 1, 3, none⟩ = some (uv x.r.lo) := Bx.cell 3
  have cx4 : w2.cell? ⟨w.heap.size + 1, 4, none⟩ = some (uv x.r.hi) := Bx.cell 4
  have cx5 : w2.cell? ⟨w.heap.size + 1, 5, none⟩ = some (sv x.r.sl) := Bx.cell 5
  have cx6 : w2.cell? ⟨w.heap.size + 1, 6, none⟩ = some (sv x.r.sh) := Bx.cell 6
  have cx7 : w2.cell? ⟨w.heap.size + 1, 7, none⟩ = some (.int .i64 x.slot) := Bx.cell 7
  have cx8 : w2.cell? ⟨w.heap.size + 1, 8, none⟩ = some (.int .i64 x.id) := Bx.cell 8
  have cx9 : w2.cell? ⟨w.heap.size + 1, 9, none⟩ = some (.int .i64 x.low) := Bx.cell 9
  have cx10 : w2.cell? ⟨w.heap.size + 1, 10, none⟩ = some (.int .i64 x.high) := Bx.cell 10
  have fx := Bx.frozen; have lx := Bx.lt
  have fr := Br.frozen; have lr := Br.lt
  go_wp2_with fail
  exact bodyPost_ret (v := .tuple #[.agg (stv s), .bool false]) (results_row_tmp Try.results48 _ _ (w.heap.size + 1 + 1) 69 (stv s) _ rfl Br Try.underlying69 rfl (size_st _)) rfl ⟨rfl, hB⟩
set_option maxRecDepth 100000 in
set_option maxHeartbeats 800000 in
theorem save_d1 (s : St) (z : Int) (f m : Nat) (hm : ¬ m = 8) (hz : PlainAbs.sized (m : Int) = true) (x : Rg) (h0 : (x.kind == 0) = false) (h1 : (x.kind == 1) = false) (k_f : ∀ w : World, Calls Try.prog 61 #[.int .i64 z, .int .i64 (m : Int)] w fun e w' => e = .returned (.tuple #[.int .i64 (f : Int), .bool true]) ∧ w = w') (w : World) : Calls Try.prog 48 #[.agg (stv s), .int .i64 z, .int .i64 (m : Int), gv x] w fun e w' => e = .returned (.tuple #[.agg (stv s), .bool false]) ∧ Below w.heap.size w w' := by
  have hm1 : ¬ (m : Int) = 8 := by omega
  have hm2 : ((m : Int) == 8) = false := by simpa using hm1
  have k_z := sized_c (m : Int); rw [hz] at k_z; clear hz
  have h1n : (x.kind != 1) = true := by unfold bne; rw [h1]; rfl
  have hzs := zero_st
  go_enter Try.func48, Try.ntmps48
  go_wp2_with fail
  obtain ⟨gs, hgs⟩ : ∃ g, g = w.heap.size := ⟨_, rfl⟩
  obtain ⟨gx, hgx⟩ : ∃ g, g = w.heap.size + 1 := ⟨_, rfl⟩
  obtain ⟨gr, hgr⟩ : ∃ g, g = w.heap.size + 1 + 1 := ⟨_, rfl⟩
  have Bs : Blk (((w.alloc (.cells (stv s) 69)).alloc (.cells #[.int .i64 x.kind, uv x.r.b.v, uv x.r.b.m, uv x.r.lo, uv x.r.hi, sv x.r.sl, sv x.r.sh, .int .i64 x.slot, .int .i64 x.id, .int .i64 x.low, .int .i64 x.high] 64)).alloc (.cells (stv zs) 69)) (w.heap.size) 69 (stv s) := (((Blk.new w 69 (stv s))).alloc _).alloc _
  have Bx : Blk (((w.alloc (.cells (stv s) 69)).alloc (.cells #[.int .i64 x.kind, uv x.r.b.v, uv x.r.b.m, uv x.r.lo, uv x.r.hi, sv x.r.sl, sv x.r.sh, .int .i64 x.slot, .int .i64 x.id, .int .i64 x.low, .int .i64 x.high] 64)).alloc (.cells (stv zs) 69)) (w.heap.size + 1) 64 #[.int .i64 x.kind, uv x.r.b.v, uv x.r.b.m, uv x.r.lo, uv x.r.hi, sv x.r.sl, sv x.r.sh, .int .i64 x.slot, .int .i64 x.id, .int .i64 x.low, .int .i64 x.high] := ((by simpa using Blk.new (w.alloc (.cells (stv s) 69)) 64 #[.int .i64 x.kind, uv x.r.b.v, uv x.r.b.m, uv x.r.lo, uv x.r.hi, sv x.r.sl, sv x.r.sh, .int .i64 x.slot, .int .i64 x.id, .int .i64 x.low, .int .i64 x.high] : Blk _ (w.heap.size + 1) 64 #[.int .i64 x.kind, uv x.r.b.v, uv x.r.b.m, uv x.r.lo, uv x.r.hi, sv x.r.sl, sv x.r.sh, .int .i64 x.slot, .int .i64 x.id, .int .i64 x.low, .int .i64 x.high])).alloc _
  have Br : Blk (((w.alloc (.cells (stv s) 69)).alloc (.cells #[.int .i64 x.kind, uv x.r.b.v, uv x.r.b.m, uv x.r.lo, uv x.r.hi, sv x.r.sl, sv x.r.sh, .int .i64 x.slot, .int .i64 x.id, .int .i64 x.low, .int .i64 x.high] 64)).alloc (.cells (stv zs) 69)) (w.heap.size + 1 + 1) 69 (stv zs) := (by simpa using Blk.new ((w.alloc (.cells (stv s) 69)).alloc (.cells #[.int .i64 x.kind, uv x.r.b.v, uv x.r.b.m, uv x.r.lo, uv x.r.hi, sv x.r.sl, sv x.r.sh, .int .i64 x.slot, .int .i64 x.id, .int .i64 x.low, .int .i64 x.high] 64)) 69 (stv zs) : Blk _ (w.heap.size + 1 + 1) 69 (stv zs))
  have hB : Below w.heap.size w (((w.alloc (.cells (stv s) 69)).alloc (.cells #[.int .i64 x.kind, uv x.r.b.v, uv x.r.b.m, uv x.r.lo, uv x.r.hi, sv x.r.sl, sv x.r.sh, .int .i64 x.slot, .int .i64 x.id, .int .i64 x.low, .int .i64 x.high] 64)).alloc (.cells (stv zs) 69)) := (Bl_alloc (Bl_alloc (Bl_alloc (Bl_refl w) _) _) _)
  clear hgs
  clear gs
  clear hgx
  clear gx
  clear hgr
  clear gr
  generalize (((w.alloc (.cells (stv s) 69)).alloc (.cells #[.int .i64 x.kind, uv x.r.b.v, uv x.r.b.m, uv x.r.lo, uv x.r.hi, sv x.r.sl, sv x.r.sh, .int .i64 x.slot, .int .i64 x.id, .int .i64 x.low, .int .i64 x.high] 64)).alloc (.cells (stv zs) 69)) = w1 at *
  have fs := Bs.frozen; have ls := Bs.lt
  have cx0 : w1.cell? ⟨w.heap.size + 1, 0, none⟩ = some (.int .i64 x.kind) := Bx.cell 0
  have cx1 : w1.cell? ⟨w.heap.size + 1, 1, none⟩ = some (uv x.r.b.v) := Bx.cell 1
  have cx2 : w1.cell? ⟨w.heap.size + 1, 2, none⟩ = some (uv x.r.b.m) := Bx.cell 2
  have cx3 : w1.cell? ⟨w.heap.size + 1, 3, none⟩ = some (uv x.r.lo) := Bx.cell 3
  have cx4 : w1.cell? ⟨w.heap.size + 1, 4, none⟩ = some (uv x.r.hi) := Bx.cell 4
  have cx5 : w1.cell? ⟨w.heap.size + 1, 5, none⟩ = some (sv x.r.sl) := Bx.cell 5
  have cx6 : w1.cell? ⟨w.heap.size + 1, 6, none⟩ = some (sv x.r.sh) := Bx.cell 6
  have cx7 : w1.cell? ⟨w.heap.size + 1, 7, none⟩ = some (.int .i64 x.slot) := Bx.cell 7
  have cx8 : w1.cell? ⟨w.heap.size + 1, 8, none⟩ = some (.int .i64 x.id) := Bx.cell 8
  have cx9 : w1.cell? ⟨w.heap.size + 1, 9, none⟩ = some (.int .i64 x.low) := Bx.cell 9
  have cx10 : w1.cell? ⟨w.heap.size + 1, 10, none⟩ = some (.int .i64 x.high) := Bx.cell 10
  have fx := Bx.frozen; have lx := Bx.lt
  have fr := Br.frozen; have lr := Br.lt
  clear hzs
  go_wp2_with fail
  refine (k_f _).mono ?_
  rintro e w' ⟨rfl, rfl⟩
  go_wp2_with fail
  refine (k_z _).mono ?_
  rintro e w' ⟨rfl, rfl⟩
  go_upto_region 4 with fail
  go_wp2_with (first | (refine wpList_load_whole rfl 69 (.tmp 4) rfl (w.heap.size) rfl 69 (stv s) _ Bs Try.underlying69 rfl (size_st s) ?_) | (refine wpList_store_whole rfl 69 (.tmp 8) (.tmp 50) rfl (w.heap.size + 1 + 1) (stv s) rfl rfl 69 (stv zs) Br (size_st s) (by rw [stv_size, stv_size]) (stv_one s) ?_))
  intro w2 hS
  clear  fs ls
  clear cx0 cx1 cx2 cx3 cx4 cx5 cx6 cx7 cx8 cx9 cx10 fx lx
  clear  fr lr
  replace Bs := hS.far (by first | (simp; done) | (simp; omega) | (simp [*]; done) | (simp only [ne_eq]; constructor <;> omega)) Bs
  replace Bx := hS.far (by first | (simp; done) | (simp; omega) | (simp [*]; done) | (simp only [ne_eq]; constructor <;> omega)) Bx
  replace Br : Blk w2 (w.heap.size + 1 + 1) 69 (stv s) := hS.blk
  replace hB := hS.bel hB (by first | omega | (simp; omega))
  clear hS
  have fs := Bs.frozen; have ls := Bs.lt
  have cx0 : w2.cell? ⟨w.heap.size + 1, 0, none⟩ = some (.int .i64 x.kind) := Bx.cell 0
  have cx1 : w2.cell? ⟨w.heap.size + 1, 1, none⟩ = some (uv x.r.b.v) := Bx.cell 1
  have cx2 : w2.cell? ⟨w.heap.size + 1, 2, none⟩ = some (uv x.r.b.m) := Bx.cell 2
  have cx3 : w2.cell? ⟨w.heap.size + 1, 3, none⟩ = some (uv x.r.lo) := Bx.cell 3
  have cx4 : w2.cell? ⟨w.heap.size + 1, 4, none⟩ = some (uv x.r.hi) := Bx.cell 4
  have cx5 : w2.cell? ⟨w.heap.size + 1, 5, none⟩ = some (sv x.r.sl) := Bx.cell 5
  have cx6 : w2.cell? ⟨w.heap.size + 1, 6, none⟩ = some (sv x.r.sh) := Bx.cell 6
  have cx7 : w2.cell? ⟨w.heap.size + 1, 7, none⟩ = some (.int .i64 x.slot) := Bx.cell 7
  have cx8 : w2.cell? ⟨w.heap.size + 1, 8, none⟩ = some (.int .i64 x.id) := Bx.cell 8
  have cx9 : w2.cell? ⟨w.heap.size + 1, 9, none⟩ = some (.int .i64 x.low) := Bx.cell 9
  have cx10 : w2.cell? ⟨w.heap.size + 1, 10, none⟩ = some (.int .i64 x.high) := Bx.cell 10
  have fx := Bx.frozen; have lx := Bx.lt
  have fr := Br.frozen; have lr := Br.lt
  go_wp2_with fail
  exact bodyPost_ret (v := .tuple #[.agg (stv s), .bool false]) (results_row_tmp Try.results48 _ _ (w.heap.size + 1 + 1) 69 (stv s) _ rfl Br Try.underlying69 rfl (size_st _)) rfl ⟨rfl, hB⟩
set_option maxRecDepth 100000 in
set_option maxHeartbeats 800000 in
theorem save_d2 (s : St) (z : Int) (f : Nat) (h8 : ¬ f % 8 = 0) (x : Rg) (h0 : (x.kind == 0) = false) (h1 : (x.kind == 1) = false) (k_f : ∀ w : World, Calls Try.prog 61 #[.int .i64 z, .int .i64 8] w fun e w' => e = .returned (.tuple #[.int .i64 (f : Int), .bool true]) ∧ w = w') (w : World) : Calls Try.prog 48 #[.agg (stv s), .int .i64 z, .int .i64 8, gv x] w fun e w' => e = .returned (.tuple #[.agg (stv s), .bool false]) ∧ Below w.heap.size w w' := by
  have k_z := sized_c 8
  have h8i : ¬ (f : Int) % 8 = 0 := by omega
  have h8j : ((f : Int) % 8 == 0) = false := by simpa using h8i
  have h1n : (x.kind != 1) = true := by unfold bne; rw [h1]; rfl
  have hzs := zero_st
  go_enter Try.func48, Try.ntmps48
  go_wp2_with fail
  obtain ⟨gs, hgs⟩ : ∃ g, g = w.heap.size := ⟨_, rfl⟩
  obtain ⟨gx, hgx⟩ : ∃ g, g = w.heap.size + 1 := ⟨_, rfl⟩
  obtain ⟨gr, hgr⟩ : ∃ g, g = w.heap.size + 1 + 1 := ⟨_, rfl⟩
  have Bs : Blk (((w.alloc (.cells (stv s) 69)).alloc (.cells #[.int .i64 x.kind, uv x.r.b.v, uv x.r.b.m, uv x.r.lo, uv x.r.hi, sv x.r.sl, sv x.r.sh, .int .i64 x.slot, .int .i64 x.id, .int .i64 x.low, .int .i64 x.high] 64)).alloc (.cells (stv zs) 69)) (w.heap.size) 69 (stv s) := (((Blk.new w 69 (stv s))).alloc _).alloc _
  have Bx : Blk (((w.alloc (.cells (stv s) 69)).alloc (.cells #[.int .i64 x.kind, uv x.r.b.v, uv x.r.b.m, uv x.r.lo, uv x.r.hi, sv x.r.sl, sv x.r.sh, .int .i64 x.slot, .int .i64 x.id, .int .i64 x.low, .int .i64 x.high] 64)).alloc (.cells (stv zs) 69)) (w.heap.size + 1) 64 #[.int .i64 x.kind, uv x.r.b.v, uv x.r.b.m, uv x.r.lo, uv x.r.hi, sv x.r.sl, sv x.r.sh, .int .i64 x.slot, .int .i64 x.id, .int .i64 x.low, .int .i64 x.high] := ((by simpa using Blk.new (w.alloc (.cells (stv s) 69)) 64 #[.int .i64 x.kind, uv x.r.b.v, uv x.r.b.m, uv x.r.lo, uv x.r.hi, sv x.r.sl, sv x.r.sh, .int .i64 x.slot, .int .i64 x.id, .int .i64 x.low, .int .i64 x.high] : Blk _ (w.heap.size + 1) 64 #[.int .i64 x.kind, uv x.r.b.v, uv x.r.b.m, uv x.r.lo, uv x.r.hi, sv x.r.sl, sv x.r.sh, .int .i64 x.slot, .int .i64 x.id, .int .i64 x.low, .int .i64 x.high])).alloc _
  have Br : Blk (((w.alloc (.cells (stv s) 69)).alloc (.cells #[.int .i64 x.kind, uv x.r.b.v, uv x.r.b.m, uv x.r.lo, uv x.r.hi, sv x.r.sl, sv x.r.sh, .int .i64 x.slot, .int .i64 x.id, .int .i64 x.low, .int .i64 x.high] 64)).alloc (.cells (stv zs) 69)) (w.heap.size + 1 + 1) 69 (stv zs) := (by simpa using Blk.new ((w.alloc (.cells (stv s) 69)).alloc (.cells #[.int .i64 x.kind, uv x.r.b.v, uv x.r.b.m, uv x.r.lo, uv x.r.hi, sv x.r.sl, sv x.r.sh, .int .i64 x.slot, .int .i64 x.id, .int .i64 x.low, .int .i64 x.high] 64)) 69 (stv zs) : Blk _ (w.heap.size + 1 + 1) 69 (stv zs))
  have hB : Below w.heap.size w (((w.alloc (.cells (stv s) 69)).alloc (.cells #[.int .i64 x.kind, uv x.r.b.v, uv x.r.b.m, uv x.r.lo, uv x.r.hi, sv x.r.sl, sv x.r.sh, .int .i64 x.slot, .int .i64 x.id, .int .i64 x.low, .int .i64 x.high] 64)).alloc (.cells (stv zs) 69)) := (Bl_alloc (Bl_alloc (Bl_alloc (Bl_refl w) _) _) _)
  clear hgs
  clear gs
  clear hgx
  clear gx
  clear hgr
  clear gr
  generalize (((w.alloc (.cells (stv s) 69)).alloc (.cells #[.int .i64 x.kind, uv x.r.b.v, uv x.r.b.m, uv x.r.lo, uv x.r.hi, sv x.r.sl, sv x.r.sh, .int .i64 x.slot, .int .i64 x.id, .int .i64 x.low, .int .i64 x.high] 64)).alloc (.cells (stv zs) 69)) = w1 at *
  have fs := Bs.frozen; have ls := Bs.lt
  have cx0 : w1.cell? ⟨w.heap.size + 1, 0, none⟩ = some (.int .i64 x.kind) := Bx.cell 0
  have cx1 : w1.cell? ⟨w.heap.size + 1, 1, none⟩ = some (uv x.r.b.v) := Bx.cell 1
  have cx2 : w1.cell? ⟨w.heap.size + 1, 2, none⟩ = some (uv x.r.b.m) := Bx.cell 2
  have cx3 : w1.cell? ⟨w.heap.size + 1, 3, none⟩ = some (uv x.r.lo) := Bx.cell 3
  have cx4 : w1.cell? ⟨w.heap.size + 1, 4, none⟩ = some (uv x.r.hi) := Bx.cell 4
  have cx5 : w1.cell? ⟨w.heap.size + 1, 5, none⟩ = some (sv x.r.sl) := Bx.cell 5
  have cx6 : w1.cell? ⟨w.heap.size + 1, 6, none⟩ = some (sv x.r.sh) := Bx.cell 6
  have cx7 : w1.cell? ⟨w.heap.size + 1, 7, none⟩ = some (.int .i64 x.slot) := Bx.cell 7
  have cx8 : w1.cell? ⟨w.heap.size + 1, 8, none⟩ = some (.int .i64 x.id) := Bx.cell 8
  have cx9 : w1.cell? ⟨w.heap.size + 1, 9, none⟩ = some (.int .i64 x.low) := Bx.cell 9
  have cx10 : w1.cell? ⟨w.heap.size + 1, 10, none⟩ = some (.int .i64 x.high) := Bx.cell 10
  have fx := Bx.frozen; have lx := Bx.lt
  have fr := Br.frozen; have lr := Br.lt
  clear hzs
  go_wp2_with fail
  refine (k_f _).mono ?_
  rintro e w' ⟨rfl, rfl⟩
  go_wp2_with fail
  refine (k_z _).mono ?_
  rintro e w' ⟨rfl, rfl⟩
  go_upto_region 4 with fail
  go_wp2_with (first | (refine wpList_load_whole rfl 69 (.tmp 4) rfl (w.heap.size) rfl 69 (stv s) _ Bs Try.underlying69 rfl (size_st s) ?_) | (refine wpList_store_whole rfl 69 (.tmp 8) (.tmp 50) rfl (w.heap.size + 1 + 1) (stv s) rfl rfl 69 (stv zs) Br (size_st s) (by rw [stv_size, stv_size]) (stv_one s) ?_))
  intro w2 hS
  clear  fs ls
  clear cx0 cx1 cx2 cx3 cx4 cx5 cx6 cx7 cx8 cx9 cx10 fx lx
  clear  fr lr
  replace Bs := hS.far (by first | (simp; done) | (simp; omega) | (simp [*]; done) | (simp only [ne_eq]; constructor <;> omega)) Bs
  replace Bx := hS.far (by first | (simp; done) | (simp; omega) | (simp [*]; done) | (simp only [ne_eq]; constructor <;> omega)) Bx
  replace Br : Blk w2 (w.heap.size + 1 + 1) 69 (stv s) := hS.blk
  replace hB := hS.bel hB (by first | omega | (simp; omega))
  clear hS
  have fs := Bs.frozen; have ls := Bs.lt
  have cx0 : w2.cell? ⟨w.heap.size + 1, 0, none⟩ = some (.int .i64 x.kind) := Bx.cell 0
  have cx1 : w2.cell? ⟨w.heap.size + 1, 1, none⟩ = some (uv x.r.b.v) := Bx.cell 1
  have cx2 : w2.cell? ⟨w.heap.size + 1, 2, none⟩ = some (uv x.r.b.m) := Bx.cell 2
  have cx3 : w2.cell? ⟨w.heap.size + 1, 3, none⟩ = some (uv x.r.lo) := Bx.cell 3
  have cx4 : w2.cell? ⟨w.heap.size + 1, 4, none⟩ = some (uv x.r.hi) := Bx.cell 4
  have cx5 : w2.cell? ⟨w.heap.size + 1, 5, none⟩ = some (sv x.r.sl) := Bx.cell 5
  have cx6 : w2.cell? ⟨w.heap.size + 1, 6, none⟩ = some (sv x.r.sh) := Bx.cell 6
  have cx7 : w2.cell? ⟨w.heap.size + 1, 7, none⟩ = some (.int .i64 x.slot) := Bx.cell 7
  have cx8 : w2.cell? ⟨w.heap.size + 1, 8, none⟩ = some (.int .i64 x.id) := Bx.cell 8
  have cx9 : w2.cell? ⟨w.heap.size + 1, 9, none⟩ = some (.int .i64 x.low) := Bx.cell 9
  have cx10 : w2.cell? ⟨w.heap.size + 1, 10, none⟩ = some (.int .i64 x.high) := Bx.cell 10
  have fx := Bx.frozen; have lx := Bx.lt
  have fr := Br.frozen; have lr := Br.lt
  go_wp2_with fail
  exact bodyPost_ret (v := .tuple #[.agg (stv s), .bool false]) (results_row_tmp Try.results48 _ _ (w.heap.size + 1 + 1) 69 (stv s) _ rfl Br Try.underlying69 rfl (size_st _)) rfl ⟨rfl, hB⟩
set_option maxRecDepth 100000 in
set_option maxHeartbeats 800000 in
theorem save_c3 (s : St) (z : Int) (f k : Nat) (hk : k < 8) (hf : f = 8 * k) (x : Rg) (h0 : (x.kind == 0) = true) (h1 : (x.kind == 1) = false) (k_f : ∀ w : World, Calls Try.prog 61 #[.int .i64 z, .int .i64 8] w fun e w' => e = .returned (.tuple #[.int .i64 (f : Int), .bool true]) ∧ w = w') (w : World) : Calls Try.prog 48 #[.agg (stv s), .int .i64 z, .int .i64 8, gv x] w fun e w' => e = .returned (.tuple #[.agg (stv s), .bool false]) ∧ Below w.heap.size w w' := by
  have k_z := sized_c 8
  have hzs := zero_st
  go_enter Try.func48, Try.ntmps48
  go_wp2_with fail
  obtain ⟨gs, hgs⟩ : ∃ g, g = w.heap.size := ⟨_, rfl⟩
  obtain ⟨gx, hgx⟩ : ∃ g, g = w.heap.size + 1 := ⟨_, rfl⟩
  obtain ⟨gr, hgr⟩ : ∃ g, g = w.heap.size + 1 + 1 := ⟨_, rfl⟩
  have Bs : Blk (((w.alloc (.cells (stv s) 69)).alloc (.cells #[.int .i64 x.kind, uv x.r.b.v, uv x.r.b.m, uv x.r.lo, uv x.r.hi, sv x.r.sl, sv x.r.sh, .int .i64 x.slot, .int .i64 x.id, .int .i64 x.low, .int .i64 x.high] 64)).alloc (.cells (stv zs) 69)) (w.heap.size) 69 (stv s) := (((Blk.new w 69 (stv s))).alloc _).alloc _
  have Bx : Blk (((w.alloc (.cells (stv s) 69)).alloc (.cells #[.int .i64 x.kind, uv x.r.b.v, uv x.r.b.m, uv x.r.lo, uv x.r.hi, sv x.r.sl, sv x.r.sh, .int .i64 x.slot, .int .i64 x.id, .int .i64 x.low, .int .i64 x.high] 64)).alloc (.cells (stv zs) 69)) (w.heap.size + 1) 64 #[.int .i64 x.kind, uv x.r.b.v, uv x.r.b.m, uv x.r.lo, uv x.r.hi, sv x.r.sl, sv x.r.sh, .int .i64 x.slot, .int .i64 x.id, .int .i64 x.low, .int .i64 x.high] := ((by simpa using Blk.new (w.alloc (.cells (stv s) 69)) 64 #[.int .i64 x.kind, uv x.r.b.v, uv x.r.b.m, uv x.r.lo, uv x.r.hi, sv x.r.sl, sv x.r.sh, .int .i64 x.slot, .int .i64 x.id, .int .i64 x.low, .int .i64 x.high] : Blk _ (w.heap.size + 1) 64 #[.int .i64 x.kind, uv x.r.b.v, uv x.r.b.m, uv x.r.lo, uv x.r.hi, sv x.r.sl, sv x.r.sh, .int .i64 x.slot, .int .i64 x.id, .int .i64 x.low, .int .i64 x.high])).alloc _
  have Br : Blk (((w.alloc (.cells (stv s) 69)).alloc (.cells #[.int .i64 x.kind, uv x.r.b.v, uv x.r.b.m, uv x.r.lo, uv x.r.hi, sv x.r.sl, sv x.r.sh, .int .i64 x.slot, .int .i64 x.id, .int .i64 x.low, .int .i64 x.high] 64)).alloc (.cells (stv zs) 69)) (w.heap.size + 1 + 1) 69 (stv zs) := (by simpa using Blk.new ((w.alloc (.cells (stv s) 69)).alloc (.cells #[.int .i64 x.kind, uv x.r.b.v, uv x.r.b.m, uv x.r.lo, uv x.r.hi, sv x.r.sl, sv x.r.sh, .int .i64 x.slot, .int .i64 x.id, .int .i64 x.low, .int .i64 x.high] 64)) 69 (stv zs) : Blk _ (w.heap.size + 1 + 1) 69 (stv zs))
  have hB : Below w.heap.size w (((w.alloc (.cells (stv s) 69)).alloc (.cells #[.int .i64 x.kind, uv x.r.b.v, uv x.r.b.m, uv x.r.lo, uv x.r.hi, sv x.r.sl, sv x.r.sh, .int .i64 x.slot, .int .i64 x.id, .int .i64 x.low, .int .i64 x.high] 64)).alloc (.cells (stv zs) 69)) := (Bl_alloc (Bl_alloc (Bl_alloc (Bl_refl w) _) _) _)
  clear hgs
  clear gs
  clear hgx
  clear gx
  clear hgr
  clear gr
  generalize (((w.alloc (.cells (stv s) 69)).alloc (.cells #[.int .i64 x.kind, uv x.r.b.v, uv x.r.b.m, uv x.r.lo, uv x.r.hi, sv x.r.sl, sv x.r.sh, .int .i64 x.slot, .int .i64 x.id, .int .i64 x.low, .int .i64 x.high] 64)).alloc (.cells (stv zs) 69)) = w1 at *
  have fs := Bs.frozen; have ls := Bs.lt
  have cx0 : w1.cell? ⟨w.heap.size + 1, 0, none⟩ = some (.int .i64 x.kind) := Bx.cell 0
  have cx1 : w1.cell? ⟨w.heap.size + 1, 1, none⟩ = some (uv x.r.b.v) := Bx.cell 1
  have cx2 : w1.cell? ⟨w.heap.size + 1, 2, none⟩ = some (uv x.r.b.m) := Bx.cell 2
  have cx3 : w1.cell? ⟨w.heap.size + 1, 3, none⟩ = some (uv x.r.lo) := Bx.cell 3
  have cx4 : w1.cell? ⟨w.heap.size + 1, 4, none⟩ = some (uv x.r.hi) := Bx.cell 4
  have cx5 : w1.cell? ⟨w.heap.size + 1, 5, none⟩ = some (sv x.r.sl) := Bx.cell 5
  have cx6 : w1.cell? ⟨w.heap.size + 1, 6, none⟩ = some (sv x.r.sh) := Bx.cell 6
  have cx7 : w1.cell? ⟨w.heap.size + 1, 7, none⟩ = some (.int .i64 x.slot) := Bx.cell 7
  have cx8 : w1.cell? ⟨w.heap.size + 1, 8, none⟩ = some (.int .i64 x.id) := Bx.cell 8
  have cx9 : w1.cell? ⟨w.heap.size + 1, 9, none⟩ = some (.int .i64 x.low) := Bx.cell 9
  have cx10 : w1.cell? ⟨w.heap.size + 1, 10, none⟩ = some (.int .i64 x.high) := Bx.cell 10
  have fx := Bx.frozen; have lx := Bx.lt
  have fr := Br.frozen; have lr := Br.lt
  clear hzs
  go_wp2_with fail
  refine (k_f _).mono ?_
  rintro e w' ⟨rfl, rfl⟩
  go_wp2_with fail
  refine (k_z _).mono ?_
  rintro e w' ⟨rfl, rfl⟩
  go_upto_region 4 with fail
  go_wp2_with (first | (refine wpList_load_whole rfl 69 (.tmp 4) rfl (w.heap.size) rfl 69 (stv s) _ Bs Try.underlying69 rfl (size_st s) ?_) | (refine wpList_store_whole rfl 69 (.tmp 8) (.tmp 50) rfl (w.heap.size + 1 + 1) (stv s) rfl rfl 69 (stv zs) Br (size_st s) (by rw [stv_size, stv_size]) (stv_one s) ?_))
  intro w2 hS
  clear  fs ls
  clear cx0 cx1 cx2 cx3 cx4 cx5 cx6 cx7 cx8 cx9 cx10 fx lx
  clear  fr lr
  replace Bs := hS.far (by first | (simp; done) | (simp; omega) | (simp [*]; done) | (simp only [ne_eq]; constructor <;> omega)) Bs
  replace Bx := hS.far (by first | (simp; done) | (simp; omega) | (simp [*]; done) | (simp only [ne_eq]; constructor <;> omega)) Bx
  replace Br : Blk w2 (w.heap.size + 1 + 1) 69 (stv s) := hS.blk
  replace hB := hS.bel hB (by first | omega | (simp; omega))
  clear hS
  have fs := Bs.frozen; have ls := Bs.lt
  have cx0 : w2.cell? ⟨w.heap.size + 1, 0, none⟩ = some (.int .i64 x.kind) := Bx.cell 0
  have cx1 : w2.cell? ⟨w.heap.size + 1, 1, none⟩ = some (uv x.r.b.v) := Bx.cell 1
  have cx2 : w2.cell? ⟨w.heap.size + 1, 2, none⟩ = some (uv x.r.b.m) := Bx.cell 2
  have cx3 : w2.cell? ⟨w.heap.size + 1, 3, none⟩ = some (uv x.r.lo) := Bx.cell 3
  have cx4 : w2.cell? ⟨w.heap.size + 1, 4, none⟩ = some (uv x.r.hi) := Bx.cell 4
  have cx5 : w2.cell? ⟨w.heap.size + 1, 5, none⟩ = some (sv x.r.sl) := Bx.cell 5
  have cx6 : w2.cell? ⟨w.heap.size + 1, 6, none⟩ = some (sv x.r.sh) := Bx.cell 6
  have cx7 : w2.cell? ⟨w.heap.size + 1, 7, none⟩ = some (.int .i64 x.slot) := Bx.cell 7
  have cx8 : w2.cell? ⟨w.heap.size + 1, 8, none⟩ = some (.int .i64 x.id) := Bx.cell 8
  have cx9 : w2.cell? ⟨w.heap.size + 1, 9, none⟩ = some (.int .i64 x.low) := Bx.cell 9
  have cx10 : w2.cell? ⟨w.heap.size + 1, 10, none⟩ = some (.int .i64 x.high) := Bx.cell 10
  have fx := Bx.frozen; have lx := Bx.lt
  have fr := Br.frozen; have lr := Br.lt
  go_wp2_with fail
  exact bodyPost_ret (v := .tuple #[.agg (stv s), .bool false]) (results_row_tmp Try.results48 _ _ (w.heap.size + 1 + 1) 69 (stv s) _ rfl Br Try.underlying69 rfl (size_st _)) rfl ⟨rfl, hB⟩
end Go.Proofs.Ytmghpoagpiljhaa
