/- The walks of package absreg: Load. -/
import Derived.Test.YtmghpoagpiljhaaAbs3
import Derived.Test.YtmghpoagpiljhaaSc4
set_option linter.unusedSimpArgs false
namespace Go.Proofs.Ytmghpoagpiljhaa
open Go.RowKit
open PlainTnum (N)
open PlainScalar (Rng)
open PlainAbs (Rg St zr zs upd)
theorem kept_vals (s : St) {k : Nat} (hk : k < 8) {x : Rg} (hx : x = s.kept k) : ∀ j v, (#[.int .i64 x.kind, uv x.r.b.v, uv x.r.b.m, uv x.r.lo, uv x.r.hi, sv x.r.sl, sv x.r.sh, .int .i64 x.slot, .int .i64 x.id, .int .i64 x.low, .int .i64 x.high] : Array Value).toList[j]? = some v → (stv s)[185 + k * 11 + j]? = some v := by
  intro j v hj
  have hj11 : j < 11 := by have := (List.getElem?_eq_some_iff.1 hj).1; simpa using this
  rw [stv_get s (by omega), kept_at s hk hj11, ← hx, ← gl_at x j hj11]; exact hj
theorem r_vals (s : St) {k : Nat} (hk : k < 11) {x : Rg} (hx : x = s.r k) : ∀ j v, (#[.int .i64 x.kind, uv x.r.b.v, uv x.r.b.m, uv x.r.lo, uv x.r.hi, sv x.r.sl, sv x.r.sh, .int .i64 x.slot, .int .i64 x.id, .int .i64 x.low, .int .i64 x.high] : Array Value).toList[j]? = some v → (stv s)[k * 11 + j]? = some v := by
  intro j v hj
  have hj11 : j < 11 := by have := (List.getElem?_eq_some_iff.1 hj).1; simpa using this
  rw [stv_get s (by omega), r_at s hk hj11, ← hx, ← gl_at x j hj11]; exact hj
theorem size_re (v0 v1 v2 v3 v4 v5 v6 v7 v8 v9 v10 : Value) : (Try.prog.info? 64).map (·.size) = some (#[v0, v1, v2, v3, v4, v5, v6, v7, v8, v9, v10] : Array Value).size := by kernel_rfl
set_option maxRecDepth 100000 in
set_option maxHeartbeats 800000 in
theorem load_kept (s : St) (f k : Nat) (hk : k < 8) (hf : f = 8 * k) (z : Int) (hn0 : (s.kept k).kind ≠ 0) (k_f : ∀ w : World, Calls Try.prog 61 #[.int .i64 z, .int .i64 8] w fun e w' => e = .returned (.tuple #[.int .i64 (f : Int), .bool true]) ∧ w = w') (w : World) : Calls Try.prog 50 #[.agg (stv s), .int .i64 z, .int .i64 8] w fun e w' => e = .returned (.tuple #[gv (s.kept k), .bool true]) ∧ Below w.heap.size w w' := by
  obtain ⟨x, e_x⟩ : ∃ z', z' = s.kept k := ⟨_, rfl⟩
  rw [← e_x] at hn0 ⊢; have Hx := Lib.hid e_x; clear e_x
  have hk0 : (x.kind == 0) = false := by simpa using hn0
  have k_z := sized_c 8
  clear hn0
  go_enter Try.func50, Try.ntmps50
  go_wp2_with fail
  obtain ⟨gs, hgs⟩ : ∃ g, g = w.heap.size := ⟨_, rfl⟩
  obtain ⟨gr, hgr⟩ : ∃ g, g = w.heap.size + 1 := ⟨_, rfl⟩
  have Bs : Blk ((w.alloc (.cells (stv s) 69)).alloc (.cells #[.int .i64 0, .int .u64 0, .int .u64 0, .int .u64 0, .int .u64 0, .int .i64 0, .int .i64 0, .int .i64 0, .int .i64 0, .int .i64 0, .int .i64 0] 64)) (w.heap.size) 69 (stv s) := ((Blk.new w 69 (stv s))).alloc _
  have Br : Blk ((w.alloc (.cells (stv s) 69)).alloc (.cells #[.int .i64 0, .int .u64 0, .int .u64 0, .int .u64 0, .int .u64 0, .int .i64 0, .int .i64 0, .int .i64 0, .int .i64 0, .int .i64 0, .int .i64 0] 64)) (w.heap.size + 1) 64 #[.int .i64 0, .int .u64 0, .int .u64 0, .int .u64 0, .int .u64 0, .int .i64 0, .int .i64 0, .int .i64 0, .int .i64 0, .int .i64 0, .int .i64 0] := (by simpa using Blk.new (w.alloc (.cells (stv s) 69)) 64 #[.int .i64 0, .int .u64 0, .int .u64 0, .int .u64 0, .int .u64 0, .int .i64 0, .int .i64 0, .int .i64 0, .int .i64 0, .int .i64 0, .int .i64 0] : Blk _ (w.heap.size + 1) 64 #[.int .i64 0, .int .u64 0, .int .u64 0, .int .u64 0, .int .u64 0, .int .i64 0, .int .i64 0, .int .i64 0, .int .i64 0, .int .i64 0, .int .i64 0])
  have hB : Below w.heap.size w ((w.alloc (.cells (stv s) 69)).alloc (.cells #[.int .i64 0, .int .u64 0, .int .u64 0, .int .u64 0, .int .u64 0, .int .i64 0, .int .i64 0, .int .i64 0, .int .i64 0, .int .i64 0, .int .i64 0] 64)) := (Bl_alloc (Bl_alloc (Bl_refl w) _) _)
  clear hgs
  clear gs
  clear hgr
  clear gr
  generalize ((w.alloc (.cells (stv s) 69)).alloc (.cells #[.int .i64 0, .int .u64 0, .int .u64 0, .int .u64 0, .int .u64 0, .int .i64 0, .int .i64 0, .int .i64 0, .int .i64 0, .int .i64 0, .int .i64 0] 64)) = w1 at *
  have fs := Bs.frozen; have ls := Bs.lt
  have cr0 : w1.cell? ⟨w.heap.size + 1, 0, none⟩ = some (.int .i64 0) := Br.cell 0
  have cr1 : w1.cell? ⟨w.heap.size + 1, 1, none⟩ = some (.int .u64 0) := Br.cell 1
  have cr2 : w1.cell? ⟨w.heap.size + 1, 2, none⟩ = some (.int .u64 0) := Br.cell 2
  have cr3 : w1.cell? ⟨w.heap.size + 1, 3, none⟩ = some (.int .u64 0) := Br.cell 3
  have cr4 : w1.cell? ⟨w.heap.size + 1, 4, none⟩ = some (.int .u64 0) := Br.cell 4
  have cr5 : w1.cell? ⟨w.heap.size + 1, 5, none⟩ = some (.int .i64 0) := Br.cell 5
  have cr6 : w1.cell? ⟨w.heap.size + 1, 6, none⟩ = some (.int .i64 0) := Br.cell 6
  have cr7 : w1.cell? ⟨w.heap.size + 1, 7, none⟩ = some (.int .i64 0) := Br.cell 7
  have cr8 : w1.cell? ⟨w.heap.size + 1, 8, none⟩ = some (.int .i64 0) := Br.cell 8
  have cr9 : w1.cell? ⟨w.heap.size + 1, 9, none⟩ = some (.int .i64 0) := Br.cell 9
  have cr10 : w1.cell? ⟨w.heap.size + 1, 10, none⟩ = some (.int .i64 0) := Br.cell 10
  have fr := Br.frozen; have lr := Br.lt
  go_wp2_with fail
  refine (k_f _).mono ?_
  rintro e w' ⟨rfl, rfl⟩
  go_wp2_with fail
  refine (k_z _).mono ?_
  rintro e w' ⟨rfl, rfl⟩
  go_upto_region 4 with fail
  have ck : w1.cell? ⟨w.heap.size, 185 + k * 11, none⟩ = some (.int .i64 x.kind) := (by have h := Bs.cell (185 + k * 11 + 0); rw [stv_get s (by omega), kept_at s hk (by omega)] at h; rw [Hx.out]; exact h)
  go_upto_region 5 with fail
  go_wp2_with (first | (refine wpList_load_part rfl 64 (.tmp 43) rfl (w.heap.size) (185 + k * 11) rfl 69 (stv s) #[.int .i64 x.kind, uv x.r.b.v, uv x.r.b.m, uv x.r.lo, uv x.r.hi, sv x.r.sl, sv x.r.sh, .int .i64 x.slot, .int .i64 x.id, .int .i64 x.low, .int .i64 x.high] _ Bs Try.underlying64 rfl (size_re _ _ _ _ _ _ _ _ _ _ _) (kept_vals s hk Hx.out) ?_) | (refine wpList_store_whole rfl 64 (.tmp 6) (.tmp 44) rfl (w.heap.size + 1) #[.int .i64 x.kind, uv x.r.b.v, uv x.r.b.m, uv x.r.lo, uv x.r.hi, sv x.r.sl, sv x.r.sh, .int .i64 x.slot, .int .i64 x.id, .int .i64 x.low, .int .i64 x.high] rfl rfl 64 _ Br (size_re _ _ _ _ _ _ _ _ _ _ _) rfl (by simp [Value.oneCell']) ?_))
  clear ck
  intro w2 hS
  clear  fs ls
  clear cr0 cr1 cr2 cr3 cr4 cr5 cr6 cr7 cr8 cr9 cr10 fr lr
  replace Bs := hS.far (by first | (simp; done) | (simp; omega) | (simp [*]; done) | (simp only [ne_eq]; constructor <;> omega)) Bs
  replace Br : Blk w2 (w.heap.size + 1) 64 #[.int .i64 x.kind, uv x.r.b.v, uv x.r.b.m, uv x.r.lo, uv x.r.hi, sv x.r.sl, sv x.r.sh, .int .i64 x.slot, .int .i64 x.id, .int .i64 x.low, .int .i64 x.high] := hS.blk
  replace hB := hS.bel hB (by first | omega | (simp; omega))
  clear hS
  have fs := Bs.frozen; have ls := Bs.lt
  have cr0 : w2.cell? ⟨w.heap.size + 1, 0, none⟩ = some (.int .i64 x.kind) := Br.cell 0
  have cr1 : w2.cell? ⟨w.heap.size + 1, 1, none⟩ = some (uv x.r.b.v) := Br.cell 1
  have cr2 : w2.cell? ⟨w.heap.size + 1, 2, none⟩ = some (uv x.r.b.m) := Br.cell 2
  have cr3 : w2.cell? ⟨w.heap.size + 1, 3, none⟩ = some (uv x.r.lo) := Br.cell 3
  have cr4 : w2.cell? ⟨w.heap.size + 1, 4, none⟩ = some (uv x.r.hi) := Br.cell 4
  have cr5 : w2.cell? ⟨w.heap.size + 1, 5, none⟩ = some (sv x.r.sl) := Br.cell 5
  have cr6 : w2.cell? ⟨w.heap.size + 1, 6, none⟩ = some (sv x.r.sh) := Br.cell 6
  have cr7 : w2.cell? ⟨w.heap.size + 1, 7, none⟩ = some (.int .i64 x.slot) := Br.cell 7
  have cr8 : w2.cell? ⟨w.heap.size + 1, 8, none⟩ = some (.int .i64 x.id) := Br.cell 8
  have cr9 : w2.cell? ⟨w.heap.size + 1, 9, none⟩ = some (.int .i64 x.low) := Br.cell 9
  have cr10 : w2.cell? ⟨w.heap.size + 1, 10, none⟩ = some (.int .i64 x.high) := Br.cell 10
  have fr := Br.frozen; have lr := Br.lt
  go_wp2
  exact bodyPost_ret (v := .tuple #[gv x, .bool true]) (by simp [results, Try.results50, go_sem, cr0, cr1, cr2, cr3, cr4, cr5, cr6, cr7, cr8, cr9, cr10, lr]) rfl ⟨rfl, by repeat (first | (with_reducible exact hB) | (with_reducible refine Bl_set ?_ (by first | omega | (simp; done) | (simp; omega)) _) | with_reducible apply Bl_alloc)⟩
set_option maxRecDepth 100000 in
set_option maxHeartbeats 800000 in
theorem load_unsized (s : St) (z n : Int) (x : Int) (b : Bool) (hz : PlainAbs.sized n = false) (k_f : ∀ w : World, Calls Try.prog 61 #[.int .i64 z, .int .i64 n] w fun e w' => e = .returned (.tuple #[.int .i64 x, .bool b]) ∧ w = w') (w : World) : Calls Try.prog 50 #[.agg (stv s), .int .i64 z, .int .i64 n] w fun e w' => e = .returned (.tuple #[.agg #[.int .i64 0, .int .u64 0, .int .u64 0, .int .u64 0, .int .u64 0, .int .i64 0, .int .i64 0, .int .i64 0, .int .i64 0, .int .i64 0, .int .i64 0], .bool false]) ∧ Below w.heap.size w w' := by
  have k_z := sized_c n; rw [hz] at k_z; clear hz
  go_enter Try.func50, Try.ntmps50
  go_wp2_with fail
  obtain ⟨gs, hgs⟩ : ∃ g, g = w.heap.size := ⟨_, rfl⟩
  obtain ⟨gr, hgr⟩ : ∃ g, g = w.heap.size + 1 := ⟨_, rfl⟩
  have Bs : Blk ((w.alloc (.cells (stv s) 69)).alloc (.cells #[.int .i64 0, .int .u64 0, .int .u64 0, .int .u64 0, .int .u64 0, .int .i64 0, .int .i64 0, .int .i64 0, .int .i64 0, .int .i64 0, .int .i64 0] 64)) (w.heap.size) 69 (stv s) := ((Blk.new w 69 (stv s))).alloc _
  have Br : Blk ((w.alloc (.cells (stv s) 69)).alloc (.cells #[.int .i64 0, .int .u64 0, .int .u64 0, .int .u64 0, .int .u64 0, .int .i64 0, .int .i64 0, .int .i64 0, .int .i64 0, .int .i64 0, .int .i64 0] 64)) (w.heap.size + 1) 64 #[.int .i64 0, .int .u64 0, .int .u64 0, .int .u64 0, .int .u64 0, .int .i64 0, .int .i64 0, .int .i64 0, .int .i64 0, .int .i64 0, .int .i64 0] := (by simpa using Blk.new (w.alloc (.cells (stv s) 69)) 64 #[.int .i64 0, .int .u64 0, .int .u64 0, .int .u64 0, .int .u64 0, .int .i64 0, .int .i64 0, .int .i64 0, .int .i64 0, .int .i64 0, .int .i64 0] : Blk _ (w.heap.size + 1) 64 #[.int .i64 0, .int .u64 0, .int .u64 0, .int .u64 0, .int .u64 0, .int .i64 0, .int .i64 0, .int .i64 0, .int .i64 0, .int .i64 0, .int .i64 0])
  have hB : Below w.heap.size w ((w.alloc (.cells (stv s) 69)).alloc (.cells #[.int .i64 0, .int .u64 0, .int .u64 0, .int .u64 0, .int .u64 0, .int .i64 0, .int .i64 0, .int .i64 0, .int .i64 0, .int .i64 0, .int .i64 0] 64)) := (Bl_alloc (Bl_alloc (Bl_refl w) _) _)
  clear hgs
  clear gs
  clear hgr
  clear gr
  generalize ((w.alloc (.cells (stv s) 69)).alloc (.cells #[.int .i64 0, .int .u64 0, .int .u64 0, .int .u64 0, .int .u64 0, .int .i64 0, .int .i64 0, .int .i64 0, .int .i64 0, .int .i64 0, .int .i64 0] 64)) = w1 at *
  have fs := Bs.frozen; have ls := Bs.lt
  have cr0 : w1.cell? ⟨w.heap.size + 1, 0, none⟩ = some (.int .i64 0) := Br.cell 0
  have cr1 : w1.cell? ⟨w.heap.size + 1, 1, none⟩ = some (.int .u64 0) := Br.cell 1
  have cr2 : w1.cell? ⟨w.heap.size + 1, 2, none⟩ = some (.int .u64 0) := Br.cell 2
  have cr3 : w1.cell? ⟨w.heap.size + 1, 3, none⟩ = some (.int .u64 0) := Br.cell 3
  have cr4 : w1.cell? ⟨w.heap.size + 1, 4, none⟩ = some (.int .u64 0) := Br.cell 4
  have cr5 : w1.cell? ⟨w.heap.size + 1, 5, none⟩ = some (.int .i64 0) := Br.cell 5
  have cr6 : w1.cell? ⟨w.heap.size + 1, 6, none⟩ = some (.int .i64 0) := Br.cell 6
  have cr7 : w1.cell? ⟨w.heap.size + 1, 7, none⟩ = some (.int .i64 0) := Br.cell 7
  have cr8 : w1.cell? ⟨w.heap.size + 1, 8, none⟩ = some (.int .i64 0) := Br.cell 8
  have cr9 : w1.cell? ⟨w.heap.size + 1, 9, none⟩ = some (.int .i64 0) := Br.cell 9
  have cr10 : w1.cell? ⟨w.heap.size + 1, 10, none⟩ = some (.int .i64 0) := Br.cell 10
  have fr := Br.frozen; have lr := Br.lt
  go_wp2_with fail
  refine (k_f _).mono ?_
  rintro e w' ⟨rfl, rfl⟩
  go_wp2_with fail
  refine (k_z _).mono ?_
  rintro e w' ⟨rfl, rfl⟩
  go_upto_region 3 with fail
  go_wp2_with (refine wpList_store_whole rfl 64 (.tmp 6) (.tmp 23) rfl (w.heap.size + 1) #[.int .i64 0, .int .u64 0, .int .u64 0, .int .u64 0, .int .u64 0, .int .i64 0, .int .i64 0, .int .i64 0, .int .i64 0, .int .i64 0, .int .i64 0] rfl rfl 64 _ Br (size_re _ _ _ _ _ _ _ _ _ _ _) rfl (by simp [Value.oneCell']) ?_)
  intro w2 hS
  clear  fs ls
  clear cr0 cr1 cr2 cr3 cr4 cr5 cr6 cr7 cr8 cr9 cr10 fr lr
  replace Bs := hS.far (by first | (simp; done) | (simp; omega) | (simp [*]; done) | (simp only [ne_eq]; constructor <;> omega)) Bs
  replace Br : Blk w2 (w.heap.size + 1) 64 #[.int .i64 0, .int .u64 0, .int .u64 0, .int .u64 0, .int .u64 0, .int .i64 0, .int .i64 0, .int .i64 0, .int .i64 0, .int .i64 0, .int .i64 0] := hS.blk
  replace hB := hS.bel hB (by first | omega | (simp; omega))
  clear hS
  have fs := Bs.frozen; have ls := Bs.lt
  have cr0 : w2.cell? ⟨w.heap.size + 1, 0, none⟩ = some (.int .i64 0) := Br.cell 0
  have cr1 : w2.cell? ⟨w.heap.size + 1, 1, none⟩ = some (.int .u64 0) := Br.cell 1
  have cr2 : w2.cell? ⟨w.heap.size + 1, 2, none⟩ = some (.int .u64 0) := Br.cell 2
  have cr3 : w2.cell? ⟨w.heap.size + 1, 3, none⟩ = some (.int .u64 0) := Br.cell 3
  have cr4 : w2.cell? ⟨w.heap.size + 1, 4, none⟩ = some (.int .u64 0) := Br.cell 4
  have cr5 : w2.cell? ⟨w.heap.size + 1, 5, none⟩ = some (.int .i64 0) := Br.cell 5
  have cr6 : w2.cell? ⟨w.heap.size + 1, 6, none⟩ = some (.int .i64 0) := Br.cell 6
  have cr7 : w2.cell? ⟨w.heap.size + 1, 7, none⟩ = some (.int .i64 0) := Br.cell 7
  have cr8 : w2.cell? ⟨w.heap.size + 1, 8, none⟩ = some (.int .i64 0) := Br.cell 8
  have cr9 : w2.cell? ⟨w.heap.size + 1, 9, none⟩ = some (.int .i64 0) := Br.cell 9
  have cr10 : w2.cell? ⟨w.heap.size + 1, 10, none⟩ = some (.int .i64 0) := Br.cell 10
  have fr := Br.frozen; have lr := Br.lt
  go_wp2
  exact bodyPost_ret (v := .tuple #[.agg #[.int .i64 0, .int .u64 0, .int .u64 0, .int .u64 0, .int .u64 0, .int .i64 0, .int .i64 0, .int .i64 0, .int .i64 0, .int .i64 0, .int .i64 0], .bool false]) (by simp [results, Try.results50, go_sem, cr0, cr1, cr2, cr3, cr4, cr5, cr6, cr7, cr8, cr9, cr10, lr]) rfl ⟨rfl, by repeat (first | (with_reducible exact hB) | (with_reducible refine Bl_set ?_ (by first | omega | (simp; done) | (simp; omega)) _) | with_reducible apply Bl_alloc)⟩
set_option maxRecDepth 100000 in
set_option maxHeartbeats 800000 in
theorem load_nowhere (s : St) (z n : Int) (x : Int) (hz : PlainAbs.sized n = true) (k_f : ∀ w : World, Calls Try.prog 61 #[.int .i64 z, .int .i64 n] w fun e w' => e = .returned (.tuple #[.int .i64 x, .bool false]) ∧ w = w') (w : World) : Calls Try.prog 50 #[.agg (stv s), .int .i64 z, .int .i64 n] w fun e w' => e = .returned (.tuple #[.agg #[.int .i64 0, .int .u64 0, .int .u64 0, .int .u64 0, .int .u64 0, .int .i64 0, .int .i64 0, .int .i64 0, .int .i64 0, .int .i64 0, .int .i64 0], .bool false]) ∧ Below w.heap.size w w' := by
  have k_z := sized_c n; rw [hz] at k_z; clear hz
  go_enter Try.func50, Try.ntmps50
  go_wp2_with fail
  obtain ⟨gs, hgs⟩ : ∃ g, g = w.heap.size := ⟨_, rfl⟩
  obtain ⟨gr, hgr⟩ : ∃ g, g = w.heap.size + 1 := ⟨_, rfl⟩
  have Bs : Blk ((w.alloc (.cells (stv s) 69)).alloc (.cells #[.int .i64 0, .int .u64 0, .int .u64 0, .int .u64 0, .int .u64 0, .int .i64 0, .int .i64 0, .int .i64 0, .int .i64 0, .int .i64 0, .int .i64 0] 64)) (w.heap.size) 69 (stv s) := ((Blk.new w 69 (stv s))).alloc _
  have Br : Blk ((w.alloc (.cells (stv s) 69)).alloc (.cells #[.int .i64 0, .int .u64 0, .int .u64 0, .int .u64 0, .int .u64 0, .int .i64 0, .int .i64 0, .int .i64 0, .int .i64 0, .int .i64 0, .int .i64 0] 64)) (w.heap.size + 1) 64 #[.int .i64 0, .int .u64 0, .int .u64 0, .int .u64 0, .int .u64 0, .int .i64 0, .int .i64 0, .int .i64 0, .int .i64 0, .int .i64 0, .int .i64 0] := (by simpa using Blk.new (w.alloc (.cells (stv s) 69)) 64 #[.int .i64 0, .int .u64 0, .int .u64 0, .int .u64 0, .int .u64 0, .int .i64 0, .int .i64 0, .int .i64 0, .int .i64 0, .int .i64 0, .int .i64 0] : Blk _ (w.heap.size + 1) 64 #[.int .i64 0, .int .u64 0, .int .u64 0, .int .u64 0, .int .u64 0, .int .i64 0, .int .i64 0, .int .i64 0, .int .i64 0, .int .i64 0, .int .i64 0])
  have hB : Below w.heap.size w ((w.alloc (.cells (stv s) 69)).alloc (.cells #[.int .i64 0, .int .u64 0, .int .u64 0, .int .u64 0, .int .u64 0, .int .i64 0, .int .i64 0, .int .i64 0, .int .i64 0, .int .i64 0, .int .i64 0] 64)) := (Bl_alloc (Bl_alloc (Bl_refl w) _) _)
  clear hgs
  clear gs
  clear hgr
  clear gr
  generalize ((w.alloc (.cells (stv s) 69)).alloc (.cells #[.int .i64 0, .int .u64 0, .int .u64 0, .int .u64 0, .int .u64 0, .int .i64 0, .int .i64 0, .int .i64 0, .int .i64 0, .int .i64 0, .int .i64 0] 64)) = w1 at *
  have fs := Bs.frozen; have ls := Bs.lt
  have cr0 : w1.cell? ⟨w.heap.size + 1, 0, none⟩ = some (.int .i64 0) := Br.cell 0
  have cr1 : w1.cell? ⟨w.heap.size + 1, 1, none⟩ = some (.int .u64 0) := Br.cell 1
  have cr2 : w1.cell? ⟨w.heap.size + 1, 2, none⟩ = some (.int .u64 0) := Br.cell 2
  have cr3 : w1.cell? ⟨w.heap.size + 1, 3, none⟩ = some (.int .u64 0) := Br.cell 3
  have cr4 : w1.cell? ⟨w.heap.size + 1, 4, none⟩ = some (.int .u64 0) := Br.cell 4
  have cr5 : w1.cell? ⟨w.heap.size + 1, 5, none⟩ = some (.int .i64 0) := Br.cell 5
  have cr6 : w1.cell? ⟨w.heap.size + 1, 6, none⟩ = some (.int .i64 0) := Br.cell 6
  have cr7 : w1.cell? ⟨w.heap.size + 1, 7, none⟩ = some (.int .i64 0) := Br.cell 7
  have cr8 : w1.cell? ⟨w.heap.size + 1, 8, none⟩ = some (.int .i64 0) := Br.cell 8
  have cr9 : w1.cell? ⟨w.heap.size + 1, 9, none⟩ = some (.int .i64 0) := Br.cell 9
  have cr10 : w1.cell? ⟨w.heap.size + 1, 10, none⟩ = some (.int .i64 0) := Br.cell 10
  have fr := Br.frozen; have lr := Br.lt
  go_wp2_with fail
  refine (k_f _).mono ?_
  rintro e w' ⟨rfl, rfl⟩
  go_wp2_with fail
  refine (k_z _).mono ?_
  rintro e w' ⟨rfl, rfl⟩
  go_upto_region 3 with fail
  go_wp2_with (refine wpList_store_whole rfl 64 (.tmp 6) (.tmp 23) rfl (w.heap.size + 1) #[.int .i64 0, .int .u64 0, .int .u64 0, .int .u64 0, .int .u64 0, .int .i64 0, .int .i64 0, .int .i64 0, .int .i64 0, .int .i64 0, .int .i64 0] rfl rfl 64 _ Br (size_re _ _ _ _ _ _ _ _ _ _ _) rfl (by simp [Value.oneCell']) ?_)
  intro w2 hS
  clear  fs ls
  clear cr0 cr1 cr2 cr3 cr4 cr5 cr6 cr7 cr8 cr9 cr10 fr lr
  replace Bs := hS.far (by first | (simp; done) | (simp; omega) | (simp [*]; done) | (simp only [ne_eq]; constructor <;> omega)) Bs
  replace Br : Blk w2 (w.heap.size + 1) 64 #[.int .i64 0, .int .u64 0, .int .u64 0, .int .u64 0, .int .u64 0, .int .i64 0, .int .i64 0, .int .i64 0, .int .i64 0, .int .i64 0, .int .i64 0] := hS.blk
  replace hB := hS.bel hB (by first | omega | (simp; omega))
  clear hS
  have fs := Bs.frozen; have ls := Bs.lt
  have cr0 : w2.cell? ⟨w.heap.size + 1, 0, none⟩ = some (.int .i64 0) := Br.cell 0
  have cr1 : w2.cell? ⟨w.heap.size + 1, 1, none⟩ = some (.int .u64 0) := Br.cell 1
  have cr2 : w2.cell? ⟨w.heap.size + 1, 2, none⟩ = some (.int .u64 0) := Br.cell 2
  have cr3 : w2.cell? ⟨w.heap.size + 1, 3, none⟩ = some (.int .u64 0) := Br.cell 3
  have cr4 : w2.cell? ⟨w.heap.size + 1, 4, none⟩ = some (.int .u64 0) := Br.cell 4
  have cr5 : w2.cell? ⟨w.heap.size + 1, 5, none⟩ = some (.int .i64 0) := Br.cell 5
  have cr6 : w2.cell? ⟨w.heap.size + 1, 6, none⟩ = some (.int .i64 0) := Br.cell 6
  have cr7 : w2.cell? ⟨w.heap.size + 1, 7, none⟩ = some (.int .i64 0) := Br.cell 7
  have cr8 : w2.cell? ⟨w.heap.size + 1, 8, none⟩ = some (.int .i64 0) := Br.cell 8
  have cr9 : w2.cell? ⟨w.heap.size + 1, 9, none⟩ = some (.int .i64 0) := Br.cell 9
  have cr10 : w2.cell? ⟨w.heap.size + 1, 10, none⟩ = some (.int .i64 0) := Br.cell 10
  have fr := Br.frozen; have lr := Br.lt
  go_wp2
  exact bodyPost_ret (v := .tuple #[.agg #[.int .i64 0, .int .u64 0, .int .u64 0, .int .u64 0, .int .u64 0, .int .i64 0, .int .i64 0, .int .i64 0, .int .i64 0, .int .i64 0, .int .i64 0], .bool false]) (by simp [results, Try.results50, go_sem, cr0, cr1, cr2, cr3, cr4, cr5, cr6, cr7, cr8, cr9, cr10, lr]) rfl ⟨rfl, by repeat (first | (with_reducible exact hB) | (with_reducible refine Bl_set ?_ (by first | omega | (simp; done) | (simp; omega)) _) | with_reducible apply Bl_alloc)⟩
set_option maxRecDepth 100000 in
set_option maxHeartbeats 800000 in
theorem load_d1y (s : St) (z : Int) (f : Nat) (m : Nat) (hm : ¬ m = 8) (hz : PlainAbs.sized (m : Int) = true) (hR : PlainAbs.ready s z (m : Int) = true) (k_f : ∀ w : World, Calls Try.prog 61 #[.int .i64 z, .int .i64 (m : Int)] w fun e w' => e = .returned (.tuple #[.int .i64 (f : Int), .bool true]) ∧ w = w') (w : World) : Calls Try.prog 50 #[.agg (stv s), .int .i64 z, .int .i64 (m : Int)] w fun e w' => e = .returned (.tuple #[gv (PlainAbs.number (PlainScalar.low PlainScalar.any (m : Int))), .bool true]) ∧ Below w.heap.size w w' := by
  have k_z := sized_c (m : Int); rw [hz] at k_z; clear hz
  have hm1 : ¬ (m : Int) = 8 := by omega
  have hm2 : ((m : Int) == 8) = false := by simpa using hm1
  have k_R := ready_c s z (m : Int); rw [hR] at k_R; clear hR
  have k_L := slow_c PlainScalar.any (m : Int)
  obtain ⟨LW, e_L⟩ : ∃ z', z' = PlainScalar.low PlainScalar.any (m : Int) := ⟨_, rfl⟩; rw [← e_L] at k_L ⊢; clear e_L
  go_enter Try.func50, Try.ntmps50
  go_wp2_with fail
  obtain ⟨gs, hgs⟩ : ∃ g, g = w.heap.size := ⟨_, rfl⟩
  obtain ⟨gr, hgr⟩ : ∃ g, g = w.heap.size + 1 := ⟨_, rfl⟩
  have Bs : Blk ((w.alloc (.cells (stv s) 69)).alloc (.cells #[.int .i64 0, .int .u64 0, .int .u64 0, .int .u64 0, .int .u64 0, .int .i64 0, .int .i64 0, .int .i64 0, .int .i64 0, .int .i64 0, .int .i64 0] 64)) (w.heap.size) 69 (stv s) := ((Blk.new w 69 (stv s))).alloc _
  have Br : Blk ((w.alloc (.cells (stv s) 69)).alloc (.cells #[.int .i64 0, .int .u64 0, .int .u64 0, .int .u64 0, .int .u64 0, .int .i64 0, .int .i64 0, .int .i64 0, .int .i64 0, .int .i64 0, .int .i64 0] 64)) (w.heap.size + 1) 64 #[.int .i64 0, .int .u64 0, .int .u64 0, .int .u64 0, .int .u64 0, .int .i64 0, .int .i64 0, .int .i64 0, .int .i64 0, .int .i64 0, .int .i64 0] := (by simpa using Blk.new (w.alloc (.cells (stv s) 69)) 64 #[.int .i64 0, .int .u64 0, .int .u64 0, .int .u64 0, .int .u64 0, .int .i64 0, .int .i64 0, .int .i64 0, .int .i64 0, .int .i64 0, .int .i64 0] : Blk _ (w.heap.size + 1) 64 #[.int .i64 0, .int .u64 0, .int .u64 0, .int .u64 0, .int .u64 0, .int .i64 0, .int .i64 0, .int .i64 0, .int .i64 0, .int .i64 0, .int .i64 0])
  have hB : Below w.heap.size w ((w.alloc (.cells (stv s) 69)).alloc (.cells #[.int .i64 0, .int .u64 0, .int .u64 0, .int .u64 0, .int .u64 0, .int .i64 0, .int .i64 0, .int .i64 0, .int .i64 0, .int .i64 0, .int .i64 0] 64)) := (Bl_alloc (Bl_alloc (Bl_refl w) _) _)
  clear hgs
  clear gs
  clear hgr
  clear gr
  generalize ((w.alloc (.cells (stv s) 69)).alloc (.cells #[.int .i64 0, .int .u64 0, .int .u64 0, .int .u64 0, .int .u64 0, .int .i64 0, .int .i64 0, .int .i64 0, .int .i64 0, .int .i64 0, .int .i64 0] 64)) = w1 at *
  have fs := Bs.frozen; have ls := Bs.lt
  have cr0 : w1.cell? ⟨w.heap.size + 1, 0, none⟩ = some (.int .i64 0) := Br.cell 0
  have cr1 : w1.cell? ⟨w.heap.size + 1, 1, none⟩ = some (.int .u64 0) := Br.cell 1
  have cr2 : w1.cell? ⟨w.heap.size + 1, 2, none⟩ = some (.int .u64 0) := Br.cell 2
  have cr3 : w1.cell? ⟨w.heap.size + 1, 3, none⟩ = some (.int .u64 0) := Br.cell 3
  have cr4 : w1.cell? ⟨w.heap.size + 1, 4, none⟩ = some (.int .u64 0) := Br.cell 4
  have cr5 : w1.cell? ⟨w.heap.size + 1, 5, none⟩ = some (.int .i64 0) := Br.cell 5
  have cr6 : w1.cell? ⟨w.heap.size + 1, 6, none⟩ = some (.int .i64 0) := Br.cell 6
  have cr7 : w1.cell? ⟨w.heap.size + 1, 7, none⟩ = some (.int .i64 0) := Br.cell 7
  have cr8 : w1.cell? ⟨w.heap.size + 1, 8, none⟩ = some (.int .i64 0) := Br.cell 8
  have cr9 : w1.cell? ⟨w.heap.size + 1, 9, none⟩ = some (.int .i64 0) := Br.cell 9
  have cr10 : w1.cell? ⟨w.heap.size + 1, 10, none⟩ = some (.int .i64 0) := Br.cell 10
  have fr := Br.frozen; have lr := Br.lt
  go_wp2_with fail
  refine (k_f _).mono ?_
  rintro e w' ⟨rfl, rfl⟩
  go_wp2_with fail
  refine (k_z _).mono ?_
  rintro e w' ⟨rfl, rfl⟩
  go_upto_region 6 with fail
  go_wp2_with (refine wpList_load_whole rfl 69 (.tmp 3) rfl (w.heap.size) rfl 69 (stv s) _ Bs Try.underlying69 rfl (size_st s) ?_)
  refine (k_R _).mono ?_
  rintro e w2 ⟨rfl, hb⟩
  clear  fs ls
  clear cr0 cr1 cr2 cr3 cr4 cr5 cr6 cr7 cr8 cr9 cr10 fr lr
  replace Bs := (Bs).next hb
  replace Br := (Br).next hb
  replace hB : Below w.heap.size w w2 := by repeat (first | exact hB | (refine Bl_set ?_ (by first | omega | (simp; omega)) _) | apply Bl_alloc | (refine Bl_trans ?_ hb))
  clear hb
  have fs := Bs.frozen; have ls := Bs.lt
  have cr0 : w2.cell? ⟨w.heap.size + 1, 0, none⟩ = some (.int .i64 0) := Br.cell 0
  have cr1 : w2.cell? ⟨w.heap.size + 1, 1, none⟩ = some (.int .u64 0) := Br.cell 1
  have cr2 : w2.cell? ⟨w.heap.size + 1, 2, none⟩ = some (.int .u64 0) := Br.cell 2
  have cr3 : w2.cell? ⟨w.heap.size + 1, 3, none⟩ = some (.int .u64 0) := Br.cell 3
  have cr4 : w2.cell? ⟨w.heap.size + 1, 4, none⟩ = some (.int .u64 0) := Br.cell 4
  have cr5 : w2.cell? ⟨w.heap.size + 1, 5, none⟩ = some (.int .i64 0) := Br.cell 5
  have cr6 : w2.cell? ⟨w.heap.size + 1, 6, none⟩ = some (.int .i64 0) := Br.cell 6
  have cr7 : w2.cell? ⟨w.heap.size + 1, 7, none⟩ = some (.int .i64 0) := Br.cell 7
  have cr8 : w2.cell? ⟨w.heap.size + 1, 8, none⟩ = some (.int .i64 0) := Br.cell 8
  have cr9 : w2.cell? ⟨w.heap.size + 1, 9, none⟩ = some (.int .i64 0) := Br.cell 9
  have cr10 : w2.cell? ⟨w.heap.size + 1, 10, none⟩ = some (.int .i64 0) := Br.cell 10
  have fr := Br.frozen; have lr := Br.lt
  go_wp2_with fail
  refine (sany_c _).mono ?_
  rintro e w3 ⟨rfl, hb⟩
  clear  fs ls
  clear cr0 cr1 cr2 cr3 cr4 cr5 cr6 cr7 cr8 cr9 cr10 fr lr
  replace Bs := (Bs).next hb
  replace Br := (Br).next hb
  replace hB : Below w.heap.size w w3 := by repeat (first | exact hB | (refine Bl_set ?_ (by first | omega | (simp; omega)) _) | apply Bl_alloc | (refine Bl_trans ?_ hb))
  clear hb
  have fs := Bs.frozen; have ls := Bs.lt
  have cr0 : w3.cell? ⟨w.heap.size + 1, 0, none⟩ = some (.int .i64 0) := Br.cell 0
  have cr1 : w3.cell? ⟨w.heap.size + 1, 1, none⟩ = some (.int .u64 0) := Br.cell 1
  have cr2 : w3.cell? ⟨w.heap.size + 1, 2, none⟩ = some (.int .u64 0) := Br.cell 2
  have cr3 : w3.cell? ⟨w.heap.size + 1, 3, none⟩ = some (.int .u64 0) := Br.cell 3
  have cr4 : w3.cell? ⟨w.heap.size + 1, 4, none⟩ = some (.int .u64 0) := Br.cell 4
  have cr5 : w3.cell? ⟨w.heap.size + 1, 5, none⟩ = some (.int .i64 0) := Br.cell 5
  have cr6 : w3.cell? ⟨w.heap.size + 1, 6, none⟩ = some (.int .i64 0) := Br.cell 6
  have cr7 : w3.cell? ⟨w.heap.size + 1, 7, none⟩ = some (.int .i64 0) := Br.cell 7
  have cr8 : w3.cell? ⟨w.heap.size + 1, 8, none⟩ = some (.int .i64 0) := Br.cell 8
  have cr9 : w3.cell? ⟨w.heap.size + 1, 9, none⟩ = some (.int .i64 0) := Br.cell 9
  have cr10 : w3.cell? ⟨w.heap.size + 1, 10, none⟩ = some (.int .i64 0) := Br.cell 10
  have fr := Br.frozen; have lr := Br.lt
  go_wp2_with fail
  refine (k_L _).mono ?_
  rintro e w4 ⟨rfl, hb⟩
  clear  fs ls
  clear cr0 cr1 cr2 cr3 cr4 cr5 cr6 cr7 cr8 cr9 cr10 fr lr
  replace Bs := (Bs).next hb
  replace Br := (Br).next hb
  replace hB : Below w.heap.size w w4 := by repeat (first | exact hB | (refine Bl_set ?_ (by first | omega | (simp; omega)) _) | apply Bl_alloc | (refine Bl_trans ?_ hb))
  clear hb
  have fs := Bs.frozen; have ls := Bs.lt
  have cr0 : w4.cell? ⟨w.heap.size + 1, 0, none⟩ = some (.int .i64 0) := Br.cell 0
  have cr1 : w4.cell? ⟨w.heap.size + 1, 1, none⟩ = some (.int .u64 0) := Br.cell 1
  have cr2 : w4.cell? ⟨w.heap.size + 1, 2, none⟩ = some (.int .u64 0) := Br.cell 2
  have cr3 : w4.cell? ⟨w.heap.size + 1, 3, none⟩ = some (.int .u64 0) := Br.cell 3
  have cr4 : w4.cell? ⟨w.heap.size + 1, 4, none⟩ = some (.int .u64 0) := Br.cell 4
  have cr5 : w4.cell? ⟨w.heap.size + 1, 5, none⟩ = some (.int .i64 0) := Br.cell 5
  have cr6 : w4.cell? ⟨w.heap.size + 1, 6, none⟩ = some (.int .i64 0) := Br.cell 6
  have cr7 : w4.cell? ⟨w.heap.size + 1, 7, none⟩ = some (.int .i64 0) := Br.cell 7
  have cr8 : w4.cell? ⟨w.heap.size + 1, 8, none⟩ = some (.int .i64 0) := Br.cell 8
  have cr9 : w4.cell? ⟨w.heap.size + 1, 9, none⟩ = some (.int .i64 0) := Br.cell 9
  have cr10 : w4.cell? ⟨w.heap.size + 1, 10, none⟩ = some (.int .i64 0) := Br.cell 10
  have fr := Br.frozen; have lr := Br.lt
  go_wp2_with (refine wpList_store_whole rfl 64 (.tmp 6) (.tmp 54) rfl (w.heap.size + 1) #[.int .i64 1, uv LW.b.v, uv LW.b.m, uv LW.lo, uv LW.hi, sv LW.sl, sv LW.sh, .int .i64 0, .int .i64 0, .int .i64 0, .int .i64 0] rfl rfl 64 _ Br (size_re _ _ _ _ _ _ _ _ _ _ _) rfl (by simp [Value.oneCell']) ?_)
  intro w5 hS
  clear  fs ls
  clear cr0 cr1 cr2 cr3 cr4 cr5 cr6 cr7 cr8 cr9 cr10 fr lr
  replace Bs := hS.far (by first | (simp; done) | (simp; omega) | (simp [*]; done) | (simp only [ne_eq]; constructor <;> omega)) Bs
  replace Br : Blk w5 (w.heap.size + 1) 64 #[.int .i64 1, uv LW.b.v, uv LW.b.m, uv LW.lo, uv LW.hi, sv LW.sl, sv LW.sh, .int .i64 0, .int .i64 0, .int .i64 0, .int .i64 0] := hS.blk
  replace hB := hS.bel hB (by first | omega | (simp; omega))
  clear hS
  have fs := Bs.frozen; have ls := Bs.lt
  have cr0 : w5.cell? ⟨w.heap.size + 1, 0, none⟩ = some (.int .i64 1) := Br.cell 0
  have cr1 : w5.cell? ⟨w.heap.size + 1, 1, none⟩ = some (uv LW.b.v) := Br.cell 1
  have cr2 : w5.cell? ⟨w.heap.size + 1, 2, none⟩ = some (uv LW.b.m) := Br.cell 2
  have cr3 : w5.cell? ⟨w.heap.size + 1, 3, none⟩ = some (uv LW.lo) := Br.cell 3
  have cr4 : w5.cell? ⟨w.heap.size + 1, 4, none⟩ = some (uv LW.hi) := Br.cell 4
  have cr5 : w5.cell? ⟨w.heap.size + 1, 5, none⟩ = some (sv LW.sl) := Br.cell 5
  have cr6 : w5.cell? ⟨w.heap.size + 1, 6, none⟩ = some (sv LW.sh) := Br.cell 6
  have cr7 : w5.cell? ⟨w.heap.size + 1, 7, none⟩ = some (.int .i64 0) := Br.cell 7
  have cr8 : w5.cell? ⟨w.heap.size + 1, 8, none⟩ = some (.int .i64 0) := Br.cell 8
  have cr9 : w5.cell? ⟨w.heap.size + 1, 9, none⟩ = some (.int .i64 0) := Br.cell 9
  have cr10 : w5.cell? ⟨w.heap.size + 1, 10, none⟩ = some (.int .i64 0) := Br.cell 10
  have fr := Br.frozen; have lr := Br.lt
  go_wp2
  exact bodyPost_ret (v := .tuple #[gv (PlainAbs.number LW), .bool true]) (by simp [results, Try.results50, go_sem, cr0, cr1, cr2, cr3, cr4, cr5, cr6, cr7, cr8, cr9, cr10, lr, PlainAbs.number, PlainAbs.zr]) rfl ⟨rfl, by repeat (first | (with_reducible exact hB) | (with_reducible refine Bl_set ?_ (by first | omega | (simp; done) | (simp; omega)) _) | with_reducible apply Bl_alloc)⟩
set_option maxRecDepth 100000 in
set_option maxHeartbeats 800000 in
theorem load_d2y (s : St) (z : Int) (f : Nat) (h8 : ¬ f % 8 = 0) (hR : PlainAbs.ready s z 8 = true) (k_f : ∀ w : World, Calls Try.prog 61 #[.int .i64 z, .int .i64 8] w fun e w' => e = .returned (.tuple #[.int .i64 (f : Int), .bool true]) ∧ w = w') (w : World) : Calls Try.prog 50 #[.agg (stv s), .int .i64 z, .int .i64 8] w fun e w' => e = .returned (.tuple #[gv (PlainAbs.number (PlainScalar.low PlainScalar.any 8)), .bool true]) ∧ Below w.heap.size w w' := by
  have k_z := sized_c 8
  have h8i : ¬ (f : Int) % 8 = 0 := by omega
  have k_R := ready_c s z 8; rw [hR] at k_R; clear hR
  have k_L := slow_c PlainScalar.any 8
  obtain ⟨LW, e_L⟩ : ∃ z', z' = PlainScalar.low PlainScalar.any 8 := ⟨_, rfl⟩; rw [← e_L] at k_L ⊢; clear e_L
  go_enter Try.func50, Try.ntmps50
  go_wp2_with fail
  obtain ⟨gs, hgs⟩ : ∃ g, g = w.heap.size := ⟨_, rfl⟩
  obtain ⟨gr, hgr⟩ : ∃ g, g = w.heap.size + 1 := ⟨_, rfl⟩
  have Bs : Blk ((w.alloc (.cells (stv s) 69)).alloc (.cells #[.int .i64 0, .int .u64 0, .int .u64 0, .int .u64 0, .int .u64 0, .int .i64 0, .int .i64 0, .int .i64 0, .int .i64 0, .int .i64 0, .int .i64 0] 64)) (w.heap.size) 69 (stv s) := ((Blk.new w 69 (stv s))).alloc _
  have Br : Blk ((w.alloc (.cells (stv s) 69)).alloc (.cells #[.int .i64 0, .int .u64 0, .int .u64 0, .int .u64 0, .int .u64 0, .int .i64 0, .int .i64 0, .int .i64 0, .int .i64 0, .int .i64 0, .int .i64 0] 64)) (w.heap.size + 1) 64 #[.int .i64 0, .int .u64 0, .int .u64 0, .int .u64 0, .int .u64 0, .int .i64 0, .int .i64 0, .int .i64 0, .int .i64 0, .int .i64 0, .int .i64 0] := (by simpa using Blk.new (w.alloc (.cells (stv s) 69)) 64 #[.int .i64 0, .int .u64 0, .int .u64 0, .int .u64 0, .int .u64 0, .int .i64 0, .int .i64 0, .int .i64 0, .int .i64 0, .int .i64 0, .int .i64 0] : Blk _ (w.heap.size + 1) 64 #[.int .i64 0, .int .u64 0, .int .u64 0, .int .u64 0, .int .u64 0, .int .i64 0, .int .i64 0, .int .i64 0, .int .i64 0, .int .i64 0, .int .i64 0])
  have hB : Below w.heap.size w ((w.alloc (.cells (stv s) 69)).alloc (.cells #[.int .i64 0, .int .u64 0, .int .u64 0, .int .u64 0, .int .u64 0, .int .i64 0, .int .i64 0, .int .i64 0, .int .i64 0, .int .i64 0, .int .i64 0] 64)) := (Bl_alloc (Bl_alloc (Bl_refl w) _) _)
  clear hgs
  clear gs
  clear hgr
  clear gr
  generalize ((w.alloc (.cells (stv s) 69)).alloc (.cells #[.int .i64 0, .int .u64 0, .int .u64 0, .int .u64 0, .int .u64 0, .int .i64 0, .int .i64 0, .int .i64 0, .int .i64 0, .int .i64 0, .int .i64 0] 64)) = w1 at *
  have fs := Bs.frozen; have ls := Bs.lt
  have cr0 : w1.cell? ⟨w.heap.size + 1, 0, none⟩ = some (.int .i64 0) := Br.cell 0
  have cr1 : w1.cell? ⟨w.heap.size + 1, 1, none⟩ = some (.int .u64 0) := Br.cell 1
  have cr2 : w1.cell? ⟨w.heap.size + 1, 2, none⟩ = some (.int .u64 0) := Br.cell 2
  have cr3 : w1.cell? ⟨w.heap.size + 1, 3, none⟩ = some (.int .u64 0) := Br.cell 3
  have cr4 : w1.cell? ⟨w.heap.size + 1, 4, none⟩ = some (.int .u64 0) := Br.cell 4
  have cr5 : w1.cell? ⟨w.heap.size + 1, 5, none⟩ = some (.int .i64 0) := Br.cell 5
  have cr6 : w1.cell? ⟨w.heap.size + 1, 6, none⟩ = some (.int .i64 0) := Br.cell 6
  have cr7 : w1.cell? ⟨w.heap.size + 1, 7, none⟩ = some (.int .i64 0) := Br.cell 7
  have cr8 : w1.cell? ⟨w.heap.size + 1, 8, none⟩ = some (.int .i64 0) := Br.cell 8
  have cr9 : w1.cell? ⟨w.heap.size + 1, 9, none⟩ = some (.int .i64 0) := Br.cell 9
  have cr10 : w1.cell? ⟨w.heap.size + 1, 10, none⟩ = some (.int .i64 0) := Br.cell 10
  have fr := Br.frozen; have lr := Br.lt
  go_wp2_with fail
  refine (k_f _).mono ?_
  rintro e w' ⟨rfl, rfl⟩
  go_wp2_with fail
  refine (k_z _).mono ?_
  rintro e w' ⟨rfl, rfl⟩
  go_upto_region 6 with fail
  go_wp2_with (refine wpList_load_whole rfl 69 (.tmp 3) rfl (w.heap.size) rfl 69 (stv s) _ Bs Try.underlying69 rfl (size_st s) ?_)
  refine (k_R _).mono ?_
  rintro e w2 ⟨rfl, hb⟩
  clear  fs ls
  clear cr0 cr1 cr2 cr3 cr4 cr5 cr6 cr7 cr8 cr9 cr10 fr lr
  replace Bs := (Bs).next hb
  replace Br := (Br).next hb
  replace hB : Below w.heap.size w w2 := by repeat (first | exact hB | (refine Bl_set ?_ (by first | omega | (simp; omega)) _) | apply Bl_alloc | (refine Bl_trans ?_ hb))
  clear hb
  have fs := Bs.frozen; have ls := Bs.lt
  have cr0 : w2.cell? ⟨w.heap.size + 1, 0, none⟩ = some (.int .i64 0) := Br.cell 0
  have cr1 : w2.cell? ⟨w.heap.size + 1, 1, none⟩ = some (.int .u64 0) := Br.cell 1
  have cr2 : w2.cell? ⟨w.heap.size + 1, 2, none⟩ = some (.int .u64 0) := Br.cell 2
  have cr3 : w2.cell? ⟨w.heap.size + 1, 3, none⟩ = some (.int .u64 0) := Br.cell 3
  have cr4 : w2.cell? ⟨w.heap.size + 1, 4, none⟩ = some (.int .u64 0) := Br.cell 4
  have cr5 : w2.cell? ⟨w.heap.size + 1, 5, none⟩ = some (.int .i64 0) := Br.cell 5
  have cr6 : w2.cell? ⟨w.heap.size + 1, 6, none⟩ = some (.int .i64 0) := Br.cell 6
  have cr7 : w2.cell? ⟨w.heap.size + 1, 7, none⟩ = some (.int .i64 0) := Br.cell 7
  have cr8 : w2.cell? ⟨w.heap.size + 1, 8, none⟩ = some (.int .i64 0) := Br.cell 8
  have cr9 : w2.cell? ⟨w.heap.size + 1, 9, none⟩ = some (.int .i64 0) := Br.cell 9
  have cr10 : w2.cell? ⟨w.heap.size + 1, 10, none⟩ = some (.int .i64 0) := Br.cell 10
  have fr := Br.frozen; have lr := Br.lt
  go_wp2_with fail
  refine (sany_c _).mono ?_
  rintro e w3 ⟨rfl, hb⟩
  clear  fs ls
  clear cr0 cr1 cr2 cr3 cr4 cr5 cr6 cr7 cr8 cr9 cr10 fr lr
  replace Bs := (Bs).next hb
  replace Br := (Br).next hb
  replace hB : Below w.heap.size w w3 := by repeat (first | exact hB | (refine Bl_set ?_ (by first | omega | (simp; omega)) _) | apply Bl_alloc | (refine Bl_trans ?_ hb))
  clear hb
  have fs := Bs.frozen; have ls := Bs.lt
  have cr0 : w3.cell? ⟨w.heap.size + 1, 0, none⟩ = some (.int .i64 0) := Br.cell 0
  have cr1 : w3.cell? ⟨w.heap.size + 1, 1, none⟩ = some (.int .u64 0) := Br.cell 1
  have cr2 : w3.cell? ⟨w.heap.size + 1, 2, none⟩ = some (.int .u64 0) := Br.cell 2
  have cr3 : w3.cell? ⟨w.heap.size + 1, 3, none⟩ = some (.int .u64 0) := Br.cell 3
  have cr4 : w3.cell? ⟨w.heap.size + 1, 4, none⟩ = some (.int .u64 0) := Br.cell 4
  have cr5 : w3.cell? ⟨w.heap.size + 1, 5, none⟩ = some (.int .i64 0) := Br.cell 5
  have cr6 : w3.cell? ⟨w.heap.size + 1, 6, none⟩ = some (.int .i64 0) := Br.cell 6
  have cr7 : w3.cell? ⟨w.heap.size + 1, 7, none⟩ = some (.int .i64 0) := Br.cell 7
  have cr8 : w3.cell? ⟨w.heap.size + 1, 8, none⟩ = some (.int .i64 0) := Br.cell 8
  have cr9 : w3.cell? ⟨w.heap.size + 1, 9, none⟩ = some (.int .i64 0) := Br.cell 9
  have cr10 : w3.cell? ⟨w.heap.size + 1, 10, none⟩ = some (.int .i64 0) := Br.cell 10
  have fr := Br.frozen; have lr := Br.lt
  go_wp2_with fail
  refine (k_L _).mono ?_
  rintro e w4 ⟨rfl, hb⟩
  clear  fs ls
  clear cr0 cr1 cr2 cr3 cr4 cr5 cr6 cr7 cr8 cr9 cr10 fr lr
  replace Bs := (Bs).next hb
  replace Br := (Br).next hb
  replace hB : Below w.heap.size w w4 := by repeat (first | exact hB | (refine Bl_set ?_ (by first | omega | (simp; omega)) _) | apply Bl_alloc | (refine Bl_trans ?_ hb))
  clear hb
  have fs := Bs.frozen; have ls := Bs.lt
  have cr0 : w4.cell? ⟨w.heap.size + 1, 0, none⟩ = some (.int .i64 0) := Br.cell 0
  have cr1 : w4.cell? ⟨w.heap.size + 1, 1, none⟩ = some (.int .u64 0) := Br.cell 1
  have cr2 : w4.cell? ⟨w.heap.size + 1, 2, none⟩ = some (.int .u64 0) := Br.cell 2
  have cr3 : w4.cell? ⟨w.heap.size + 1, 3, none⟩ = some (.int .u64 0) := Br.cell 3
  have cr4 : w4.cell? ⟨w.heap.size + 1, 4, none⟩ = some (.int .u64 0) := Br.cell 4
  have cr5 : w4.cell? ⟨w.heap.size + 1, 5, none⟩ = some (.int .i64 0) := Br.cell 5
  have cr6 : w4.cell? ⟨w.heap.size + 1, 6, none⟩ = some (.int .i64 0) := Br.cell 6
  have cr7 : w4.cell? ⟨w.heap.size + 1, 7, none⟩ = some (.int .i64 0) := Br.cell 7
  have cr8 : w4.cell? ⟨w.heap.size + 1, 8, none⟩ = some (.int .i64 0) := Br.cell 8
  have cr9 : w4.cell? ⟨w.heap.size + 1, 9, none⟩ = some (.int .i64 0) := Br.cell 9
  have cr10 : w4.cell? ⟨w.heap.size + 1, 10, none⟩ = some (.int .i64 0) := Br.cell 10
  have fr := Br.frozen; have lr := Br.lt
  go_wp2_with (refine wpList_store_whole rfl 64 (.tmp 6) (.tmp 54) rfl (w.heap.size + 1) #[.int .i64 1, uv LW.b.v, uv LW.b.m, uv LW.lo, uv LW.hi, sv LW.sl, sv LW.sh, .int .i64 0, .int .i64 0, .int .i64 0, .int .i64 0] rfl rfl 64 _ Br (size_re _ _ _ _ _ _ _ _ _ _ _) rfl (by simp [Value.oneCell']) ?_)
  intro w5 hS
  clear  fs ls
  clear cr0 cr1 cr2 cr3 cr4 cr5 cr6 cr7 cr8 cr9 cr10 fr lr
  replace Bs := hS.far (by first | (simp; done) | (simp; omega) | (simp [*]; done) | (simp only [ne_eq]; constructor <;> omega)) Bs
  replace Br : Blk w5 (w.heap.size + 1) 64 #[.int .i64 1, uv LW.b.v, uv LW.b.m, uv LW.lo, uv LW.hi, sv LW.sl, sv LW.sh, .int .i64 0, .int .i64 0, .int .i64 0, .int .i64 0] := hS.blk
  replace hB := hS.bel hB (by first | omega | (simp; omega))
  clear hS
  have fs := Bs.frozen; have ls := Bs.lt
  have cr0 : w5.cell? ⟨w.heap.size + 1, 0, none⟩ = some (.int .i64 1) := Br.cell 0
  have cr1 : w5.cell? ⟨w.heap.size + 1, 1, none⟩ = some (uv LW.b.v) := Br.cell 1
  have cr2 : w5.cell? ⟨w.heap.size + 1, 2, none⟩ = some (uv LW.b.m) := Br.cell 2
  have cr3 : w5.cell? ⟨w.heap.size + 1, 3, none⟩ = some (uv LW.lo) := Br.cell 3
  have cr4 : w5.cell? ⟨w.heap.size + 1, 4, none⟩ = some (uv LW.hi) := Br.cell 4
  have cr5 : w5.cell? ⟨w.heap.size + 1, 5, none⟩ = some (sv LW.sl) := Br.cell 5
  have cr6 : w5.cell? ⟨w.heap.size + 1, 6, none⟩ = some (sv LW.sh) := Br.cell 6
  have cr7 : w5.cell? ⟨w.heap.size + 1, 7, none⟩ = some (.int .i64 0) := Br.cell 7
  have cr8 : w5.cell? ⟨w.heap.size + 1, 8, none⟩ = some (.int .i64 0) := Br.cell 8
  have cr9 : w5.cell? ⟨w.heap.size + 1, 9, none⟩ = some (.int .i64 0) := Br.cell 9
  have cr10 : w5.cell? ⟨w.heap.size + 1, 10, none⟩ = some (.int .i64 0) := Br.cell 10
  have fr := Br.frozen; have lr := Br.lt
  go_wp2
  exact bodyPost_ret (v := .tuple #[gv (PlainAbs.number LW), .bool true]) (by simp [results, Try.results50, go_sem, cr0, cr1, cr2, cr3, cr4, cr5, cr6, cr7, cr8, cr9, cr10, lr, PlainAbs.number, PlainAbs.zr]) rfl ⟨rfl, by repeat (first | (with_reducible exact hB) | (with_reducible refine Bl_set ?_ (by first | omega | (simp; done) | (simp; omega)) _) | with_reducible apply Bl_alloc)⟩
set_option maxRecDepth 100000 in
set_option maxHeartbeats 800000 in
theorem load_d3y (s : St) (z : Int) (f : Nat) (k : Nat) (hk : k < 8) (hf : f = 8 * k) (hk0 : (s.kept k).kind = 0) (hR : PlainAbs.ready s z 8 = true) (k_f : ∀ w : World, Calls Try.prog 61 #[.int .i64 z, .int .i64 8] w fun e w' => e = .returned (.tuple #[.int .i64 (f : Int), .bool true]) ∧ w = w') (w : World) : Calls Try.prog 50 #[.agg (stv s), .int .i64 z, .int .i64 8] w fun e w' => e = .returned (.tuple #[gv (PlainAbs.number (PlainScalar.low PlainScalar.any 8)), .bool true]) ∧ Below w.heap.size w w' := by
  have k_z := sized_c 8
  obtain ⟨x, e_x⟩ : ∃ z', z' = s.kept k := ⟨_, rfl⟩
  rw [← e_x] at hk0; have Hx := Lib.hid e_x; clear e_x
  have k_R := ready_c s z 8; rw [hR] at k_R; clear hR
  have k_L := slow_c PlainScalar.any 8
  obtain ⟨LW, e_L⟩ : ∃ z', z' = PlainScalar.low PlainScalar.any 8 := ⟨_, rfl⟩; rw [← e_L] at k_L ⊢; clear e_L
  go_enter Try.func50, Try.ntmps50
  go_wp2_with fail
  obtain ⟨gs, hgs⟩ : ∃ g, g = w.heap.size := ⟨_, rfl⟩
  obtain ⟨gr, hgr⟩ : ∃ g, g = w.heap.size + 1 := ⟨_, rfl⟩
  have Bs : Blk ((w.alloc (.cells (stv s) 69)).alloc (.cells #[.int .i64 0, .int .u64 0, .int .u64 0, .int .u64 0, .int .u64 0, .int .i64 0, .int .i64 0, .int .i64 0, .int .i64 0, .int .i64 0, .int .i64 0] 64)) (w.heap.size) 69 (stv s) := ((Blk.new w 69 (stv s))).alloc _
  have Br : Blk ((w.alloc (.cells (stv s) 69)).alloc (.cells #[.int .i64 0, .int .u64 0, .int .u64 0, .int .u64 0, .int .u64 0, .int .i64 0, .int .i64 0, .int .i64 0, .int .i64 0, .int .i64 0, .int .i64 0] 64)) (w.heap.size + 1) 64 #[.int .i64 0, .int .u64 0, .int .u64 0, .int .u64 0, .int .u64 0, .int .i64 0, .int .i64 0, .int .i64 0, .int .i64 0, .int .i64 0, .int .i64 0] := (by simpa using Blk.new (w.alloc (.cells (stv s) 69)) 64 #[.int .i64 0, .int .u64 0, .int .u64 0, .int .u64 0, .int .u64 0, .int .i64 0, .int .i64 0, .int .i64 0, .int .i64 0, .int .i64 0, .int .i64 0] : Blk _ (w.heap.size + 1) 64 #[.int .i64 0, .int .u64 0, .int .u64 0, .int .u64 0, .int .u64 0, .int .i64 0, .int .i64 0, .int .i64 0, .int .i64 0, .int .i64 0, .int .i64 0])
  have hB : Below w.heap.size w ((w.alloc (.cells (stv s) 69)).alloc (.cells #[.int .i64 0, .int .u64 0, .int .u64 0, .int .u64 0, .int .u64 0, .int .i64 0, .int .i64 0, .int .i64 0, .int .i64 0, .int .i64 0, .int .i64 0] 64)) := (Bl_alloc (Bl_alloc (Bl_refl w) _) _)
  clear hgs
  clear gs
  clear hgr
  clear gr
  generalize ((w.alloc (.cells (stv s) 69)).alloc (.cells #[.int .i64 0, .int .u64 0, .int .u64 0, .int .u64 0, .int .u64 0, .int .i64 0, .int .i64 0, .int .i64 0, .int .i64 0, .int .i64 0, .int .i64 0] 64)) = w1 at *
  have fs := Bs.frozen; have ls := Bs.lt
  have cr0 : w1.cell? ⟨w.heap.size + 1, 0, none⟩ = some (.int .i64 0) := Br.cell 0
  have cr1 : w1.cell? ⟨w.heap.size + 1, 1, none⟩ = some (.int .u64 0) := Br.cell 1
  have cr2 : w1.cell? ⟨w.heap.size + 1, 2, none⟩ = some (.int .u64 0) := Br.cell 2
  have cr3 : w1.cell? ⟨w.heap.size + 1, 3, none⟩ = some (.int .u64 0) := Br.cell 3
  have cr4 : w1.cell? ⟨w.heap.size + 1, 4, none⟩ = some (.int .u64 0) := Br.cell 4
  have cr5 : w1.cell? ⟨w.heap.size + 1, 5, none⟩ = some (.int .i64 0) := Br.cell 5
  have cr6 : w1.cell? ⟨w.heap.size + 1, 6, none⟩ = some (.int .i64 0) := Br.cell 6
  have cr7 : w1.cell? ⟨w.heap.size + 1, 7, none⟩ = some (.int .i64 0) := Br.cell 7
  have cr8 : w1.cell? ⟨w.heap.size + 1, 8, none⟩ = some (.int .i64 0) := Br.cell 8
  have cr9 : w1.cell? ⟨w.heap.size + 1, 9, none⟩ = some (.int .i64 0) := Br.cell 9
  have cr10 : w1.cell? ⟨w.heap.size + 1, 10, none⟩ = some (.int .i64 0) := Br.cell 10
  have fr := Br.frozen; have lr := Br.lt
  go_wp2_with fail
  refine (k_f _).mono ?_
  rintro e w' ⟨rfl, rfl⟩
  go_wp2_with fail
  refine (k_z _).mono ?_
  rintro e w' ⟨rfl, rfl⟩
  go_upto_region 4 with fail
  have ck : w1.cell? ⟨w.heap.size, 185 + k * 11, none⟩ = some (.int .i64 x.kind) := (by have h := Bs.cell (185 + k * 11 + 0); rw [stv_get s (by omega), kept_at s hk (by omega)] at h; rw [Hx.out]; exact h)
  rw [hk0] at ck
  go_upto_region 6 with fail
  clear ck
  go_wp2_with (refine wpList_load_whole rfl 69 (.tmp 3) rfl (w.heap.size) rfl 69 (stv s) _ Bs Try.underlying69 rfl (size_st s) ?_)
  refine (k_R _).mono ?_
  rintro e w2 ⟨rfl, hb⟩
  clear  fs ls
  clear cr0 cr1 cr2 cr3 cr4 cr5 cr6 cr7 cr8 cr9 cr10 fr lr
  replace Bs := (Bs).next hb
  replace Br := (Br).next hb
  replace hB : Below w.heap.size w w2 := by repeat (first | exact hB | (refine Bl_set ?_ (by first | omega | (simp; omega)) _) | apply Bl_alloc | (refine Bl_trans ?_ hb))
  clear hb
  have fs := Bs.frozen; have ls := Bs.lt
  have cr0 : w2.cell? ⟨w.heap.size + 1, 0, none⟩ = some (.int .i64 0) := Br.cell 0
  have cr1 : w2.cell? ⟨w.heap.size + 1, 1, none⟩ = some (.int .u64 0) := Br.cell 1
  have cr2 : w2.cell? ⟨w.heap.size + 1, 2, none⟩ = some (.int .u64 0) := Br.cell 2
  have cr3 : w2.cell? ⟨w.heap.size + 1, 3, none⟩ = some (.int .u64 0) := Br.cell 3
  have cr4 : w2.cell? ⟨w.heap.size + 1, 4, none⟩ = some (.int .u64 0) := Br.cell 4
  have cr5 : w2.cell? ⟨w.heap.size + 1, 5, none⟩ = some (.int .i64 0) := Br.cell 5
  have cr6 : w2.cell? ⟨w.heap.size + 1, 6, none⟩ = some (.int .i64 0) := Br.cell 6
  have cr7 : w2.cell? ⟨w.heap.size + 1, 7, none⟩ = some (.int .i64 0) := Br.cell 7
  have cr8 : w2.cell? ⟨w.heap.size + 1, 8, none⟩ = some (.int .i64 0) := Br.cell 8
  have cr9 : w2.cell? ⟨w.heap.size + 1, 9, none⟩ = some (.int .i64 0) := Br.cell 9
  have cr10 : w2.cell? ⟨w.heap.size + 1, 10, none⟩ = some (.int .i64 0) := Br.cell 10
  have fr := Br.frozen; have lr := Br.lt
  go_wp2_with fail
  refine (sany_c _).mono ?_
  rintro e w3 ⟨rfl, hb⟩
  clear  fs ls
  clear cr0 cr1 cr2 cr3 cr4 cr5 cr6 cr7 cr8 cr9 cr10 fr lr
  replace Bs := (Bs).next hb
  replace Br := (Br).next hb
  replace hB : Below w.heap.size w w3 := by repeat (first | exact hB | (refine Bl_set ?_ (by first | omega | (simp; omega)) _) | apply Bl_alloc | (refine Bl_trans ?_ hb))
  clear hb
  have fs := Bs.frozen; have ls := Bs.lt
  have cr0 : w3.cell? ⟨w.heap.size + 1, 0, none⟩ = some (.int .i64 0) := Br.cell 0
  have cr1 : w3.cell? ⟨w.heap.size + 1, 1, none⟩ = some (.int .u64 0) := Br.cell 1
  have cr2 : w3.cell? ⟨w.heap.size + 1, 2, none⟩ = some (.int .u64 0) := Br.cell 2
  have cr3 : w3.cell? ⟨w.heap.size + 1, 3, none⟩ = some (.int .u64 0) := Br.cell 3
  have cr4 : w3.cell? ⟨w.heap.size + 1, 4, none⟩ = some (.int .u64 0) := Br.cell 4
  have cr5 : w3.cell? ⟨w.heap.size + 1, 5, none⟩ = some (.int .i64 0) := Br.cell 5
  have cr6 : w3.cell? ⟨w.heap.size + 1, 6, none⟩ = some (.int .i64 0) := Br.cell 6
  have cr7 : w3.cell? ⟨w.heap.size + 1, 7, none⟩ = some (.int .i64 0) := Br.cell 7
  have cr8 : w3.cell? ⟨w.heap.size + 1, 8, none⟩ = some (.int .i64 0) := Br.cell 8
  have cr9 : w3.cell? ⟨w.heap.size + 1, 9, none⟩ = some (.int .i64 0) := Br.cell 9
  have cr10 : w3.cell? ⟨w.heap.size + 1, 10, none⟩ = some (.int .i64 0) := Br.cell 10
  have fr := Br.frozen; have lr := Br.lt
  go_wp2_with fail
  refine (k_L _).mono ?_
  rintro e w4 ⟨rfl, hb⟩
  clear  fs ls
  clear cr0 cr1 cr2 cr3 cr4 cr5 cr6 cr7 cr8 cr9 cr10 fr lr
  replace Bs := (Bs).next hb
  replace Br := (Br).next hb
  replace hB : Below w.heap.size w w4 := by repeat (first | exact hB | (refine Bl_set ?_ (by first | omega | (simp; omega)) _) | apply Bl_alloc | (refine Bl_trans ?_ hb))
  clear hb
  have fs := Bs.frozen; have ls := Bs.lt
  have cr0 : w4.cell? ⟨w.heap.size + 1, 0, none⟩ = some (.int .i64 0) := Br.cell 0
  have cr1 : w4.cell? ⟨w.heap.size + 1, 1, none⟩ = some (.int .u64 0) := Br.cell 1
  have cr2 : w4.cell? ⟨w.heap.size + 1, 2, none⟩ = some (.int .u64 0) := Br.cell 2
  have cr3 : w4.cell? ⟨w.heap.size + 1, 3, none⟩ = some (.int .u64 0) := Br.cell 3
  have cr4 : w4.cell? ⟨w.heap.size + 1, 4, none⟩ = some (.int .u64 0) := Br.cell 4
  have cr5 : w4.cell? ⟨w.heap.size + 1, 5, none⟩ = some (.int .i64 0) := Br.cell 5
  have cr6 : w4.cell? ⟨w.heap.size + 1, 6, none⟩ = some (.int .i64 0) := Br.cell 6
  have cr7 : w4.cell? ⟨w.heap.size + 1, 7, none⟩ = some (.int .i64 0) := Br.cell 7
  have cr8 : w4.cell? ⟨w.heap.size + 1, 8, none⟩ = some (.int .i64 0) := Br.cell 8
  have cr9 : w4.cell? ⟨w.heap.size + 1, 9, none⟩ = some (.int .i64 0) := Br.cell 9
  have cr10 : w4.cell? ⟨w.heap.size + 1, 10, none⟩ = some (.int .i64 0) := Br.cell 10
  have fr := Br.frozen; have lr := Br.lt
  go_wp2_with (refine wpList_store_whole rfl 64 (.tmp 6) (.tmp 54) rfl (w.heap.size + 1) #[.int .i64 1, uv LW.b.v, uv LW.b.m, uv LW.lo, uv LW.hi, sv LW.sl, sv LW.sh, .int .i64 0, .int .i64 0, .int .i64 0, .int .i64 0] rfl rfl 64 _ Br (size_re _ _ _ _ _ _ _ _ _ _ _) rfl (by simp [Value.oneCell']) ?_)
  intro w5 hS
  clear  fs ls
  clear cr0 cr1 cr2 cr3 cr4 cr5 cr6 cr7 cr8 cr9 cr10 fr lr
  replace Bs := hS.far (by first | (simp; done) | (simp; omega) | (simp [*]; done) | (simp only [ne_eq]; constructor <;> omega)) Bs
  replace Br : Blk w5 (w.heap.size + 1) 64 #[.int .i64 1, uv LW.b.v, uv LW.b.m, uv LW.lo, uv LW.hi, sv LW.sl, sv LW.sh, .int .i64 0, .int .i64 0, .int .i64 0, .int .i64 0] := hS.blk
  replace hB := hS.bel hB (by first | omega | (simp; omega))
  clear hS
  have fs := Bs.frozen; have ls := Bs.lt
  have cr0 : w5.cell? ⟨w.heap.size + 1, 0, none⟩ = some (.int .i64 1) := Br.cell 0
  have cr1 : w5.cell? ⟨w.heap.size + 1, 1, none⟩ = some (uv LW.b.v) := Br.cell 1
  have cr2 : w5.cell? ⟨w.heap.size + 1, 2, none⟩ = some (uv LW.b.m) := Br.cell 2
  have cr3 : w5.cell? ⟨w.heap.size + 1, 3, none⟩ = some (uv LW.lo) := Br.cell 3
  have cr4 : w5.cell? ⟨w.heap.size + 1, 4, none⟩ = some (uv LW.hi) := Br.cell 4
  have cr5 : w5.cell? ⟨w.heap.size + 1, 5, none⟩ = some (sv LW.sl) := Br.cell 5
  have cr6 : w5.cell? ⟨w.heap.size + 1, 6, none⟩ = some (sv LW.sh) := Br.cell 6
  have cr7 : w5.cell? ⟨w.heap.size + 1, 7, none⟩ = some (.int .i64 0) := Br.cell 7
  have cr8 : w5.cell? ⟨w.heap.size + 1, 8, none⟩ = some (.int .i64 0) := Br.cell 8
  have cr9 : w5.cell? ⟨w.heap.size + 1, 9, none⟩ = some (.int .i64 0) := Br.cell 9
  have cr10 : w5.cell? ⟨w.heap.size + 1, 10, none⟩ = some (.int .i64 0) := Br.cell 10
  have fr := Br.frozen; have lr := Br.lt
  go_wp2
  exact bodyPost_ret (v := .tuple #[gv (PlainAbs.number LW), .bool true]) (by simp [results, Try.results50, go_sem, cr0, cr1, cr2, cr3, cr4, cr5, cr6, cr7, cr8, cr9, cr10, lr, PlainAbs.number, PlainAbs.zr]) rfl ⟨rfl, by repeat (first | (with_reducible exact hB) | (with_reducible refine Bl_set ?_ (by first | omega | (simp; done) | (simp; omega)) _) | with_reducible apply Bl_alloc)⟩
set_option maxRecDepth 100000 in
set_option maxHeartbeats 800000 in
theorem load_d1n (s : St) (z : Int) (f : Nat) (m : Nat) (hm : ¬ m = 8) (hz : PlainAbs.sized (m : Int) = true) (hR : PlainAbs.ready s z (m : Int) = false) (k_f : ∀ w : World, Calls Try.prog 61 #[.int .i64 z, .int .i64 (m : Int)] w fun e w' => e = .returned (.tuple #[.int .i64 (f : Int), .bool true]) ∧ w = w') (w : World) : Calls Try.prog 50 #[.agg (stv s), .int .i64 z, .int .i64 (m : Int)] w fun e w' => e = .returned (.tuple #[.agg #[.int .i64 0, .int .u64 0, .int .u64 0, .int .u64 0, .int .u64 0, .int .i64 0, .int .i64 0, .int .i64 0, .int .i64 0, .int .i64 0, .int .i64 0], .bool false]) ∧ Below w.heap.size w w' := by
  have k_z := sized_c (m : Int); rw [hz] at k_z; clear hz
  have hm1 : ¬ (m : Int) = 8 := by omega
  have hm2 : ((m : Int) == 8) = false := by simpa using hm1
  have k_R := ready_c s z (m : Int); rw [hR] at k_R; clear hR
  go_enter Try.func50, Try.ntmps50
  go_wp2_with fail
  obtain ⟨gs, hgs⟩ : ∃ g, g = w.heap.size := ⟨_, rfl⟩
  obtain ⟨gr, hgr⟩ : ∃ g, g = w.heap.size + 1 := ⟨_, rfl⟩
  have Bs : Blk ((w.alloc (.cells (stv s) 69)).alloc (.cells #[.int .i64 0, .int .u64 0, .int .u64 0, .int .u64 0, .int .u64 0, .int .i64 0, .int .i64 0, .int .i64 0, .int .i64 0, .int .i64 0, .int .i64 0] 64)) (w.heap.size) 69 (stv s) := ((Blk.new w 69 (stv s))).alloc _
  have Br : Blk ((w.alloc (.cells (stv s) 69)).alloc (.cells #[.int .i64 0, .int .u64 0, .int .u64 0, .int .u64 0, .int .u64 0, .int .i64 0, .int .i64 0, .int .i64 0, .int .i64 0, .int .i64 0, .int .i64 0] 64)) (w.heap.size + 1) 64 #[.int .i64 0, .int .u64 0, .int .u64 0, .int .u64 0, .int .u64 0, .int .i64 0, .int .i64 0, .int .i64 0, .int .i64 0, .int .i64 0, .int .i64 0] := (by simpa using Blk.new (w.alloc (.cells (stv s) 69)) 64 #[.int .i64 0, .int .u64 0, .int .u64 0, .int .u64 0, .int .u64 0, .int .i64 0, .int .i64 0, .int .i64 0, .int .i64 0, .int .i64 0, .int .i64 0] : Blk _ (w.heap.size + 1) 64 #[.int .i64 0, .int .u64 0, .int .u64 0, .int .u64 0, .int .u64 0, .int .i64 0, .int .i64 0, .int .i64 0, .int .i64 0, .int .i64 0, .int .i64 0])
  have hB : Below w.heap.size w ((w.alloc (.cells (stv s) 69)).alloc (.cells #[.int .i64 0, .int .u64 0, .int .u64 0, .int .u64 0, .int .u64 0, .int .i64 0, .int .i64 0, .int .i64 0, .int .i64 0, .int .i64 0, .int .i64 0] 64)) := (Bl_alloc (Bl_alloc (Bl_refl w) _) _)
  clear hgs
  clear gs
  clear hgr
  clear gr
  generalize ((w.alloc (.cells (stv s) 69)).alloc (.cells #[.int .i64 0, .int .u64 0, .int .u64 0, .int .u64 0, .int .u64 0, .int .i64 0, .int .i64 0, .int .i64 0, .int .i64 0, .int .i64 0, .int .i64 0] 64)) = w1 at *
  have fs := Bs.frozen; have ls := Bs.lt
  have cr0 : w1.cell? ⟨w.heap.size + 1, 0, none⟩ = some (.int .i64 0) := Br.cell 0
  have cr1 : w1.cell? ⟨w.heap.size + 1, 1, none⟩ = some (.int .u64 0) := Br.cell 1
  have cr2 : w1.cell? ⟨w.heap.size + 1, 2, none⟩ = some (.int .u64 0) := Br.cell 2
  have cr3 : w1.cell? ⟨w.heap.size + 1, 3, none⟩ = some (.int .u64 0) := Br.cell 3
  have cr4 : w1.cell? ⟨w.heap.size + 1, 4, none⟩ = some (.int .u64 0) := Br.cell 4
  have cr5 : w1.cell? ⟨w.heap.size + 1, 5, none⟩ = some (.int .i64 0) := Br.cell 5
  have cr6 : w1.cell? ⟨w.heap.size + 1, 6, none⟩ = some (.int .i64 0) := Br.cell 6
  have cr7 : w1.cell? ⟨w.heap.size + 1, 7, none⟩ = some (.int .i64 0) := Br.cell 7
  have cr8 : w1.cell? ⟨w.heap.size + 1, 8, none⟩ = some (.int .i64 0) := Br.cell 8
  have cr9 : w1.cell? ⟨w.heap.size + 1, 9, none⟩ = some (.int .i64 0) := Br.cell 9
  have cr10 : w1.cell? ⟨w.heap.size + 1, 10, none⟩ = some (.int .i64 0) := Br.cell 10
  have fr := Br.frozen; have lr := Br.lt
  go_wp2_with fail
  refine (k_f _).mono ?_
  rintro e w' ⟨rfl, rfl⟩
  go_wp2_with fail
  refine (k_z _).mono ?_
  rintro e w' ⟨rfl, rfl⟩
  go_upto_region 6 with fail
  go_wp2_with (refine wpList_load_whole rfl 69 (.tmp 3) rfl (w.heap.size) rfl 69 (stv s) _ Bs Try.underlying69 rfl (size_st s) ?_)
  refine (k_R _).mono ?_
  rintro e w2 ⟨rfl, hb⟩
  clear  fs ls
  clear cr0 cr1 cr2 cr3 cr4 cr5 cr6 cr7 cr8 cr9 cr10 fr lr
  replace Bs := (Bs).next hb
  replace Br := (Br).next hb
  replace hB : Below w.heap.size w w2 := by repeat (first | exact hB | (refine Bl_set ?_ (by first | omega | (simp; omega)) _) | apply Bl_alloc | (refine Bl_trans ?_ hb))
  clear hb
  have fs := Bs.frozen; have ls := Bs.lt
  have cr0 : w2.cell? ⟨w.heap.size + 1, 0, none⟩ = some (.int .i64 0) := Br.cell 0
  have cr1 : w2.cell? ⟨w.heap.size + 1, 1, none⟩ = some (.int .u64 0) := Br.cell 1
  have cr2 : w2.cell? ⟨w.heap.size + 1, 2, none⟩ = some (.int .u64 0) := Br.cell 2
  have cr3 : w2.cell? ⟨w.heap.size + 1, 3, none⟩ = some (.int .u64 0) := Br.cell 3
  have cr4 : w2.cell? ⟨w.heap.size + 1, 4, none⟩ = some (.int .u64 0) := Br.cell 4
  have cr5 : w2.cell? ⟨w.heap.size + 1, 5, none⟩ = some (.int .i64 0) := Br.cell 5
  have cr6 : w2.cell? ⟨w.heap.size + 1, 6, none⟩ = some (.int .i64 0) := Br.cell 6
  have cr7 : w2.cell? ⟨w.heap.size + 1, 7, none⟩ = some (.int .i64 0) := Br.cell 7
  have cr8 : w2.cell? ⟨w.heap.size + 1, 8, none⟩ = some (.int .i64 0) := Br.cell 8
  have cr9 : w2.cell? ⟨w.heap.size + 1, 9, none⟩ = some (.int .i64 0) := Br.cell 9
  have cr10 : w2.cell? ⟨w.heap.size + 1, 10, none⟩ = some (.int .i64 0) := Br.cell 10
  have fr := Br.frozen; have lr := Br.lt
  go_upto_region 7 with fail
  go_wp2_with (refine wpList_store_whole rfl 64 (.tmp 6) (.tmp 50) rfl (w.heap.size + 1) #[.int .i64 0, .int .u64 0, .int .u64 0, .int .u64 0, .int .u64 0, .int .i64 0, .int .i64 0, .int .i64 0, .int .i64 0, .int .i64 0, .int .i64 0] rfl rfl 64 _ Br (size_re _ _ _ _ _ _ _ _ _ _ _) rfl (by simp [Value.oneCell']) ?_)
  intro w3 hS
  clear  fs ls
  clear cr0 cr1 cr2 cr3 cr4 cr5 cr6 cr7 cr8 cr9 cr10 fr lr
  replace Bs := hS.far (by first | (simp; done) | (simp; omega) | (simp [*]; done) | (simp only [ne_eq]; constructor <;> omega)) Bs
  replace Br : Blk w3 (w.heap.size + 1) 64 #[.int .i64 0, .int .u64 0, .int .u64 0, .int .u64 0, .int .u64 0, .int .i64 0, .int .i64 0, .int .i64 0, .int .i64 0, .int .i64 0, .int .i64 0] := hS.blk
  replace hB := hS.bel hB (by first | omega | (simp; omega))
  clear hS
  have fs := Bs.frozen; have ls := Bs.lt
  have cr0 : w3.cell? ⟨w.heap.size + 1, 0, none⟩ = some (.int .i64 0) := Br.cell 0
  have cr1 : w3.cell? ⟨w.heap.size + 1, 1, none⟩ = some (.int .u64 0) := Br.cell 1
  have cr2 : w3.cell? ⟨w.heap.size + 1, 2, none⟩ = some (.int .u64 0) := Br.cell 2
  have cr3 : w3.cell? ⟨w.heap.size + 1, 3, none⟩ = some (.int .u64 0) := Br.cell 3
  have cr4 : w3.cell? ⟨w.heap.size + 1, 4, none⟩ = some (.int .u64 0) := Br.cell 4
  have cr5 : w3.cell? ⟨w.heap.size + 1, 5, none⟩ = some (.int .i64 0) := Br.cell 5
  have cr6 : w3.cell? ⟨w.heap.size + 1, 6, none⟩ = some (.int .i64 0) := Br.cell 6
  have cr7 : w3.cell? ⟨w.heap.size + 1, 7, none⟩ = some (.int .i64 0) := Br.cell 7
  have cr8 : w3.cell? ⟨w.heap.size + 1, 8, none⟩ = some (.int .i64 0) := Br.cell 8
  have cr9 : w3.cell? ⟨w.heap.size + 1, 9, none⟩ = some (.int .i64 0) := Br.cell 9
  have cr10 : w3.cell? ⟨w.heap.size + 1, 10, none⟩ = some (.int .i64 0) := Br.cell 10
  have fr := Br.frozen; have lr := Br.lt
  go_wp2
  exact bodyPost_ret (v := .tuple #[.agg #[.int .i64 0, .int .u64 0, .int .u64 0, .int .u64 0, .int .u64 0, .int .i64 0, .int .i64 0, .int .i64 0, .int .i64 0, .int .i64 0, .int .i64 0], .bool false]) (by simp [results, Try.results50, go_sem, cr0, cr1, cr2, cr3, cr4, cr5, cr6, cr7, cr8, cr9, cr10, lr]) rfl ⟨rfl, by repeat (first | (with_reducible exact hB) | (with_reducible refine Bl_set ?_ (by first | omega | (simp; done) | (simp; omega)) _) | with_reducible apply Bl_alloc)⟩
set_option maxRecDepth 100000 in
set_option maxHeartbeats 800000 in
theorem load_d2n (s : St) (z : Int) (f : Nat) (h8 : ¬ f % 8 = 0) (hR : PlainAbs.ready s z 8 = false) (k_f : ∀ w : World, Calls Try.prog 61 #[.int .i64 z, .int .i64 8] w fun e w' => e = .returned (.tuple #[.int .i64 (f : Int), .bool true]) ∧ w = w') (w : World) : Calls Try.prog 50 #[.agg (stv s), .int .i64 z, .int .i64 8] w fun e w' => e = .returned (.tuple #[.agg #[.int .i64 0, .int .u64 0, .int .u64 0, .int .u64 0, .int .u64 0, .int .i64 0, .int .i64 0, .int .i64 0, .int .i64 0, .int .i64 0, .int .i64 0], .bool false]) ∧ Below w.heap.size w w' := by
  have k_z := sized_c 8
  have h8i : ¬ (f : Int) % 8 = 0 := by omega
  have k_R := ready_c s z 8; rw [hR] at k_R; clear hR
  go_enter Try.func50, Try.ntmps50
  go_wp2_with fail
  obtain ⟨gs, hgs⟩ : ∃ g, g = w.heap.size := ⟨_, rfl⟩
  obtain ⟨gr, hgr⟩ : ∃ g, g = w.heap.size + 1 := ⟨_, rfl⟩
  have Bs : Blk ((w.alloc (.cells (stv s) 69)).alloc (.cells #[.int .i64 0, .int .u64 0, .int .u64 0, .int .u64 0, .int .u64 0, .int .i64 0, .int .i64 0, .int .i64 0, .int .i64 0, .int .i64 0, .int .i64 0] 64)) (w.heap.size) 69 (stv s) := ((Blk.new w 69 (stv s))).alloc _
  have Br : Blk ((w.alloc (.cells (stv s) 69)).alloc (.cells #[.int .i64 0, .int .u64 0, .int .u64 0, .int .u64 0, .int .u64 0, .int .i64 0, .int .i64 0, .int .i64 0, .int .i64 0, .int .i64 0, .int .i64 0] 64)) (w.heap.size + 1) 64 #[.int .i64 0, .int .u64 0, .int .u64 0, .int .u64 0, .int .u64 0, .int .i64 0, .int .i64 0, .int .i64 0, .int .i64 0, .int .i64 0, .int .i64 0] := (by simpa using Blk.new (w.alloc (.cells (stv s) 69)) 64 #[.int .i64 0, .int .u64 0, .int .u64 0, .int .u64 0, .int .u64 0, .int .i64 0, .int .i64 0, .int .i64 0, .int .i64 0, .int .i64 0, .int .i64 0] : Blk _ (w.heap.size + 1) 64 #[.int .i64 0, .int .u64 0, .int .u64 0, .int .u64 0, .int .u64 0, .int .i64 0, .int .i64 0, .int .i64 0, .int .i64 0, .int .i64 0, .int .i64 0])
  have hB : Below w.heap.size w ((w.alloc (.cells (stv s) 69)).alloc (.cells #[.int .i64 0, .int .u64 0, .int .u64 0, .int .u64 0, .int .u64 0, .int .i64 0, .int .i64 0, .int .i64 0, .int .i64 0, .int .i64 0, .int .i64 0] 64)) := (Bl_alloc (Bl_alloc (Bl_refl w) _) _)
  clear hgs
  clear gs
  clear hgr
  clear gr
  generalize ((w.alloc (.cells (stv s) 69)).alloc (.cells #[.int .i64 0, .int .u64 0, .int .u64 0, .int .u64 0, .int .u64 0, .int .i64 0, .int .i64 0, .int .i64 0, .int .i64 0, .int .i64 0, .int .i64 0] 64)) = w1 at *
  have fs := Bs.frozen; have ls := Bs.lt
  have cr0 : w1.cell? ⟨w.heap.size + 1, 0, none⟩ = some (.int .i64 0) := Br.cell 0
  have cr1 : w1.cell? ⟨w.heap.size + 1, 1, none⟩ = some (.int .u64 0) := Br.cell 1
  have cr2 : w1.cell? ⟨w.heap.size + 1, 2, none⟩ = some (.int .u64 0) := Br.cell 2
  have cr3 : w1.cell? ⟨w.heap.size + 1, 3, none⟩ = some (.int .u64 0) := Br.cell 3
  have cr4 : w1.cell? ⟨w.heap.size + 1, 4, none⟩ = some (.int .u64 0) := Br.cell 4
  have cr5 : w1.cell? ⟨w.heap.size + 1, 5, none⟩ = some (.int .i64 0) := Br.cell 5
  have cr6 : w1.cell? ⟨w.heap.size + 1, 6, none⟩ = some (.int .i64 0) := Br.cell 6
  have cr7 : w1.cell? ⟨w.heap.size + 1, 7, none⟩ = some (.int .i64 0) := Br.cell 7
  have cr8 : w1.cell? ⟨w.heap.size + 1, 8, none⟩ = some (.int .i64 0) := Br.cell 8
  have cr9 : w1.cell? ⟨w.heap.size + 1, 9, none⟩ = some (.int .i64 0) := Br.cell 9
  have cr10 : w1.cell? ⟨w.heap.size + 1, 10, none⟩ = some (.int .i64 0) := Br.cell 10
  have fr := Br.frozen; have lr := Br.lt
  go_wp2_with fail
  refine (k_f _).mono ?_
  rintro e w' ⟨rfl, rfl⟩
  go_wp2_with fail
  refine (k_z _).mono ?_
  rintro e w' ⟨rfl, rfl⟩
  go_upto_region 6 with fail
  go_wp2_with (refine wpList_load_whole rfl 69 (.tmp 3) rfl (w.heap.size) rfl 69 (stv s) _ Bs Try.underlying69 rfl (size_st s) ?_)
  refine (k_R _).mono ?_
  rintro e w2 ⟨rfl, hb⟩
  clear  fs ls
  clear cr0 cr1 cr2 cr3 cr4 cr5 cr6 cr7 cr8 cr9 cr10 fr lr
  replace Bs := (Bs).next hb
  replace Br := (Br).next hb
  replace hB : Below w.heap.size w w2 := by repeat (first | exact hB | (refine Bl_set ?_ (by first | omega | (simp; omega)) _) | apply Bl_alloc | (refine Bl_trans ?_ hb))
  clear hb
  have fs := Bs.frozen; have ls := Bs.lt
  have cr0 : w2.cell? ⟨w.heap.size + 1, 0, none⟩ = some (.int .i64 0) := Br.cell 0
  have cr1 : w2.cell? ⟨w.heap.size + 1, 1, none⟩ = some (.int .u64 0) := Br.cell 1
  have cr2 : w2.cell? ⟨w.heap.size + 1, 2, none⟩ = some (.int .u64 0) := Br.cell 2
  have cr3 : w2.cell? ⟨w.heap.size + 1, 3, none⟩ = some (.int .u64 0) := Br.cell 3
  have cr4 : w2.cell? ⟨w.heap.size + 1, 4, none⟩ = some (.int .u64 0) := Br.cell 4
  have cr5 : w2.cell? ⟨w.heap.size + 1, 5, none⟩ = some (.int .i64 0) := Br.cell 5
  have cr6 : w2.cell? ⟨w.heap.size + 1, 6, none⟩ = some (.int .i64 0) := Br.cell 6
  have cr7 : w2.cell? ⟨w.heap.size + 1, 7, none⟩ = some (.int .i64 0) := Br.cell 7
  have cr8 : w2.cell? ⟨w.heap.size + 1, 8, none⟩ = some (.int .i64 0) := Br.cell 8
  have cr9 : w2.cell? ⟨w.heap.size + 1, 9, none⟩ = some (.int .i64 0) := Br.cell 9
  have cr10 : w2.cell? ⟨w.heap.size + 1, 10, none⟩ = some (.int .i64 0) := Br.cell 10
  have fr := Br.frozen; have lr := Br.lt
  go_upto_region 7 with fail
  go_wp2_with (refine wpList_store_whole rfl 64 (.tmp 6) (.tmp 50) rfl (w.heap.size + 1) #[.int .i64 0, .int .u64 0, .int .u64 0, .int .u64 0, .int .u64 0, .int .i64 0, .int .i64 0, .int .i64 0, .int .i64 0, .int .i64 0, .int .i64 0] rfl rfl 64 _ Br (size_re _ _ _ _ _ _ _ _ _ _ _) rfl (by simp [Value.oneCell']) ?_)
  intro w3 hS
  clear  fs ls
  clear cr0 cr1 cr2 cr3 cr4 cr5 cr6 cr7 cr8 cr9 cr10 fr lr
  replace Bs := hS.far (by first | (simp; done) | (simp; omega) | (simp [*]; done) | (simp only [ne_eq]; constructor <;> omega)) Bs
  replace Br : Blk w3 (w.heap.size + 1) 64 #[.int .i64 0, .int .u64 0, .int .u64 0, .int .u64 0, .int .u64 0, .int .i64 0, .int .i64 0, .int .i64 0, .int .i64 0, .int .i64 0, .int .i64 0] := hS.blk
  replace hB := hS.bel hB (by first | omega | (simp; omega))
  clear hS
  have fs := Bs.frozen; have ls := Bs.lt
  have cr0 : w3.cell? ⟨w.heap.size + 1, 0, none⟩ = some (.int .i64 0) := Br.cell 0
  have cr1 : w3.cell? ⟨w.heap.size + 1, 1, none⟩ = some (.int .u64 0) := Br.cell 1
  have cr2 : w3.cell? ⟨w.heap.size + 1, 2, none⟩ = some (.int .u64 0) := Br.cell 2
  have cr3 : w3.cell? ⟨w.heap.size + 1, 3, none⟩ = some (.int .u64 0) := Br.cell 3
  have cr4 : w3.cell? ⟨w.heap.size + 1, 4, none⟩ = some (.int .u64 0) := Br.cell 4
  have cr5 : w3.cell? ⟨w.heap.size + 1, 5, none⟩ = some (.int .i64 0) := Br.cell 5
  have cr6 : w3.cell? ⟨w.heap.size + 1, 6, none⟩ = some (.int .i64 0) := Br.cell 6
  have cr7 : w3.cell? ⟨w.heap.size + 1, 7, none⟩ = some (.int .i64 0) := Br.cell 7
  have cr8 : w3.cell? ⟨w.heap.size + 1, 8, none⟩ = some (.int .i64 0) := Br.cell 8
  have cr9 : w3.cell? ⟨w.heap.size + 1, 9, none⟩ = some (.int .i64 0) := Br.cell 9
  have cr10 : w3.cell? ⟨w.heap.size + 1, 10, none⟩ = some (.int .i64 0) := Br.cell 10
  have fr := Br.frozen; have lr := Br.lt
  go_wp2
  exact bodyPost_ret (v := .tuple #[.agg #[.int .i64 0, .int .u64 0, .int .u64 0, .int .u64 0, .int .u64 0, .int .i64 0, .int .i64 0, .int .i64 0, .int .i64 0, .int .i64 0, .int .i64 0], .bool false]) (by simp [results, Try.results50, go_sem, cr0, cr1, cr2, cr3, cr4, cr5, cr6, cr7, cr8, cr9, cr10, lr]) rfl ⟨rfl, by repeat (first | (with_reducible exact hB) | (with_reducible refine Bl_set ?_ (by first | omega | (simp; done) | (simp; omega)) _) | with_reducible apply Bl_alloc)⟩
set_option maxRecDepth 100000 in
set_option maxHeartbeats 800000 in
theorem load_d3n (s : St) (z : Int) (f : Nat) (k : Nat) (hk : k < 8) (hf : f = 8 * k) (hk0 : (s.kept k).kind = 0) (hR : PlainAbs.ready s z 8 = false) (k_f : ∀ w : World, Calls Try.prog 61 #[.int .i64 z, .int .i64 8] w fun e w' => e = .returned (.tuple #[.int .i64 (f : Int), .bool true]) ∧ w = w') (w : World) : Calls Try.prog 50 #[.agg (stv s), .int .i64 z, .int .i64 8] w fun e w' => e = .returned (.tuple #[.agg #[.int .i64 0, .int .u64 0, .int .u64 0, .int .u64 0, .int .u64 0, .int .i64 0, .int .i64 0, .int .i64 0, .int .i64 0, .int .i64 0, .int .i64 0], .bool false]) ∧ Below w.heap.size w w' := by
  have k_z := sized_c 8
  obtain ⟨x, e_x⟩ : ∃ z', z' = s.kept k := ⟨_, rfl⟩
  rw [← e_x] at hk0; have Hx := Lib.hid e_x; clear e_x
  have k_R := ready_c s z 8; rw [hR] at k_R; clear hR
  go_enter Try.func50, Try.ntmps50
  go_wp2_with fail
  obtain ⟨gs, hgs⟩ : ∃ g, g = w.heap.size := ⟨_, rfl⟩
  obtain ⟨gr, hgr⟩ : ∃ g, g = w.heap.size + 1 := ⟨_, rfl⟩
  have Bs : Blk ((w.alloc (.cells (stv s) 69)).alloc (.cells #[.int .i64 0, .int .u64 0, .int .u64 0, .int .u64 0, .int .u64 0, .int .i64 0, .int .i64 0, .int .i64 0, .int .i64 0, .int .i64 0, .int .i64 0] 64)) (w.heap.size) 69 (stv s) := ((Blk.new w 69 (stv s))).alloc _
  have Br : Blk ((w.alloc (.cells (stv s) 69)).alloc (.cells #[.int .i64 0, .int .u64 0, .int .u64 0, .int .u64 0, .int .u64 0, .int .i64 0, .int .i64 0, .int .i64 0, .int .i64 0, .int .i64 0, .int .i64 0] 64)) (w.heap.size + 1) 64 #[.int .i64 0, .int .u64 0, .int .u64 0, .int .u64 0, .int .u64 0, .int .i64 0, .int .i64 0, .int .i64 0, .int .i64 0, .int .i64 0, .int .i64 0] := (by simpa using Blk.new (w.alloc (.cells (stv s) 69)) 64 #[.int .i64 0, .int .u64 0, .int .u64 0, .int .u64 0, .int .u64 0, .int .i64 0, .int .i64 0, .int .i64 0, .int .i64 0, .int .i64 0, .int .i64 0] : Blk _ (w.heap.size + 1) 64 #[.int .i64 0, .int .u64 0, .int .u64 0, .int .u64 0, .int .u64 0, .int .i64 0, .int .i64 0, .int .i64 0, .int .i64 0, .int .i64 0, .int .i64 0])
  have hB : Below w.heap.size w ((w.alloc (.cells (stv s) 69)).alloc (.cells #[.int .i64 0, .int .u64 0, .int .u64 0, .int .u64 0, .int .u64 0, .int .i64 0, .int .i64 0, .int .i64 0, .int .i64 0, .int .i64 0, .int .i64 0] 64)) := (Bl_alloc (Bl_alloc (Bl_refl w) _) _)
  clear hgs
  clear gs
  clear hgr
  clear gr
  generalize ((w.alloc (.cells (stv s) 69)).alloc (.cells #[.int .i64 0, .int .u64 0, .int .u64 0, .int .u64 0, .int .u64 0, .int .i64 0, .int .i64 0, .int .i64 0, .int .i64 0, .int .i64 0, .int .i64 0] 64)) = w1 at *
  have fs := Bs.frozen; have ls := Bs.lt
  have cr0 : w1.cell? ⟨w.heap.size + 1, 0, none⟩ = some (.int .i64 0) := Br.cell 0
  have cr1 : w1.cell? ⟨w.heap.size + 1, 1, none⟩ = some (.int .u64 0) := Br.cell 1
  have cr2 : w1.cell? ⟨w.heap.size + 1, 2, none⟩ = some (.int .u64 0) := Br.cell 2
  have cr3 : w1.cell? ⟨w.heap.size + 1, 3, none⟩ = some (.int .u64 0) := Br.cell 3
  have cr4 : w1.cell? ⟨w.heap.size + 1, 4, none⟩ = some (.int .u64 0) := Br.cell 4
  have cr5 : w1.cell? ⟨w.heap.size + 1, 5, none⟩ = some (.int .i64 0) := Br.cell 5
  have cr6 : w1.cell? ⟨w.heap.size + 1, 6, none⟩ = some (.int .i64 0) := Br.cell 6
  have cr7 : w1.cell? ⟨w.heap.size + 1, 7, none⟩ = some (.int .i64 0) := Br.cell 7
  have cr8 : w1.cell? ⟨w.heap.size + 1, 8, none⟩ = some (.int .i64 0) := Br.cell 8
  have cr9 : w1.cell? ⟨w.heap.size + 1, 9, none⟩ = some (.int .i64 0) := Br.cell 9
  have cr10 : w1.cell? ⟨w.heap.size + 1, 10, none⟩ = some (.int .i64 0) := Br.cell 10
  have fr := Br.frozen; have lr := Br.lt
  go_wp2_with fail
  refine (k_f _).mono ?_
  rintro e w' ⟨rfl, rfl⟩
  go_wp2_with fail
  refine (k_z _).mono ?_
  rintro e w' ⟨rfl, rfl⟩
  go_upto_region 4 with fail
  have ck : w1.cell? ⟨w.heap.size, 185 + k * 11, none⟩ = some (.int .i64 x.kind) := (by have h := Bs.cell (185 + k * 11 + 0); rw [stv_get s (by omega), kept_at s hk (by omega)] at h; rw [Hx.out]; exact h)
  rw [hk0] at ck
  go_upto_region 6 with fail
  clear ck
  go_wp2_with (refine wpList_load_whole rfl 69 (.tmp 3) rfl (w.heap.size) rfl 69 (stv s) _ Bs Try.underlying69 rfl (size_st s) ?_)
  refine (k_R _).mono ?_
  rintro e w2 ⟨rfl, hb⟩
  clear  fs ls
  clear cr0 cr1 cr2 cr3 cr4 cr5 cr6 cr7 cr8 cr9 cr10 fr lr
  replace Bs := (Bs).next hb
  replace Br := (Br).next hb
  replace hB : Below w.heap.size w w2 := by repeat (first | exact hB | (refine Bl_set ?_ (by first | omega | (simp; omega)) _) | apply Bl_alloc | (refine Bl_trans ?_ hb))
  clear hb
  have fs := Bs.frozen; have ls := Bs.lt
  have cr0 : w2.cell? ⟨w.heap.size + 1, 0, none⟩ = some (.int .i64 0) := Br.cell 0
  have cr1 : w2.cell? ⟨w.heap.size + 1, 1, none⟩ = some (.int .u64 0) := Br.cell 1
  have cr2 : w2.cell? ⟨w.heap.size + 1, 2, none⟩ = some (.int .u64 0) := Br.cell 2
  have cr3 : w2.cell? ⟨w.heap.size + 1, 3, none⟩ = some (.int .u64 0) := Br.cell 3
  have cr4 : w2.cell? ⟨w.heap.size + 1, 4, none⟩ = some (.int .u64 0) := Br.cell 4
  have cr5 : w2.cell? ⟨w.heap.size + 1, 5, none⟩ = some (.int .i64 0) := Br.cell 5
  have cr6 : w2.cell? ⟨w.heap.size + 1, 6, none⟩ = some (.int .i64 0) := Br.cell 6
  have cr7 : w2.cell? ⟨w.heap.size + 1, 7, none⟩ = some (.int .i64 0) := Br.cell 7
  have cr8 : w2.cell? ⟨w.heap.size + 1, 8, none⟩ = some (.int .i64 0) := Br.cell 8
  have cr9 : w2.cell? ⟨w.heap.size + 1, 9, none⟩ = some (.int .i64 0) := Br.cell 9
  have cr10 : w2.cell? ⟨w.heap.size + 1, 10, none⟩ = some (.int .i64 0) := Br.cell 10
  have fr := Br.frozen; have lr := Br.lt
  go_upto_region 7 with fail
  go_wp2_with (refine wpList_store_whole rfl 64 (.tmp 6) (.tmp 50) rfl (w.heap.size + 1) #[.int .i64 0, .int .u64 0, .int .u64 0, .int .u64 0, .int .u64 0, .int .i64 0, .int .i64 0, .int .i64 0, .int .i64 0, .int .i64 0, .int .i64 0] rfl rfl 64 _ Br (size_re _ _ _ _ _ _ _ _ _ _ _) rfl (by simp [Value.oneCell']) ?_)
  intro w3 hS
  clear  fs ls
  clear cr0 cr1 cr2 cr3 cr4 cr5 cr6 cr7 cr8 cr9 cr10 fr lr
  replace Bs := hS.far (by first | (simp; done) | (simp; omega) | (simp [*]; done) | (simp only [ne_eq]; constructor <;> omega)) Bs
  replace Br : Blk w3 (w.heap.size + 1) 64 #[.int .i64 0, .int .u64 0, .int .u64 0, .int .u64 0, .int .u64 0, .int .i64 0, .int .i64 0, .int .i64 0, .int .i64 0, .int .i64 0, .int .i64 0] := hS.blk
  replace hB := hS.bel hB (by first | omega | (simp; omega))
  clear hS
  have fs := Bs.frozen; have ls := Bs.lt
  have cr0 : w3.cell? ⟨w.heap.size + 1, 0, none⟩ = some (.int .i64 0) := Br.cell 0
  have cr1 : w3.cell? ⟨w.heap.size + 1, 1, none⟩ = some (.int .u64 0) := Br.cell 1
  have cr2 : w3.cell? ⟨w.heap.size + 1, 2, none⟩ = some (.int .u64 0) := Br.cell 2
  have cr3 : w3.cell? ⟨w.heap.size + 1, 3, none⟩ = some (.int .u64 0) := Br.cell 3
  have cr4 : w3.cell? ⟨w.heap.size + 1, 4, none⟩ = some (.int .u64 0) := Br.cell 4
  have cr5 : w3.cell? ⟨w.heap.size + 1, 5, none⟩ = some (.int .i64 0) := Br.cell 5
  have cr6 : w3.cell? ⟨w.heap.size + 1, 6, none⟩ = some (.int .i64 0) := Br.cell 6
  have cr7 : w3.cell? ⟨w.heap.size + 1, 7, none⟩ = some (.int .i64 0) := Br.cell 7
  have cr8 : w3.cell? ⟨w.heap.size + 1, 8, none⟩ = some (.int .i64 0) := Br.cell 8
  have cr9 : w3.cell? ⟨w.heap.size + 1, 9, none⟩ = some (.int .i64 0) := Br.cell 9
  have cr10 : w3.cell? ⟨w.heap.size + 1, 10, none⟩ = some (.int .i64 0) := Br.cell 10
  have fr := Br.frozen; have lr := Br.lt
  go_wp2
  exact bodyPost_ret (v := .tuple #[.agg #[.int .i64 0, .int .u64 0, .int .u64 0, .int .u64 0, .int .u64 0, .int .i64 0, .int .i64 0, .int .i64 0, .int .i64 0, .int .i64 0, .int .i64 0], .bool false]) (by simp [results, Try.results50, go_sem, cr0, cr1, cr2, cr3, cr4, cr5, cr6, cr7, cr8, cr9, cr10, lr]) rfl ⟨rfl, by repeat (first | (with_reducible exact hB) | (with_reducible refine Bl_set ?_ (by first | omega | (simp; done) | (simp; omega)) _) | with_reducible apply Bl_alloc)⟩
theorem load_c (s : St) (z n : Int) (w : World) : Calls Try.prog 50 #[.agg (stv s), .int .i64 z, .int .i64 n] w fun e w' => e = .returned (.tuple #[gv (PlainAbs.load s z n).1, .bool (PlainAbs.load s z n).2]) ∧ Below w.heap.size w w' := by
  have k_f := first_c z n
  cases hz : PlainAbs.sized n
  · have e : PlainAbs.load s z n = (zr, false) := by unfold PlainAbs.load; rw [hz]; rfl
    rw [e]; exact load_unsized s z n _ _ hz k_f w
  · cases hok : PlainAbs.firstOk z n
    · have e : PlainAbs.load s z n = (zr, false) := by unfold PlainAbs.load; rw [hz, hok]; rfl
      rw [hok] at k_f
      rw [e]; exact load_nowhere s z n _ hz k_f w
    · obtain ⟨f, m, h1, rfl, h3, h4⟩ := PlainAbs.first_nat hok
      rw [hok, h4] at k_f
      have hT : ∀ b : Bool, (PlainAbs.sized (m : Int) && PlainAbs.firstOk z (m : Int)) = false → b = true := by rw [hz, hok]; intro b h; cases h
      have e0 : PlainAbs.load s z (m : Int) = if (m : Int) = 8 ∧ (f : Int) % 8 = 0 ∧ (s.kept (f / 8)).kind ≠ 0 then (s.kept (f / 8), true) else if PlainAbs.ready s z (m : Int) = false then (zr, false) else (PlainAbs.number (PlainScalar.low PlainScalar.any (m : Int)), true) := by
        unfold PlainAbs.load; rw [hz, hok, h1, show ((f : Int)).toNat / 8 = f / 8 by simp]; rfl
      have key : ∀ (N : Int), (N = (m : Int)) → (¬ ((m : Int) = 8 ∧ (f : Int) % 8 = 0 ∧ (s.kept (f / 8)).kind ≠ 0)) → (∀ (hR : PlainAbs.ready s z (m : Int) = true), PlainAbs.load s z (m : Int) = (PlainAbs.number (PlainScalar.low PlainScalar.any (m : Int)), true)) ∧ (∀ (hR : PlainAbs.ready s z (m : Int) = false), PlainAbs.load s z (m : Int) = (zr, false)) := by
        intro N _ hn
        rw [e0, if_neg hn]
        exact ⟨fun h => by rw [h]; rfl, fun h => by rw [h]; rfl⟩
      by_cases hm : m = 8
      · subst hm
        by_cases h8 : f % 8 = 0
        · obtain ⟨k, hf⟩ : ∃ k, f = 8 * k := ⟨f / 8, by omega⟩
          have hk : k < 8 := by omega
          have hk' : f / 8 = k := by omega
          by_cases h0 : (s.kept k).kind = 0
          · have kk := key 8 rfl (by rw [hk']; intro h; exact h.2.2 h0)
            cases hR : PlainAbs.ready s z 8
            · rw [show ((8 : Nat) : Int) = 8 from rfl] at kk; rw [show ((8 : Nat) : Int) = 8 from rfl, kk.2 hR]; exact load_d3n s z f k hk hf h0 hR k_f w
            · rw [show ((8 : Nat) : Int) = 8 from rfl] at kk; rw [show ((8 : Nat) : Int) = 8 from rfl, kk.1 hR]; exact load_d3y s z f k hk hf h0 hR k_f w
          · rw [e0, if_pos ⟨rfl, by omega, by rw [hk']; exact h0⟩, hk']
            exact load_kept s f k hk hf z h0 k_f w
        · have kk := key 8 rfl (by intro h; exact h8 (by have := h.2.1; omega))
          cases hR : PlainAbs.ready s z 8
          · rw [show ((8 : Nat) : Int) = 8 from rfl] at kk; rw [show ((8 : Nat) : Int) = 8 from rfl, kk.2 hR]; exact load_d2n s z f h8 hR k_f w
          · rw [show ((8 : Nat) : Int) = 8 from rfl] at kk; rw [show ((8 : Nat) : Int) = 8 from rfl, kk.1 hR]; exact load_d2y s z f h8 hR k_f w
      · have kk := key _ rfl (by intro h; exact hm (by have := h.1; omega))
        cases hR : PlainAbs.ready s z (m : Int)
        · rw [kk.2 hR]; exact load_d1n s z f m hm hz hR k_f w
        · rw [kk.1 hR]; exact load_d1y s z f m hm hz hR k_f w
end Go.Proofs.Ytmghpoagpiljhaa
