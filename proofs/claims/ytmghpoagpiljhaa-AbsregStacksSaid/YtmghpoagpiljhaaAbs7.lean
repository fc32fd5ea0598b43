/- The small functions of the laws of layer 17: number, saves. -/
import Derived.Test.YtmghpoagpiljhaaAbs6
import Derived.Outline
set_option linter.unusedSimpArgs false
set_option linter.unusedVariables false
namespace Go.Proofs.Ytmghpoagpiljhaa
namespace PlainAbs
def five : St := (save start (-8) 8 (number (PlainScalar.const 5#64))).1
theorem five_ok : (save start (-8) 8 (number (PlainScalar.const 5#64))).2 = true := by rfl
theorem five_ready : ready five (-8) 8 = true := by decide +kernel
theorem five_not : ready five (-9) 1 = false := by decide +kernel
theorem five_load : load five (-8) 1 = (number (PlainScalar.low PlainScalar.any 1), true) := by
  unfold load
  rw [if_neg (by decide +kernel), if_neg (by intro h; exact absurd h.1 (by decide)), if_neg (by decide +kernel)]
theorem byte_hi : (PlainScalar.low PlainScalar.any 1).hi = 255#64 := by decide +kernel
end PlainAbs
open Go.RowKit
open PlainTnum (N)
open PlainScalar (Rng)
open PlainAbs (Rg St zr zs upd)
theorem new_st {o : Oper} (h : isAlloc o = some 69) (ρ : Operand → Value) (w : World) : (execOp ρ o).run Try.prog w = .ok (.value (.pointer (some ⟨w.heap.size, 0, none⟩))) (w.alloc (.cells (stv zs) 69)) := by
  obtain ⟨dst, op, type, pos, after, guard⟩ := o
  have := alloc_is h
  simp only at this
  subst this
  have hz := zero_st
  go_simp
/-- The registers of the first state, its second and eleventh one. -/
def startR : Array Value := (stv PlainAbs.start).extract 0 121
theorem start_f (w : World) : (Instr.field 69 (.agg (stv PlainAbs.start)) 0).run Try.prog w = .ok (.agg startR) w := by kernel_rfl
theorem start_1 (w : World) : (Instr.index 65 (.agg startR) (.int .i64 1)).run Try.prog w = .ok (gv (PlainAbs.start.r 1)) w := by kernel_rfl
theorem start_10 (w : World) : (Instr.index 65 (.agg startR) (.int .i64 10)).run Try.prog w = .ok (gv (PlainAbs.start.r 10)) w := by kernel_rfl
theorem start_k1 (w : World) : (Instr.field 64 (gv (PlainAbs.start.r 1)) 0).run Try.prog w = .ok (.int .i64 2) w := by kernel_rfl
theorem start_k10 (w : World) : (Instr.field 64 (gv (PlainAbs.start.r 10)) 0).run Try.prog w = .ok (.int .i64 3) w := by kernel_rfl
set_option maxRecDepth 100000 in
set_option maxHeartbeats 400000 in
theorem number_c (x : W) (w : World) : Calls Try.prog 47 #[uv x] w fun e w' => e = .returned (gv (PlainAbs.number (PlainScalar.const x))) ∧ Below w.heap.size w w' := by
  have k_c := sconst_c x
  generalize PlainScalar.const x = v at k_c ⊢
  go_enter Try.func47, Try.ntmps47
  go_wp2_with fail
  obtain ⟨gr, hgr⟩ : ∃ g, g = w.heap.size := ⟨_, rfl⟩
  have Br : Blk (w.alloc (.cells #[.int .i64 0, .int .u64 0, .int .u64 0, .int .u64 0, .int .u64 0, .int .i64 0, .int .i64 0, .int .i64 0, .int .i64 0, .int .i64 0, .int .i64 0] 64)) (w.heap.size) 64 #[.int .i64 0, .int .u64 0, .int .u64 0, .int .u64 0, .int .u64 0, .int .i64 0, .int .i64 0, .int .i64 0, .int .i64 0, .int .i64 0, .int .i64 0] := (Blk.new w 64 #[.int .i64 0, .int .u64 0, .int .u64 0, .int .u64 0, .int .u64 0, .int .i64 0, .int .i64 0, .int .i64 0, .int .i64 0, .int .i64 0, .int .i64 0])
  have hB : Below w.heap.size w (w.alloc (.cells #[.int .i64 0, .int .u64 0, .int .u64 0, .int .u64 0, .int .u64 0, .int .i64 0, .int .i64 0, .int .i64 0, .int .i64 0, .int .i64 0, .int .i64 0] 64)) := (Bl_alloc (Bl_refl w) _)
  clear hgr
  clear gr
  generalize (w.alloc (.cells #[.int .i64 0, .int .u64 0, .int .u64 0, .int .u64 0, .int .u64 0, .int .i64 0, .int .i64 0, .int .i64 0, .int .i64 0, .int .i64 0, .int .i64 0] 64)) = w1 at *
  have cr0 : w1.cell? ⟨w.heap.size, 0, none⟩ = some (.int .i64 0) := Br.cell 0
  have cr1 : w1.cell? ⟨w.heap.size, 1, none⟩ = some (.int .u64 0) := Br.cell 1
  have cr2 : w1.cell? ⟨w.heap.size, 2, none⟩ = some (.int .u64 0) := Br.cell 2
  have cr3 : w1.cell? ⟨w.heap.size, 3, none⟩ = some (.int .u64 0) := Br.cell 3
  have cr4 : w1.cell? ⟨w.heap.size, 4, none⟩ = some (.int .u64 0) := Br.cell 4
  have cr5 : w1.cell? ⟨w.heap.size, 5, none⟩ = some (.int .i64 0) := Br.cell 5
  have cr6 : w1.cell? ⟨w.heap.size, 6, none⟩ = some (.int .i64 0) := Br.cell 6
  have cr7 : w1.cell? ⟨w.heap.size, 7, none⟩ = some (.int .i64 0) := Br.cell 7
  have cr8 : w1.cell? ⟨w.heap.size, 8, none⟩ = some (.int .i64 0) := Br.cell 8
  have cr9 : w1.cell? ⟨w.heap.size, 9, none⟩ = some (.int .i64 0) := Br.cell 9
  have cr10 : w1.cell? ⟨w.heap.size, 10, none⟩ = some (.int .i64 0) := Br.cell 10
  have fr := Br.frozen; have lr := Br.lt
  go_wp2_with fail
  refine (k_c _).mono ?_
  rintro e w2 ⟨rfl, hb⟩
  clear cr0 cr1 cr2 cr3 cr4 cr5 cr6 cr7 cr8 cr9 cr10 fr lr
  replace Br := (Br).next hb
  replace hB : Below w.heap.size w w2 := by repeat (first | exact hB | (refine Bl_set ?_ (by first | omega | (simp; omega)) _) | apply Bl_alloc | (refine Bl_trans ?_ hb))
  clear hb
  have cr0 : w2.cell? ⟨w.heap.size, 0, none⟩ = some (.int .i64 0) := Br.cell 0
  have cr1 : w2.cell? ⟨w.heap.size, 1, none⟩ = some (.int .u64 0) := Br.cell 1
  have cr2 : w2.cell? ⟨w.heap.size, 2, none⟩ = some (.int .u64 0) := Br.cell 2
  have cr3 : w2.cell? ⟨w.heap.size, 3, none⟩ = some (.int .u64 0) := Br.cell 3
  have cr4 : w2.cell? ⟨w.heap.size, 4, none⟩ = some (.int .u64 0) := Br.cell 4
  have cr5 : w2.cell? ⟨w.heap.size, 5, none⟩ = some (.int .i64 0) := Br.cell 5
  have cr6 : w2.cell? ⟨w.heap.size, 6, none⟩ = some (.int .i64 0) := Br.cell 6
  have cr7 : w2.cell? ⟨w.heap.size, 7, none⟩ = some (.int .i64 0) := Br.cell 7
  have cr8 : w2.cell? ⟨w.heap.size, 8, none⟩ = some (.int .i64 0) := Br.cell 8
  have cr9 : w2.cell? ⟨w.heap.size, 9, none⟩ = some (.int .i64 0) := Br.cell 9
  have cr10 : w2.cell? ⟨w.heap.size, 10, none⟩ = some (.int .i64 0) := Br.cell 10
  have fr := Br.frozen; have lr := Br.lt
  go_wp2_with (refine wpList_store_whole rfl 64 (.tmp 2) (.tmp 5) rfl (w.heap.size) #[.int .i64 1, uv v.b.v, uv v.b.m, uv v.lo, uv v.hi, sv v.sl, sv v.sh, .int .i64 0, .int .i64 0, .int .i64 0, .int .i64 0] rfl rfl 64 _ Br (size_re _ _ _ _ _ _ _ _ _ _ _) rfl (by simp [Value.oneCell']) ?_)
  intro w3 hS
  clear cr0 cr1 cr2 cr3 cr4 cr5 cr6 cr7 cr8 cr9 cr10 fr lr
  replace Br : Blk w3 (w.heap.size) 64 #[.int .i64 1, uv v.b.v, uv v.b.m, uv v.lo, uv v.hi, sv v.sl, sv v.sh, .int .i64 0, .int .i64 0, .int .i64 0, .int .i64 0] := hS.blk
  replace hB := hS.bel hB (by first | omega | (simp; omega))
  clear hS
  have cr0 : w3.cell? ⟨w.heap.size, 0, none⟩ = some (.int .i64 1) := Br.cell 0
  have cr1 : w3.cell? ⟨w.heap.size, 1, none⟩ = some (uv v.b.v) := Br.cell 1
  have cr2 : w3.cell? ⟨w.heap.size, 2, none⟩ = some (uv v.b.m) := Br.cell 2
  have cr3 : w3.cell? ⟨w.heap.size, 3, none⟩ = some (uv v.lo) := Br.cell 3
  have cr4 : w3.cell? ⟨w.heap.size, 4, none⟩ = some (uv v.hi) := Br.cell 4
  have cr5 : w3.cell? ⟨w.heap.size, 5, none⟩ = some (sv v.sl) := Br.cell 5
  have cr6 : w3.cell? ⟨w.heap.size, 6, none⟩ = some (sv v.sh) := Br.cell 6
  have cr7 : w3.cell? ⟨w.heap.size, 7, none⟩ = some (.int .i64 0) := Br.cell 7
  have cr8 : w3.cell? ⟨w.heap.size, 8, none⟩ = some (.int .i64 0) := Br.cell 8
  have cr9 : w3.cell? ⟨w.heap.size, 9, none⟩ = some (.int .i64 0) := Br.cell 9
  have cr10 : w3.cell? ⟨w.heap.size, 10, none⟩ = some (.int .i64 0) := Br.cell 10
  have fr := Br.frozen; have lr := Br.lt
  go_wp2
  exact bodyPost_ret (v := gv (PlainAbs.number v)) (by simp [results, Try.results47, go_sem, cr0, cr1, cr2, cr3, cr4, cr5, cr6, cr7, cr8, cr9, cr10, lr, PlainAbs.number, PlainAbs.zr]) rfl ⟨rfl, by repeat (first | (with_reducible exact hB) | (with_reducible refine Bl_set ?_ (by first | omega | (simp; done) | (simp; omega)) _) | with_reducible apply Bl_alloc)⟩
set_option maxRecDepth 100000 in
set_option maxHeartbeats 1600000 in
theorem saves_c  (w : World) : Calls Try.prog 46 #[] w fun e w' => e = .returned (.bool true) ∧ Below w.heap.size w w' := by
  have k_n : ∀ w : World, Calls Try.prog 47 #[.int .u64 5] w fun e w' => e = .returned (gv (PlainAbs.number (PlainScalar.const 5#64))) ∧ Below w.heap.size w w' := number_c 5#64
  have k_s := save_c PlainAbs.start (-8) 8 (PlainAbs.number (PlainScalar.const 5#64)); rw [PlainAbs.five_ok, show (PlainAbs.save PlainAbs.start (-8) 8 (PlainAbs.number (PlainScalar.const 5#64))).1 = PlainAbs.five from rfl] at k_s
  have k_l := load_c PlainAbs.five (-8) 1; rw [PlainAbs.five_load] at k_l
  have k_1 := ready_c PlainAbs.five (-8) 8; rw [PlainAbs.five_ready] at k_1; have k_2 := ready_c PlainAbs.five (-9) 1; rw [PlainAbs.five_not] at k_2
  generalize PlainAbs.number (PlainScalar.const 5#64) = n5 at k_n k_s
  have hhi : (T (PlainScalar.low PlainScalar.any 1).hi == 255) = true := by rw [PlainAbs.byte_hi]; rfl
  generalize PlainAbs.five = S5 at k_s k_l k_1 k_2; generalize PlainScalar.low PlainScalar.any 1 = v at k_l hhi
  replace k_l : ∀ w : World, Calls Try.prog 50 #[.agg (stv S5), .int .i64 (-8), .int .i64 1] w fun e w' => e = .returned (.tuple #[.agg #[.int .i64 1, uv v.b.v, uv v.b.m, uv v.lo, uv v.hi, sv v.sl, sv v.sh, .int .i64 0, .int .i64 0, .int .i64 0, .int .i64 0], .bool true]) ∧ Below w.heap.size w w' := k_l
  have hz := zero_st
  have hf0 := start_f
  have hf1 := start_1
  have hf2 := start_10
  have hf3 := start_k1
  have hf4 := start_k10
  have hf5 := start_c
  generalize PlainAbs.start.r 1 = R1 at hf1 hf3; generalize PlainAbs.start.r 10 = R10 at hf2 hf4; generalize startR = SR at hf0 hf1 hf2; generalize PlainAbs.start = S0 at hf0 hf5 k_s
  go_enter Try.func46, Try.ntmps46
  go_wp2_with fail
  have hB : Below w.heap.size w w := (Bl_refl w)
  go_wp2_with fail
  refine (hf5 _).mono ?_
  rintro e w2 ⟨rfl, hb⟩
  replace hB : Below w.heap.size w w2 := by repeat (first | exact hB | (refine Bl_set ?_ (by first | omega | (simp; omega)) _) | apply Bl_alloc | (refine Bl_trans ?_ hb))
  clear hb
  go_wp2_with fail
  refine (k_n _).mono ?_
  rintro e w3 ⟨rfl, hb⟩
  replace hB : Below w.heap.size w w3 := by repeat (first | exact hB | (refine Bl_set ?_ (by first | omega | (simp; omega)) _) | apply Bl_alloc | (refine Bl_trans ?_ hb))
  clear hb
  go_wp2_with fail
  refine (k_s _).mono ?_
  rintro e w4 ⟨rfl, hb⟩
  replace hB : Below w.heap.size w w4 := by repeat (first | exact hB | (refine Bl_set ?_ (by first | omega | (simp; omega)) _) | apply Bl_alloc | (refine Bl_trans ?_ hb))
  clear hb
  go_wp2_with (refine wpList_store_whole rfl 69 (.tmp 1) (.tmp 9) rfl (w4.heap.size) (stv S5) rfl rfl 69 (stv zs) (Blk.new w4 _ _) (size_st S5) (by rw [stv_size, stv_size]) (stv_one S5) ?_)
  intro w5 hS
  have hgs := hB.size
  have Bs : Blk w5 (w4.heap.size) 69 (stv S5) := hS.blk
  replace hB := hS.bel (Bl_alloc hB _) hgs
  clear hS
  generalize w4.heap.size = gs at *
  have fs := Bs.frozen; have ls := Bs.lt
  clear k_s k_n
  go_wp2_with (refine wpList_load_whole rfl 69 (.tmp 1) rfl (gs) rfl 69 (stv S5) _ Bs Try.underlying69 rfl (size_st S5) ?_)
  refine (k_l _).mono ?_
  rintro e w6 ⟨rfl, hb⟩
  clear  fs ls
  replace Bs := (Bs).next hb
  replace hB : Below w.heap.size w w6 := by repeat (first | exact hB | (refine Bl_set ?_ (by first | omega | (simp; omega)) _) | apply Bl_alloc | (refine Bl_trans ?_ hb))
  clear hb
  have fs := Bs.frozen; have ls := Bs.lt
  go_upto_region 3 with fail
  clear  fs ls
  have Bq := Blk.new w6 64 #[.int .i64 1, uv v.b.v, uv v.b.m, uv v.lo, uv v.hi, sv v.sl, sv v.sh, .int .i64 0, .int .i64 0, .int .i64 0, .int .i64 0]
  have hgq := hB.size
  have hnsq := Nat.ne_of_lt Bs.lt; have hltsq := Bs.lt
  replace Bs : Blk (w6.alloc (.cells #[.int .i64 1, uv v.b.v, uv v.b.m, uv v.lo, uv v.hi, sv v.sl, sv v.sh, .int .i64 0, .int .i64 0, .int .i64 0, .int .i64 0] 64)) (gs) 69 (stv S5) := Bs.alloc _
  replace hB : Below w.heap.size w (w6.alloc (.cells #[.int .i64 1, uv v.b.v, uv v.b.m, uv v.lo, uv v.hi, sv v.sl, sv v.sh, .int .i64 0, .int .i64 0, .int .i64 0, .int .i64 0] 64)) := Bl_alloc hB _
  generalize (w6.alloc (.cells #[.int .i64 1, uv v.b.v, uv v.b.m, uv v.lo, uv v.hi, sv v.sl, sv v.sh, .int .i64 0, .int .i64 0, .int .i64 0, .int .i64 0] 64)) = w7 at *
  generalize w6.heap.size = gq at *
  have fs := Bs.frozen; have ls := Bs.lt
  have cq0 : w7.cell? ⟨gq, 0, none⟩ = some (.int .i64 1) := Bq.cell 0
  have cq1 : w7.cell? ⟨gq, 1, none⟩ = some (uv v.b.v) := Bq.cell 1
  have cq2 : w7.cell? ⟨gq, 2, none⟩ = some (uv v.b.m) := Bq.cell 2
  have cq3 : w7.cell? ⟨gq, 3, none⟩ = some (uv v.lo) := Bq.cell 3
  have cq4 : w7.cell? ⟨gq, 4, none⟩ = some (uv v.hi) := Bq.cell 4
  have cq5 : w7.cell? ⟨gq, 5, none⟩ = some (sv v.sl) := Bq.cell 5
  have cq6 : w7.cell? ⟨gq, 6, none⟩ = some (sv v.sh) := Bq.cell 6
  have cq7 : w7.cell? ⟨gq, 7, none⟩ = some (.int .i64 0) := Bq.cell 7
  have cq8 : w7.cell? ⟨gq, 8, none⟩ = some (.int .i64 0) := Bq.cell 8
  have cq9 : w7.cell? ⟨gq, 9, none⟩ = some (.int .i64 0) := Bq.cell 9
  have cq10 : w7.cell? ⟨gq, 10, none⟩ = some (.int .i64 0) := Bq.cell 10
  have fq := Bq.frozen; have lq := Bq.lt
  go_wp2_with fail
  refine wp_load_row 69 (.tmp 1) rfl (gs) rfl 69 (stv S5) (0, 0) _ Bs Try.underlying69 rfl (size_st S5) ?_
  go_wp2_with fail
  refine (k_1 _).mono ?_
  rintro e w8 ⟨rfl, hb⟩
  clear  fs ls
  clear cq0 cq1 cq2 cq3 cq4 cq5 cq6 cq7 cq8 cq9 cq10 fq lq
  replace Bs := (Bs).next hb
  replace Bq := (Bq).next hb
  replace hB : Below w.heap.size w w8 := by repeat (first | exact hB | (refine Bl_set ?_ (by first | omega | (simp; omega)) _) | apply Bl_alloc | (refine Bl_trans ?_ hb))
  clear hb
  have fs := Bs.frozen; have ls := Bs.lt
  have cq0 : w8.cell? ⟨gq, 0, none⟩ = some (.int .i64 1) := Bq.cell 0
  have cq1 : w8.cell? ⟨gq, 1, none⟩ = some (uv v.b.v) := Bq.cell 1
  have cq2 : w8.cell? ⟨gq, 2, none⟩ = some (uv v.b.m) := Bq.cell 2
  have cq3 : w8.cell? ⟨gq, 3, none⟩ = some (uv v.lo) := Bq.cell 3
  have cq4 : w8.cell? ⟨gq, 4, none⟩ = some (uv v.hi) := Bq.cell 4
  have cq5 : w8.cell? ⟨gq, 5, none⟩ = some (sv v.sl) := Bq.cell 5
  have cq6 : w8.cell? ⟨gq, 6, none⟩ = some (sv v.sh) := Bq.cell 6
  have cq7 : w8.cell? ⟨gq, 7, none⟩ = some (.int .i64 0) := Bq.cell 7
  have cq8 : w8.cell? ⟨gq, 8, none⟩ = some (.int .i64 0) := Bq.cell 8
  have cq9 : w8.cell? ⟨gq, 9, none⟩ = some (.int .i64 0) := Bq.cell 9
  have cq10 : w8.cell? ⟨gq, 10, none⟩ = some (.int .i64 0) := Bq.cell 10
  have fq := Bq.frozen; have lq := Bq.lt
  go_wp2_with fail
  refine wp_load_row 69 (.tmp 1) rfl (gs) rfl 69 (stv S5) (0, 0) _ Bs Try.underlying69 rfl (size_st S5) ?_
  go_wp2_with fail
  refine (k_2 _).mono ?_
  rintro e w9 ⟨rfl, hb⟩
  clear  fs ls
  clear cq0 cq1 cq2 cq3 cq4 cq5 cq6 cq7 cq8 cq9 cq10 fq lq
  replace Bs := (Bs).next hb
  replace Bq := (Bq).next hb
  replace hB : Below w.heap.size w w9 := by repeat (first | exact hB | (refine Bl_set ?_ (by first | omega | (simp; omega)) _) | apply Bl_alloc | (refine Bl_trans ?_ hb))
  clear hb
  have fs := Bs.frozen; have ls := Bs.lt
  have cq0 : w9.cell? ⟨gq, 0, none⟩ = some (.int .i64 1) := Bq.cell 0
  have cq1 : w9.cell? ⟨gq, 1, none⟩ = some (uv v.b.v) := Bq.cell 1
  have cq2 : w9.cell? ⟨gq, 2, none⟩ = some (uv v.b.m) := Bq.cell 2
  have cq3 : w9.cell? ⟨gq, 3, none⟩ = some (uv v.lo) := Bq.cell 3
  have cq4 : w9.cell? ⟨gq, 4, none⟩ = some (uv v.hi) := Bq.cell 4
  have cq5 : w9.cell? ⟨gq, 5, none⟩ = some (sv v.sl) := Bq.cell 5
  have cq6 : w9.cell? ⟨gq, 6, none⟩ = some (sv v.sh) := Bq.cell 6
  have cq7 : w9.cell? ⟨gq, 7, none⟩ = some (.int .i64 0) := Bq.cell 7
  have cq8 : w9.cell? ⟨gq, 8, none⟩ = some (.int .i64 0) := Bq.cell 8
  have cq9 : w9.cell? ⟨gq, 9, none⟩ = some (.int .i64 0) := Bq.cell 9
  have cq10 : w9.cell? ⟨gq, 10, none⟩ = some (.int .i64 0) := Bq.cell 10
  have fq := Bq.frozen; have lq := Bq.lt
  go_wp2_with fail
  refine (hf5 _).mono ?_
  rintro e w10 ⟨rfl, hb⟩
  clear  fs ls
  clear cq0 cq1 cq2 cq3 cq4 cq5 cq6 cq7 cq8 cq9 cq10 fq lq
  replace Bs := (Bs).next hb
  replace Bq := (Bq).next hb
  replace hB : Below w.heap.size w w10 := by repeat (first | exact hB | (refine Bl_set ?_ (by first | omega | (simp; omega)) _) | apply Bl_alloc | (refine Bl_trans ?_ hb))
  clear hb
  have fs := Bs.frozen; have ls := Bs.lt
  have cq0 : w10.cell? ⟨gq, 0, none⟩ = some (.int .i64 1) := Bq.cell 0
  have cq1 : w10.cell? ⟨gq, 1, none⟩ = some (uv v.b.v) := Bq.cell 1
  have cq2 : w10.cell? ⟨gq, 2, none⟩ = some (uv v.b.m) := Bq.cell 2
  have cq3 : w10.cell? ⟨gq, 3, none⟩ = some (uv v.lo) := Bq.cell 3
  have cq4 : w10.cell? ⟨gq, 4, none⟩ = some (uv v.hi) := Bq.cell 4
  have cq5 : w10.cell? ⟨gq, 5, none⟩ = some (sv v.sl) := Bq.cell 5
  have cq6 : w10.cell? ⟨gq, 6, none⟩ = some (sv v.sh) := Bq.cell 6
  have cq7 : w10.cell? ⟨gq, 7, none⟩ = some (.int .i64 0) := Bq.cell 7
  have cq8 : w10.cell? ⟨gq, 8, none⟩ = some (.int .i64 0) := Bq.cell 8
  have cq9 : w10.cell? ⟨gq, 9, none⟩ = some (.int .i64 0) := Bq.cell 9
  have cq10 : w10.cell? ⟨gq, 10, none⟩ = some (.int .i64 0) := Bq.cell 10
  have fq := Bq.frozen; have lq := Bq.lt
  go_wp2_with fail
  refine (hf5 _).mono ?_
  rintro e w11 ⟨rfl, hb⟩
  clear  fs ls
  clear cq0 cq1 cq2 cq3 cq4 cq5 cq6 cq7 cq8 cq9 cq10 fq lq
  replace Bs := (Bs).next hb
  replace Bq := (Bq).next hb
  replace hB : Below w.heap.size w w11 := by repeat (first | exact hB | (refine Bl_set ?_ (by first | omega | (simp; omega)) _) | apply Bl_alloc | (refine Bl_trans ?_ hb))
  clear hb
  have fs := Bs.frozen; have ls := Bs.lt
  have cq0 : w11.cell? ⟨gq, 0, none⟩ = some (.int .i64 1) := Bq.cell 0
  have cq1 : w11.cell? ⟨gq, 1, none⟩ = some (uv v.b.v) := Bq.cell 1
  have cq2 : w11.cell? ⟨gq, 2, none⟩ = some (uv v.b.m) := Bq.cell 2
  have cq3 : w11.cell? ⟨gq, 3, none⟩ = some (uv v.lo) := Bq.cell 3
  have cq4 : w11.cell? ⟨gq, 4, none⟩ = some (uv v.hi) := Bq.cell 4
  have cq5 : w11.cell? ⟨gq, 5, none⟩ = some (sv v.sl) := Bq.cell 5
  have cq6 : w11.cell? ⟨gq, 6, none⟩ = some (sv v.sh) := Bq.cell 6
  have cq7 : w11.cell? ⟨gq, 7, none⟩ = some (.int .i64 0) := Bq.cell 7
  have cq8 : w11.cell? ⟨gq, 8, none⟩ = some (.int .i64 0) := Bq.cell 8
  have cq9 : w11.cell? ⟨gq, 9, none⟩ = some (.int .i64 0) := Bq.cell 9
  have cq10 : w11.cell? ⟨gq, 10, none⟩ = some (.int .i64 0) := Bq.cell 10
  have fq := Bq.frozen; have lq := Bq.lt
  go_wp2
  go_ret
  exact ⟨rfl, by repeat (first | exact hB | (refine Bl_set ?_ (by first | omega | (simp; omega)) _) | apply Bl_alloc)⟩
end Go.Proofs.Ytmghpoagpiljhaa
