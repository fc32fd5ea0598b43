/- The walks of package absreg: Save, where it is done. -/
import Derived.Test.YtmghpoagpiljhaaAbs5
set_option linter.unusedSimpArgs false
set_option linter.unusedVariables false
namespace Go.Proofs.Ytmghpoagpiljhaa
open Go.RowKit
open PlainTnum (N)
open PlainScalar (Rng)
open PlainAbs (Rg St zr zs upd)
theorem slice_what (g k : Nat) (hk : k < 8) (w : World) : (Instr.sliceAt 66 (.pointer (some ⟨g, 121, none⟩)) (some (.int .i64 ((k : Int) * 8))) (some (.int .i64 (((k : Int) + 1) * 8))) none).run Try.prog w = .ok (.slice (some ⟨g, 121 + k * 8, none⟩) 8 (64 - k * 8)) w := by
  have hu := Try.underlying66
  have hs : (sizeOf 4).run Try.prog w = .ok 1 w := by kernel_rfl
  have e1 : ((k : Int) * 8).toNat = k * 8 := by omega
  have e2 : (((k : Int) + 1) * 8).toNat = k * 8 + 8 := by omega
  have b1 : (0 : Int) ≤ ((k : Int) + 1) * 8 ∧ ((k : Int) + 1) * 8 ≤ ((64 : Nat) : Int) := by omega
  have b2 : (0 : Int) ≤ (k : Int) * 8 ∧ (k : Int) * 8 ≤ ((k * 8 + 8 : Nat) : Int) := by omega
  have hne : ¬ (64 = k * 8) := by omega
  have bb1 : (Instr.sliceBound (.int .i64 (((k : Int) + 1) * 8)) 64 .sliceAcap).run Try.prog w = .ok (k * 8 + 8) w := by
    simp only [Instr.sliceBound, asIntOf, Sem.run_bind, Sem.run_pure, Result.andThen_ok, if_pos b1, e2]
  have bb1' : (Instr.sliceBound (.int .i64 (((k : Int) + 1) * 8)) 64 .sliceAlen).run Try.prog w = .ok (k * 8 + 8) w := by
    simp only [Instr.sliceBound, asIntOf, Sem.run_bind, Sem.run_pure, Result.andThen_ok, if_pos b1, e2]
  have bb2 : (Instr.sliceBound (.int .i64 ((k : Int) * 8)) (k * 8 + 8) .sliceB).run Try.prog w = .ok (k * 8) w := by
    simp only [Instr.sliceBound, asIntOf, Sem.run_bind, Sem.run_pure, Result.andThen_ok, if_pos b2, e1]
  simp [Instr.sliceAt, Instr.sliceBounds, Instr.sureAddr, run_underlying hu, bb1, bb1', bb2, hs, hne, add_off]
set_option maxRecDepth 100000 in
set_option maxHeartbeats 1600000 in
theorem save_y1 (s : St) (z : Int) (f m : Nat) (hfm : f + m ≤ 64) (hm : ¬ m = 8) (hz : PlainAbs.sized (m : Int) = true) (x : Rg) (h0 : (x.kind == 0) = false) (h1 : (x.kind == 1) = true) (k_f : ∀ w : World, Calls Try.prog 61 #[.int .i64 z, .int .i64 (m : Int)] w fun e w' => e = .returned (.tuple #[.int .i64 (f : Int), .bool true]) ∧ w = w') (w : World) : Calls Try.prog 48 #[.agg (stv s), .int .i64 z, .int .i64 (m : Int), gv x] w fun e w' => e = .returned (.tuple #[.agg (stv (PlainAbs.mark (PlainAbs.clrN s f m) f true m)), .bool true]) ∧ Below w.heap.size w w' := by
  have hm1 : ¬ (m : Int) = 8 := by omega
  have hm2 : ((m : Int) == 8) = false := by simpa using hm1
  have k_z := sized_c (m : Int); rw [hz] at k_z; clear hz
  have h1n : (x.kind != 1) = false := by unfold bne; rw [h1]; rfl
  obtain ⟨F, e_F⟩ : ∃ z', z' = PlainAbs.clrN s f := ⟨_, rfl⟩; obtain ⟨G, e_G⟩ : ∃ z', z' = PlainAbs.mark (PlainAbs.clrN s f m) f true := ⟨_, rfl⟩
  have hF0 : F 0 = s := by rw [e_F]; rfl
  have hF : ∀ j, F (j + 1) = PlainAbs.clr (F j) ((f + j) / 8) := fun j => by rw [e_F]; rfl
  have hG0 : G 0 = F m := by rw [e_G, e_F]; rfl
  have hG : ∀ j, G (j + 1) = { G j with what := upd (G j).what (f + j) true } := fun j => by rw [e_G]; rfl
  rw [← e_G]; clear e_F e_G
  have HF0 := Lib.hid hF0; clear hF0
  have HF := Lib.hid hF; clear hF
  have HG0 := Lib.hid hG0; clear hG0
  have HG := Lib.hid hG; clear hG
  have hsum : wrap64 ((f : Int) + (m : Int)) = ((f + m : Nat) : Int) := by rw [IntWalk.wrap64_in _ (by constructor <;> omega)]; simp
  have hzs := zero_st
  go_enter Try.func48, Try.ntmps48
  go_wp2_with fail
  obtain ⟨gs, hgs⟩ : ∃ g, g = w.heap.size := ⟨_, rfl⟩
  obtain ⟨gx, hgx⟩ : ∃ g, g = w.heap.size + 1 := ⟨_, rfl⟩
  obtain ⟨gr, hgr⟩ : ∃ g, g = w.heap.size + 1 + 1 := ⟨_, rfl⟩
  have Bs : Blk (((w.alloc (.cells (stv s) 69)).alloc (.cells #[.int .i64 x.kind, uv x.r.b.v, uv x.r.b.m, uv x.r.lo, uv x.r.hi, sv x.r.sl, sv x.r.sh, .int .i64 x.slot, .int .i64 x.id, .int .i64 x.low, .int .i64 x.high] 64)).alloc (.cells (stv zs) 69)) (w.heap.size) 69 (stv s) := (((Blk.new w 69 (stv s))).alloc _).alloc _
  have Bx : Blk (((w.alloc (.cells (stv s) 69)).alloc (.cells #[.int .i64 x.kind, uv x.r.b.v, uv x.r.b.m, uv x.r.lo, uv x.r.hi, sv x.r.sl, sv x.r.sh, .int .i64 x.slot, .int .i64 x.id, .int .i64 x.low, .int .i64 x.high] 64)).alloc (.cells (stv zs) 69)) (w.heap.size + 1) 64 #[.int .i64 x.kind, uv x.r.b.v, uv x.r.b.m, uv x.r.lo, uv x.r.hi, sv x.r.sl, sv x.r.sh, .int .i64 x.slot, .int .i64 x.id, .int .i64 x.low, .int .i64 x.high] := ((by simpa using Blk.new (w.alloc (.cells (stv s) 69)) 64 #[.int .i64 x.kind, uv x.r.b.v, uv x.r.b.m, uv x.r.lo, uv x.r.hi, sv x.r.sl, sv x.r.sh, .int .i64 x.slot, .int .i64 x.id, .int .i64 x.low, .int .i64 x.high] : Blk _ (w.heap.size + 1) 64 #[.int .i64 x.kind, uv x.r.b.v, uv x.r.b.m, uv x.r.lo, uv x.r.hi, sv x.r.sl, sv x.r.sh, .int .i64 x.slot, .int .i64 x.id, .int .i64 x.low, .int .i64 x.high])).alloc _
  have Br : Blk (((w.alloc (.cells (stv s) 69)).alloc (.cells #[.int .i64 x.kind, uv x.r.b.v, uv x.r.b.m, uv x.r.lo, uv x.r.hi, sv x.r.sl, sv x.r.sh, .int .i64 x.slot, .int .i64 x.id, .int .i64 x.low, .int .i64 x.high] 64)).alloc (.cells (stv zs) 69)) (w.heap.size + 1 + 1) 69 (stv zs) := (by simpa using Blk.new ((w.alloc (.cells (stv s) 69)).alloc (.cells #[.int .i64 x.kind, uv x.r.b.v, uv x.r.b.m, uv x.r.lo, uv x.r.hi, sv x.r.sl, sv x.r.sh, .int .i64 x.slot, .int .i64 x.id, .int .i64 x.low, .int .i64 x.high] 64)) 69 (stv zs) : Blk _ (w.heap.size + 1 + 1) 69 (stv zs))
  have hB : Below w.heap.size w (((w.alloc (.cells (stv s) 69)).alloc (.cells #[.int .i64 x.kind, uv x.r.b.v, uv x.r.b.m, uv x.r.lo, uv x.r.hi, sv x.r.sl, sv x.r.sh, .int .i64 x.slot, .int .i64 x.id, .int .i64 x.low, .int .i64 x.high] 64)).alloc (.cells (stv zs) 69)) := (Bl_alloc (Bl_alloc (Bl_alloc (Bl_refl w) _) _) _)
  clear hgs
  clear gs
  clear hgx
  clear gx
  clear hgr
  clear gr
  generalize (((w.alloc (.cells (stv s) 69)).alloc (.cells #[.int .i64 x.kind, uv x.r.b.v, uv x.r.b.m, uv x.r.lo, uv x.r.hi, sv x.r.sl, sv x.r.sh, .int .i64 x.slot, .int .i64 x.id, .int .i64 x.low, .int .i64 x.high] 64)).alloc (.cells (stv zs) 69)) = w1 at *
  have fs := Bs.frozen; have ls := Bs.lt
  have cx0 : w1.cell? ⟨w.heap.size + 1, 0, none⟩ = some (.int .i64 x.kind) := Bx.cell 0
  have cx1 : w1.cell? ⟨w.heap.size + 1, 1, none⟩ = some (uv x.r.b.v) := Bx.cell 1
  have cx2 : w1.cell? ⟨w.heap.size + 1, 2, none⟩ = some (uv x.r.b.m) := Bx.cell 2
  have cx3 : w1.cell? ⟨w.heap.size + 1, 3, none⟩ = some (uv x.r.lo) := Bx.cell 3
  have cx4 : w1.cell? ⟨w.heap.size + 1, 4, none⟩ = some (uv x.r.hi) := Bx.cell 4
  have cx5 : w1.cell? ⟨w.heap.size + 1, 5, none⟩ = some (sv x.r.sl) := Bx.cell 5
  have cx6 : w1.cell? ⟨w.heap.size + 1, 6, none⟩ = some (sv x.r.sh) := Bx.cell 6
  have cx7 : w1.cell? ⟨w.heap.size + 1, 7, none⟩ = some (.int .i64 x.slot) := Bx.cell 7
  have cx8 : w1.cell? ⟨w.heap.size + 1, 8, none⟩ = some (.int .i64 x.id) := Bx.cell 8
  have cx9 : w1.cell? ⟨w.heap.size + 1, 9, none⟩ = some (.int .i64 x.low) := Bx.cell 9
  have cx10 : w1.cell? ⟨w.heap.size + 1, 10, none⟩ = some (.int .i64 x.high) := Bx.cell 10
  have fx := Bx.frozen; have lx := Bx.lt
  have fr := Br.frozen; have lr := Br.lt
  clear hzs
  go_wp2_with fail
  refine (k_f _).mono ?_
  rintro e w' ⟨rfl, rfl⟩
  go_wp2_with fail
  refine (k_z _).mono ?_
  rintro e w' ⟨rfl, rfl⟩
  go_upto_region 5 with fail
  go_wp2_with fail
  clear  fs ls
  clear cx0 cx1 cx2 cx3 cx4 cx5 cx6 cx7 cx8 cx9 cx10 fx lx
  clear  fr lr
  go_loopg [13] m (fun m' i wr => ∃ j : Nat, j ≤ m ∧ m' + j = m ∧ i = .int .i64 ((f + j : Nat) : Int) ∧ Below w.heap.size w wr ∧ Blk wr (w.heap.size + 1) 64 #[.int .i64 x.kind, uv x.r.b.v, uv x.r.b.m, uv x.r.lo, uv x.r.hi, sv x.r.sl, sv x.r.sh, .int .i64 x.slot, .int .i64 x.id, .int .i64 x.low, .int .i64 x.high] ∧ Blk wr (w.heap.size + 1 + 1) 69 (stv zs) ∧ Blk wr (w.heap.size) 69 (stv (F j)))
  case atStart => exact ⟨0, by omega, by omega, by go_num, hB, Bx, Br, by rw [HF0.out]; exact Bs⟩
  case round =>
    clear hB Bx Br Bs
    obtain ⟨j, hj, hgk, rfl, hB, Bx, Br, Bs⟩ := hrel
    obtain ⟨wo, rfl⟩ : ∃ z : World, z = wr := ⟨_, rfl⟩
    have fs := Bs.frozen; have ls := Bs.lt
    have cx0 : wo.cell? ⟨w.heap.size + 1, 0, none⟩ = some (.int .i64 x.kind) := Bx.cell 0
    have cx1 : wo.cell? ⟨w.heap.size + 1, 1, none⟩ = some (uv x.r.b.v) := Bx.cell 1
    have cx2 : wo.cell? ⟨w.heap.size + 1, 2, none⟩ = some (uv x.r.b.m) := Bx.cell 2
    have cx3 : wo.cell? ⟨w.heap.size + 1, 3, none⟩ = some (uv x.r.lo) := Bx.cell 3
    have cx4 : wo.cell? ⟨w.heap.size + 1, 4, none⟩ = some (uv x.r.hi) := Bx.cell 4
    have cx5 : wo.cell? ⟨w.heap.size + 1, 5, none⟩ = some (sv x.r.sl) := Bx.cell 5
    have cx6 : wo.cell? ⟨w.heap.size + 1, 6, none⟩ = some (sv x.r.sh) := Bx.cell 6
    have cx7 : wo.cell? ⟨w.heap.size + 1, 7, none⟩ = some (.int .i64 x.slot) := Bx.cell 7
    have cx8 : wo.cell? ⟨w.heap.size + 1, 8, none⟩ = some (.int .i64 x.id) := Bx.cell 8
    have cx9 : wo.cell? ⟨w.heap.size + 1, 9, none⟩ = some (.int .i64 x.low) := Bx.cell 9
    have cx10 : wo.cell? ⟨w.heap.size + 1, 10, none⟩ = some (.int .i64 x.high) := Bx.cell 10
    have fx := Bx.frozen; have lx := Bx.lt
    have fr := Br.frozen; have lr := Br.lt
    cases q : decide (j < m)
    · have hjM : j = m := by have := of_decide_eq_false q; omega
      have h3 : ¬ j < m := of_decide_eq_false q
      have h2 : ¬ f + j < f + m := by omega
      have BsG : Blk wo (w.heap.size) 69 (stv (G 0)) := by rw [HG0.out, ← hjM]; exact Bs
      clear Bs hgk hj hjM; have Bs := BsG; clear BsG
      go_upto_region 12 with fail
      clear h2 h3 q
      go_wp2_with fail
      clear  fs ls
      clear cx0 cx1 cx2 cx3 cx4 cx5 cx6 cx7 cx8 cx9 cx10 fx lx
      clear  fr lr
      go_loopg [15] m (fun m' i wr => ∃ j : Nat, j ≤ m ∧ m' + j = m ∧ i = .int .i64 ((f + j : Nat) : Int) ∧ Below w.heap.size w wr ∧ Blk wr (w.heap.size + 1) 64 #[.int .i64 x.kind, uv x.r.b.v, uv x.r.b.m, uv x.r.lo, uv x.r.hi, sv x.r.sl, sv x.r.sh, .int .i64 x.slot, .int .i64 x.id, .int .i64 x.low, .int .i64 x.high] ∧ Blk wr (w.heap.size + 1 + 1) 69 (stv zs) ∧ Blk wr (w.heap.size) 69 (stv (G j)))
      case atStart => exact ⟨0, by omega, by omega, by go_num, hB, Bx, Br, Bs⟩
      case round =>
        clear hB Bx Br Bs
        obtain ⟨j, hj, hgk, rfl, hB, Bx, Br, Bs⟩ := hrel
        obtain ⟨wp, rfl⟩ : ∃ z : World, z = wr := ⟨_, rfl⟩
        have fs := Bs.frozen; have ls := Bs.lt
        have cx0 : wp.cell? ⟨w.heap.size + 1, 0, none⟩ = some (.int .i64 x.kind) := Bx.cell 0
        have cx1 : wp.cell? ⟨w.heap.size + 1, 1, none⟩ = some (uv x.r.b.v) := Bx.cell 1
        have cx2 : wp.cell? ⟨w.heap.size + 1, 2, none⟩ = some (uv x.r.b.m) := Bx.cell 2
        have cx3 : wp.cell? ⟨w.heap.size + 1, 3, none⟩ = some (uv x.r.lo) := Bx.cell 3
        have cx4 : wp.cell? ⟨w.heap.size + 1, 4, none⟩ = some (uv x.r.hi) := Bx.cell 4
        have cx5 : wp.cell? ⟨w.heap.size + 1, 5, none⟩ = some (sv x.r.sl) := Bx.cell 5
        have cx6 : wp.cell? ⟨w.heap.size + 1, 6, none⟩ = some (sv x.r.sh) := Bx.cell 6
        have cx7 : wp.cell? ⟨w.heap.size + 1, 7, none⟩ = some (.int .i64 x.slot) := Bx.cell 7
        have cx8 : wp.cell? ⟨w.heap.size + 1, 8, none⟩ = some (.int .i64 x.id) := Bx.cell 8
        have cx9 : wp.cell? ⟨w.heap.size + 1, 9, none⟩ = some (.int .i64 x.low) := Bx.cell 9
        have cx10 : wp.cell? ⟨w.heap.size + 1, 10, none⟩ = some (.int .i64 x.high) := Bx.cell 10
        have fx := Bx.frozen; have lx := Bx.lt
        have fr := Br.frozen; have lr := Br.lt
        cases q : decide (j < m)
        · have hjM : j = m := by have := of_decide_eq_false q; omega
          have h3 : ¬ j < m := of_decide_eq_false q
          have h2 : ¬ f + j < f + m := by omega
          have BsG : Blk wp (w.heap.size) 69 (stv (G m)) := by rw [← hjM]; exact Bs
          clear Bs hgk hj hjM; have Bs := BsG; clear BsG
          obtain ⟨t, e_t⟩ : ∃ t, t = G m := ⟨_, rfl⟩; rw [← e_t] at Bs; have Ht := Lib.hid e_t; clear e_t
          go_upto_region 18 with fail
          clear h2 h3 q
          go_wp2_with (first | (refine wpList_load_whole rfl 69 (.tmp 4) rfl (w.heap.size) rfl 69 (stv t) _ Bs Try.underlying69 rfl (size_st t) ?_) | (refine wpList_store_whole rfl 69 (.tmp 8) (.tmp 100) rfl (w.heap.size + 1 + 1) (stv t) rfl rfl 69 (stv zs) Br (size_st t) (by rw [stv_size, stv_size]) (stv_one t) ?_))
          intro w2 hS
          clear  fs ls
          clear cx0 cx1 cx2 cx3 cx4 cx5 cx6 cx7 cx8 cx9 cx10 fx lx
          clear  fr lr
          replace Bs := hS.far (by first | (simp; done) | (simp; omega) | (simp [*]; done) | (simp only [ne_eq]; constructor <;> omega)) Bs
          replace Bx := hS.far (by first | (simp; done) | (simp; omega) | (simp [*]; done) | (simp only [ne_eq]; constructor <;> omega)) Bx
          replace Br : Blk w2 (w.heap.size + 1 + 1) 69 (stv t) := hS.blk
          replace hB := hS.bel hB (by first | omega | (simp; omega))
          clear hS
          have fs := Bs.frozen; have ls := Bs.lt
          have cx0 : w2.cell? ⟨w.heap.size + 1, 0, none⟩ = some (.int .i64 x.kind) := Bx.cell 0
          have cx1 : w2.cell? ⟨w.heap.size + 1, 1, none⟩ = some (uv x.r.b.v) := Bx.cell 1
          have cx2 : w2.cell? ⟨w.heap.size + 1, 2, none⟩ = some (uv x.r.b.m) := Bx.cell 2
          have cx3 : w2.cell? ⟨w.heap.size + 1, 3, none⟩ = some (uv x.r.lo) := Bx.cell 3
          have cx4 : w2.cell? ⟨w.heap.size + 1, 4, none⟩ = some (uv x.r.hi) := Bx.cell 4
          have cx5 : w2.cell? ⟨w.heap.size + 1, 5, none⟩ = some (sv x.r.sl) := Bx.cell 5
          have cx6 : w2.cell? ⟨w.heap.size + 1, 6, none⟩ = some (sv x.r.sh) := Bx.cell 6
          have cx7 : w2.cell? ⟨w.heap.size + 1, 7, none⟩ = some (.int .i64 x.slot) := Bx.cell 7
          have cx8 : w2.cell? ⟨w.heap.size + 1, 8, none⟩ = some (.int .i64 x.id) := Bx.cell 8
          have cx9 : w2.cell? ⟨w.heap.size + 1, 9, none⟩ = some (.int .i64 x.low) := Bx.cell 9
          have cx10 : w2.cell? ⟨w.heap.size + 1, 10, none⟩ = some (.int .i64 x.high) := Bx.cell 10
          have fx := Bx.frozen; have lx := Bx.lt
          have fr := Br.frozen; have lr := Br.lt
          go_wp2_with fail
          exact bodyPost_ret (v := .tuple #[.agg (stv t), .bool true]) (results_row_tmp Try.results48 _ _ (w.heap.size + 1 + 1) 69 (stv t) _ rfl Br Try.underlying69 rfl (size_st _)) rfl ⟨by rw [Ht.out], hB⟩
        · have hjm : j < m := of_decide_eq_true q
          have h2 : f + j < f + m := by omega
          have h64 : ((f + j : Nat) : Int) < 64 := by omega
          have h64n : f + j < 64 := by omega
          have cw : wp.cell? ⟨w.heap.size, 121 + (f + j), none⟩ = some (.bool ((G j).what (f + j))) := by rw [Bs.cell, stv_get _ (by omega), what_at _ h64n]
          go_upto_region 14 with fail
          clear cw
          clear  fs ls
          clear cx0 cx1 cx2 cx3 cx4 cx5 cx6 cx7 cx8 cx9 cx10 fx lx
          clear  fr lr
          replace Bs : Blk (wp.setCell ⟨w.heap.size, 121 + (f + j), none⟩ (.bool true)) (w.heap.size) 69 (stv (G (j + 1))) := by rw [HG.out j, ← set_what (G j) h64n true]; exact Bs.set_ (121 + (f + j)) _
          replace Bx : Blk (wp.setCell ⟨w.heap.size, 121 + (f + j), none⟩ (.bool true)) (w.heap.size + 1) 64 #[.int .i64 x.kind, uv x.r.b.v, uv x.r.b.m, uv x.r.lo, uv x.r.hi, sv x.r.sl, sv x.r.sh, .int .i64 x.slot, .int .i64 x.id, .int .i64 x.low, .int .i64 x.high] := Bx.far (by first | (simp; done) | (simp; omega) | (simp [*]; done) | (simp only [ne_eq]; constructor <;> omega)) _
          replace Br : Blk (wp.setCell ⟨w.heap.size, 121 + (f + j), none⟩ (.bool true)) (w.heap.size + 1 + 1) 69 (stv zs) := Br.far (by first | (simp; done) | (simp; omega) | (simp [*]; done) | (simp only [ne_eq]; constructor <;> omega)) _
          replace hB : Below w.heap.size w (wp.setCell ⟨w.heap.size, 121 + (f + j), none⟩ (.bool true)) := Bl_set hB (by first | omega | (simp; done) | (simp; omega)) _
          generalize (wp.setCell ⟨w.heap.size, 121 + (f + j), none⟩ (.bool true)) = w9 at *
          go_wp2_with fail
          go_roundg (m - 1 - j)
          case measure => omega
          case rel => exact ⟨j + 1, by omega, by omega, by go_num, hB, Bx, Br, Bs⟩
    · have hjm : j < m := of_decide_eq_true q
      have h2 : f + j < f + m := by omega
      obtain ⟨kk, hkk⟩ : ∃ kk, kk = (f + j) / 8 := ⟨_, rfl⟩
      have hk8 : kk < 8 := by omega
      have hdv : ((f : Int) + (j : Int)) / 8 = (kk : Int) := by omega
      obtain ⟨t, e_t⟩ : ∃ t, t = F j := ⟨_, rfl⟩
      have hF1 : F (j + 1) = PlainAbs.clr t kk := by rw [HF.out j, ← e_t, ← hkk]
      rw [← e_t] at Bs; clear e_t hkk
      have ck : wo.cell? ⟨w.heap.size, 185 + kk * 11, none⟩ = some (.int .i64 (t.kept kk).kind) := by have h := Bs.cell (185 + kk * 11 + 0); rw [stv_get t (by omega), kept_at t hk8 (by omega)] at h; exact h
      have HF1 := Lib.hid hF1; clear hF1
      obtain ⟨K, e_K⟩ : ∃ K, K = (t.kept kk).kind := ⟨_, rfl⟩; rw [← e_K] at ck; have HK := Lib.hid e_K; clear e_K
      cases hq : (K == 0)
      · have HF2 := Lib.hid (show F (j + 1) = { t with kept := upd t.kept kk zr, what := fun i => if i / 8 = kk then false else t.what i } by rw [HF1.out]; unfold PlainAbs.clr; rw [if_neg (by rw [← HK.out]; simpa using hq)])
        go_upto_region 10 with fail
        clear ck
        go_wp2_with (refine wpList_store_part rfl 64 (.tmp 70) (.tmp 68) rfl (w.heap.size) (185 + kk * 11) _ rfl rfl 69 (stv t) Bs (by kernel_rfl) (by rw [stv_size]; simp; try omega) (gl_one zr) ?_)
        intro w2 hS
        clear  fs ls
        clear cx0 cx1 cx2 cx3 cx4 cx5 cx6 cx7 cx8 cx9 cx10 fx lx
        clear  fr lr
        replace Bs : Blk w2 (w.heap.size) 69 (stv { t with kept := upd t.kept kk zr }) := by rw [← set_kept t hk8 zr]; exact hS.blk
        replace Bx := hS.far (by first | (simp; done) | (simp; omega) | (simp [*]; done) | (simp only [ne_eq]; constructor <;> omega)) Bx
        replace Br := hS.far (by first | (simp; done) | (simp; omega) | (simp [*]; done) | (simp only [ne_eq]; constructor <;> omega)) Br
        replace hB := hS.bel hB (by first | omega | (simp; omega))
        clear hS
        have fs := Bs.frozen; have ls := Bs.lt
        have cx0 : w2.cell? ⟨w.heap.size + 1, 0, none⟩ = some (.int .i64 x.kind) := Bx.cell 0
        have cx1 : w2.cell? ⟨w.heap.size + 1, 1, none⟩ = some (uv x.r.b.v) := Bx.cell 1
        have cx2 : w2.cell? ⟨w.heap.size + 1, 2, none⟩ = some (uv x.r.b.m) := Bx.cell 2
        have cx3 : w2.cell? ⟨w.heap.size + 1, 3, none⟩ = some (uv x.r.lo) := Bx.cell 3
        have cx4 : w2.cell? ⟨w.heap.size + 1, 4, none⟩ = some (uv x.r.hi) := Bx.cell 4
        have cx5 : w2.cell? ⟨w.heap.size + 1, 5, none⟩ = some (sv x.r.sl) := Bx.cell 5
        have cx6 : w2.cell? ⟨w.heap.size + 1, 6, none⟩ = some (sv x.r.sh) := Bx.cell 6
        have cx7 : w2.cell? ⟨w.heap.size + 1, 7, none⟩ = some (.int .i64 x.slot) := Bx.cell 7
        have cx8 : w2.cell? ⟨w.heap.size + 1, 8, none⟩ = some (.int .i64 x.id) := Bx.cell 8
        have cx9 : w2.cell? ⟨w.heap.size + 1, 9, none⟩ = some (.int .i64 x.low) := Bx.cell 9
        have cx10 : w2.cell? ⟨w.heap.size + 1, 10, none⟩ = some (.int .i64 x.high) := Bx.cell 10
        have fx := Bx.frozen; have lx := Bx.lt
        have fr := Br.frozen; have lr := Br.lt
        go_upto_region 11 with fail
        have hsl := slice_what (w.heap.size) kk hk8
        go_wp2_with (refine wpList_clear_part rfl (.tmp 77) 100 4 rfl Try.underlying100 (w.heap.size) (121 + kk * 8) 8 (64 - kk * 8) rfl (by omega) (.bool false) zero_bool rfl rfl 69 (stv _) Bs (by rw [stv_size]; omega) ?_)
        clear hsl
        intro w3 hS
        clear  fs ls
        clear cx0 cx1 cx2 cx3 cx4 cx5 cx6 cx7 cx8 cx9 cx10 fx lx
        clear  fr lr
        replace Bs : Blk w3 (w.heap.size) 69 (stv (F (j + 1))) := by rw [HF2.out]; rw [← set_clear { t with kept := upd t.kept kk zr } hk8]; exact hS.blk
        replace Bx := hS.far (by first | (simp; done) | (simp; omega) | (simp [*]; done) | (simp only [ne_eq]; constructor <;> omega)) Bx
        replace Br := hS.far (by first | (simp; done) | (simp; omega) | (simp [*]; done) | (simp only [ne_eq]; constructor <;> omega)) Br
        replace hB := hS.bel hB (by first | omega | (simp; omega))
        clear hS
        have fs := Bs.frozen; have ls := Bs.lt
        have cx0 : w3.cell? ⟨w.heap.size + 1, 0, none⟩ = some (.int .i64 x.kind) := Bx.cell 0
        have cx1 : w3.cell? ⟨w.heap.size + 1, 1, none⟩ = some (uv x.r.b.v) := Bx.cell 1
        have cx2 : w3.cell? ⟨w.heap.size + 1, 2, none⟩ = some (uv x.r.b.m) := Bx.cell 2
        have cx3 : w3.cell? ⟨w.heap.size + 1, 3, none⟩ = some (uv x.r.lo) := Bx.cell 3
        have cx4 : w3.cell? ⟨w.heap.size + 1, 4, none⟩ = some (uv x.r.hi) := Bx.cell 4
        have cx5 : w3.cell? ⟨w.heap.size + 1, 5, none⟩ = some (sv x.r.sl) := Bx.cell 5
        have cx6 : w3.cell? ⟨w.heap.size + 1, 6, none⟩ = some (sv x.r.sh) := Bx.cell 6
        have cx7 : w3.cell? ⟨w.heap.size + 1, 7, none⟩ = some (.int .i64 x.slot) := Bx.cell 7
        have cx8 : w3.cell? ⟨w.heap.size + 1, 8, none⟩ = some (.int .i64 x.id) := Bx.cell 8
        have cx9 : w3.cell? ⟨w.heap.size + 1, 9, none⟩ = some (.int .i64 x.low) := Bx.cell 9
        have cx10 : w3.cell? ⟨w.heap.size + 1, 10, none⟩ = some (.int .i64 x.high) := Bx.cell 10
        have fx := Bx.frozen; have lx := Bx.lt
        have fr := Br.frozen; have lr := Br.lt
        go_wp2_with fail
        go_roundg (m - 1 - j)
        case measure => omega
        case rel => exact ⟨j + 1, by omega, by omega, by go_num, hB, Bx, Br, Bs⟩
      · have HF2 := Lib.hid (show F (j + 1) = t by rw [HF1.out]; unfold PlainAbs.clr; rw [if_pos (by rw [← HK.out]; simpa using hq)])
        go_wp2_with fail
        go_roundg (m - 1 - j)
        case measure => omega
        case rel => exact ⟨j + 1, by omega, by omega, by go_num, hB, Bx, Br, by rw [HF2.out]; exact Bs⟩
set_option maxRecDepth 100000 in
set_option maxHeartbeats 1600000 in
theorem save_y2 (s : St) (z : Int) (f : Nat) (hfm : f + 8 ≤ 64) (h8 : ¬ f % 8 = 0) (x : Rg) (h0 : (x.kind == 0) = false) (h1 : (x.kind == 1) = true) (k_f : ∀ w : World, Calls Try.prog 61 #[.int .i64 z, .int .i64 8] w fun e w' => e = .returned (.tuple #[.int .i64 (f : Int), .bool true]) ∧ w = w') (w : World) : Calls Try.prog 48 #[.agg (stv s), .int .i64 z, .int .i64 8, gv x] w fun e w' => e = .returned (.tuple #[.agg (stv (PlainAbs.mark (PlainAbs.clrN s f 8) f true 8)), .bool true]) ∧ Below w.heap.size w w' := by
  have k_z := sized_c 8
  have h8i : ¬ (f : Int) % 8 = 0 := by omega
  have h8j : ((f : Int) % 8 == 0) = false := by simpa using h8i
  have h1n : (x.kind != 1) = false := by unfold bne; rw [h1]; rfl
  obtain ⟨F, e_F⟩ : ∃ z', z' = PlainAbs.clrN s f := ⟨_, rfl⟩; obtain ⟨G, e_G⟩ : ∃ z', z' = PlainAbs.mark (PlainAbs.clrN s f 8) f true := ⟨_, rfl⟩
  have hF0 : F 0 = s := by rw [e_F]; rfl
  have hF : ∀ j, F (j + 1) = PlainAbs.clr (F j) ((f + j) / 8) := fun j => by rw [e_F]; rfl
  have hG0 : G 0 = F 8 := by rw [e_G, e_F]; rfl
  have hG : ∀ j, G (j + 1) = { G j with what := upd (G j).what (f + j) true } := fun j => by rw [e_G]; rfl
  rw [← e_G]; clear e_F e_G
  have HF0 := Lib.hid hF0; clear hF0
  have HF := Lib.hid hF; clear hF
  have HG0 := Lib.hid hG0; clear hG0
  have HG := Lib.hid hG; clear hG
  have hsum : wrap64 ((f : Int) + (8 : Int)) = ((f + 8 : Nat) : Int) := by rw [IntWalk.wrap64_in _ (by constructor <;> omega)]; simp
  have hzs := zero_st
  go_enter Try.func48, Try.ntmps48
  go_wp2_with fail
  obtain ⟨gs, hgs⟩ : ∃ g, g = w.heap.size := ⟨_, rfl⟩
  obtain ⟨gx, hgx⟩ : ∃ g, g = w.heap.size + 1 := ⟨_, rfl⟩
  obtain ⟨gr, hgr⟩ : ∃ g, g = w.heap.size + 1 + 1 := ⟨_, rfl⟩
  have Bs : Blk (((w.alloc (.cells (stv s) 69)).alloc (.cells #[.int .i64 x.kind, uv x.r.b.v, uv x.r.b.m, uv x.r.lo, uv x.r.hi, sv x.r.sl, sv x.r.sh, .int .i64 x.slot, .int .i64 x.id, .int .i64 x.low, .int .i64 x.high] 64)).alloc (.cells (stv zs) 69)) (w.heap.size) 69 (stv s) := (((Blk.new w 69 (stv s))).alloc _).alloc _
  have Bx : Blk (((w.alloc (.cells (stv s) 69)).alloc (.cells #[.int .i64 x.kind, uv x.r.b.v, uv x.r.b.m, uv x.r.lo, uv x.r.hi, sv x.r.sl, sv x.r.sh, .int .i64 x.slot, .int .i64 x.id, .int .i64 x.low, .int .i64 x.high] 64)).alloc (.cells (stv zs) 69)) (w.heap.size + 1) 64 #[.int .i64 x.kind, uv x.r.b.v, uv x.r.b.m, uv x.r.lo, uv x.r.hi, sv x.r.sl, sv x.r.sh, .int .i64 x.slot, .int .i64 x.id, .int .i64 x.low, .int .i64 x.high] := ((by simpa using Blk.new (w.alloc (.cells (stv s) 69)) 64 #[.int .i64 x.kind, uv x.r.b.v, uv x.r.b.m, uv x.r.lo, uv x.r.hi, sv x.r.sl, sv x.r.sh, .int .i64 x.slot, .int .i64 x.id, .int .i64 x.low, .int .i64 x.high] : Blk _ (w.heap.size + 1) 64 #[.int .i64 x.kind, uv x.r.b.v, uv x.r.b.m, uv x.r.lo, uv x.r.hi, sv x.r.sl, sv x.r.sh, .int .i64 x.slot, .int .i64 x.id, .int .i64 x.low, .int .i64 x.high])).alloc _
  have Br : Blk (((w.alloc (.cells (stv s) 69)).alloc (.cells #[.int .i64 x.kind, uv x.r.b.v, uv x.r.b.m, uv x.r.lo, uv x.r.hi, sv x.r.sl, sv x.r.sh, .int .i64 x.slot, .int .i64 x.id, .int .i64 x.low, .int .i64 x.high] 64)).alloc (.cells (stv zs) 69)) (w.heap.size + 1 + 1) 69 (stv zs) := (by simpa using Blk.new ((w.alloc (.cells (stv s) 69)).alloc (.cells #[.int .i64 x.kind, uv x.r.b.v, uv x.r.b.m, uv x.r.lo, uv x.r.hi, sv x.r.sl, sv x.r.sh, .int .i64 x.slot, .int .i64 x.id, .int .i64 x.low, .int .i64 x.high] 64)) 69 (stv zs) : Blk _ (w.heap.size + 1 + 1) 69 (stv zs))
  have hB : Below w.heap.size w (((w.alloc (.cells (stv s) 69)).alloc (.cells #[.int .i64 x.kind, uv x.r.b.v, uv x.r.b.m, uv x.r.lo, uv x.r.hi, sv x.r.sl, sv x.r.sh, .int .i64 x.slot, .int .i64 x.id, .int .i64 x.low, .int .i64 x.high] 64)).alloc (.cells (stv zs) 69)) := (Bl_alloc (Bl_alloc (Bl_alloc (Bl_refl w) _) _) _)
  clear hgs
  clear gs
  clear hgx
  clear gx
  clear hgr
  clear gr
  generalize (((w.alloc (.cells (stv s) 69)).alloc (.cells #[.int .i64 x.kind, uv x.r.b.v, uv x.r.b.m, uv x.r.lo, uv x.r.hi, sv x.r.sl, sv x.r.sh, .int .i64 x.slot, .int .i64 x.id, .int .i64 x.low, .int .i64 x.high] 64)).alloc (.cells (stv zs) 69)) = w1 at *
  have fs := Bs.frozen; have ls := Bs.lt
  have cx0 : w1.cell? ⟨w.heap.size + 1, 0, none⟩ = some (.int .i64 x.kind) := Bx.cell 0
  have cx1 : w1.cell? ⟨w.heap.size + 1, 1, none⟩ = some (uv x.r.b.v) := Bx.cell 1
  have cx2 : w1.cell? ⟨w.heap.size + 1, 2, none⟩ = some (uv x.r.b.m) := Bx.cell 2
  have cx3 : w1.cell? ⟨w.heap.size + 1, 3, none⟩ = some (uv x.r.lo) := Bx.cell 3
  have cx4 : w1.cell? ⟨w.heap.size + 1, 4, none⟩ = some (uv x.r.hi) := Bx.cell 4
  have cx5 : w1.cell? ⟨w.heap.size + 1, 5, none⟩ = some (sv x.r.sl) := Bx.cell 5
  have cx6 : w1.cell? ⟨w.heap.size + 1, 6, none⟩ = some (sv x.r.sh) := Bx.cell 6
  have cx7 : w1.cell? ⟨w.heap.size + 1, 7, none⟩ = some (.int .i64 x.slot) := Bx.cell 7
  have cx8 : w1.cell? ⟨w.heap.size + 1, 8, none⟩ = some (.int .i64 x.id) := Bx.cell 8
  have cx9 : w1.cell? ⟨w.heap.size + 1, 9, none⟩ = some (.int .i64 x.low) := Bx.cell 9
  have cx10 : w1.cell? ⟨w.heap.size + 1, 10, none⟩ = some (.int .i64 x.high) := Bx.cell 10
  have fx := Bx.frozen; have lx := Bx.lt
  have fr := Br.frozen; have lr := Br.lt
  clear hzs
  go_wp2_with fail
  refine (k_f _).mono ?_
  rintro e w' ⟨rfl, rfl⟩
  go_wp2_with fail
  refine (k_z _).mono ?_
  rintro e w' ⟨rfl, rfl⟩
  go_upto_region 5 with fail
  go_wp2_with fail
  clear  fs ls
  clear cx0 cx1 cx2 cx3 cx4 cx5 cx6 cx7 cx8 cx9 cx10 fx lx
  clear  fr lr
  go_loopg [13] 8 (fun m' i wr => ∃ j : Nat, j ≤ 8 ∧ m' + j = 8 ∧ i = .int .i64 ((f + j : Nat) : Int) ∧ Below w.heap.size w wr ∧ Blk wr (w.heap.size + 1) 64 #[.int .i64 x.kind, uv x.r.b.v, uv x.r.b.m, uv x.r.lo, uv x.r.hi, sv x.r.sl, sv x.r.sh, .int .i64 x.slot, .int .i64 x.id, .int .i64 x.low, .int .i64 x.high] ∧ Blk wr (w.heap.size + 1 + 1) 69 (stv zs) ∧ Blk wr (w.heap.size) 69 (stv (F j)))
  case atStart => exact ⟨0, by omega, by omega, by go_num, hB, Bx, Br, by rw [HF0.out]; exact Bs⟩
  case round =>
    clear hB Bx Br Bs
    obtain ⟨j, hj, hgk, rfl, hB, Bx, Br, Bs⟩ := hrel
    obtain ⟨wo, rfl⟩ : ∃ z : World, z = wr := ⟨_, rfl⟩
    have fs := Bs.frozen; have ls := Bs.lt
    have cx0 : wo.cell? ⟨w.heap.size + 1, 0, none⟩ = some (.int .i64 x.kind) := Bx.cell 0
    have cx1 : wo.cell? ⟨w.heap.size + 1, 1, none⟩ = some (uv x.r.b.v) := Bx.cell 1
    have cx2 : wo.cell? ⟨w.heap.size + 1, 2, none⟩ = some (uv x.r.b.m) := Bx.cell 2
    have cx3 : wo.cell? ⟨w.heap.size + 1, 3, none⟩ = some (uv x.r.lo) := Bx.cell 3
    have cx4 : wo.cell? ⟨w.heap.size + 1, 4, none⟩ = some (uv x.r.hi) := Bx.cell 4
    have cx5 : wo.cell? ⟨w.heap.size + 1, 5, none⟩ = some (sv x.r.sl) := Bx.cell 5
    have cx6 : wo.cell? ⟨w.heap.size + 1, 6, none⟩ = some (sv x.r.sh) := Bx.cell 6
    have cx7 : wo.cell? ⟨w.heap.size + 1, 7, none⟩ = some (.int .i64 x.slot) := Bx.cell 7
    have cx8 : wo.cell? ⟨w.heap.size + 1, 8, none⟩ = some (.int .i64 x.id) := Bx.cell 8
    have cx9 : wo.cell? ⟨w.heap.size + 1, 9, none⟩ = some (.int .i64 x.low) := Bx.cell 9
    have cx10 : wo.cell? ⟨w.heap.size + 1, 10, none⟩ = some (.int .i64 x.high) := Bx.cell 10
    have fx := Bx.frozen; have lx := Bx.lt
    have fr := Br.frozen; have lr := Br.lt
    cases q : decide (j < 8)
    · have hjM : j = 8 := by have := of_decide_eq_false q; omega
      have h3 : ¬ j < 8 := of_decide_eq_false q
      have h2 : ¬ f + j < f + 8 := by omega
      have BsG : Blk wo (w.heap.size) 69 (stv (G 0)) := by rw [HG0.out, ← hjM]; exact Bs
      clear Bs hgk hj hjM; have Bs := BsG; clear BsG
      go_upto_region 12 with fail
      clear h2 h3 q
      go_wp2_with fail
      clear  fs ls
      clear cx0 cx1 cx2 cx3 cx4 cx5 cx6 cx7 cx8 cx9 cx10 fx lx
      clear  fr lr
      go_loopg [15] 8 (fun m' i wr => ∃ j : Nat, j ≤ 8 ∧ m' + j = 8 ∧ i = .int .i64 ((f + j : Nat) : Int) ∧ Below w.heap.size w wr ∧ Blk wr (w.heap.size + 1) 64 #[.int .i64 x.kind, uv x.r.b.v, uv x.r.b.m, uv x.r.lo, uv x.r.hi, sv x.r.sl, sv x.r.sh, .int .i64 x.slot, .int .i64 x.id, .int .i64 x.low, .int .i64 x.high] ∧ Blk wr (w.heap.size + 1 + 1) 69 (stv zs) ∧ Blk wr (w.heap.size) 69 (stv (G j)))
      case atStart => exact ⟨0, by omega, by omega, by go_num, hB, Bx, Br, Bs⟩
      case round =>
        clear hB Bx Br Bs
        obtain ⟨j, hj, hgk, rfl, hB, Bx, Br, Bs⟩ := hrel
        obtain ⟨wp, rfl⟩ : ∃ z : World, z = wr := ⟨_, rfl⟩
        have fs := Bs.frozen; have ls := Bs.lt
        have cx0 : wp.cell? ⟨w.heap.size + 1, 0, none⟩ = some (.int .i64 x.kind) := Bx.cell 0
        have cx1 : wp.cell? ⟨w.heap.size + 1, 1, none⟩ = some (uv x.r.b.v) := Bx.cell 1
        have cx2 : wp.cell? ⟨w.heap.size + 1, 2, none⟩ = some (uv x.r.b.m) := Bx.cell 2
        have cx3 : wp.cell? ⟨w.heap.size + 1, 3, none⟩ = some (uv x.r.lo) := Bx.cell 3
        have cx4 : wp.cell? ⟨w.heap.size + 1, 4, none⟩ = some (uv x.r.hi) := Bx.cell 4
        have cx5 : wp.cell? ⟨w.heap.size + 1, 5, none⟩ = some (sv x.r.sl) := Bx.cell 5
        have cx6 : wp.cell? ⟨w.heap.size + 1, 6, none⟩ = some (sv x.r.sh) := Bx.cell 6
        have cx7 : wp.cell? ⟨w.heap.size + 1, 7, none⟩ = some (.int .i64 x.slot) := Bx.cell 7
        have cx8 : wp.cell? ⟨w.heap.size + 1, 8, none⟩ = some (.int .i64 x.id) := Bx.cell 8
        have cx9 : wp.cell? ⟨w.heap.size + 1, 9, none⟩ = some (.int .i64 x.low) := Bx.cell 9
        have cx10 : wp.cell? ⟨w.heap.size + 1, 10, none⟩ = some (.int .i64 x.high) := Bx.cell 10
        have fx := Bx.frozen; have lx := Bx.lt
        have fr := Br.frozen; have lr := Br.lt
        cases q : decide (j < 8)
        · have hjM : j = 8 := by have := of_decide_eq_false q; omega
          have h3 : ¬ j < 8 := of_decide_eq_false q
          have h2 : ¬ f + j < f + 8 := by omega
          have BsG : Blk wp (w.heap.size) 69 (stv (G 8)) := by rw [← hjM]; exact Bs
          clear Bs hgk hj hjM; have Bs := BsG; clear BsG
          obtain ⟨t, e_t⟩ : ∃ t, t = G 8 := ⟨_, rfl⟩; rw [← e_t] at Bs; have Ht := Lib.hid e_t; clear e_t
          go_upto_region 18 with fail
          clear h2 h3 q
          go_wp2_with (first | (refine wpList_load_whole rfl 69 (.tmp 4) rfl (w.heap.size) rfl 69 (stv t) _ Bs Try.underlying69 rfl (size_st t) ?_) | (refine wpList_store_whole rfl 69 (.tmp 8) (.tmp 100) rfl (w.heap.size + 1 + 1) (stv t) rfl rfl 69 (stv zs) Br (size_st t) (by rw [stv_size, stv_size]) (stv_one t) ?_))
          intro w2 hS
          clear  fs ls
          clear cx0 cx1 cx2 cx3 cx4 cx5 cx6 cx7 cx8 cx9 cx10 fx lx
          clear  fr lr
          replace Bs := hS.far (by first | (simp; done) | (simp; omega) | (simp [*]; done) | (simp only [ne_eq]; constructor <;> omega)) Bs
          replace Bx := hS.far (by first | (simp; done) | (simp; omega) | (simp [*]; done) | (simp only [ne_eq]; constructor <;> omega)) Bx
          replace Br : Blk w2 (w.heap.size + 1 + 1) 69 (stv t) := hS.blk
          replace hB := hS.bel hB (by first | omega | (simp; omega))
          clear hS
          have fs := Bs.frozen; have ls := Bs.lt
          have cx0 : w2.cell? ⟨w.heap.size + 1, 0, none⟩ = some (.int .i64 x.kind) := Bx.cell 0
          have cx1 : w2.cell? ⟨w.heap.size + 1, 1, none⟩ = some (uv x.r.b.v) := Bx.cell 1
          have cx2 : w2.cell? ⟨w.heap.size + 1, 2, none⟩ = some (uv x.r.b.m) := Bx.cell 2
          have cx3 : w2.cell? ⟨w.heap.size + 1, 3, none⟩ = some (uv x.r.lo) := Bx.cell 3
          have cx4 : w2.cell? ⟨w.heap.size + 1, 4, none⟩ = some (uv x.r.hi) := Bx.cell 4
          have cx5 : w2.cell? ⟨w.heap.size + 1, 5, none⟩ = some (sv x.r.sl) := Bx.cell 5
          have cx6 : w2.cell? ⟨w.heap.size + 1, 6, none⟩ = some (sv x.r.sh) := Bx.cell 6
          have cx7 : w2.cell? ⟨w.heap.size + 1, 7, none⟩ = some (.int .i64 x.slot) := Bx.cell 7
          have cx8 : w2.cell? ⟨w.heap.size + 1, 8, none⟩ = some (.int .i64 x.id) := Bx.cell 8
          have cx9 : w2.cell? ⟨w.heap.size + 1, 9, none⟩ = some (.int .i64 x.low) := Bx.cell 9
          have cx10 : w2.cell? ⟨w.heap.size + 1, 10, none⟩ = some (.int .i64 x.high) := Bx.cell 10
          have fx := Bx.frozen; have lx := Bx.lt
          have fr := Br.frozen; have lr := Br.lt
          go_wp2_with fail
          exact bodyPost_ret (v := .tuple #[.agg (stv t), .bool true]) (results_row_tmp Try.results48 _ _ (w.heap.size + 1 + 1) 69 (stv t) _ rfl Br Try.underlying69 rfl (size_st _)) rfl ⟨by rw [Ht.out], hB⟩
        · have hjm : j < 8 := of_decide_eq_true q
          have h2 : f + j < f + 8 := by omega
          have h64 : ((f + j : Nat) : Int) < 64 := by omega
          have h64n : f + j < 64 := by omega
          have cw : wp.cell? ⟨w.heap.size, 121 + (f + j), none⟩ = some (.bool ((G j).what (f + j))) := by rw [Bs.cell, stv_get _ (by omega), what_at _ h64n]
          go_upto_region 14 with fail
          clear cw
          clear  fs ls
          clear cx0 cx1 cx2 cx3 cx4 cx5 cx6 cx7 cx8 cx9 cx10 fx lx
          clear  fr lr
          replace Bs : Blk (wp.setCell ⟨w.heap.size, 121 + (f + j), none⟩ (.bool true)) (w.heap.size) 69 (stv (G (j + 1))) := by rw [HG.out j, ← set_what (G j) h64n true]; exact Bs.set_ (121 + (f + j)) _
          replace Bx : Blk (wp.setCell ⟨w.heap.size, 121 + (f + j), none⟩ (.bool true)) (w.heap.size + 1) 64 #[.int .i64 x.kind, uv x.r.b.v, uv x.r.b.m, uv x.r.lo, uv x.r.hi, sv x.r.sl, sv x.r.sh, .int .i64 x.slot, .int .i64 x.id, .int .i64 x.low, .int .i64 x.high] := Bx.far (by first | (simp; done) | (simp; omega) | (simp [*]; done) | (simp only [ne_eq]; constructor <;> omega)) _
          replace Br : Blk (wp.setCell ⟨w.heap.size, 121 + (f + j), none⟩ (.bool true)) (w.heap.size + 1 + 1) 69 (stv zs) := Br.far (by first | (simp; done) | (simp; omega) | (simp [*]; done) | (simp only [ne_eq]; constructor <;> omega)) _
          replace hB : Below w.heap.size w (wp.setCell ⟨w.heap.size, 121 + (f + j), none⟩ (.bool true)) := Bl_set hB (by first | omega | (simp; done) | (simp; omega)) _
          generalize (wp.setCell ⟨w.heap.size, 121 + (f + j), none⟩ (.bool true)) = w9 at *
          go_wp2_with fail
          go_roundg (8 - 1 - j)
          case measure => omega
          case rel => exact ⟨j + 1, by omega, by omega, by go_num, hB, Bx, Br, Bs⟩
    · have hjm : j < 8 := of_decide_eq_true q
      have h2 : f + j < f + 8 := by omega
      obtain ⟨kk, hkk⟩ : ∃ kk, kk = (f + j) / 8 := ⟨_, rfl⟩
      have hk8 : kk < 8 := by omega
      have hdv : ((f : Int) + (j : Int)) / 8 = (kk : Int) := by omega
      obtain ⟨t, e_t⟩ : ∃ t, t = F j := ⟨_, rfl⟩
      have hF1 : F (j + 1) = PlainAbs.clr t kk := by rw [HF.out j, ← e_t, ← hkk]
      rw [← e_t] at Bs; clear e_t hkk
      have ck : wo.cell? ⟨w.heap.size, 185 + kk * 11, none⟩ = some (.int .i64 (t.kept kk).kind) := by have h := Bs.cell (185 + kk * 11 + 0); rw [stv_get t (by omega), kept_at t hk8 (by omega)] at h; exact h
      have HF1 := Lib.hid hF1; clear hF1
      obtain ⟨K, e_K⟩ : ∃ K, K = (t.kept kk).kind := ⟨_, rfl⟩; rw [← e_K] at ck; have HK := Lib.hid e_K; clear e_K
      cases hq : (K == 0)
      · have HF2 := Lib.hid (show F (j + 1) = { t with kept := upd t.kept kk zr, what := fun i => if i / 8 = kk then false else t.what i } by rw [HF1.out]; unfold PlainAbs.clr; rw [if_neg (by rw [← HK.out]; simpa using hq)])
        go_upto_region 10 with fail
        clear ck
        go_wp2_with (refine wpList_store_part rfl 64 (.tmp 70) (.tmp 68) rfl (w.heap.size) (185 + kk * 11) _ rfl rfl 69 (stv t) Bs (by kernel_rfl) (by rw [stv_size]; simp; try omega) (gl_one zr) ?_)
        intro w2 hS
        clear  fs ls
        clear cx0 cx1 cx2 cx3 cx4 cx5 cx6 cx7 cx8 cx9 cx10 fx lx
        clear  fr lr
        replace Bs : Blk w2 (w.heap.size) 69 (stv { t with kept := upd t.kept kk zr }) := by rw [← set_kept t hk8 zr]; exact hS.blk
        replace Bx := hS.far (by first | (simp; done) | (simp; omega) | (simp [*]; done) | (simp only [ne_eq]; constructor <;> omega)) Bx
        replace Br := hS.far (by first | (simp; done) | (simp; omega) | (simp [*]; done) | (simp only [ne_eq]; constructor <;> omega)) Br
        replace hB := hS.bel hB (by first | omega | (simp; omega))
        clear hS
        have fs := Bs.frozen; have ls := Bs.lt
        have cx0 : w2.cell? ⟨w.heap.size + 1, 0, none⟩ = some (.int .i64 x.kind) := Bx.cell 0
        have cx1 : w2.cell? ⟨w.heap.size + 1, 1, none⟩ = some (uv x.r.b.v) := Bx.cell 1
        have cx2 : w2.cell? ⟨w.heap.size + 1, 2, none⟩ = some (uv x.r.b.m) := Bx.cell 2
        have cx3 : w2.cell? ⟨w.heap.size + 1, 3, none⟩ = some (uv x.r.lo) := Bx.cell 3
        have cx4 : w2.cell? ⟨w.heap.size + 1, 4, none⟩ = some (uv x.r.hi) := Bx.cell 4
        have cx5 : w2.cell? ⟨w.heap.size + 1, 5, none⟩ = some (sv x.r.sl) := Bx.cell 5
        have cx6 : w2.cell? ⟨w.heap.size + 1, 6, none⟩ = some (sv x.r.sh) := Bx.cell 6
        have cx7 : w2.cell? ⟨w.heap.size + 1, 7, none⟩ = some (.int .i64 x.slot) := Bx.cell 7
        have cx8 : w2.cell? ⟨w.heap.size + 1, 8, none⟩ = some (.int .i64 x.id) := Bx.cell 8
        have cx9 : w2.cell? ⟨w.heap.size + 1, 9, none⟩ = some (.int .i64 x.low) := Bx.cell 9
        have cx10 : w2.cell? ⟨w.heap.size + 1, 10, none⟩ = some (.int .i64 x.high) := Bx.cell 10
        have fx := Bx.frozen; have lx := Bx.lt
        have fr := Br.frozen; have lr := Br.lt
        go_upto_region 11 with fail
        have hsl := slice_what (w.heap.size) kk hk8
        go_wp2_with (refine wpList_clear_part rfl (.tmp 77) 100 4 rfl Try.underlying100 (w.heap.size) (121 + kk * 8) 8 (64 - kk * 8) rfl (by omega) (.bool false) zero_bool rfl rfl 69 (stv _) Bs (by rw [stv_size]; omega) ?_)
        clear hsl
        intro w3 hS
        clear  fs ls
        clear cx0 cx1 cx2 cx3 cx4 cx5 cx6 cx7 cx8 cx9 cx10 fx lx
        clear  fr lr
        replace Bs : Blk w3 (w.heap.size) 69 (stv (F (j + 1))) := by rw [HF2.out]; rw [← set_clear { t with kept := upd t.kept kk zr } hk8]; exact hS.blk
        replace Bx := hS.far (by first | (simp; done) | (simp; omega) | (simp [*]; done) | (simp only [ne_eq]; constructor <;> omega)) Bx
        replace Br := hS.far (by first | (simp; done) | (simp; omega) | (simp [*]; done) | (simp only [ne_eq]; constructor <;> omega)) Br
        replace hB := hS.bel hB (by first | omega | (simp; omega))
        clear hS
        have fs := Bs.frozen; have ls := Bs.lt
        have cx0 : w3.cell? ⟨w.heap.size + 1, 0, none⟩ = some (.int .i64 x.kind) := Bx.cell 0
        have cx1 : w3.cell? ⟨w.heap.size + 1, 1, none⟩ = some (uv x.r.b.v) := Bx.cell 1
        have cx2 : w3.cell? ⟨w.heap.size + 1, 2, none⟩ = some (uv x.r.b.m) := Bx.cell 2
        have cx3 : w3.cell? ⟨w.heap.size + 1, 3, none⟩ = some (uv x.r.lo) := Bx.cell 3
        have cx4 : w3.cell? ⟨w.heap.size + 1, 4, none⟩ = some (uv x.r.hi) := Bx.cell 4
        have cx5 : w3.cell? ⟨w.heap.size + 1, 5, none⟩ = some (sv x.r.sl) := Bx.cell 5
        have cx6 : w3.cell? ⟨w.heap.size + 1, 6, none⟩ = some (sv x.r.sh) := Bx.cell 6
        have cx7 : w3.cell? ⟨w.heap.size + 1, 7, none⟩ = some (.int .i64 x.slot) := Bx.cell 7
        have cx8 : w3.cell? ⟨w.heap.size + 1, 8, none⟩ = some (.int .i64 x.id) := Bx.cell 8
        have cx9 : w3.cell? ⟨w.heap.size + 1, 9, none⟩ = some (.int .i64 x.low) := Bx.cell 9
        have cx10 : w3.cell? ⟨w.heap.size + 1, 10, none⟩ = some (.int .i64 x.high) := Bx.cell 10
        have fx := Bx.frozen; have lx := Bx.lt
        have fr := Br.frozen; have lr := Br.lt
        go_wp2_with fail
        go_roundg (8 - 1 - j)
        case measure => omega
        case rel => exact ⟨j + 1, by omega, by omega, by go_num, hB, Bx, Br, Bs⟩
      · have HF2 := Lib.hid (show F (j + 1) = t by rw [HF1.out]; unfold PlainAbs.clr; rw [if_pos (by rw [← HK.out]; simpa using hq)])
        go_wp2_with fail
        go_roundg (8 - 1 - j)
        case measure => omega
        case rel => exact ⟨j + 1, by omega, by omega, by go_num, hB, Bx, Br, by rw [HF2.out]; exact Bs⟩
set_option maxRecDepth 100000 in
set_option maxHeartbeats 1600000 in
theorem save_y3 (s : St) (z : Int) (f k : Nat) (hfm : f + 8 ≤ 64) (hk : k < 8) (hf : f = 8 * k) (x : Rg) (h0 : (x.kind == 0) = false) (h1 : (x.kind == 1) = true) (k_f : ∀ w : World, Calls Try.prog 61 #[.int .i64 z, .int .i64 8] w fun e w' => e = .returned (.tuple #[.int .i64 (f : Int), .bool true]) ∧ w = w') (w : World) : Calls Try.prog 48 #[.agg (stv s), .int .i64 z, .int .i64 8, gv x] w fun e w' => e = .returned (.tuple #[.agg (stv (PlainAbs.mark (PlainAbs.clrN s f 8) f true 8)), .bool true]) ∧ Below w.heap.size w w' := by
  have k_z := sized_c 8
  have hf0 : ((f : Int) % 8 == 0) = true := by simp; omega
  have hf1 : (f : Int) / 8 = (k : Int) := by omega
  clear hf
  have h1n : (x.kind != 1) = false := by unfold bne; rw [h1]; rfl
  obtain ⟨F, e_F⟩ : ∃ z', z' = PlainAbs.clrN s f := ⟨_, rfl⟩; obtain ⟨G, e_G⟩ : ∃ z', z' = PlainAbs.mark (PlainAbs.clrN s f 8) f true := ⟨_, rfl⟩
  have hF0 : F 0 = s := by rw [e_F]; rfl
  have hF : ∀ j, F (j + 1) = PlainAbs.clr (F j) ((f + j) / 8) := fun j => by rw [e_F]; rfl
  have hG0 : G 0 = F 8 := by rw [e_G, e_F]; rfl
  have hG : ∀ j, G (j + 1) = { G j with what := upd (G j).what (f + j) true } := fun j => by rw [e_G]; rfl
  rw [← e_G]; clear e_F e_G
  have HF0 := Lib.hid hF0; clear hF0
  have HF := Lib.hid hF; clear hF
  have HG0 := Lib.hid hG0; clear hG0
  have HG := Lib.hid hG; clear hG
  have hsum : wrap64 ((f : Int) + (8 : Int)) = ((f + 8 : Nat) : Int) := by rw [IntWalk.wrap64_in _ (by constructor <;> omega)]; simp
  have hzs := zero_st
  go_enter Try.func48, Try.ntmps48
  go_wp2_with fail
  obtain ⟨gs, hgs⟩ : ∃ g, g = w.heap.size := ⟨_, rfl⟩
  obtain ⟨gx, hgx⟩ : ∃ g, g = w.heap.size + 1 := ⟨_, rfl⟩
  obtain ⟨gr, hgr⟩ : ∃ g, g = w.heap.size + 1 + 1 := ⟨_, rfl⟩
  have Bs : Blk (((w.alloc (.cells (stv s) 69)).alloc (.cells #[.int .i64 x.kind, uv x.r.b.v, uv x.r.b.m, uv x.r.lo, uv x.r.hi, sv x.r.sl, sv x.r.sh, .int .i64 x.slot, .int .i64 x.id, .int .i64 x.low, .int .i64 x.high] 64)).alloc (.cells (stv zs) 69)) (w.heap.size) 69 (stv s) := (((Blk.new w 69 (stv s))).alloc _).alloc _
  have Bx : Blk (((w.alloc (.cells (stv s) 69)).alloc (.cells #[.int .i64 x.kind, uv x.r.b.v, uv x.r.b.m, uv x.r.lo, uv x.r.hi, sv x.r.sl, sv x.r.sh, .int .i64 x.slot, .int .i64 x.id, .int .i64 x.low, .int .i64 x.high] 64)).alloc (.cells (stv zs) 69)) (w.heap.size + 1) 64 #[.int .i64 x.kind, uv x.r.b.v, uv x.r.b.m, uv x.r.lo, uv x.r.hi, sv x.r.sl, sv x.r.sh, .int .i64 x.slot, .int .i64 x.id, .int .i64 x.low, .int .i64 x.high] := ((by simpa using Blk.new (w.alloc (.cells (stv s) 69)) 64 #[.int .i64 x.kind, uv x.r.b.v, uv x.r.b.m, uv x.r.lo, uv x.r.hi, sv x.r.sl, sv x.r.sh, .int .i64 x.slot, .int .i64 x.id, .int .i64 x.low, .int .i64 x.high] : Blk _ (w.heap.size + 1) 64 #[.int .i64 x.kind, uv x.r.b.v, uv x.r.b.m, uv x.r.lo, uv x.r.hi, sv x.r.sl, sv x.r.sh, .int .i64 x.slot, .int .i64 x.id, .int .i64 x.low, .int .i64 x.high])).alloc _
  have Br : Blk (((w.alloc (.cells (stv s) 69)).alloc (.cells #[.int .i64 x.kind, uv x.r.b.v, uv x.r.b.m, uv x.r.lo, uv x.r.hi, sv x.r.sl, sv x.r.sh, .int .i64 x.slot, .int .i64 x.id, .int .i64 x.low, .int .i64 x.high] 64)).alloc (.cells (stv zs) 69)) (w.heap.size + 1 + 1) 69 (stv zs) := (by simpa using Blk.new ((w.alloc (.cells (stv s) 69)).alloc (.cells #[.int .i64 x.kind, uv x.r.b.v, uv x.r.b.m, uv x.r.lo, uv x.r.hi, sv x.r.sl, sv x.r.sh, .int .i64 x.slot, .int .i64 x.id, .int .i64 x.low, .int .i64 x.high] 64)) 69 (stv zs) : Blk _ (w.heap.size + 1 + 1) 69 (stv zs))
  have hB : Below w.heap.size w (((w.alloc (.cells (stv s) 69)).alloc (.cells #[.int .i64 x.kind, uv x.r.b.v, uv x.r.b.m, uv x.r.lo, uv x.r.hi, sv x.r.sl, sv x.r.sh, .int .i64 x.slot, .int .i64 x.id, .int .i64 x.low, .int .i64 x.high] 64)).alloc (.cells (stv zs) 69)) := (Bl_alloc (Bl_alloc (Bl_alloc (Bl_refl w) _) _) _)
  clear hgs
  clear gs
  clear hgx
  clear gx
  clear hgr
  clear gr
  generalize (((w.alloc (.cells (stv s) 69)).alloc (.cells #[.int .i64 x.kind, uv x.r.b.v, uv x.r.b.m, uv x.r.lo, uv x.r.hi, sv x.r.sl, sv x.r.sh, .int .i64 x.slot, .int .i64 x.id, .int .i64 x.low, .int .i64 x.high] 64)).alloc (.cells (stv zs) 69)) = w1 at *
  have fs := Bs.frozen; have ls := Bs.lt
  have cx0 : w1.cell? ⟨w.heap.size + 1, 0, none⟩ = some (.int .i64 x.kind) := Bx.cell 0
  have cx1 : w1.cell? ⟨w.heap.size + 1, 1, none⟩ = some (uv x.r.b.v) := Bx.cell 1
  have cx2 : w1.cell? ⟨w.heap.size + 1, 2, none⟩ = some (uv x.r.b.m) := Bx.cell 2
  have cx3 : w1.cell? ⟨w.heap.size + 1, 3, none⟩ = some (uv x.r.lo) := Bx.cell 3
  have cx4 : w1.cell? ⟨w.heap.size + 1, 4, none⟩ = some (uv x.r.hi) := Bx.cell 4
  have cx5 : w1.cell? ⟨w.heap.size + 1, 5, none⟩ = some (sv x.r.sl) := Bx.cell 5
  have cx6 : w1.cell? ⟨w.heap.size + 1, 6, none⟩ = some (sv x.r.sh) := Bx.cell 6
  have cx7 : w1.cell? ⟨w.heap.size + 1, 7, none⟩ = some (.int .i64 x.slot) := Bx.cell 7
  have cx8 : w1.cell? ⟨w.heap.size + 1, 8, none⟩ = some (.int .i64 x.id) := Bx.cell 8
  have cx9 : w1.cell? ⟨w.heap.size + 1, 9, none⟩ = some (.int .i64 x.low) := Bx.cell 9
  have cx10 : w1.cell? ⟨w.heap.size + 1, 10, none⟩ = some (.int .i64 x.high) := Bx.cell 10
  have fx := Bx.frozen; have lx := Bx.lt
  have fr := Br.frozen; have lr := Br.lt
  clear hzs
  go_wp2_with fail
  refine (k_f _).mono ?_
  rintro e w' ⟨rfl, rfl⟩
  go_wp2_with fail
  refine (k_z _).mono ?_
  rintro e w' ⟨rfl, rfl⟩
  go_upto_region 5 with fail
  go_wp2_with fail
  clear  fs ls
  clear cx0 cx1 cx2 cx3 cx4 cx5 cx6 cx7 cx8 cx9 cx10 fx lx
  clear  fr lr
  go_loopg [13] 8 (fun m' i wr => ∃ j : Nat, j ≤ 8 ∧ m' + j = 8 ∧ i = .int .i64 ((f + j : Nat) : Int) ∧ Below w.heap.size w wr ∧ Blk wr (w.heap.size + 1) 64 #[.int .i64 x.kind, uv x.r.b.v, uv x.r.b.m, uv x.r.lo, uv x.r.hi, sv x.r.sl, sv x.r.sh, .int .i64 x.slot, .int .i64 x.id, .int .i64 x.low, .int .i64 x.high] ∧ Blk wr (w.heap.size + 1 + 1) 69 (stv zs) ∧ Blk wr (w.heap.size) 69 (stv (F j)))
  case atStart => exact ⟨0, by omega, by omega, by go_num, hB, Bx, Br, by rw [HF0.out]; exact Bs⟩
  case round =>
    clear hB Bx Br Bs
    obtain ⟨j, hj, hgk, rfl, hB, Bx, Br, Bs⟩ := hrel
    obtain ⟨wo, rfl⟩ : ∃ z : World, z = wr := ⟨_, rfl⟩
    have fs := Bs.frozen; have ls := Bs.lt
    have cx0 : wo.cell? ⟨w.heap.size + 1, 0, none⟩ = some (.int .i64 x.kind) := Bx.cell 0
    have cx1 : wo.cell? ⟨w.heap.size + 1, 1, none⟩ = some (uv x.r.b.v) := Bx.cell 1
    have cx2 : wo.cell? ⟨w.heap.size + 1, 2, none⟩ = some (uv x.r.b.m) := Bx.cell 2
    have cx3 : wo.cell? ⟨w.heap.size + 1, 3, none⟩ = some (uv x.r.lo) := Bx.cell 3
    have cx4 : wo.cell? ⟨w.heap.size + 1, 4, none⟩ = some (uv x.r.hi) := Bx.cell 4
    have cx5 : wo.cell? ⟨w.heap.size + 1, 5, none⟩ = some (sv x.r.sl) := Bx.cell 5
    have cx6 : wo.cell? ⟨w.heap.size + 1, 6, none⟩ = some (sv x.r.sh) := Bx.cell 6
    have cx7 : wo.cell? ⟨w.heap.size + 1, 7, none⟩ = some (.int .i64 x.slot) := Bx.cell 7
    have cx8 : wo.cell? ⟨w.heap.size + 1, 8, none⟩ = some (.int .i64 x.id) := Bx.cell 8
    have cx9 : wo.cell? ⟨w.heap.size + 1, 9, none⟩ = some (.int .i64 x.low) := Bx.cell 9
    have cx10 : wo.cell? ⟨w.heap.size + 1, 10, none⟩ = some (.int .i64 x.high) := Bx.cell 10
    have fx := Bx.frozen; have lx := Bx.lt
    have fr := Br.frozen; have lr := Br.lt
    cases q : decide (j < 8)
    · have hjM : j = 8 := by have := of_decide_eq_false q; omega
      have h3 : ¬ j < 8 := of_decide_eq_false q
      have h2 : ¬ f + j < f + 8 := by omega
      have BsG : Blk wo (w.heap.size) 69 (stv (G 0)) := by rw [HG0.out, ← hjM]; exact Bs
      clear Bs hgk hj hjM; have Bs := BsG; clear BsG
      go_upto_region 12 with fail
      clear h2 h3 q
      go_wp2_with fail
      clear  fs ls
      clear cx0 cx1 cx2 cx3 cx4 cx5 cx6 cx7 cx8 cx9 cx10 fx lx
      clear  fr lr
      go_loopg [15] 8 (fun m' i wr => ∃ j : Nat, j ≤ 8 ∧ m' + j = 8 ∧ i = .int .i64 ((f + j : Nat) : Int) ∧ Below w.heap.size w wr ∧ Blk wr (w.heap.size + 1) 64 #[.int .i64 x.kind, uv x.r.b.v, uv x.r.b.m, uv x.r.lo, uv x.r.hi, sv x.r.sl, sv x.r.sh, .int .i64 x.slot, .int .i64 x.id, .int .i64 x.low, .int .i64 x.high] ∧ Blk wr (w.heap.size + 1 + 1) 69 (stv zs) ∧ Blk wr (w.heap.size) 69 (stv (G j)))
      case atStart => exact ⟨0, by omega, by omega, by go_num, hB, Bx, Br, Bs⟩
      case round =>
        clear hB Bx Br Bs
        obtain ⟨j, hj, hgk, rfl, hB, Bx, Br, Bs⟩ := hrel
        obtain ⟨wp, rfl⟩ : ∃ z : World, z = wr := ⟨_, rfl⟩
        have fs := Bs.frozen; have ls := Bs.lt
        have cx0 : wp.cell? ⟨w.heap.size + 1, 0, none⟩ = some (.int .i64 x.kind) := Bx.cell 0
        have cx1 : wp.cell? ⟨w.heap.size + 1, 1, none⟩ = some (uv x.r.b.v) := Bx.cell 1
        have cx2 : wp.cell? ⟨w.heap.size + 1, 2, none⟩ = some (uv x.r.b.m) := Bx.cell 2
        have cx3 : wp.cell? ⟨w.heap.size + 1, 3, none⟩ = some (uv x.r.lo) := Bx.cell 3
        have cx4 : wp.cell? ⟨w.heap.size + 1, 4, none⟩ = some (uv x.r.hi) := Bx.cell 4
        have cx5 : wp.cell? ⟨w.heap.size + 1, 5, none⟩ = some (sv x.r.sl) := Bx.cell 5
        have cx6 : wp.cell? ⟨w.heap.size + 1, 6, none⟩ = some (sv x.r.sh) := Bx.cell 6
        have cx7 : wp.cell? ⟨w.heap.size + 1, 7, none⟩ = some (.int .i64 x.slot) := Bx.cell 7
        have cx8 : wp.cell? ⟨w.heap.size + 1, 8, none⟩ = some (.int .i64 x.id) := Bx.cell 8
        have cx9 : wp.cell? ⟨w.heap.size + 1, 9, none⟩ = some (.int .i64 x.low) := Bx.cell 9
        have cx10 : wp.cell? ⟨w.heap.size + 1, 10, none⟩ = some (.int .i64 x.high) := Bx.cell 10
        have fx := Bx.frozen; have lx := Bx.lt
        have fr := Br.frozen; have lr := Br.lt
        cases q : decide (j < 8)
        · have hjM : j = 8 := by have := of_decide_eq_false q; omega
          have h3 : ¬ j < 8 := of_decide_eq_false q
          have h2 : ¬ f + j < f + 8 := by omega
          have BsG : Blk wp (w.heap.size) 69 (stv (G 8)) := by rw [← hjM]; exact Bs
          clear Bs hgk hj hjM; have Bs := BsG; clear BsG
          obtain ⟨t, e_t⟩ : ∃ t, t = G 8 := ⟨_, rfl⟩; rw [← e_t] at Bs; have Ht := Lib.hid e_t; clear e_t
          go_upto_region 18 with fail
          clear h2 h3 q
          go_wp2_with (first | (refine wpList_load_whole rfl 69 (.tmp 4) rfl (w.heap.size) rfl 69 (stv t) _ Bs Try.underlying69 rfl (size_st t) ?_) | (refine wpList_store_whole rfl 69 (.tmp 8) (.tmp 100) rfl (w.heap.size + 1 + 1) (stv t) rfl rfl 69 (stv zs) Br (size_st t) (by rw [stv_size, stv_size]) (stv_one t) ?_))
          intro w2 hS
          clear  fs ls
          clear cx0 cx1 cx2 cx3 cx4 cx5 cx6 cx7 cx8 cx9 cx10 fx lx
          clear  fr lr
          replace Bs := hS.far (by first | (simp; done) | (simp; omega) | (simp [*]; done) | (simp only [ne_eq]; constructor <;> omega)) Bs
          replace Bx := hS.far (by first | (simp; done) | (simp; omega) | (simp [*]; done) | (simp only [ne_eq]; constructor <;> omega)) Bx
          replace Br : Blk w2 (w.heap.size + 1 + 1) 69 (stv t) := hS.blk
          replace hB := hS.bel hB (by first | omega | (simp; omega))
          clear hS
          have fs := Bs.frozen; have ls := Bs.lt
          have cx0 : w2.cell? ⟨w.heap.size + 1, 0, none⟩ = some (.int .i64 x.kind) := Bx.cell 0
          have cx1 : w2.cell? ⟨w.heap.size + 1, 1, none⟩ = some (uv x.r.b.v) := Bx.cell 1
          have cx2 : w2.cell? ⟨w.heap.size + 1, 2, none⟩ = some (uv x.r.b.m) := Bx.cell 2
          have cx3 : w2.cell? ⟨w.heap.size + 1, 3, none⟩ = some (uv x.r.lo) := Bx.cell 3
          have cx4 : w2.cell? ⟨w.heap.size + 1, 4, none⟩ = some (uv x.r.hi) := Bx.cell 4
          have cx5 : w2.cell? ⟨w.heap.size + 1, 5, none⟩ = some (sv x.r.sl) := Bx.cell 5
          have cx6 : w2.cell? ⟨w.heap.size + 1, 6, none⟩ = some (sv x.r.sh) := Bx.cell 6
          have cx7 : w2.cell? ⟨w.heap.size + 1, 7, none⟩ = some (.int .i64 x.slot) := Bx.cell 7
          have cx8 : w2.cell? ⟨w.heap.size + 1, 8, none⟩ = some (.int .i64 x.id) := Bx.cell 8
          have cx9 : w2.cell? ⟨w.heap.size + 1, 9, none⟩ = some (.int .i64 x.low) := Bx.cell 9
          have cx10 : w2.cell? ⟨w.heap.size + 1, 10, none⟩ = some (.int .i64 x.high) := Bx.cell 10
          have fx := Bx.frozen; have lx := Bx.lt
          have fr := Br.frozen; have lr := Br.lt
          go_wp2_with fail
          exact bodyPost_ret (v := .tuple #[.agg (stv t), .bool true]) (results_row_tmp Try.results48 _ _ (w.heap.size + 1 + 1) 69 (stv t) _ rfl Br Try.underlying69 rfl (size_st _)) rfl ⟨by rw [Ht.out], hB⟩
        · have hjm : j < 8 := of_decide_eq_true q
          have h2 : f + j < f + 8 := by omega
          have h64 : ((f + j : Nat) : Int) < 64 := by omega
          have h64n : f + j < 64 := by omega
          have cw : wp.cell? ⟨w.heap.size, 121 + (f + j), none⟩ = some (.bool ((G j).what (f + j))) := by rw [Bs.cell, stv_get _ (by omega), what_at _ h64n]
          go_upto_region 14 with fail
          clear cw
          clear  fs ls
          clear cx0 cx1 cx2 cx3 cx4 cx5 cx6 cx7 cx8 cx9 cx10 fx lx
          clear  fr lr
          replace Bs : Blk (wp.setCell ⟨w.heap.size, 121 + (f + j), none⟩ (.bool true)) (w.heap.size) 69 (stv (G (j + 1))) := by rw [HG.out j, ← set_what (G j) h64n true]; exact Bs.set_ (121 + (f + j)) _
          replace Bx : Blk (wp.setCell ⟨w.heap.size, 121 + (f + j), none⟩ (.bool true)) (w.heap.size + 1) 64 #[.int .i64 x.kind, uv x.r.b.v, uv x.r.b.m, uv x.r.lo, uv x.r.hi, sv x.r.sl, sv x.r.sh, .int .i64 x.slot, .int .i64 x.id, .int .i64 x.low, .int .i64 x.high] := Bx.far (by first | (simp; done) | (simp; omega) | (simp [*]; done) | (simp only [ne_eq]; constructor <;> omega)) _
          replace Br : Blk (wp.setCell ⟨w.heap.size, 121 + (f + j), none⟩ (.bool true)) (w.heap.size + 1 + 1) 69 (stv zs) := Br.far (by first | (simp; done) | (simp; omega) | (simp [*]; done) | (simp only [ne_eq]; constructor <;> omega)) _
          replace hB : Below w.heap.size w (wp.setCell ⟨w.heap.size, 121 + (f + j), none⟩ (.bool true)) := Bl_set hB (by first | omega | (simp; done) | (simp; omega)) _
          generalize (wp.setCell ⟨w.heap.size, 121 + (f + j), none⟩ (.bool true)) = w9 at *
          go_wp2_with fail
          go_roundg (8 - 1 - j)
          case measure => omega
          case rel => exact ⟨j + 1, by omega, by omega, by go_num, hB, Bx, Br, Bs⟩
    · have hjm : j < 8 := of_decide_eq_true q
      have h2 : f + j < f + 8 := by omega
      obtain ⟨kk, hkk⟩ : ∃ kk, kk = (f + j) / 8 := ⟨_, rfl⟩
      have hk8 : kk < 8 := by omega
      have hdv : ((f : Int) + (j : Int)) / 8 = (kk : Int) := by omega
      obtain ⟨t, e_t⟩ : ∃ t, t = F j := ⟨_, rfl⟩
      have hF1 : F (j + 1) = PlainAbs.clr t kk := by rw [HF.out j, ← e_t, ← hkk]
      rw [← e_t] at Bs; clear e_t hkk
      have ck : wo.cell? ⟨w.heap.size, 185 + kk * 11, none⟩ = some (.int .i64 (t.kept kk).kind) := by have h := Bs.cell (185 + kk * 11 + 0); rw [stv_get t (by omega), kept_at t hk8 (by omega)] at h; exact h
      have HF1 := Lib.hid hF1; clear hF1
      obtain ⟨K, e_K⟩ : ∃ K, K = (t.kept kk).kind := ⟨_, rfl⟩; rw [← e_K] at ck; have HK := Lib.hid e_K; clear e_K
      cases hq : (K == 0)
      · have HF2 := Lib.hid (show F (j + 1) = { t with kept := upd t.kept kk zr, what := fun i => if i / 8 = kk then false else t.what i } by rw [HF1.out]; unfold PlainAbs.clr; rw [if_neg (by rw [← HK.out]; simpa using hq)])
        go_upto_region 10 with fail
        clear ck
        go_wp2_with (refine wpList_store_part rfl 64 (.tmp 70) (.tmp 68) rfl (w.heap.size) (185 + kk * 11) _ rfl rfl 69 (stv t) Bs (by kernel_rfl) (by rw [stv_size]; simp; try omega) (gl_one zr) ?_)
        intro w2 hS
        clear  fs ls
        clear cx0 cx1 cx2 cx3 cx4 cx5 cx6 cx7 cx8 cx9 cx10 fx lx
        clear  fr lr
        replace Bs : Blk w2 (w.heap.size) 69 (stv { t with kept := upd t.kept kk zr }) := by rw [← set_kept t hk8 zr]; exact hS.blk
        replace Bx := hS.far (by first | (simp; done) | (simp; omega) | (simp [*]; done) | (simp only [ne_eq]; constructor <;> omega)) Bx
        replace Br := hS.far (by first | (simp; done) | (simp; omega) | (simp [*]; done) | (simp only [ne_eq]; constructor <;> omega)) Br
        replace hB := hS.bel hB (by first | omega | (simp; omega))
        clear hS
        have fs := Bs.frozen; have ls := Bs.lt
        have cx0 : w2.cell? ⟨w.heap.size + 1, 0, none⟩ = some (.int .i64 x.kind) := Bx.cell 0
        have cx1 : w2.cell? ⟨w.heap.size + 1, 1, none⟩ = some (uv x.r.b.v) := Bx.cell 1
        have cx2 : w2.cell? ⟨w.heap.size + 1, 2, none⟩ = some (uv x.r.b.m) := Bx.cell 2
        have cx3 : w2.cell? ⟨w.heap.size + 1, 3, none⟩ = some (uv x.r.lo) := Bx.cell 3
        have cx4 : w2.cell? ⟨w.heap.size + 1, 4, none⟩ = some (uv x.r.hi) := Bx.cell 4
        have cx5 : w2.cell? ⟨w.heap.size + 1, 5, none⟩ = some (sv x.r.sl) := Bx.cell 5
        have cx6 : w2.cell? ⟨w.heap.size + 1, 6, none⟩ = some (sv x.r.sh) := Bx.cell 6
        have cx7 : w2.cell? ⟨w.heap.size + 1, 7, none⟩ = some (.int .i64 x.slot) := Bx.cell 7
        have cx8 : w2.cell? ⟨w.heap.size + 1, 8, none⟩ = some (.int .i64 x.id) := Bx.cell 8
        have cx9 : w2.cell? ⟨w.heap.size + 1, 9, none⟩ = some (.int .i64 x.low) := Bx.cell 9
        have cx10 : w2.cell? ⟨w.heap.size + 1, 10, none⟩ = some (.int .i64 x.high) := Bx.cell 10
        have fx := Bx.frozen; have lx := Bx.lt
        have fr := Br.frozen; have lr := Br.lt
        go_upto_region 11 with fail
        have hsl := slice_what (w.heap.size) kk hk8
        go_wp2_with (refine wpList_clear_part rfl (.tmp 77) 100 4 rfl Try.underlying100 (w.heap.size) (121 + kk * 8) 8 (64 - kk * 8) rfl (by omega) (.bool false) zero_bool rfl rfl 69 (stv _) Bs (by rw [stv_size]; omega) ?_)
        clear hsl
        intro w3 hS
        clear  fs ls
        clear cx0 cx1 cx2 cx3 cx4 cx5 cx6 cx7 cx8 cx9 cx10 fx lx
        clear  fr lr
        replace Bs : Blk w3 (w.heap.size) 69 (stv (F (j + 1))) := by rw [HF2.out]; rw [← set_clear { t with kept := upd t.kept kk zr } hk8]; exact hS.blk
        replace Bx := hS.far (by first | (simp; done) | (simp; omega) | (simp [*]; done) | (simp only [ne_eq]; constructor <;> omega)) Bx
        replace Br := hS.far (by first | (simp; done) | (simp; omega) | (simp [*]; done) | (simp only [ne_eq]; constructor <;> omega)) Br
        replace hB := hS.bel hB (by first | omega | (simp; omega))
        clear hS
        have fs := Bs.frozen; have ls := Bs.lt
        have cx0 : w3.cell? ⟨w.heap.size + 1, 0, none⟩ = some (.int .i64 x.kind) := Bx.cell 0
        have cx1 : w3.cell? ⟨w.heap.size + 1, 1, none⟩ = some (uv x.r.b.v) := Bx.cell 1
        have cx2 : w3.cell? ⟨w.heap.size + 1, 2, none⟩ = some (uv x.r.b.m) := Bx.cell 2
        have cx3 : w3.cell? ⟨w.heap.size + 1, 3, none⟩ = some (uv x.r.lo) := Bx.cell 3
        have cx4 : w3.cell? ⟨w.heap.size + 1, 4, none⟩ = some (uv x.r.hi) := Bx.cell 4
        have cx5 : w3.cell? ⟨w.heap.size + 1, 5, none⟩ = some (sv x.r.sl) := Bx.cell 5
        have cx6 : w3.cell? ⟨w.heap.size + 1, 6, none⟩ = some (sv x.r.sh) := Bx.cell 6
        have cx7 : w3.cell? ⟨w.heap.size + 1, 7, none⟩ = some (.int .i64 x.slot) := Bx.cell 7
        have cx8 : w3.cell? ⟨w.heap.size + 1, 8, none⟩ = some (.int .i64 x.id) := Bx.cell 8
        have cx9 : w3.cell? ⟨w.heap.size + 1, 9, none⟩ = some (.int .i64 x.low) := Bx.cell 9
        have cx10 : w3.cell? ⟨w.heap.size + 1, 10, none⟩ = some (.int .i64 x.high) := Bx.cell 10
        have fx := Bx.frozen; have lx := Bx.lt
        have fr := Br.frozen; have lr := Br.lt
        go_wp2_with fail
        go_roundg (8 - 1 - j)
        case measure => omega
        case rel => exact ⟨j + 1, by omega, by omega, by go_num, hB, Bx, Br, Bs⟩
      · have HF2 := Lib.hid (show F (j + 1) = t by rw [HF1.out]; unfold PlainAbs.clr; rw [if_pos (by rw [← HK.out]; simpa using hq)])
        go_wp2_with fail
        go_roundg (8 - 1 - j)
        case measure => omega
        case rel => exact ⟨j + 1, by omega, by omega, by go_num, hB, Bx, Br, by rw [HF2.out]; exact Bs⟩
set_option maxRecDepth 100000 in
set_option maxHeartbeats 1600000 in
theorem save_y4 (s : St) (z : Int) (f k : Nat) (hfm : f + 8 ≤ 64) (hk : k < 8) (hf : f = 8 * k) (x : Rg) (h0 : (x.kind == 0) = false) (h1 : (x.kind == 1) = false) (k_f : ∀ w : World, Calls Try.prog 61 #[.int .i64 z, .int .i64 8] w fun e w' => e = .returned (.tuple #[.int .i64 (f : Int), .bool true]) ∧ w = w') (w : World) : Calls Try.prog 48 #[.agg (stv s), .int .i64 z, .int .i64 8, gv x] w fun e w' => e = .returned (.tuple #[.agg (stv { (PlainAbs.mark (PlainAbs.clrN s f 8) f false 8) with kept := upd (PlainAbs.mark (PlainAbs.clrN s f 8) f false 8).kept k x }), .bool true]) ∧ Below w.heap.size w w' := by
  have k_z := sized_c 8
  have hf0 : ((f : Int) % 8 == 0) = true := by simp; omega
  have hf1 : (f : Int) / 8 = (k : Int) := by omega
  clear hf
  have h1n : (x.kind != 1) = true := by unfold bne; rw [h1]; rfl
  obtain ⟨F, e_F⟩ : ∃ z', z' = PlainAbs.clrN s f := ⟨_, rfl⟩; obtain ⟨G, e_G⟩ : ∃ z', z' = PlainAbs.mark (PlainAbs.clrN s f 8) f false := ⟨_, rfl⟩
  have hF0 : F 0 = s := by rw [e_F]; rfl
  have hF : ∀ j, F (j + 1) = PlainAbs.clr (F j) ((f + j) / 8) := fun j => by rw [e_F]; rfl
  have hG0 : G 0 = F 8 := by rw [e_G, e_F]; rfl
  have hG : ∀ j, G (j + 1) = { G j with what := upd (G j).what (f + j) false } := fun j => by rw [e_G]; rfl
  rw [← e_G]; clear e_F e_G
  have HF0 := Lib.hid hF0; clear hF0
  have HF := Lib.hid hF; clear hF
  have HG0 := Lib.hid hG0; clear hG0
  have HG := Lib.hid hG; clear hG
  have hsum : wrap64 ((f : Int) + (8 : Int)) = ((f + 8 : Nat) : Int) := by rw [IntWalk.wrap64_in _ (by constructor <;> omega)]; simp
  have hzs := zero_st
  go_enter Try.func48, Try.ntmps48
  go_wp2_with fail
  obtain ⟨gs, hgs⟩ : ∃ g, g = w.heap.size := ⟨_, rfl⟩
  obtain ⟨gx, hgx⟩ : ∃ g, g = w.heap.size + 1 := ⟨_, rfl⟩
  obtain ⟨gr, hgr⟩ : ∃ g, g = w.heap.size + 1 + 1 := ⟨_, rfl⟩
  have Bs : Blk (((w.alloc (.cells (stv s) 69)).alloc (.cells #[.int .i64 x.kind, uv x.r.b.v, uv x.r.b.m, uv x.r.lo, uv x.r.hi, sv x.r.sl, sv x.r.sh, .int .i64 x.slot, .int .i64 x.id, .int .i64 x.low, .int .i64 x.high] 64)).alloc (.cells (stv zs) 69)) (w.heap.size) 69 (stv s) := (((Blk.new w 69 (stv s))).alloc _).alloc _
  have Bx : Blk (((w.alloc (.cells (stv s) 69)).alloc (.cells #[.int .i64 x.kind, uv x.r.b.v, uv x.r.b.m, uv x.r.lo, uv x.r.hi, sv x.r.sl, sv x.r.sh, .int .i64 x.slot, .int .i64 x.id, .int .i64 x.low, .int .i64 x.high] 64)).alloc (.cells (stv zs) 69)) (w.heap.size + 1) 64 #[.int .i64 x.kind, uv x.r.b.v, uv x.r.b.m, uv x.r.lo, uv x.r.hi, sv x.r.sl, sv x.r.sh, .int .i64 x.slot, .int .i64 x.id, .int .i64 x.low, .int .i64 x.high] := ((by simpa using Blk.new (w.alloc (.cells (stv s) 69)) 64 #[.int .i64 x.kind, uv x.r.b.v, uv x.r.b.m, uv x.r.lo, uv x.r.hi, sv x.r.sl, sv x.r.sh, .int .i64 x.slot, .int .i64 x.id, .int .i64 x.low, .int .i64 x.high] : Blk _ (w.heap.size + 1) 64 #[.int .i64 x.kind, uv x.r.b.v, uv x.r.b.m, uv x.r.lo, uv x.r.hi, sv x.r.sl, sv x.r.sh, .int .i64 x.slot, .int .i64 x.id, .int .i64 x.low, .int .i64 x.high])).alloc _
  have Br : Blk (((w.alloc (.cells (stv s) 69)).alloc (.cells #[.int .i64 x.kind, uv x.r.b.v, uv x.r.b.m, uv x.r.lo, uv x.r.hi, sv x.r.sl, sv x.r.sh, .int .i64 x.slot, .int .i64 x.id, .int .i64 x.low, .int .i64 x.high] 64)).alloc (.cells (stv zs) 69)) (w.heap.size + 1 + 1) 69 (stv zs) := (by simpa using Blk.new ((w.alloc (.cells (stv s) 69)).alloc (.cells #[.int .i64 x.kind, uv x.r.b.v, uv x.r.b.m, uv x.r.lo, uv x.r.hi, sv x.r.sl, sv x.r.sh, .int .i64 x.slot, .int .i64 x.id, .int .i64 x.low, .int .i64 x.high] 64)) 69 (stv zs) : Blk _ (w.heap.size + 1 + 1) 69 (stv zs))
  have hB : Below w.heap.size w (((w.alloc (.cells (stv s) 69)).alloc (.cells #[.int .i64 x.kind, uv x.r.b.v, uv x.r.b.m, uv x.r.lo, uv x.r.hi, sv x.r.sl, sv x.r.sh, .int .i64 x.slot, .int .i64 x.id, .int .i64 x.low, .int .i64 x.high] 64)).alloc (.cells (stv zs) 69)) := (Bl_alloc (Bl_alloc (Bl_alloc (Bl_refl w) _) _) _)
  clear hgs
  clear gs
  clear hgx
  clear gx
  clear hgr
  clear gr
  generalize (((w.alloc (.cells (stv s) 69)).alloc (.cells #[.int .i64 x.kind, uv x.r.b.v, uv x.r.b.m, uv x.r.lo, uv x.r.hi, sv x.r.sl, sv x.r.sh, .int .i64 x.slot, .int .i64 x.id, .int .i64 x.low, .int .i64 x.high] 64)).alloc (.cells (stv zs) 69)) = w1 at *
  have fs := Bs.frozen; have ls := Bs.lt
  have cx0 : w1.cell? ⟨w.heap.size + 1, 0, none⟩ = some (.int .i64 x.kind) := Bx.cell 0
  have cx1 : w1.cell? ⟨w.heap.size + 1, 1, none⟩ = some (uv x.r.b.v) := Bx.cell 1
  have cx2 : w1.cell? ⟨w.heap.size + 1, 2, none⟩ = some (uv x.r.b.m) := Bx.cell 2
  have cx3 : w1.cell? ⟨w.heap.size + 1, 3, none⟩ = some (uv x.r.lo) := Bx.cell 3
  have cx4 : w1.cell? ⟨w.heap.size + 1, 4, none⟩ = some (uv x.r.hi) := Bx.cell 4
  have cx5 : w1.cell? ⟨w.heap.size + 1, 5, none⟩ = some (sv x.r.sl) := Bx.cell 5
  have cx6 : w1.cell? ⟨w.heap.size + 1, 6, none⟩ = some (sv x.r.sh) := Bx.cell 6
  have cx7 : w1.cell? ⟨w.heap.size + 1, 7, none⟩ = some (.int .i64 x.slot) := Bx.cell 7
  have cx8 : w1.cell? ⟨w.heap.size + 1, 8, none⟩ = some (.int .i64 x.id) := Bx.cell 8
  have cx9 : w1.cell? ⟨w.heap.size + 1, 9, none⟩ = some (.int .i64 x.low) := Bx.cell 9
  have cx10 : w1.cell? ⟨w.heap.size + 1, 10, none⟩ = some (.int .i64 x.high) := Bx.cell 10
  have fx := Bx.frozen; have lx := Bx.lt
  have fr := Br.frozen; have lr := Br.lt
  clear hzs
  go_wp2_with fail
  refine (k_f _).mono ?_
  rintro e w' ⟨rfl, rfl⟩
  go_wp2_with fail
  refine (k_z _).mono ?_
  rintro e w' ⟨rfl, rfl⟩
  go_upto_region 5 with fail
  go_wp2_with fail
  clear  fs ls
  clear cx0 cx1 cx2 cx3 cx4 cx5 cx6 cx7 cx8 cx9 cx10 fx lx
  clear  fr lr
  go_loopg [13] 8 (fun m' i wr => ∃ j : Nat, j ≤ 8 ∧ m' + j = 8 ∧ i = .int .i64 ((f + j : Nat) : Int) ∧ Below w.heap.size w wr ∧ Blk wr (w.heap.size + 1) 64 #[.int .i64 x.kind, uv x.r.b.v, uv x.r.b.m, uv x.r.lo, uv x.r.hi, sv x.r.sl, sv x.r.sh, .int .i64 x.slot, .int .i64 x.id, .int .i64 x.low, .int .i64 x.high] ∧ Blk wr (w.heap.size + 1 + 1) 69 (stv zs) ∧ Blk wr (w.heap.size) 69 (stv (F j)))
  case atStart => exact ⟨0, by omega, by omega, by go_num, hB, Bx, Br, by rw [HF0.out]; exact Bs⟩
  case round =>
    clear hB Bx Br Bs
    obtain ⟨j, hj, hgk, rfl, hB, Bx, Br, Bs⟩ := hrel
    obtain ⟨wo, rfl⟩ : ∃ z : World, z = wr := ⟨_, rfl⟩
    have fs := Bs.frozen; have ls := Bs.lt
    have cx0 : wo.cell? ⟨w.heap.size + 1, 0, none⟩ = some (.int .i64 x.kind) := Bx.cell 0
    have cx1 : wo.cell? ⟨w.heap.size + 1, 1, none⟩ = some (uv x.r.b.v) := Bx.cell 1
    have cx2 : wo.cell? ⟨w.heap.size + 1, 2, none⟩ = some (uv x.r.b.m) := Bx.cell 2
    have cx3 : wo.cell? ⟨w.heap.size + 1, 3, none⟩ = some (uv x.r.lo) := Bx.cell 3
    have cx4 : wo.cell? ⟨w.heap.size + 1, 4, none⟩ = some (uv x.r.hi) := Bx.cell 4
    have cx5 : wo.cell? ⟨w.heap.size + 1, 5, none⟩ = some (sv x.r.sl) := Bx.cell 5
    have cx6 : wo.cell? ⟨w.heap.size + 1, 6, none⟩ = some (sv x.r.sh) := Bx.cell 6
    have cx7 : wo.cell? ⟨w.heap.size + 1, 7, none⟩ = some (.int .i64 x.slot) := Bx.cell 7
    have cx8 : wo.cell? ⟨w.heap.size + 1, 8, none⟩ = some (.int .i64 x.id) := Bx.cell 8
    have cx9 : wo.cell? ⟨w.heap.size + 1, 9, none⟩ = some (.int .i64 x.low) := Bx.cell 9
    have cx10 : wo.cell? ⟨w.heap.size + 1, 10, none⟩ = some (.int .i64 x.high) := Bx.cell 10
    have fx := Bx.frozen; have lx := Bx.lt
    have fr := Br.frozen; have lr := Br.lt
    cases q : decide (j < 8)
    · have hjM : j = 8 := by have := of_decide_eq_false q; omega
      have h3 : ¬ j < 8 := of_decide_eq_false q
      have h2 : ¬ f + j < f + 8 := by omega
      have BsG : Blk wo (w.heap.size) 69 (stv (G 0)) := by rw [HG0.out, ← hjM]; exact Bs
      clear Bs hgk hj hjM; have Bs := BsG; clear BsG
      go_upto_region 12 with fail
      clear h2 h3 q
      go_wp2_with fail
      clear  fs ls
      clear cx0 cx1 cx2 cx3 cx4 cx5 cx6 cx7 cx8 cx9 cx10 fx lx
      clear  fr lr
      go_loopg [15] 8 (fun m' i wr => ∃ j : Nat, j ≤ 8 ∧ m' + j = 8 ∧ i = .int .i64 ((f + j : Nat) : Int) ∧ Below w.heap.size w wr ∧ Blk wr (w.heap.size + 1) 64 #[.int .i64 x.kind, uv x.r.b.v, uv x.r.b.m, uv x.r.lo, uv x.r.hi, sv x.r.sl, sv x.r.sh, .int .i64 x.slot, .int .i64 x.id, .int .i64 x.low, .int .i64 x.high] ∧ Blk wr (w.heap.size + 1 + 1) 69 (stv zs) ∧ Blk wr (w.heap.size) 69 (stv (G j)))
      case atStart => exact ⟨0, by omega, by omega, by go_num, hB, Bx, Br, Bs⟩
      case round =>
        clear hB Bx Br Bs
        obtain ⟨j, hj, hgk, rfl, hB, Bx, Br, Bs⟩ := hrel
        obtain ⟨wp, rfl⟩ : ∃ z : World, z = wr := ⟨_, rfl⟩
        have fs := Bs.frozen; have ls := Bs.lt
        have cx0 : wp.cell? ⟨w.heap.size + 1, 0, none⟩ = some (.int .i64 x.kind) := Bx.cell 0
        have cx1 : wp.cell? ⟨w.heap.size + 1, 1, none⟩ = some (uv x.r.b.v) := Bx.cell 1
        have cx2 : wp.cell? ⟨w.heap.size + 1, 2, none⟩ = some (uv x.r.b.m) := Bx.cell 2
        have cx3 : wp.cell? ⟨w.heap.size + 1, 3, none⟩ = some (uv x.r.lo) := Bx.cell 3
        have cx4 : wp.cell? ⟨w.heap.size + 1, 4, none⟩ = some (uv x.r.hi) := Bx.cell 4
        have cx5 : wp.cell? ⟨w.heap.size + 1, 5, none⟩ = some (sv x.r.sl) := Bx.cell 5
        have cx6 : wp.cell? ⟨w.heap.size + 1, 6, none⟩ = some (sv x.r.sh) := Bx.cell 6
        have cx7 : wp.cell? ⟨w.heap.size + 1, 7, none⟩ = some (.int .i64 x.slot) := Bx.cell 7
        have cx8 : wp.cell? ⟨w.heap.size + 1, 8, none⟩ = some (.int .i64 x.id) := Bx.cell 8
        have cx9 : wp.cell? ⟨w.heap.size + 1, 9, none⟩ = some (.int .i64 x.low) := Bx.cell 9
        have cx10 : wp.cell? ⟨w.heap.size + 1, 10, none⟩ = some (.int .i64 x.high) := Bx.cell 10
        have fx := Bx.frozen; have lx := Bx.lt
        have fr := Br.frozen; have lr := Br.lt
        cases q : decide (j < 8)
        · have hjM : j = 8 := by have := of_decide_eq_false q; omega
          have h3 : ¬ j < 8 := of_decide_eq_false q
          have h2 : ¬ f + j < f + 8 := by omega
          have BsG : Blk wp (w.heap.size) 69 (stv (G 8)) := by rw [← hjM]; exact Bs
          clear Bs hgk hj hjM; have Bs := BsG; clear BsG
          obtain ⟨t, e_t⟩ : ∃ t, t = G 8 := ⟨_, rfl⟩; rw [← e_t] at Bs; have Ht := Lib.hid e_t; clear e_t
          go_upto_region 17 with fail
          go_wp2_with (refine wpList_store_part rfl 64 (.tmp 99) (.tmp 97) rfl (w.heap.size) (185 + k * 11) _ rfl rfl 69 (stv t) Bs (by kernel_rfl) (by rw [stv_size]; simp; try omega) (gl_one x) ?_)
          intro w2 hS
          clear  fs ls
          clear cx0 cx1 cx2 cx3 cx4 cx5 cx6 cx7 cx8 cx9 cx10 fx lx
          clear  fr lr
          replace Bs : Blk w2 (w.heap.size) 69 (stv { t with kept := upd t.kept k x }) := by rw [← set_kept t hk x]; exact hS.blk
          replace Bx := hS.far (by first | (simp; done) | (simp; omega) | (simp [*]; done) | (simp only [ne_eq]; constructor <;> omega)) Bx
          replace Br := hS.far (by first | (simp; done) | (simp; omega) | (simp [*]; done) | (simp only [ne_eq]; constructor <;> omega)) Br
          replace hB := hS.bel hB (by first | omega | (simp; omega))
          clear hS
          have fs := Bs.frozen; have ls := Bs.lt
          have cx0 : w2.cell? ⟨w.heap.size + 1, 0, none⟩ = some (.int .i64 x.kind) := Bx.cell 0
          have cx1 : w2.cell? ⟨w.heap.size + 1, 1, none⟩ = some (uv x.r.b.v) := Bx.cell 1
          have cx2 : w2.cell? ⟨w.heap.size + 1, 2, none⟩ = some (uv x.r.b.m) := Bx.cell 2
          have cx3 : w2.cell? ⟨w.heap.size + 1, 3, none⟩ = some (uv x.r.lo) := Bx.cell 3
          have cx4 : w2.cell? ⟨w.heap.size + 1, 4, none⟩ = some (uv x.r.hi) := Bx.cell 4
          have cx5 : w2.cell? ⟨w.heap.size + 1, 5, none⟩ = some (sv x.r.sl) := Bx.cell 5
          have cx6 : w2.cell? ⟨w.heap.size + 1, 6, none⟩ = some (sv x.r.sh) := Bx.cell 6
          have cx7 : w2.cell? ⟨w.heap.size + 1, 7, none⟩ = some (.int .i64 x.slot) := Bx.cell 7
          have cx8 : w2.cell? ⟨w.heap.size + 1, 8, none⟩ = some (.int .i64 x.id) := Bx.cell 8
          have cx9 : w2.cell? ⟨w.heap.size + 1, 9, none⟩ = some (.int .i64 x.low) := Bx.cell 9
          have cx10 : w2.cell? ⟨w.heap.size + 1, 10, none⟩ = some (.int .i64 x.high) := Bx.cell 10
          have fx := Bx.frozen; have lx := Bx.lt
          have fr := Br.frozen; have lr := Br.lt
          go_upto_region 18 with fail
          clear h2 h3 q
          go_wp2_with (first | (refine wpList_load_whole rfl 69 (.tmp 4) rfl (w.heap.size) rfl 69 (stv { t with kept := upd t.kept k x }) _ Bs Try.underlying69 rfl (size_st { t with kept := upd t.kept k x }) ?_) | (refine wpList_store_whole rfl 69 (.tmp 8) (.tmp 100) rfl (w.heap.size + 1 + 1) (stv { t with kept := upd t.kept k x }) rfl rfl 69 (stv zs) Br (size_st { t with kept := upd t.kept k x }) (by rw [stv_size, stv_size]) (stv_one { t with kept := upd t.kept k x }) ?_))
          intro w3 hS
          clear  fs ls
          clear cx0 cx1 cx2 cx3 cx4 cx5 cx6 cx7 cx8 cx9 cx10 fx lx
          clear  fr lr
          replace Bs := hS.far (by first | (simp; done) | (simp; omega) | (simp [*]; done) | (simp only [ne_eq]; constructor <;> omega)) Bs
          replace Bx := hS.far (by first | (simp; done) | (simp; omega) | (simp [*]; done) | (simp only [ne_eq]; constructor <;> omega)) Bx
          replace Br : Blk w3 (w.heap.size + 1 + 1) 69 (stv { t with kept := upd t.kept k x }) := hS.blk
          replace hB := hS.bel hB (by first | omega | (simp; omega))
          clear hS
          have fs := Bs.frozen; have ls := Bs.lt
          have cx0 : w3.cell? ⟨w.heap.size + 1, 0, none⟩ = some (.int .i64 x.kind) := Bx.cell 0
          have cx1 : w3.cell? ⟨w.heap.size + 1, 1, none⟩ = some (uv x.r.b.v) := Bx.cell 1
          have cx2 : w3.cell? ⟨w.heap.size + 1, 2, none⟩ = some (uv x.r.b.m) := Bx.cell 2
          have cx3 : w3.cell? ⟨w.heap.size + 1, 3, none⟩ = some (uv x.r.lo) := Bx.cell 3
          have cx4 : w3.cell? ⟨w.heap.size + 1, 4, none⟩ = some (uv x.r.hi) := Bx.cell 4
          have cx5 : w3.cell? ⟨w.heap.size + 1, 5, none⟩ = some (sv x.r.sl) := Bx.cell 5
          have cx6 : w3.cell? ⟨w.heap.size + 1, 6, none⟩ = some (sv x.r.sh) := Bx.cell 6
          have cx7 : w3.cell? ⟨w.heap.size + 1, 7, none⟩ = some (.int .i64 x.slot) := Bx.cell 7
          have cx8 : w3.cell? ⟨w.heap.size + 1, 8, none⟩ = some (.int .i64 x.id) := Bx.cell 8
          have cx9 : w3.cell? ⟨w.heap.size + 1, 9, none⟩ = some (.int .i64 x.low) := Bx.cell 9
          have cx10 : w3.cell? ⟨w.heap.size + 1, 10, none⟩ = some (.int .i64 x.high) := Bx.cell 10
          have fx := Bx.frozen; have lx := Bx.lt
          have fr := Br.frozen; have lr := Br.lt
          go_wp2_with fail
          exact bodyPost_ret (v := .tuple #[.agg (stv { t with kept := upd t.kept k x }), .bool true]) (results_row_tmp Try.results48 _ _ (w.heap.size + 1 + 1) 69 (stv { t with kept := upd t.kept k x }) _ rfl Br Try.underlying69 rfl (size_st _)) rfl ⟨by rw [Ht.out], hB⟩
        · have hjm : j < 8 := of_decide_eq_true q
          have h2 : f + j < f + 8 := by omega
          have h64 : ((f + j : Nat) : Int) < 64 := by omega
          have h64n : f + j < 64 := by omega
          have cw : wp.cell? ⟨w.heap.size, 121 + (f + j), none⟩ = some (.bool ((G j).what (f + j))) := by rw [Bs.cell, stv_get _ (by omega), what_at _ h64n]
          go_upto_region 14 with fail
          clear cw
          clear  fs ls
          clear cx0 cx1 cx2 cx3 cx4 cx5 cx6 cx7 cx8 cx9 cx10 fx lx
          clear  fr lr
          replace Bs : Blk (wp.setCell ⟨w.heap.size, 121 + (f + j), none⟩ (.bool false)) (w.heap.size) 69 (stv (G (j + 1))) := by rw [HG.out j, ← set_what (G j) h64n false]; exact Bs.set_ (121 + (f + j)) _
          replace Bx : Blk (wp.setCell ⟨w.heap.size, 121 + (f + j), none⟩ (.bool false)) (w.heap.size + 1) 64 #[.int .i64 x.kind, uv x.r.b.v, uv x.r.b.m, uv x.r.lo, uv x.r.hi, sv x.r.sl, sv x.r.sh, .int .i64 x.slot, .int .i64 x.id, .int .i64 x.low, .int .i64 x.high] := Bx.far (by first | (simp; done) | (simp; omega) | (simp [*]; done) | (simp only [ne_eq]; constructor <;> omega)) _
          replace Br : Blk (wp.setCell ⟨w.heap.size, 121 + (f + j), none⟩ (.bool false)) (w.heap.size + 1 + 1) 69 (stv zs) := Br.far (by first | (simp; done) | (simp; omega) | (simp [*]; done) | (simp only [ne_eq]; constructor <;> omega)) _
          replace hB : Below w.heap.size w (wp.setCell ⟨w.heap.size, 121 + (f + j), none⟩ (.bool false)) := Bl_set hB (by first | omega | (simp; done) | (simp; omega)) _
          generalize (wp.setCell ⟨w.heap.size, 121 + (f + j), none⟩ (.bool false)) = w9 at *
          go_wp2_with fail
          go_roundg (8 - 1 - j)
          case measure => omega
          case rel => exact ⟨j + 1, by omega, by omega, by go_num, hB, Bx, Br, Bs⟩
    · have hjm : j < 8 := of_decide_eq_true q
      have h2 : f + j < f + 8 := by omega
      obtain ⟨kk, hkk⟩ : ∃ kk, kk = (f + j) / 8 := ⟨_, rfl⟩
      have hk8 : kk < 8 := by omega
      have hdv : ((f : Int) + (j : Int)) / 8 = (kk : Int) := by omega
      obtain ⟨t, e_t⟩ : ∃ t, t = F j := ⟨_, rfl⟩
      have hF1 : F (j + 1) = PlainAbs.clr t kk := by rw [HF.out j, ← e_t, ← hkk]
      rw [← e_t] at Bs; clear e_t hkk
      have ck : wo.cell? ⟨w.heap.size, 185 + kk * 11, none⟩ = some (.int .i64 (t.kept kk).kind) := by have h := Bs.cell (185 + kk * 11 + 0); rw [stv_get t (by omega), kept_at t hk8 (by omega)] at h; exact h
      have HF1 := Lib.hid hF1; clear hF1
      obtain ⟨K, e_K⟩ : ∃ K, K = (t.kept kk).kind := ⟨_, rfl⟩; rw [← e_K] at ck; have HK := Lib.hid e_K; clear e_K
      cases hq : (K == 0)
      · have HF2 := Lib.hid (show F (j + 1) = { t with kept := upd t.kept kk zr, what := fun i => if i / 8 = kk then false else t.what i } by rw [HF1.out]; unfold PlainAbs.clr; rw [if_neg (by rw [← HK.out]; simpa using hq)])
        go_upto_region 10 with fail
        clear ck
        go_wp2_with (refine wpList_store_part rfl 64 (.tmp 70) (.tmp 68) rfl (w.heap.size) (185 + kk * 11) _ rfl rfl 69 (stv t) Bs (by kernel_rfl) (by rw [stv_size]; simp; try omega) (gl_one zr) ?_)
        intro w2 hS
        clear  fs ls
        clear cx0 cx1 cx2 cx3 cx4 cx5 cx6 cx7 cx8 cx9 cx10 fx lx
        clear  fr lr
        replace Bs : Blk w2 (w.heap.size) 69 (stv { t with kept := upd t.kept kk zr }) := by rw [← set_kept t hk8 zr]; exact hS.blk
        replace Bx := hS.far (by first | (simp; done) | (simp; omega) | (simp [*]; done) | (simp only [ne_eq]; constructor <;> omega)) Bx
        replace Br := hS.far (by first | (simp; done) | (simp; omega) | (simp [*]; done) | (simp only [ne_eq]; constructor <;> omega)) Br
        replace hB := hS.bel hB (by first | omega | (simp; omega))
        clear hS
        have fs := Bs.frozen; have ls := Bs.lt
        have cx0 : w2.cell? ⟨w.heap.size + 1, 0, none⟩ = some (.int .i64 x.kind) := Bx.cell 0
        have cx1 : w2.cell? ⟨w.heap.size + 1, 1, none⟩ = some (uv x.r.b.v) := Bx.cell 1
        have cx2 : w2.cell? ⟨w.heap.size + 1, 2, none⟩ = some (uv x.r.b.m) := Bx.cell 2
        have cx3 : w2.cell? ⟨w.heap.size + 1, 3, none⟩ = some (uv x.r.lo) := Bx.cell 3
        have cx4 : w2.cell? ⟨w.heap.size + 1, 4, none⟩ = some (uv x.r.hi) := Bx.cell 4
        have cx5 : w2.cell? ⟨w.heap.size + 1, 5, none⟩ = some (sv x.r.sl) := Bx.cell 5
        have cx6 : w2.cell? ⟨w.heap.size + 1, 6, none⟩ = some (sv x.r.sh) := Bx.cell 6
        have cx7 : w2.cell? ⟨w.heap.size + 1, 7, none⟩ = some (.int .i64 x.slot) := Bx.cell 7
        have cx8 : w2.cell? ⟨w.heap.size + 1, 8, none⟩ = some (.int .i64 x.id) := Bx.cell 8
        have cx9 : w2.cell? ⟨w.heap.size + 1, 9, none⟩ = some (.int .i64 x.low) := Bx.cell 9
        have cx10 : w2.cell? ⟨w.heap.size + 1, 10, none⟩ = some (.int .i64 x.high) := Bx.cell 10
        have fx := Bx.frozen; have lx := Bx.lt
        have fr := Br.frozen; have lr := Br.lt
        go_upto_region 11 with fail
        have hsl := slice_what (w.heap.size) kk hk8
        go_wp2_with (refine wpList_clear_part rfl (.tmp 77) 100 4 rfl Try.underlying100 (w.heap.size) (121 + kk * 8) 8 (64 - kk * 8) rfl (by omega) (.bool false) zero_bool rfl rfl 69 (stv _) Bs (by rw [stv_size]; omega) ?_)
        clear hsl
        intro w3 hS
        clear  fs ls
        clear cx0 cx1 cx2 cx3 cx4 cx5 cx6 cx7 cx8 cx9 cx10 fx lx
        clear  fr lr
        replace Bs : Blk w3 (w.heap.size) 69 (stv (F (j + 1))) := by rw [HF2.out]; rw [← set_clear { t with kept := upd t.kept kk zr } hk8]; exact hS.blk
        replace Bx := hS.far (by first | (simp; done) | (simp; omega) | (simp [*]; done) | (simp only [ne_eq]; constructor <;> omega)) Bx
        replace Br := hS.far (by first | (simp; done) | (simp; omega) | (simp [*]; done) | (simp only [ne_eq]; constructor <;> omega)) Br
        replace hB := hS.bel hB (by first | omega | (simp; omega))
        clear hS
        have fs := Bs.frozen; have ls := Bs.lt
        have cx0 : w3.cell? ⟨w.heap.size + 1, 0, none⟩ = some (.int .i64 x.kind) := Bx.cell 0
        have cx1 : w3.cell? ⟨w.heap.size + 1, 1, none⟩ = some (uv x.r.b.v) := Bx.cell 1
        have cx2 : w3.cell? ⟨w.heap.size + 1, 2, none⟩ = some (uv x.r.b.m) := Bx.cell 2
        have cx3 : w3.cell? ⟨w.heap.size + 1, 3, none⟩ = some (uv x.r.lo) := Bx.cell 3
        have cx4 : w3.cell? ⟨w.heap.size + 1, 4, none⟩ = some (uv x.r.hi) := Bx.cell 4
        have cx5 : w3.cell? ⟨w.heap.size + 1, 5, none⟩ = some (sv x.r.sl) := Bx.cell 5
        have cx6 : w3.cell? ⟨w.heap.size + 1, 6, none⟩ = some (sv x.r.sh) := Bx.cell 6
        have cx7 : w3.cell? ⟨w.heap.size + 1, 7, none⟩ = some (.int .i64 x.slot) := Bx.cell 7
        have cx8 : w3.cell? ⟨w.heap.size + 1, 8, none⟩ = some (.int .i64 x.id) := Bx.cell 8
        have cx9 : w3.cell? ⟨w.heap.size + 1, 9, none⟩ = some (.int .i64 x.low) := Bx.cell 9
        have cx10 : w3.cell? ⟨w.heap.size + 1, 10, none⟩ = some (.int .i64 x.high) := Bx.cell 10
        have fx := Bx.frozen; have lx := Bx.lt
        have fr := Br.frozen; have lr := Br.lt
        go_wp2_with fail
        go_roundg (8 - 1 - j)
        case measure => omega
        case rel => exact ⟨j + 1, by omega, by omega, by go_num, hB, Bx, Br, Bs⟩
      · have HF2 := Lib.hid (show F (j + 1) = t by rw [HF1.out]; unfold PlainAbs.clr; rw [if_pos (by rw [← HK.out]; simpa using hq)])
        go_wp2_with fail
        go_roundg (8 - 1 - j)
        case measure => omega
        case rel => exact ⟨j + 1, by omega, by omega, by go_num, hB, Bx, Br, by rw [HF2.out]; exact Bs⟩
theorem save_c (s : St) (z n : Int) (x : Rg) (w : World) : Calls Try.prog 48 #[.agg (stv s), .int .i64 z, .int .i64 n, gv x] w fun e w' => e = .returned (.tuple #[.agg (stv (PlainAbs.save s z n x).1), .bool (PlainAbs.save s z n x).2]) ∧ Below w.heap.size w w' := by
  have k_f := first_c z n
  have hno : PlainAbs.saveOk z n x = false → PlainAbs.save s z n x = (s, false) := fun h => by unfold PlainAbs.save; rw [h]; rfl
  cases hz : PlainAbs.sized n
  · rw [hno (by unfold PlainAbs.saveOk; rw [hz]; rfl)]
    exact save_unsized s z n _ _ hz (by
      cases h : (n == 8) with
      | false => rfl
      | true => have e : n = 8 := by simpa using h
                subst e; exact absurd hz (by decide)) x k_f w
  cases hok : PlainAbs.firstOk z n
  · rw [hno (by unfold PlainAbs.saveOk; rw [hz, hok]; rfl)]
    rw [hok, show PlainAbs.firstF z n = 0 by unfold PlainAbs.firstF; rw [hok]; rfl] at k_f
    cases h : (n == 8)
    · exact save_b1 s z n hz h x k_f w
    · obtain rfl : n = 8 := by simpa using h
      exact save_b2 s z x k_f w
  obtain ⟨f, m, e1, rfl, h3, h4⟩ := PlainAbs.first_nat hok
  have hzf : (z + 64).toNat = f := by omega
  have hmm : ((m : Int)).toNat = m := by omega
  rw [hok, h4] at k_f
  have hso : PlainAbs.saveOk z (m : Int) x = (decide (x.kind ≠ 0) && (decide (x.kind = 1) || (decide ((m : Int) = 8) && decide ((f : Int) % 8 = 0)))) := by
    unfold PlainAbs.saveOk; rw [hz, hok, e1]; rfl
  cases h0 : (x.kind == 0)
  · have g0 : x.kind ≠ 0 := by simpa using h0
    cases h1 : (x.kind == 1)
    · have g1 : ¬ x.kind = 1 := by simpa using h1
      by_cases hm : m = 8
      · subst hm
        by_cases h8 : f % 8 = 0
        · obtain ⟨k, hf⟩ : ∃ k, f = 8 * k := ⟨f / 8, by omega⟩
          have hs : PlainAbs.save s z ((8 : Nat) : Int) x = ({ PlainAbs.mark (PlainAbs.clrN s f 8) f false 8 with kept := upd (PlainAbs.mark (PlainAbs.clrN s f 8) f false 8).kept k x }, true) := by
            unfold PlainAbs.save; rw [hso, if_pos (by simp [g0]; omega)]
            unfold PlainAbs.saved; simp only []; rw [if_neg g1, hzf, show f / 8 = k by omega, show decide (x.kind = 1) = false by simpa using g1]; rfl
          rw [hs]; exact save_y4 s z f k h3 (by omega) hf x h0 h1 k_f w
        · rw [hno (by rw [hso]; simp [g1]; omega)]
          exact save_d2 s z f h8 x h0 h1 k_f w
      · rw [hno (by rw [hso]; simp [g1]; omega)]
        exact save_d1 s z f m hm hz x h0 h1 k_f w
    · have g1 : x.kind = 1 := by simpa using h1
      have hs : PlainAbs.save s z (m : Int) x = (PlainAbs.mark (PlainAbs.clrN s f m) f true m, true) := by
        unfold PlainAbs.save; rw [hso, if_pos (by simp [g0, g1])]
        unfold PlainAbs.saved; simp only []; rw [if_pos g1, hzf, hmm, show decide (x.kind = 1) = true by simpa using g1]
      rw [hs]
      by_cases hm : m = 8
      · subst hm
        by_cases h8 : f % 8 = 0
        · obtain ⟨k, hf⟩ : ∃ k, f = 8 * k := ⟨f / 8, by omega⟩
          exact save_y3 s z f k h3 (by omega) hf x h0 h1 k_f w
        · exact save_y2 s z f h3 h8 x h0 h1 k_f w
      · exact save_y1 s z f m h3 hm hz x h0 h1 k_f w
  · have g0 : x.kind = 0 := by simpa using h0
    have h1 : (x.kind == 1) = false := by rw [g0]; rfl
    rw [hno (by rw [hso]; simp [g0])]
    by_cases hm : m = 8
    · subst hm
      by_cases h8 : f % 8 = 0
      · obtain ⟨k, hf⟩ : ∃ k, f = 8 * k := ⟨f / 8, by omega⟩
        exact save_c3 s z f k (by omega) hf x h0 h1 k_f w
      · exact save_c2 s z f h8 x h0 h1 k_f w
    · exact save_c1 s z f m hm hz x h0 h1 k_f w
end Go.Proofs.Ytmghpoagpiljhaa
