/- The walks of package absreg: first, sized, Start. -/
import Derived.Test.YtmghpoagpiljhaaAbs
set_option linter.unusedSimpArgs false
namespace Go.Proofs.Ytmghpoagpiljhaa
open Go.RowKit
open PlainTnum (N)
open PlainScalar (Rng)
open PlainAbs (Rg St zr zs upd)
set_option maxHeartbeats 800000 in
theorem first_c (z n : Int) (w : World) : Calls Try.prog 61 #[.int .i64 z, .int .i64 n] w fun e w' => e = .returned (.tuple #[.int .i64 (PlainAbs.firstF z n), .bool (PlainAbs.firstOk z n)]) ∧ w = w' := by
  cases h1 : decide (z < -64)
  · have g1 : ¬ z < -64 := of_decide_eq_false h1
    cases h2 : decide (0 < z)
    · have g2 : ¬ 0 < z := of_decide_eq_false h2
      have hw : IntKind.i64.wrap (-z) = -z := IntWalk.i64_in _ (by constructor <;> omega)
      have hw' : wrap64 (-z) = -z := IntWalk.wrap64_in _ (by constructor <;> omega)
      have hs : IntKind.i64.wrap (z + 64) = z + 64 := IntWalk.i64_in _ (by constructor <;> omega)
      have hs' : wrap64 (z + 64) = z + 64 := IntWalk.wrap64_in _ (by constructor <;> omega)
      cases h3 : decide (n < 0)
      · have g3 : ¬ n < 0 := of_decide_eq_false h3
        cases h4 : decide (-z < n)
        · have g4 : ¬ -z < n := of_decide_eq_false h4
          have hok : PlainAbs.firstOk z n = true := by unfold PlainAbs.firstOk; simp; omega
          have hf : PlainAbs.firstF z n = z + 64 := by unfold PlainAbs.firstF; rw [if_pos hok]
          rw [hok, hf]; clear hok hf
          go_enter Try.func61, Try.ntmps61
          go_wp2
          go_ret2
          exact ⟨by simp, rfl⟩
        · have g4 : -z < n := of_decide_eq_true h4
          have hok : PlainAbs.firstOk z n = false := by unfold PlainAbs.firstOk; simp; omega
          have hf : PlainAbs.firstF z n = 0 := by unfold PlainAbs.firstF; rw [hok]; rfl
          rw [hok, hf]; clear hok hf
          go_enter Try.func61, Try.ntmps61
          go_wp2
          go_ret2
          exact ⟨by simp, rfl⟩
      · have g3 : n < 0 := of_decide_eq_true h3
        have hok : PlainAbs.firstOk z n = false := by unfold PlainAbs.firstOk; simp; omega
        have hf : PlainAbs.firstF z n = 0 := by unfold PlainAbs.firstF; rw [hok]; rfl
        rw [hok, hf]; clear hok hf
        go_enter Try.func61, Try.ntmps61
        go_wp2
        go_ret2
        exact ⟨by simp, rfl⟩
    · have g2 : 0 < z := of_decide_eq_true h2
      have hok : PlainAbs.firstOk z n = false := by unfold PlainAbs.firstOk; simp; omega
      have hf : PlainAbs.firstF z n = 0 := by unfold PlainAbs.firstF; rw [hok]; rfl
      rw [hok, hf]; clear hok hf
      go_enter Try.func61, Try.ntmps61
      go_wp2
      go_ret2
      exact ⟨by simp, rfl⟩
  · have g1 : z < -64 := of_decide_eq_true h1
    have hok : PlainAbs.firstOk z n = false := by unfold PlainAbs.firstOk; simp; omega
    have hf : PlainAbs.firstF z n = 0 := by unfold PlainAbs.firstF; rw [hok]; rfl
    rw [hok, hf]; clear hok hf
    go_enter Try.func61, Try.ntmps61
    go_wp2
    go_ret2
    exact ⟨by simp, rfl⟩
set_option maxHeartbeats 400000 in
theorem sized_c (n : Int) (w : World) : Calls Try.prog 62 #[.int .i64 n] w fun e w' => e = .returned (.bool (PlainAbs.sized n)) ∧ w = w' := by
  unfold PlainAbs.sized
  cases h1 : (n == 1) <;> cases h2 : (n == 2) <;> cases h4 : (n == 4) <;> cases h8 : (n == 8)
  all_goals
    go_enter Try.func62, Try.ntmps62
    go_wp2
    go_ret
    exact ⟨rfl, rfl⟩
theorem zero_st (w : World) : (zeroValue 69).run Try.prog w = .ok (.agg (stv zs)) w := by kernel_rfl
theorem size_st (s : St) : (Try.prog.info? 69).map (·.size) = some (stv s).size := by rw [stv_size]; kernel_rfl
theorem gl_one (x : Rg) : ∀ v ∈ (#[.int .i64 x.kind, uv x.r.b.v, uv x.r.b.m, uv x.r.lo, uv x.r.hi, sv x.r.sl, sv x.r.sh, .int .i64 x.slot, .int .i64 x.id, .int .i64 x.low, .int .i64 x.high] : Array Value).toList, v.oneCell' = true := by
  intro v hv; simp at hv; rcases hv with rfl | rfl | rfl | rfl | rfl | rfl | rfl | rfl | rfl | rfl | rfl <;> rfl
set_option maxRecDepth 100000 in
set_option maxHeartbeats 400000 in
theorem start_c  (w : World) : Calls Try.prog 45 #[] w fun e w' => e = .returned (.agg (stv PlainAbs.start)) ∧ Below w.heap.size w w' := by
  have hz := zero_st
  go_enter Try.func45, Try.ntmps45
  go_upto_region 2 with fail
  obtain ⟨gr, hgr⟩ : ∃ g, g = w.heap.size := ⟨_, rfl⟩
  obtain ⟨gs, hgs⟩ : ∃ g, g = w.heap.size + 1 := ⟨_, rfl⟩
  have Br : Blk ((w.alloc (.cells (stv zs) 69)).alloc (.cells (stv zs) 69)) (w.heap.size) 69 (stv zs) := ((Blk.new w 69 (stv zs))).alloc _
  have Bs : Blk ((w.alloc (.cells (stv zs) 69)).alloc (.cells (stv zs) 69)) (w.heap.size + 1) 69 (stv zs) := (by simpa using Blk.new (w.alloc (.cells (stv zs) 69)) 69 (stv zs) : Blk _ (w.heap.size + 1) 69 (stv zs))
  have hB : Below w.heap.size w ((w.alloc (.cells (stv zs) 69)).alloc (.cells (stv zs) 69)) := (Bl_alloc (Bl_alloc (Bl_refl w) _) _)
  clear hgr
  clear gr
  clear hgs
  clear gs
  generalize ((w.alloc (.cells (stv zs) 69)).alloc (.cells (stv zs) 69)) = w1 at *
  have fr := Br.frozen; have lr := Br.lt
  have fs := Bs.frozen; have ls := Bs.lt
  clear hz
  go_wp2_with (refine wpList_store_part rfl 64 (.tmp 4) (.tmp 2) rfl (w.heap.size + 1) (11) _ rfl rfl 69 (stv zs) Bs (by kernel_rfl) (by rw [stv_size]; simp; try omega) (gl_one { zr with kind := 2 }) ?_)
  intro w2 hS
  clear  fr lr
  clear  fs ls
  replace Br := hS.far (by first | (simp; done) | (simp; omega) | (simp [*]; done) | (simp only [ne_eq]; constructor <;> omega)) Br
  replace Bs : Blk w2 (w.heap.size + 1) 69 (stv { zs with r := upd zs.r 1 { zr with kind := 2 } }) := by rw [← set_r zs (k := 1) (by omega) _]; exact hS.blk
  replace hB := hS.bel hB (by first | omega | (simp; omega))
  clear hS
  have fr := Br.frozen; have lr := Br.lt
  have fs := Bs.frozen; have ls := Bs.lt
  go_upto_region 3 with fail
  go_wp2_with (refine wpList_store_part rfl 64 (.tmp 7) (.tmp 5) rfl (w.heap.size + 1) (110) _ rfl rfl 69 (stv { zs with r := upd zs.r 1 { zr with kind := 2 } }) Bs (by kernel_rfl) (by rw [stv_size]; simp; try omega) (gl_one { zr with kind := 3 }) ?_)
  intro w3 hS
  clear  fr lr
  clear  fs ls
  replace Br := hS.far (by first | (simp; done) | (simp; omega) | (simp [*]; done) | (simp only [ne_eq]; constructor <;> omega)) Br
  replace Bs : Blk w3 (w.heap.size + 1) 69 (stv PlainAbs.start) := by rw [show stv PlainAbs.start = _ from (set_r { zs with r := upd zs.r 1 { zr with kind := 2 } } (k := 10) (by omega) { zr with kind := 3 }).symm]; exact hS.blk
  replace hB := hS.bel hB (by first | omega | (simp; omega))
  clear hS
  have fr := Br.frozen; have lr := Br.lt
  have fs := Bs.frozen; have ls := Bs.lt
  go_upto_region 4 with fail
  go_wp2_with (first | (refine wpList_load_whole rfl 69 (.tmp 1) rfl (w.heap.size + 1) rfl 69 (stv PlainAbs.start) _ Bs Try.underlying69 rfl (size_st PlainAbs.start) ?_) | (refine wpList_store_whole rfl 69 (.tmp 0) (.tmp 8) rfl (w.heap.size) (stv PlainAbs.start) rfl rfl 69 (stv zs) Br (size_st PlainAbs.start) (by rw [stv_size, stv_size]) (stv_one PlainAbs.start) ?_))
  intro w4 hS
  clear  fr lr
  clear  fs ls
  replace Br : Blk w4 (w.heap.size) 69 (stv PlainAbs.start) := hS.blk
  replace Bs := hS.far (by first | (simp; done) | (simp; omega) | (simp [*]; done) | (simp only [ne_eq]; constructor <;> omega)) Bs
  replace hB := hS.bel hB (by first | omega | (simp; omega))
  clear hS
  have fr := Br.frozen; have lr := Br.lt
  have fs := Bs.frozen; have ls := Bs.lt
  go_wp2_with fail
  exact bodyPost_ret (v := .agg (stv PlainAbs.start)) (results_cell_row Try.results45 _ _ (w.heap.size) 69 (stv PlainAbs.start) (0, 0) _ rfl Br Try.underlying69 rfl (size_st _)) rfl ⟨rfl, hB⟩
end Go.Proofs.Ytmghpoagpiljhaa
