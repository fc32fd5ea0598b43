/- TnumConsts: for all pairs of numbers alone and every shift the law returns true, and its arguments read as before. No condition. -/
import Derived.Test.YtmghpoagpiljhaaOpen
import Derived.Test.YtmghpoagpiljhaaLaw13
namespace Go.Proofs.Ytmghpoagpiljhaa
open Go.ChangeShapes Go.WideShapes Go.ChangeAt Go.RowKit
open PlainTnum (N)
set_option linter.unusedVariables false
set_option maxRecDepth 100000 in
set_option maxHeartbeats 3200000 in
theorem walk_TnumConsts (p q : W) (k : Int) (w : World) : Calls Try.prog 7 #[.agg #[uv p, uv q], .int .i64 k] w fun e w' => e = .returned (.bool true) ∧ Below w.heap.size w w' := by
  obtain ⟨n, hn, hby⟩ := by_is k
  go_enter Try.func7, Try.ntmps7
  go_wp2_with fail
  obtain ⟨gn, hgn⟩ : ∃ g, g = w.heap.size := ⟨_, rfl⟩
  have Bn : Blk (w.alloc (.cells #[uv p, uv q] 50)) (w.heap.size) 50 #[uv p, uv q] := (Blk.new w 50 #[uv p, uv q])
  have hB : Below w.heap.size w (w.alloc (.cells #[uv p, uv q] 50)) := (Bl_alloc (Bl_refl w) _)
  clear hgn
  clear gn
  generalize (w.alloc (.cells #[uv p, uv q] 50)) = w1 at *
  have cn0 : w1.cell? ⟨w.heap.size, 0, none⟩ = some (uv p) := Bn.cell 0
  have cn1 : w1.cell? ⟨w.heap.size, 1, none⟩ = some (uv q) := Bn.cell 1
  have fn := Bn.frozen
  have ln := Bn.lt
  go_wp2_with fail
  replace cn0 : ∀ g : Later w1, g.w.cell? ⟨w.heap.size, 0, none⟩ = some (uv p) := fun g => g.cell (Bn.cell 0)
  replace cn1 : ∀ g : Later w1, g.w.cell? ⟨w.heap.size, 1, none⟩ = some (uv q) := fun g => g.cell (Bn.cell 1)
  refine wp_region_mix 8 (fun _ => #[.int .u64 0, .int .u64 0]) (by kernel_rfl) (by kernel_rfl) (fun o t ho ht => by
    simp at ho
    rcases ho with rfl | rfl | rfl | rfl | rfl | rfl | rfl | rfl <;> first | (cases ht; done) | (obtain rfl := Option.some.inj ht; exact fun ρ w => new_num ht ρ w)) ?_
  simp only [List.take_succ_cons, List.take_zero, List.drop_succ_cons, List.drop_zero]
  repeat (refine wpMix_step (fun K hK => ?_); go_simp; first | (refine hK _ ?_; clear hK K) | (apply Exists.intro; refine ⟨fun g => ?_, hK _ ?_⟩; (go_at_call 31; exact const_c _ _); clear hK K))
  refine wpMix_nil ?_
  intro G w2 hgr hblk hdist
  have hb : Below w1.heap.size w1 w2 := hgr
  replace Bn := Bn.next hb
  obtain ⟨Bx, hlx⟩ := hblk 6 _ rfl
  obtain ⟨By, hly⟩ := hblk 7 _ rfl
  have hdxy := hdist 6 7 _ _ rfl rfl (by decide)
  have hgx : w.heap.size ≤ G 6 := Nat.le_trans hB.size hlx
  have hnnx : w.heap.size ≠ G 6 := Nat.ne_of_lt (Nat.lt_of_lt_of_le ln hlx)
  clear hlx
  have hgy : w.heap.size ≤ G 7 := Nat.le_trans hB.size hly
  have hnny : w.heap.size ≠ G 7 := Nat.ne_of_lt (Nat.lt_of_lt_of_le ln hly)
  clear hly
  clear cn0 cn1 fn ln
  replace hB : Below w.heap.size w w2 := Bl_trans hB hb
  simp only [putAll, isAlloc, Act.put]
  generalize G 6 = gx at *
  generalize G 7 = gy at *
  clear hb hgr hblk hdist
  have cn0 : w2.cell? ⟨w.heap.size, 0, none⟩ = some (uv p) := Bn.cell 0
  have cn1 : w2.cell? ⟨w.heap.size, 1, none⟩ = some (uv q) := Bn.cell 1
  have fn := Bn.frozen
  have ln := Bn.lt
  have cx0 : w2.cell? ⟨gx, 0, none⟩ = some (.int .u64 0) := Bx.cell 0
  have cx1 : w2.cell? ⟨gx, 1, none⟩ = some (.int .u64 0) := Bx.cell 1
  have fx := Bx.frozen
  have lx := Bx.lt
  have cy0 : w2.cell? ⟨gy, 0, none⟩ = some (.int .u64 0) := By.cell 0
  have cy1 : w2.cell? ⟨gy, 1, none⟩ = some (.int .u64 0) := By.cell 1
  have fy := By.frozen
  have ly := By.lt
  go_wp2_with fail
  clear cn0 cn1 fn ln
  clear cx0 cx1 fx lx
  clear cy0 cy1 fy ly
  replace Bn : Blk ((w2.setCell ⟨gx, 0, none⟩ (uv (PlainTnum.const p).v)).setCell ⟨gx, 1, none⟩ (uv (PlainTnum.const p).m)) (w.heap.size) 50 #[uv p, uv q] := ((Bn.far (by first | (simp; done) | (simp; omega) | (simp [*]; done) | (simp only [ne_eq]; constructor <;> omega)) _).far (by first | (simp; done) | (simp; omega) | (simp [*]; done) | (simp only [ne_eq]; constructor <;> omega)) _)
  replace Bx : Blk ((w2.setCell ⟨gx, 0, none⟩ (uv (PlainTnum.const p).v)).setCell ⟨gx, 1, none⟩ (uv (PlainTnum.const p).m)) (gx) 27 #[uv (PlainTnum.const p).v, uv (PlainTnum.const p).m] := ((Bx.set_ 0 _).set_ 1 _)
  replace By : Blk ((w2.setCell ⟨gx, 0, none⟩ (uv (PlainTnum.const p).v)).setCell ⟨gx, 1, none⟩ (uv (PlainTnum.const p).m)) (gy) 27 #[.int .u64 0, .int .u64 0] := ((By.far (by first | (simp; done) | (simp; omega) | (simp [*]; done) | (simp only [ne_eq]; constructor <;> omega)) _).far (by first | (simp; done) | (simp; omega) | (simp [*]; done) | (simp only [ne_eq]; constructor <;> omega)) _)
  replace hB : Below w.heap.size w ((w2.setCell ⟨gx, 0, none⟩ (uv (PlainTnum.const p).v)).setCell ⟨gx, 1, none⟩ (uv (PlainTnum.const p).m)) := (Bl_set (Bl_set hB (by first | omega | (simp; done) | (simp; omega)) _) (by first | omega | (simp; done) | (simp; omega)) _)
  replace Bn : Blk ((((w2.setCell ⟨gx, 0, none⟩ (uv (PlainTnum.const p).v)).setCell ⟨gx, 1, none⟩ (uv (PlainTnum.const p).m)).setCell ⟨gy, 0, none⟩ (uv (PlainTnum.const q).v)).setCell ⟨gy, 1, none⟩ (uv (PlainTnum.const q).m)) (w.heap.size) 50 #[uv p, uv q] := ((Bn.far (by first | (simp; done) | (simp; omega) | (simp [*]; done) | (simp only [ne_eq]; constructor <;> omega)) _).far (by first | (simp; done) | (simp; omega) | (simp [*]; done) | (simp only [ne_eq]; constructor <;> omega)) _)
  replace Bx : Blk ((((w2.setCell ⟨gx, 0, none⟩ (uv (PlainTnum.const p).v)).setCell ⟨gx, 1, none⟩ (uv (PlainTnum.const p).m)).setCell ⟨gy, 0, none⟩ (uv (PlainTnum.const q).v)).setCell ⟨gy, 1, none⟩ (uv (PlainTnum.const q).m)) (gx) 27 #[uv (PlainTnum.const p).v, uv (PlainTnum.const p).m] := ((Bx.far (by first | (simp; done) | (simp; omega) | (simp [*]; done) | (simp only [ne_eq]; constructor <;> omega)) _).far (by first | (simp; done) | (simp; omega) | (simp [*]; done) | (simp only [ne_eq]; constructor <;> omega)) _)
  replace By : Blk ((((w2.setCell ⟨gx, 0, none⟩ (uv (PlainTnum.const p).v)).setCell ⟨gx, 1, none⟩ (uv (PlainTnum.const p).m)).setCell ⟨gy, 0, none⟩ (uv (PlainTnum.const q).v)).setCell ⟨gy, 1, none⟩ (uv (PlainTnum.const q).m)) (gy) 27 #[uv (PlainTnum.const q).v, uv (PlainTnum.const q).m] := ((By.set_ 0 _).set_ 1 _)
  replace hB : Below w.heap.size w ((((w2.setCell ⟨gx, 0, none⟩ (uv (PlainTnum.const p).v)).setCell ⟨gx, 1, none⟩ (uv (PlainTnum.const p).m)).setCell ⟨gy, 0, none⟩ (uv (PlainTnum.const q).v)).setCell ⟨gy, 1, none⟩ (uv (PlainTnum.const q).m)) := (Bl_set (Bl_set hB (by first | omega | (simp; done) | (simp; omega)) _) (by first | omega | (simp; done) | (simp; omega)) _)
  generalize ((((w2.setCell ⟨gx, 0, none⟩ (uv (PlainTnum.const p).v)).setCell ⟨gx, 1, none⟩ (uv (PlainTnum.const p).m)).setCell ⟨gy, 0, none⟩ (uv (PlainTnum.const q).v)).setCell ⟨gy, 1, none⟩ (uv (PlainTnum.const q).m)) = w3 at *
  have cn0 : w3.cell? ⟨w.heap.size, 0, none⟩ = some (uv p) := Bn.cell 0
  have cn1 : w3.cell? ⟨w.heap.size, 1, none⟩ = some (uv q) := Bn.cell 1
  have fn := Bn.frozen
  have ln := Bn.lt
  have cx0 : w3.cell? ⟨gx, 0, none⟩ = some (uv (PlainTnum.const p).v) := Bx.cell 0
  have cx1 : w3.cell? ⟨gx, 1, none⟩ = some (uv (PlainTnum.const p).m) := Bx.cell 1
  have fx := Bx.frozen
  have lx := Bx.lt
  have cy0 : w3.cell? ⟨gy, 0, none⟩ = some (uv (PlainTnum.const q).v) := By.cell 0
  have cy1 : w3.cell? ⟨gy, 1, none⟩ = some (uv (PlainTnum.const q).m) := By.cell 1
  have fy := By.frozen
  have ly := By.lt
  refine (join_kk _ _ _).mono ?_
  rintro e w4 ⟨rfl, hb⟩
  clear cn0 cn1 fn ln
  clear cx0 cx1 fx lx
  clear cy0 cy1 fy ly
  replace Bn := (Bn).next hb
  replace Bx := (Bx).next hb
  replace By := (By).next hb
  replace hB : Below w.heap.size w w4 := by repeat (first | exact hB | (refine Bl_set ?_ (by first | omega | (simp; omega)) _) | apply Bl_alloc | (refine Bl_trans ?_ hb))
  clear hb
  have cn0 : w4.cell? ⟨w.heap.size, 0, none⟩ = some (uv p) := Bn.cell 0
  have cn1 : w4.cell? ⟨w.heap.size, 1, none⟩ = some (uv q) := Bn.cell 1
  have fn := Bn.frozen
  have ln := Bn.lt
  have cx0 : w4.cell? ⟨gx, 0, none⟩ = some (uv (PlainTnum.const p).v) := Bx.cell 0
  have cx1 : w4.cell? ⟨gx, 1, none⟩ = some (uv (PlainTnum.const p).m) := Bx.cell 1
  have fx := Bx.frozen
  have lx := Bx.lt
  have cy0 : w4.cell? ⟨gy, 0, none⟩ = some (uv (PlainTnum.const q).v) := By.cell 0
  have cy1 : w4.cell? ⟨gy, 1, none⟩ = some (uv (PlainTnum.const q).m) := By.cell 1
  have fy := By.frozen
  have ly := By.lt
  go_wp2_with fail
  clear cn0 cn1 fn ln
  clear cx0 cx1 fx lx
  clear cy0 cy1 fy ly
  have Bj := Blk.new w4 27 #[uv (PlainTnum.join (PlainTnum.const p) (PlainTnum.const q)).v, uv (p ^^^ q)]
  have hgj := hB.size
  have hnnj := Nat.ne_of_lt Bn.lt
  have hnxj := Nat.ne_of_lt Bx.lt
  have hnyj := Nat.ne_of_lt By.lt
  replace Bn : Blk (w4.alloc (.cells #[uv (PlainTnum.join (PlainTnum.const p) (PlainTnum.const q)).v, uv (p ^^^ q)] 27)) (w.heap.size) 50 #[uv p, uv q] := Bn.alloc _
  replace Bx : Blk (w4.alloc (.cells #[uv (PlainTnum.join (PlainTnum.const p) (PlainTnum.const q)).v, uv (p ^^^ q)] 27)) (gx) 27 #[uv (PlainTnum.const p).v, uv (PlainTnum.const p).m] := Bx.alloc _
  replace By : Blk (w4.alloc (.cells #[uv (PlainTnum.join (PlainTnum.const p) (PlainTnum.const q)).v, uv (p ^^^ q)] 27)) (gy) 27 #[uv (PlainTnum.const q).v, uv (PlainTnum.const q).m] := By.alloc _
  replace hB : Below w.heap.size w (w4.alloc (.cells #[uv (PlainTnum.join (PlainTnum.const p) (PlainTnum.const q)).v, uv (p ^^^ q)] 27)) := Bl_alloc hB _
  generalize (w4.alloc (.cells #[uv (PlainTnum.join (PlainTnum.const p) (PlainTnum.const q)).v, uv (p ^^^ q)] 27)) = w5 at *
  generalize w4.heap.size = gj at *
  have cn0 : w5.cell? ⟨w.heap.size, 0, none⟩ = some (uv p) := Bn.cell 0
  have cn1 : w5.cell? ⟨w.heap.size, 1, none⟩ = some (uv q) := Bn.cell 1
  have fn := Bn.frozen
  have ln := Bn.lt
  have cx0 : w5.cell? ⟨gx, 0, none⟩ = some (uv (PlainTnum.const p).v) := Bx.cell 0
  have cx1 : w5.cell? ⟨gx, 1, none⟩ = some (uv (PlainTnum.const p).m) := Bx.cell 1
  have fx := Bx.frozen
  have lx := Bx.lt
  have cy0 : w5.cell? ⟨gy, 0, none⟩ = some (uv (PlainTnum.const q).v) := By.cell 0
  have cy1 : w5.cell? ⟨gy, 1, none⟩ = some (uv (PlainTnum.const q).m) := By.cell 1
  have fy := By.frozen
  have ly := By.lt
  have cj0 : w5.cell? ⟨gj, 0, none⟩ = some (uv (PlainTnum.join (PlainTnum.const p) (PlainTnum.const q)).v) := Bj.cell 0
  have cj1 : w5.cell? ⟨gj, 1, none⟩ = some (uv (p ^^^ q)) := Bj.cell 1
  have fj := Bj.frozen
  have lj := Bj.lt
  refine (meet_kk _ _ _).mono ?_
  rintro e w6 ⟨rfl, hb⟩
  clear cn0 cn1 fn ln
  clear cx0 cx1 fx lx
  clear cy0 cy1 fy ly
  clear cj0 cj1 fj lj
  replace Bn := (Bn).next hb
  replace Bx := (Bx).next hb
  replace By := (By).next hb
  replace Bj := (Bj).next hb
  replace hB : Below w.heap.size w w6 := by repeat (first | exact hB | (refine Bl_set ?_ (by first | omega | (simp; omega)) _) | apply Bl_alloc | (refine Bl_trans ?_ hb))
  clear hb
  have cn0 : w6.cell? ⟨w.heap.size, 0, none⟩ = some (uv p) := Bn.cell 0
  have cn1 : w6.cell? ⟨w.heap.size, 1, none⟩ = some (uv q) := Bn.cell 1
  have fn := Bn.frozen
  have ln := Bn.lt
  have cx0 : w6.cell? ⟨gx, 0, none⟩ = some (uv (PlainTnum.const p).v) := Bx.cell 0
  have cx1 : w6.cell? ⟨gx, 1, none⟩ = some (uv (PlainTnum.const p).m) := Bx.cell 1
  have fx := Bx.frozen
  have lx := Bx.lt
  have cy0 : w6.cell? ⟨gy, 0, none⟩ = some (uv (PlainTnum.const q).v) := By.cell 0
  have cy1 : w6.cell? ⟨gy, 1, none⟩ = some (uv (PlainTnum.const q).m) := By.cell 1
  have fy := By.frozen
  have ly := By.lt
  have cj0 : w6.cell? ⟨gj, 0, none⟩ = some (uv (PlainTnum.join (PlainTnum.const p) (PlainTnum.const q)).v) := Bj.cell 0
  have cj1 : w6.cell? ⟨gj, 1, none⟩ = some (uv (p ^^^ q)) := Bj.cell 1
  have fj := Bj.frozen
  have lj := Bj.lt
  go_wp2_with fail
  clear cn0 cn1 fn ln
  clear cx0 cx1 fx lx
  clear cy0 cy1 fy ly
  clear cj0 cj1 fj lj
  have Bm := Blk.new w6 27 #[uv (PlainTnum.meet (PlainTnum.const p) (PlainTnum.const q)).1.v, uv (PlainTnum.meet (PlainTnum.const p) (PlainTnum.const q)).1.m]
  have hgm := hB.size
  have hnnm := Nat.ne_of_lt Bn.lt
  have hnxm := Nat.ne_of_lt Bx.lt
  have hnym := Nat.ne_of_lt By.lt
  have hnjm := Nat.ne_of_lt Bj.lt
  replace Bn : Blk (w6.alloc (.cells #[uv (PlainTnum.meet (PlainTnum.const p) (PlainTnum.const q)).1.v, uv (PlainTnum.meet (PlainTnum.const p) (PlainTnum.const q)).1.m] 27)) (w.heap.size) 50 #[uv p, uv q] := Bn.alloc _
  replace Bx : Blk (w6.alloc (.cells #[uv (PlainTnum.meet (PlainTnum.const p) (PlainTnum.const q)).1.v, uv (PlainTnum.meet (PlainTnum.const p) (PlainTnum.const q)).1.m] 27)) (gx) 27 #[uv (PlainTnum.const p).v, uv (PlainTnum.const p).m] := Bx.alloc _
  replace By : Blk (w6.alloc (.cells #[uv (PlainTnum.meet (PlainTnum.const p) (PlainTnum.const q)).1.v, uv (PlainTnum.meet (PlainTnum.const p) (PlainTnum.const q)).1.m] 27)) (gy) 27 #[uv (PlainTnum.const q).v, uv (PlainTnum.const q).m] := By.alloc _
  replace Bj : Blk (w6.alloc (.cells #[uv (PlainTnum.meet (PlainTnum.const p) (PlainTnum.const q)).1.v, uv (PlainTnum.meet (PlainTnum.const p) (PlainTnum.const q)).1.m] 27)) (gj) 27 #[uv (PlainTnum.join (PlainTnum.const p) (PlainTnum.const q)).v, uv (p ^^^ q)] := Bj.alloc _
  replace hB : Below w.heap.size w (w6.alloc (.cells #[uv (PlainTnum.meet (PlainTnum.const p) (PlainTnum.const q)).1.v, uv (PlainTnum.meet (PlainTnum.const p) (PlainTnum.const q)).1.m] 27)) := Bl_alloc hB _
  generalize (w6.alloc (.cells #[uv (PlainTnum.meet (PlainTnum.const p) (PlainTnum.const q)).1.v, uv (PlainTnum.meet (PlainTnum.const p) (PlainTnum.const q)).1.m] 27)) = w7 at *
  generalize w6.heap.size = gm at *
  have cn0 : w7.cell? ⟨w.heap.size, 0, none⟩ = some (uv p) := Bn.cell 0
  have cn1 : w7.cell? ⟨w.heap.size, 1, none⟩ = some (uv q) := Bn.cell 1
  have fn := Bn.frozen
  have ln := Bn.lt
  have cx0 : w7.cell? ⟨gx, 0, none⟩ = some (uv (PlainTnum.const p).v) := Bx.cell 0
  have cx1 : w7.cell? ⟨gx, 1, none⟩ = some (uv (PlainTnum.const p).m) := Bx.cell 1
  have fx := Bx.frozen
  have lx := Bx.lt
  have cy0 : w7.cell? ⟨gy, 0, none⟩ = some (uv (PlainTnum.const q).v) := By.cell 0
  have cy1 : w7.cell? ⟨gy, 1, none⟩ = some (uv (PlainTnum.const q).m) := By.cell 1
  have fy := By.frozen
  have ly := By.lt
  have cj0 : w7.cell? ⟨gj, 0, none⟩ = some (uv (PlainTnum.join (PlainTnum.const p) (PlainTnum.const q)).v) := Bj.cell 0
  have cj1 : w7.cell? ⟨gj, 1, none⟩ = some (uv (p ^^^ q)) := Bj.cell 1
  have fj := Bj.frozen
  have lj := Bj.lt
  have cm0 : w7.cell? ⟨gm, 0, none⟩ = some (uv (PlainTnum.meet (PlainTnum.const p) (PlainTnum.const q)).1.v) := Bm.cell 0
  have cm1 : w7.cell? ⟨gm, 1, none⟩ = some (uv (PlainTnum.meet (PlainTnum.const p) (PlainTnum.const q)).1.m) := Bm.cell 1
  have fm := Bm.frozen
  have lm := Bm.lt
  go_wp2_with fail
  replace cn0 : ∀ g : Later w7, g.w.cell? ⟨w.heap.size, 0, none⟩ = some (uv p) := fun g => g.cell (Bn.cell 0)
  replace cn1 : ∀ g : Later w7, g.w.cell? ⟨w.heap.size, 1, none⟩ = some (uv q) := fun g => g.cell (Bn.cell 1)
  replace cx0 : ∀ g : Later w7, g.w.cell? ⟨gx, 0, none⟩ = some (uv (PlainTnum.const p).v) := fun g => g.cell (Bx.cell 0)
  replace cx1 : ∀ g : Later w7, g.w.cell? ⟨gx, 1, none⟩ = some (uv (PlainTnum.const p).m) := fun g => g.cell (Bx.cell 1)
  replace cy0 : ∀ g : Later w7, g.w.cell? ⟨gy, 0, none⟩ = some (uv (PlainTnum.const q).v) := fun g => g.cell (By.cell 0)
  replace cy1 : ∀ g : Later w7, g.w.cell? ⟨gy, 1, none⟩ = some (uv (PlainTnum.const q).m) := fun g => g.cell (By.cell 1)
  replace cj0 : ∀ g : Later w7, g.w.cell? ⟨gj, 0, none⟩ = some (uv (PlainTnum.join (PlainTnum.const p) (PlainTnum.const q)).v) := fun g => g.cell (Bj.cell 0)
  replace cj1 : ∀ g : Later w7, g.w.cell? ⟨gj, 1, none⟩ = some (uv (p ^^^ q)) := fun g => g.cell (Bj.cell 1)
  replace cm0 : ∀ g : Later w7, g.w.cell? ⟨gm, 0, none⟩ = some (uv (PlainTnum.meet (PlainTnum.const p) (PlainTnum.const q)).1.v) := fun g => g.cell (Bm.cell 0)
  replace cm1 : ∀ g : Later w7, g.w.cell? ⟨gm, 1, none⟩ = some (uv (PlainTnum.meet (PlainTnum.const p) (PlainTnum.const q)).1.m) := fun g => g.cell (Bm.cell 1)
  simp only [List.append_eq, List.cons_append, List.nil_append]
  refine wp_region_mix 103 (fun _ => #[]) (by kernel_rfl) (by kernel_rfl) (no_alloc (by kernel_rfl)) ?_
  simp only [List.take_succ_cons, List.take_zero, List.drop_succ_cons, List.drop_zero]
  repeat (refine wpMix_step (fun K hK => ?_); go_simp; first | (refine hK _ ?_; clear hK K) | (apply Exists.intro; refine ⟨fun g => ?_, hK _ ?_⟩; (go_at_call 15; exact knows_c _); clear hK K) | (apply Exists.intro; refine ⟨fun g => ?_, hK _ ?_⟩; (go_at_call 34; exact add_kk _ _ _); clear hK K) | (apply Exists.intro; refine ⟨fun g => ?_, hK _ ?_⟩; (go_at_call 38; exact sub_kk _ _ _); clear hK K) | (apply Exists.intro; refine ⟨fun g => ?_, hK _ ?_⟩; (go_at_call 35; exact and_kk _ _ _); clear hK K) | (apply Exists.intro; refine ⟨fun g => ?_, hK _ ?_⟩; (go_at_call 36; exact or_kk _ _ _); clear hK K) | (apply Exists.intro; refine ⟨fun g => ?_, hK _ ?_⟩; (go_at_call 37; exact xor_kk _ _ _); clear hK K) | (apply Exists.intro; refine ⟨fun g => ?_, hK _ ?_⟩; (go_at_call 17; exact left_kk _ _ hn _); clear hK K) | (apply Exists.intro; refine ⟨fun g => ?_, hK _ ?_⟩; (go_at_call 19; exact down_kk _ _ hn _); clear hK K) | (apply Exists.intro; refine ⟨fun g => ?_, hK _ ?_⟩; (go_at_call 31; exact const_c _ _); clear hK K))
  refine wpMix_nil ?_
  intro G w8 hgr hblk hdist
  have hb : Below w7.heap.size w7 w8 := hgr
  replace Bn := Bn.next hb
  replace Bx := Bx.next hb
  replace By := By.next hb
  replace Bj := Bj.next hb
  replace Bm := Bm.next hb
  clear cn0 cn1 fn ln
  clear cx0 cx1 fx lx
  clear cy0 cy1 fy ly
  clear cj0 cj1 fj lj
  clear cm0 cm1 fm lm
  replace hB : Below w.heap.size w w8 := Bl_trans hB hb
  simp only [putAll, isAlloc]
  clear hb hgr hblk hdist
  have cn0 : w8.cell? ⟨w.heap.size, 0, none⟩ = some (uv p) := Bn.cell 0
  have cn1 : w8.cell? ⟨w.heap.size, 1, none⟩ = some (uv q) := Bn.cell 1
  have fn := Bn.frozen
  have ln := Bn.lt
  have cx0 : w8.cell? ⟨gx, 0, none⟩ = some (uv (PlainTnum.const p).v) := Bx.cell 0
  have cx1 : w8.cell? ⟨gx, 1, none⟩ = some (uv (PlainTnum.const p).m) := Bx.cell 1
  have fx := Bx.frozen
  have lx := Bx.lt
  have cy0 : w8.cell? ⟨gy, 0, none⟩ = some (uv (PlainTnum.const q).v) := By.cell 0
  have cy1 : w8.cell? ⟨gy, 1, none⟩ = some (uv (PlainTnum.const q).m) := By.cell 1
  have fy := By.frozen
  have ly := By.lt
  have cj0 : w8.cell? ⟨gj, 0, none⟩ = some (uv (PlainTnum.join (PlainTnum.const p) (PlainTnum.const q)).v) := Bj.cell 0
  have cj1 : w8.cell? ⟨gj, 1, none⟩ = some (uv (p ^^^ q)) := Bj.cell 1
  have fj := Bj.frozen
  have lj := Bj.lt
  have cm0 : w8.cell? ⟨gm, 0, none⟩ = some (uv (PlainTnum.meet (PlainTnum.const p) (PlainTnum.const q)).1.v) := Bm.cell 0
  have cm1 : w8.cell? ⟨gm, 1, none⟩ = some (uv (PlainTnum.meet (PlainTnum.const p) (PlainTnum.const q)).1.m) := Bm.cell 1
  have fm := Bm.frozen
  have lm := Bm.lt
  go_wp2
  go_ret
  exact ⟨rfl, by repeat (first | exact hB | (refine Bl_set ?_ (by first | omega | (simp; omega)) _) | apply Bl_alloc)⟩
theorem walkN_TnumConsts (p q : W) (k : Int) (lo : -9223372036854775808 ≤ k) (hi : k ≤ 9223372036854775807) (w : World) : Calls Try.prog 7 #[.agg #[.int .u64 (T p), .int .u64 (T q)], .int .i64 k] w fun e w' => e = .returned (.bool true) ∧ Below w.heap.size w w' := walk_TnumConsts p q k w
namespace tnumConsts
set_option maxRecDepth 100000 in
theorem lifted (os : Os) (started : os.Started) (H : Type) (enc : TypeId × Value → H) :
    ReturnsInHanded {} Try.checked os 7 .any (Rows.tnumConstsSpec.pre6 enc Try.prog Try.f7 Rows.tnumConstsRow.domain false) (Rows.tnumConstsSpec.post enc Try.prog Try.f7 false true false false) := by
  refine returnsInHanded_of_change (C := Try.checked) own started (by kernel_rfl) Try.func7
    (ChangeSpec.witness6 (enc := enc) (C := Try.checked) false ⟨#[], #[.agg #[.int .u64 0, .int .u64 0], .int .i64 0], []⟩ 8 (by kernel_rfl) (by kernel_rfl) (by kernel_rfl) (by kernel_rfl)) ?_
  intro W base args ds gs before hval0 hW hcnd _
  have hval : ∀ (j : Nat) t v, Try.f7.params[j]? = some t → args[j]? = some v → Value.okWide Try.prog W .any base t v := hval0
  have hW' := hW
  obtain ⟨p, q, hA0, hV, rfl, hfz, hnd⟩ := hW
  have hA : DataW.TrodAll enc Try.prog W 0 (fun _ => true) true Try.f7.params.toList args.toList ds p := hA0
  rw [Try.params7] at hA hval
  obtain ⟨v0, vs0, d0, ds0, p0, q0, hargs, rfl, rfl, h0, r0⟩ := trodAll_cons hA
  obtain ⟨v1, vs1, d1, ds1, p1, q1, rfl, rfl, rfl, h1, r1⟩ := trodAll_cons r0
  obtain ⟨rfl, rfl, rfl⟩ := trodAll_nil r1
  obtain rfl : args = #[v0, v1] := by cases args; simp_all
  obtain ⟨rfl, rfl⟩ := trodVars_none hV
  have lt0 : ∀ x ∈ p0, x.block < W.heap.size := by obtain ⟨m, hm⟩ := h0; exact DataW.trod_lt m _ _ _ hm
  obtain ⟨x0, y0, rfl⟩ := open_uu Try.underlying22 (by rw [Try.underlying50]) (by kernel_rfl) (by kernel_rfl) (hval 0 50 v0 rfl rfl)
  have lt1 : ∀ x ∈ p1, x.block < W.heap.size := by obtain ⟨m, hm⟩ := h1; exact DataW.trod_lt m _ _ _ hm
  obtain ⟨x1, rfl, lo1, hi1⟩ := open_i64 Try.underlying3 (hval 1 3 v1 rfl rfl)
  refine (walkN_TnumConsts x0 y0 x1 lo1 hi1 W).mono fun e W' ⟨he, bel⟩ => ?_
  subst he
  exact ⟨_, rfl, _, _, _, [], _, [], hW', trodAll_mk1 (shut_bool Try.underlying4 _), (trodAll_cons_mk (Below.trod laidOut (by kernel_rfl) (of_decide_eq_true (by kernel_rfl)) h0 bel lt0) (trodAll_cons_mk (Below.trod laidOut (by kernel_rfl) (of_decide_eq_true (by kernel_rfl)) h1 bel lt1) trodAll_mk0)), rfl, bel.frame _, fun h => by cases h⟩
theorem over : Rows.tnumConstsRow.holds Try.pinned (OpenSpec.ofChange Rows.tnumConstsSpec) :=
  OpenClaim.holds_of_wide 7 Try.f7 rfl rfl rfl rfl rfl rfl rfl ⟨rfl, rfl, rfl, rfl, rfl⟩ rfl rfl rfl rfl rfl (by kernel_rfl) Try.func7 (by kernel_rfl)
    (of_decide_eq_true (by kernel_rfl)) (by unfold Func.isWrapper; first | (rw [if_pos (by decide +kernel)]; kernel_rfl) | (rw [if_neg (by decide +kernel)]; exact ⟨rfl, rfl⟩))
    (fun os started H enc _ => lifted os started H enc)
/-- The given statement. -/
theorem proved : Rows.TnumConstsSaid := over
#print axioms proved
end tnumConsts
end Go.Proofs.Ytmghpoagpiljhaa
