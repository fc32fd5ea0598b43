/- TnumMuls: for every num that is right, every shift and every number the law returns true, and its arguments read as before. No condition. -/
import Derived.Test.YtmghpoagpiljhaaOpen
import Derived.Test.YtmghpoagpiljhaaLaw13
namespace Go.Proofs.Ytmghpoagpiljhaa
open Go.ChangeShapes Go.WideShapes Go.ChangeAt Go.RowKit
open PlainTnum (N)
set_option linter.unusedVariables false
set_option maxRecDepth 100000 in
set_option maxHeartbeats 3200000 in
theorem walk_TnumMuls (a : N) (k : Int) (x : W) (w : World) : Calls Try.prog 5 #[nv a, .int .i64 k, uv x] w fun e w' => e = .returned (.bool true) ∧ Below w.heap.size w w' := by
  obtain ⟨n, hn, hby⟩ := by_is k
  have h1 : PlainTnum.has (PlainTnum.mul (PlainTnum.right a) (PlainTnum.const (1#64 <<< n))) (PlainTnum.pick (PlainTnum.right a) x <<< n) = true := by have := PlainTnum.has_mul (PlainTnum.has_pick (PlainTnum.R_right a) x) (PlainTnum.has_self (1#64 <<< n)); rwa [PlainTnum.mul_pow] at this
  have h2 : PlainTnum.has (PlainTnum.mul (PlainTnum.const (1#64 <<< n)) (PlainTnum.right a)) (PlainTnum.pick (PlainTnum.right a) x <<< n) = true := by have := PlainTnum.has_mul (PlainTnum.has_self (1#64 <<< n)) (PlainTnum.has_pick (PlainTnum.R_right a) x); rwa [BitVec.mul_comm, PlainTnum.mul_pow] at this
  have h3 : PlainTnum.has (PlainTnum.mul (PlainTnum.right a) (PlainTnum.right a)) (PlainTnum.pick (PlainTnum.right a) x * PlainTnum.pick (PlainTnum.right a) x) = true := PlainTnum.has_mul (PlainTnum.has_pick (PlainTnum.R_right a) x) (PlainTnum.has_pick (PlainTnum.R_right a) x)
  have H1 := Lib.hid h1
  have H2 := Lib.hid h2
  have H3 := Lib.hid h3
  clear h1 h2 h3
  go_enter Try.func5, Try.ntmps5
  go_wp2_with fail
  obtain ⟨ga, hga⟩ : ∃ g, g = w.heap.size := ⟨_, rfl⟩
  have Ba : Blk (w.alloc (.cells #[uv a.v, uv a.m] 24)) (w.heap.size) 24 #[uv a.v, uv a.m] := (Blk.new w 24 #[uv a.v, uv a.m])
  have hB : Below w.heap.size w (w.alloc (.cells #[uv a.v, uv a.m] 24)) := (Bl_alloc (Bl_refl w) _)
  clear hga
  clear ga
  generalize (w.alloc (.cells #[uv a.v, uv a.m] 24)) = w1 at *
  have ca0 : w1.cell? ⟨w.heap.size, 0, none⟩ = some (uv a.v) := Ba.cell 0
  have ca1 : w1.cell? ⟨w.heap.size, 1, none⟩ = some (uv a.m) := Ba.cell 1
  have fa := Ba.frozen
  have la := Ba.lt
  go_wp2_with fail
  refine (rightl_c _ _).mono ?_
  rintro e w2 ⟨rfl, hb⟩
  clear ca0 ca1 fa la
  replace Ba := (Ba).next hb
  replace hB : Below w.heap.size w w2 := by repeat (first | exact hB | (refine Bl_set ?_ (by first | omega | (simp; omega)) _) | apply Bl_alloc | (refine Bl_trans ?_ hb))
  clear hb
  have ca0 : w2.cell? ⟨w.heap.size, 0, none⟩ = some (uv a.v) := Ba.cell 0
  have ca1 : w2.cell? ⟨w.heap.size, 1, none⟩ = some (uv a.m) := Ba.cell 1
  have fa := Ba.frozen
  have la := Ba.lt
  go_wp2_with fail
  clear ca0 ca1 fa la
  replace Ba : Blk ((w2.setCell ⟨w.heap.size, 0, none⟩ (uv (PlainTnum.right a).v)).setCell ⟨w.heap.size, 1, none⟩ (uv (PlainTnum.right a).m)) (w.heap.size) 24 #[uv (PlainTnum.right a).v, uv (PlainTnum.right a).m] := ((Ba.set_ 0 _).set_ 1 _)
  replace hB : Below w.heap.size w ((w2.setCell ⟨w.heap.size, 0, none⟩ (uv (PlainTnum.right a).v)).setCell ⟨w.heap.size, 1, none⟩ (uv (PlainTnum.right a).m)) := (Bl_set (Bl_set hB (by first | omega | (simp; done) | (simp; omega)) _) (by first | omega | (simp; done) | (simp; omega)) _)
  generalize ((w2.setCell ⟨w.heap.size, 0, none⟩ (uv (PlainTnum.right a).v)).setCell ⟨w.heap.size, 1, none⟩ (uv (PlainTnum.right a).m)) = w3 at *
  have ca0 : w3.cell? ⟨w.heap.size, 0, none⟩ = some (uv (PlainTnum.right a).v) := Ba.cell 0
  have ca1 : w3.cell? ⟨w.heap.size, 1, none⟩ = some (uv (PlainTnum.right a).m) := Ba.cell 1
  have fa := Ba.frozen
  have la := Ba.lt
  go_wp2_with fail
  replace ca0 : ∀ g : Later w3, g.w.cell? ⟨w.heap.size, 0, none⟩ = some (uv (PlainTnum.right a).v) := fun g => g.cell (Ba.cell 0)
  replace ca1 : ∀ g : Later w3, g.w.cell? ⟨w.heap.size, 1, none⟩ = some (uv (PlainTnum.right a).m) := fun g => g.cell (Ba.cell 1)
  refine wp_region_mix 7 (fun _ => #[.int .u64 0, .int .u64 0]) (by kernel_rfl) (by kernel_rfl) (fun o t ho ht => by
    simp at ho
    rcases ho with rfl | rfl | rfl | rfl | rfl | rfl | rfl <;> first | (cases ht; done) | (obtain rfl := Option.some.inj ht; exact fun ρ w => new_num ht ρ w)) ?_
  simp only [List.take_succ_cons, List.take_zero, List.drop_succ_cons, List.drop_zero]
  repeat (refine wpMix_step (fun K hK => ?_); go_simp; first | (refine hK _ ?_; clear hK K) | (apply Exists.intro; refine ⟨fun g => ?_, hK _ ?_⟩; (go_at_call 14; exact to_c _ _); clear hK K) | (apply Exists.intro; refine ⟨fun g => ?_, hK _ ?_⟩; (go_at_call 31; exact const_c _ _); clear hK K) | (apply Exists.intro; refine ⟨fun g => ?_, hK _ ?_⟩; (go_at_call 30; exact mul_c _ _ _); clear hK K))
  refine wpMix_nil ?_
  intro G w4 hgr hblk hdist
  have hb : Below w3.heap.size w3 w4 := hgr
  replace Ba := Ba.next hb
  obtain ⟨Bp, hlp⟩ := hblk 6 _ rfl
  have hgp : w.heap.size ≤ G 6 := Nat.le_trans hB.size hlp
  have hnap : w.heap.size ≠ G 6 := Nat.ne_of_lt (Nat.lt_of_lt_of_le la hlp)
  clear hlp
  clear ca0 ca1 fa la
  replace hB : Below w.heap.size w w4 := Bl_trans hB hb
  simp only [putAll, isAlloc, Act.put]
  generalize G 6 = gp at *
  clear hb hgr hblk hdist
  have ca0 : w4.cell? ⟨w.heap.size, 0, none⟩ = some (uv (PlainTnum.right a).v) := Ba.cell 0
  have ca1 : w4.cell? ⟨w.heap.size, 1, none⟩ = some (uv (PlainTnum.right a).m) := Ba.cell 1
  have fa := Ba.frozen
  have la := Ba.lt
  have cp0 : w4.cell? ⟨gp, 0, none⟩ = some (.int .u64 0) := Bp.cell 0
  have cp1 : w4.cell? ⟨gp, 1, none⟩ = some (.int .u64 0) := Bp.cell 1
  have fp := Bp.frozen
  have lp := Bp.lt
  go_wp2_with fail
  clear ca0 ca1 fa la
  clear cp0 cp1 fp lp
  replace Ba : Blk ((w4.setCell ⟨gp, 0, none⟩ (uv (PlainTnum.mul (PlainTnum.right a) (PlainTnum.const (1#64 <<< n))).v)).setCell ⟨gp, 1, none⟩ (uv (PlainTnum.mul (PlainTnum.right a) (PlainTnum.const (1#64 <<< n))).m)) (w.heap.size) 24 #[uv (PlainTnum.right a).v, uv (PlainTnum.right a).m] := ((Ba.far (by first | (simp; done) | (simp; omega) | (simp [*]; done) | (simp only [ne_eq]; constructor <;> omega)) _).far (by first | (simp; done) | (simp; omega) | (simp [*]; done) | (simp only [ne_eq]; constructor <;> omega)) _)
  replace Bp : Blk ((w4.setCell ⟨gp, 0, none⟩ (uv (PlainTnum.mul (PlainTnum.right a) (PlainTnum.const (1#64 <<< n))).v)).setCell ⟨gp, 1, none⟩ (uv (PlainTnum.mul (PlainTnum.right a) (PlainTnum.const (1#64 <<< n))).m)) (gp) 27 #[uv (PlainTnum.mul (PlainTnum.right a) (PlainTnum.const (1#64 <<< n))).v, uv (PlainTnum.mul (PlainTnum.right a) (PlainTnum.const (1#64 <<< n))).m] := ((Bp.set_ 0 _).set_ 1 _)
  replace hB : Below w.heap.size w ((w4.setCell ⟨gp, 0, none⟩ (uv (PlainTnum.mul (PlainTnum.right a) (PlainTnum.const (1#64 <<< n))).v)).setCell ⟨gp, 1, none⟩ (uv (PlainTnum.mul (PlainTnum.right a) (PlainTnum.const (1#64 <<< n))).m)) := (Bl_set (Bl_set hB (by first | omega | (simp; done) | (simp; omega)) _) (by first | omega | (simp; done) | (simp; omega)) _)
  generalize ((w4.setCell ⟨gp, 0, none⟩ (uv (PlainTnum.mul (PlainTnum.right a) (PlainTnum.const (1#64 <<< n))).v)).setCell ⟨gp, 1, none⟩ (uv (PlainTnum.mul (PlainTnum.right a) (PlainTnum.const (1#64 <<< n))).m)) = w5 at *
  have ca0 : w5.cell? ⟨w.heap.size, 0, none⟩ = some (uv (PlainTnum.right a).v) := Ba.cell 0
  have ca1 : w5.cell? ⟨w.heap.size, 1, none⟩ = some (uv (PlainTnum.right a).m) := Ba.cell 1
  have fa := Ba.frozen
  have la := Ba.lt
  have cp0 : w5.cell? ⟨gp, 0, none⟩ = some (uv (PlainTnum.mul (PlainTnum.right a) (PlainTnum.const (1#64 <<< n))).v) := Bp.cell 0
  have cp1 : w5.cell? ⟨gp, 1, none⟩ = some (uv (PlainTnum.mul (PlainTnum.right a) (PlainTnum.const (1#64 <<< n))).m) := Bp.cell 1
  have fp := Bp.frozen
  have lp := Bp.lt
  go_wp2_with fail
  replace ca0 : ∀ g : Later w5, g.w.cell? ⟨w.heap.size, 0, none⟩ = some (uv (PlainTnum.right a).v) := fun g => g.cell (Ba.cell 0)
  replace ca1 : ∀ g : Later w5, g.w.cell? ⟨w.heap.size, 1, none⟩ = some (uv (PlainTnum.right a).m) := fun g => g.cell (Ba.cell 1)
  replace cp0 : ∀ g : Later w5, g.w.cell? ⟨gp, 0, none⟩ = some (uv (PlainTnum.mul (PlainTnum.right a) (PlainTnum.const (1#64 <<< n))).v) := fun g => g.cell (Bp.cell 0)
  replace cp1 : ∀ g : Later w5, g.w.cell? ⟨gp, 1, none⟩ = some (uv (PlainTnum.mul (PlainTnum.right a) (PlainTnum.const (1#64 <<< n))).m) := fun g => g.cell (Bp.cell 1)
  refine wp_region_mix 7 (fun _ => #[.int .u64 0, .int .u64 0]) (by kernel_rfl) (by kernel_rfl) (fun o t ho ht => by
    simp at ho
    rcases ho with rfl | rfl | rfl | rfl | rfl | rfl | rfl <;> first | (cases ht; done) | (obtain rfl := Option.some.inj ht; exact fun ρ w => new_num ht ρ w)) ?_
  simp only [List.take_succ_cons, List.take_zero, List.drop_succ_cons, List.drop_zero]
  repeat (refine wpMix_step (fun K hK => ?_); go_simp; first | (refine hK _ ?_; clear hK K) | (apply Exists.intro; refine ⟨fun g => ?_, hK _ ?_⟩; (go_at_call 14; exact to_c _ _); clear hK K) | (apply Exists.intro; refine ⟨fun g => ?_, hK _ ?_⟩; (go_at_call 31; exact const_c _ _); clear hK K) | (apply Exists.intro; refine ⟨fun g => ?_, hK _ ?_⟩; (go_at_call 30; exact mul_c _ _ _); clear hK K))
  refine wpMix_nil ?_
  intro G w6 hgr hblk hdist
  have hb : Below w5.heap.size w5 w6 := hgr
  replace Ba := Ba.next hb
  replace Bp := Bp.next hb
  obtain ⟨Bq, hlq⟩ := hblk 6 _ rfl
  have hgq : w.heap.size ≤ G 6 := Nat.le_trans hB.size hlq
  have hnaq : w.heap.size ≠ G 6 := Nat.ne_of_lt (Nat.lt_of_lt_of_le la hlq)
  have hnpq : gp ≠ G 6 := Nat.ne_of_lt (Nat.lt_of_lt_of_le lp hlq)
  clear hlq
  clear ca0 ca1 fa la
  clear cp0 cp1 fp lp
  replace hB : Below w.heap.size w w6 := Bl_trans hB hb
  simp only [putAll, isAlloc, Act.put]
  generalize G 6 = gq at *
  clear hb hgr hblk hdist
  have ca0 : w6.cell? ⟨w.heap.size, 0, none⟩ = some (uv (PlainTnum.right a).v) := Ba.cell 0
  have ca1 : w6.cell? ⟨w.heap.size, 1, none⟩ = some (uv (PlainTnum.right a).m) := Ba.cell 1
  have fa := Ba.frozen
  have la := Ba.lt
  have cp0 : w6.cell? ⟨gp, 0, none⟩ = some (uv (PlainTnum.mul (PlainTnum.right a) (PlainTnum.const (1#64 <<< n))).v) := Bp.cell 0
  have cp1 : w6.cell? ⟨gp, 1, none⟩ = some (uv (PlainTnum.mul (PlainTnum.right a) (PlainTnum.const (1#64 <<< n))).m) := Bp.cell 1
  have fp := Bp.frozen
  have lp := Bp.lt
  have cq0 : w6.cell? ⟨gq, 0, none⟩ = some (.int .u64 0) := Bq.cell 0
  have cq1 : w6.cell? ⟨gq, 1, none⟩ = some (.int .u64 0) := Bq.cell 1
  have fq := Bq.frozen
  have lq := Bq.lt
  go_wp2_with fail
  clear ca0 ca1 fa la
  clear cp0 cp1 fp lp
  clear cq0 cq1 fq lq
  replace Ba : Blk ((w6.setCell ⟨gq, 0, none⟩ (uv (PlainTnum.mul (PlainTnum.const (1#64 <<< n)) (PlainTnum.right a)).v)).setCell ⟨gq, 1, none⟩ (uv (PlainTnum.mul (PlainTnum.const (1#64 <<< n)) (PlainTnum.right a)).m)) (w.heap.size) 24 #[uv (PlainTnum.right a).v, uv (PlainTnum.right a).m] := ((Ba.far (by first | (simp; done) | (simp; omega) | (simp [*]; done) | (simp only [ne_eq]; constructor <;> omega)) _).far (by first | (simp; done) | (simp; omega) | (simp [*]; done) | (simp only [ne_eq]; constructor <;> omega)) _)
  replace Bp : Blk ((w6.setCell ⟨gq, 0, none⟩ (uv (PlainTnum.mul (PlainTnum.const (1#64 <<< n)) (PlainTnum.right a)).v)).setCell ⟨gq, 1, none⟩ (uv (PlainTnum.mul (PlainTnum.const (1#64 <<< n)) (PlainTnum.right a)).m)) (gp) 27 #[uv (PlainTnum.mul (PlainTnum.right a) (PlainTnum.const (1#64 <<< n))).v, uv (PlainTnum.mul (PlainTnum.right a) (PlainTnum.const (1#64 <<< n))).m] := ((Bp.far (by first | (simp; done) | (simp; omega) | (simp [*]; done) | (simp only [ne_eq]; constructor <;> omega)) _).far (by first | (simp; done) | (simp; omega) | (simp [*]; done) | (simp only [ne_eq]; constructor <;> omega)) _)
  replace Bq : Blk ((w6.setCell ⟨gq, 0, none⟩ (uv (PlainTnum.mul (PlainTnum.const (1#64 <<< n)) (PlainTnum.right a)).v)).setCell ⟨gq, 1, none⟩ (uv (PlainTnum.mul (PlainTnum.const (1#64 <<< n)) (PlainTnum.right a)).m)) (gq) 27 #[uv (PlainTnum.mul (PlainTnum.const (1#64 <<< n)) (PlainTnum.right a)).v, uv (PlainTnum.mul (PlainTnum.const (1#64 <<< n)) (PlainTnum.right a)).m] := ((Bq.set_ 0 _).set_ 1 _)
  replace hB : Below w.heap.size w ((w6.setCell ⟨gq, 0, none⟩ (uv (PlainTnum.mul (PlainTnum.const (1#64 <<< n)) (PlainTnum.right a)).v)).setCell ⟨gq, 1, none⟩ (uv (PlainTnum.mul (PlainTnum.const (1#64 <<< n)) (PlainTnum.right a)).m)) := (Bl_set (Bl_set hB (by first | omega | (simp; done) | (simp; omega)) _) (by first | omega | (simp; done) | (simp; omega)) _)
  generalize ((w6.setCell ⟨gq, 0, none⟩ (uv (PlainTnum.mul (PlainTnum.const (1#64 <<< n)) (PlainTnum.right a)).v)).setCell ⟨gq, 1, none⟩ (uv (PlainTnum.mul (PlainTnum.const (1#64 <<< n)) (PlainTnum.right a)).m)) = w7 at *
  have ca0 : w7.cell? ⟨w.heap.size, 0, none⟩ = some (uv (PlainTnum.right a).v) := Ba.cell 0
  have ca1 : w7.cell? ⟨w.heap.size, 1, none⟩ = some (uv (PlainTnum.right a).m) := Ba.cell 1
  have fa := Ba.frozen
  have la := Ba.lt
  have cp0 : w7.cell? ⟨gp, 0, none⟩ = some (uv (PlainTnum.mul (PlainTnum.right a) (PlainTnum.const (1#64 <<< n))).v) := Bp.cell 0
  have cp1 : w7.cell? ⟨gp, 1, none⟩ = some (uv (PlainTnum.mul (PlainTnum.right a) (PlainTnum.const (1#64 <<< n))).m) := Bp.cell 1
  have fp := Bp.frozen
  have lp := Bp.lt
  have cq0 : w7.cell? ⟨gq, 0, none⟩ = some (uv (PlainTnum.mul (PlainTnum.const (1#64 <<< n)) (PlainTnum.right a)).v) := Bq.cell 0
  have cq1 : w7.cell? ⟨gq, 1, none⟩ = some (uv (PlainTnum.mul (PlainTnum.const (1#64 <<< n)) (PlainTnum.right a)).m) := Bq.cell 1
  have fq := Bq.frozen
  have lq := Bq.lt
  refine (pick_c _ _ _).mono ?_
  rintro e w8 ⟨rfl, hb⟩
  clear ca0 ca1 fa la
  clear cp0 cp1 fp lp
  clear cq0 cq1 fq lq
  replace Ba := (Ba).next hb
  replace Bp := (Bp).next hb
  replace Bq := (Bq).next hb
  replace hB : Below w.heap.size w w8 := by repeat (first | exact hB | (refine Bl_set ?_ (by first | omega | (simp; omega)) _) | apply Bl_alloc | (refine Bl_trans ?_ hb))
  clear hb
  have ca0 : w8.cell? ⟨w.heap.size, 0, none⟩ = some (uv (PlainTnum.right a).v) := Ba.cell 0
  have ca1 : w8.cell? ⟨w.heap.size, 1, none⟩ = some (uv (PlainTnum.right a).m) := Ba.cell 1
  have fa := Ba.frozen
  have la := Ba.lt
  have cp0 : w8.cell? ⟨gp, 0, none⟩ = some (uv (PlainTnum.mul (PlainTnum.right a) (PlainTnum.const (1#64 <<< n))).v) := Bp.cell 0
  have cp1 : w8.cell? ⟨gp, 1, none⟩ = some (uv (PlainTnum.mul (PlainTnum.right a) (PlainTnum.const (1#64 <<< n))).m) := Bp.cell 1
  have fp := Bp.frozen
  have lp := Bp.lt
  have cq0 : w8.cell? ⟨gq, 0, none⟩ = some (uv (PlainTnum.mul (PlainTnum.const (1#64 <<< n)) (PlainTnum.right a)).v) := Bq.cell 0
  have cq1 : w8.cell? ⟨gq, 1, none⟩ = some (uv (PlainTnum.mul (PlainTnum.const (1#64 <<< n)) (PlainTnum.right a)).m) := Bq.cell 1
  have fq := Bq.frozen
  have lq := Bq.lt
  go_wp2_with fail
  replace ca0 : ∀ g : Later w8, g.w.cell? ⟨w.heap.size, 0, none⟩ = some (uv (PlainTnum.right a).v) := fun g => g.cell (Ba.cell 0)
  replace ca1 : ∀ g : Later w8, g.w.cell? ⟨w.heap.size, 1, none⟩ = some (uv (PlainTnum.right a).m) := fun g => g.cell (Ba.cell 1)
  replace cp0 : ∀ g : Later w8, g.w.cell? ⟨gp, 0, none⟩ = some (uv (PlainTnum.mul (PlainTnum.right a) (PlainTnum.const (1#64 <<< n))).v) := fun g => g.cell (Bp.cell 0)
  replace cp1 : ∀ g : Later w8, g.w.cell? ⟨gp, 1, none⟩ = some (uv (PlainTnum.mul (PlainTnum.right a) (PlainTnum.const (1#64 <<< n))).m) := fun g => g.cell (Bp.cell 1)
  replace cq0 : ∀ g : Later w8, g.w.cell? ⟨gq, 0, none⟩ = some (uv (PlainTnum.mul (PlainTnum.const (1#64 <<< n)) (PlainTnum.right a)).v) := fun g => g.cell (Bq.cell 0)
  replace cq1 : ∀ g : Later w8, g.w.cell? ⟨gq, 1, none⟩ = some (uv (PlainTnum.mul (PlainTnum.const (1#64 <<< n)) (PlainTnum.right a)).m) := fun g => g.cell (Bq.cell 1)
  refine wp_region_mix 35 (fun _ => #[]) (by kernel_rfl) (by kernel_rfl) (fun o t ho ht => by
    simp at ho
    rcases ho with rfl | rfl | rfl | rfl | rfl | rfl | rfl | rfl | rfl | rfl | rfl | rfl | rfl | rfl | rfl | rfl | rfl | rfl | rfl | rfl | rfl | rfl | rfl | rfl | rfl | rfl | rfl | rfl | rfl | rfl | rfl | rfl | rfl | rfl | rfl <;> cases ht) ?_
  simp only [List.take_succ_cons, List.take_zero, List.drop_succ_cons, List.drop_zero]
  repeat (refine wpMix_step (fun K hK => ?_); go_simp; first | (refine hK _ ?_; clear hK K) | (apply Exists.intro; refine ⟨fun g => ?_, hK _ ?_⟩; (go_at_call 15; exact knows_c _); clear hK K) | (apply Exists.intro; refine ⟨fun g => ?_, hK _ ?_⟩; (go_at_call 27; exact hast_c _ _ (by first | exact H1.out | exact H2.out | exact H3.out) _); clear hK K) | (apply Exists.intro; refine ⟨fun g => ?_, hK _ ?_⟩; (go_at_call 33; exact rightt_c _ (PlainTnum.R_mul _ _) _); clear hK K) | (apply Exists.intro; refine ⟨fun g => ?_, hK _ ?_⟩; (go_at_call 14; exact to_c _ _); clear hK K) | (apply Exists.intro; refine ⟨fun g => ?_, hK _ ?_⟩; (go_at_call 30; exact mul_c _ _ _); clear hK K))
  refine wpMix_nil ?_
  intro G w9 hgr hblk hdist
  have hb : Below w8.heap.size w8 w9 := hgr
  replace Ba := Ba.next hb
  replace Bp := Bp.next hb
  replace Bq := Bq.next hb
  clear ca0 ca1 fa la
  clear cp0 cp1 fp lp
  clear cq0 cq1 fq lq
  replace hB : Below w.heap.size w w9 := Bl_trans hB hb
  simp only [putAll, isAlloc]
  clear hb hgr hblk hdist
  have ca0 : w9.cell? ⟨w.heap.size, 0, none⟩ = some (uv (PlainTnum.right a).v) := Ba.cell 0
  have ca1 : w9.cell? ⟨w.heap.size, 1, none⟩ = some (uv (PlainTnum.right a).m) := Ba.cell 1
  have fa := Ba.frozen
  have la := Ba.lt
  have cp0 : w9.cell? ⟨gp, 0, none⟩ = some (uv (PlainTnum.mul (PlainTnum.right a) (PlainTnum.const (1#64 <<< n))).v) := Bp.cell 0
  have cp1 : w9.cell? ⟨gp, 1, none⟩ = some (uv (PlainTnum.mul (PlainTnum.right a) (PlainTnum.const (1#64 <<< n))).m) := Bp.cell 1
  have fp := Bp.frozen
  have lp := Bp.lt
  have cq0 : w9.cell? ⟨gq, 0, none⟩ = some (uv (PlainTnum.mul (PlainTnum.const (1#64 <<< n)) (PlainTnum.right a)).v) := Bq.cell 0
  have cq1 : w9.cell? ⟨gq, 1, none⟩ = some (uv (PlainTnum.mul (PlainTnum.const (1#64 <<< n)) (PlainTnum.right a)).m) := Bq.cell 1
  have fq := Bq.frozen
  have lq := Bq.lt
  go_goals
  go_wp2
  go_ret
  exact ⟨rfl, by repeat (first | exact hB | (refine Bl_set ?_ (by first | omega | (simp; omega)) _) | apply Bl_alloc)⟩
theorem walkN_TnumMuls (v m : W) (k : Int) (lo : -9223372036854775808 ≤ k) (hi : k ≤ 9223372036854775807) (x : W) (w : World) : Calls Try.prog 5 #[.agg #[.int .u64 (T v), .int .u64 (T m)], .int .i64 k, .int .u64 (T x)] w fun e w' => e = .returned (.bool true) ∧ Below w.heap.size w w' := walk_TnumMuls ⟨v, m⟩ k x w
namespace tnumMuls
set_option maxRecDepth 100000 in
theorem lifted (os : Os) (started : os.Started) (H : Type) (enc : TypeId × Value → H) :
    ReturnsInHanded {} Try.checked os 5 .any (Rows.tnumMulsSpec.pre6 enc Try.prog Try.f5 Rows.tnumMulsRow.domain false) (Rows.tnumMulsSpec.post enc Try.prog Try.f5 false true false false) := by
  refine returnsInHanded_of_change (C := Try.checked) own started (by kernel_rfl) Try.func5
    (ChangeSpec.witness6 (enc := enc) (C := Try.checked) false ⟨#[], #[.agg #[.int .u64 0, .int .u64 0], .int .i64 0, .int .u64 0], []⟩ 8 (by kernel_rfl) (by kernel_rfl) (by kernel_rfl) (by kernel_rfl)) ?_
  intro W base args ds gs before hval0 hW hcnd _
  have hval : ∀ (j : Nat) t v, Try.f5.params[j]? = some t → args[j]? = some v → Value.okWide Try.prog W .any base t v := hval0
  have hW' := hW
  obtain ⟨p, q, hA0, hV, rfl, hfz, hnd⟩ := hW
  have hA : DataW.TrodAll enc Try.prog W 0 (fun _ => true) true Try.f5.params.toList args.toList ds p := hA0
  rw [Try.params5] at hA hval
  obtain ⟨v0, vs0, d0, ds0, p0, q0, hargs, rfl, rfl, h0, r0⟩ := trodAll_cons hA
  obtain ⟨v1, vs1, d1, ds1, p1, q1, rfl, rfl, rfl, h1, r1⟩ := trodAll_cons r0
  obtain ⟨v2, vs2, d2, ds2, p2, q2, rfl, rfl, rfl, h2, r2⟩ := trodAll_cons r1
  obtain ⟨rfl, rfl, rfl⟩ := trodAll_nil r2
  obtain rfl : args = #[v0, v1, v2] := by cases args; simp_all
  obtain ⟨rfl, rfl⟩ := trodVars_none hV
  have lt0 : ∀ x ∈ p0, x.block < W.heap.size := by obtain ⟨m, hm⟩ := h0; exact DataW.trod_lt m _ _ _ hm
  obtain ⟨x0, y0, rfl⟩ := open_uu Try.underlying22 (by rw [Try.underlying24]) (by kernel_rfl) (by kernel_rfl) (hval 0 24 v0 rfl rfl)
  have lt1 : ∀ x ∈ p1, x.block < W.heap.size := by obtain ⟨m, hm⟩ := h1; exact DataW.trod_lt m _ _ _ hm
  obtain ⟨x1, rfl, lo1, hi1⟩ := open_i64 Try.underlying3 (hval 1 3 v1 rfl rfl)
  have lt2 : ∀ x ∈ p2, x.block < W.heap.size := by obtain ⟨m, hm⟩ := h2; exact DataW.trod_lt m _ _ _ hm
  obtain ⟨x2, rfl⟩ := open_u64 Try.underlying22 (hval 2 22 v2 rfl rfl)
  refine (walkN_TnumMuls x0 y0 x1 lo1 hi1 x2 W).mono fun e W' ⟨he, bel⟩ => ?_
  subst he
  exact ⟨_, rfl, _, _, _, [], _, [], hW', trodAll_mk1 (shut_bool Try.underlying4 _), (trodAll_cons_mk (Below.trod laidOut (by kernel_rfl) (of_decide_eq_true (by kernel_rfl)) h0 bel lt0) (trodAll_cons_mk (Below.trod laidOut (by kernel_rfl) (of_decide_eq_true (by kernel_rfl)) h1 bel lt1) (trodAll_cons_mk (Below.trod laidOut (by kernel_rfl) (of_decide_eq_true (by kernel_rfl)) h2 bel lt2) trodAll_mk0))), rfl, bel.frame _, fun h => by cases h⟩
theorem over : Rows.tnumMulsRow.holds Try.pinned (OpenSpec.ofChange Rows.tnumMulsSpec) :=
  OpenClaim.holds_of_wide 5 Try.f5 rfl rfl rfl rfl rfl rfl rfl ⟨rfl, rfl, rfl, rfl, rfl⟩ rfl rfl rfl rfl rfl (by kernel_rfl) Try.func5 (by kernel_rfl)
    (of_decide_eq_true (by kernel_rfl)) (by unfold Func.isWrapper; first | (rw [if_pos (by decide +kernel)]; kernel_rfl) | (rw [if_neg (by decide +kernel)]; exact ⟨rfl, rfl⟩))
    (fun os started H enc _ => lifted os started H enc)
/-- The given statement. -/
theorem proved : Rows.TnumMulsSaid := over
#print axioms proved
end tnumMuls
end Go.Proofs.Ytmghpoagpiljhaa
