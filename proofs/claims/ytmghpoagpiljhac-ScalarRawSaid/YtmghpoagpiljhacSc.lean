/- The walks of package scalar: what each call answers; nothing that was there is written. -/
import Derived.Test.YtmghpoagpiljhacTw
import Derived.Test.YtmghpoagpiljhacMix
import Derived.Test.YtmghpoagpiljhacSigned
import Derived.Test.YtmghpoagpiljhacLib
set_option linter.unusedSimpArgs false
namespace Go.Proofs.Ytmghpoagpiljhac
open Go.RowKit
open PlainTnum (N)
open PlainScalar (Rng)

/-- A range as a value. -/
abbrev rv (a : Rng) : Value := .agg #[uv a.b.v, uv a.b.m, uv a.lo, uv a.hi, sv a.sl, sv a.sh]
set_option maxHeartbeats 400000 in
theorem sconst_c (x : W) (w : World) : Calls Try.prog 13 #[uv x] w fun e w' => e = .returned (rv (PlainScalar.const x)) ∧ Below w.heap.size w w' := by
  go_enter Try.func13, Try.ntmps13
  go_wp2_with fail
  refine (const_c _ _).mono ?_
  rintro e w1 ⟨rfl, hb1⟩
  obtain ⟨hc1, hf1⟩ := bcell hb1
  have hz1 := hb1.size
  go_wp2
  exact bodyPost_ret (v := rv (PlainScalar.const x)) (by simp [results, Try.results13, go_sem, hc1, PlainScalar.const]) rfl ⟨rfl, (by repeat (first | (with_reducible exact Bl_refl _) | with_reducible apply Bl_alloc | with_reducible apply Bl_drew | with_reducible apply Bl_drewN | (with_reducible refine Bl_set ?_ (by first | omega | (simp; done) | (simp; omega)) _) | (with_reducible refine Bl_trans ?_ (by assumption))))⟩
set_option maxHeartbeats 400000 in
theorem sany_c  (w : World) : Calls Try.prog 15 #[] w fun e w' => e = .returned (rv PlainScalar.any) ∧ Below w.heap.size w w' := by
  go_enter Try.func15, Try.ntmps15
  go_wp2_with fail
  refine (any_c _).mono ?_
  rintro e w1 ⟨rfl, hb1⟩
  obtain ⟨hc1, hf1⟩ := bcell hb1
  have hz1 := hb1.size
  go_wp2
  exact bodyPost_ret (v := rv PlainScalar.any) (by simp [results, Try.results15, go_sem, hc1, PlainScalar.any, PlainScalar.minI, PlainScalar.maxI, T, S]) rfl ⟨rfl, (by repeat (first | (with_reducible exact Bl_refl _) | with_reducible apply Bl_alloc | with_reducible apply Bl_drew | with_reducible apply Bl_drewN | (with_reducible refine Bl_set ?_ (by first | omega | (simp; done) | (simp; omega)) _) | (with_reducible refine Bl_trans ?_ (by assumption))))⟩
set_option maxHeartbeats 800000 in
theorem shas_c (a : Rng) (x : W) (w : World) : Calls Try.prog 9 #[rv a, uv x] w fun e w' => e = .returned (.bool (PlainScalar.has a x)) ∧ Below w.heap.size w w' := by
  go_enter Try.func9, Try.ntmps9
  go_wp2
  all_goals
    go_ret
    refine ⟨?_, (by repeat (first | (with_reducible exact Bl_refl _) | with_reducible apply Bl_alloc | with_reducible apply Bl_drew | with_reducible apply Bl_drewN | (with_reducible refine Bl_set ?_ (by first | omega | (simp; done) | (simp; omega)) _) | (with_reducible refine Bl_trans ?_ (by assumption))))⟩
    simp_all [PlainScalar.has, PlainTnum.has, T_le, T_lt, T_eq, S_le, S_lt] <;> first | rfl | exact decide_eq_decide.2 Iff.rfl | (intros; omega)
set_option maxHeartbeats 800000 in
theorem swithin_c (a b : Rng) (w : World) : Calls Try.prog 17 #[rv a, rv b] w fun e w' => e = .returned (.bool (PlainScalar.within a b)) ∧ Below w.heap.size w w' := by
  go_enter Try.func17, Try.ntmps17
  go_wp2_with (refine (within_c _ _ _).mono ?_; rintro e w1 ⟨rfl, hb1⟩)
  all_goals
    go_ret
    refine ⟨?_, (by repeat (first | (with_reducible exact Bl_refl _) | with_reducible apply Bl_alloc | with_reducible apply Bl_drew | with_reducible apply Bl_drewN | (with_reducible refine Bl_set ?_ (by first | omega | (simp; done) | (simp; omega)) _) | (with_reducible refine Bl_trans ?_ (by assumption))))⟩
    simp_all [PlainScalar.within, T_le, T_lt, T_eq, S_le, S_lt] <;> first | rfl | exact decide_eq_decide.2 Iff.rfl | (intros; omega)
set_option maxHeartbeats 800000 in
theorem alone_c (a : Rng) (w : World) : Calls Try.prog 23 #[rv a] w fun e w' => e = .returned (.bool (PlainScalar.alone a)) ∧ Below w.heap.size w w' := by
  go_enter Try.func23, Try.ntmps23
  go_wp2_with (refine (shas_c _ _ _).mono ?_; rintro e w1 ⟨rfl, hb1⟩)
  all_goals
    go_ret
    refine ⟨?_, (by repeat (first | (with_reducible exact Bl_refl _) | with_reducible apply Bl_alloc | with_reducible apply Bl_drew | with_reducible apply Bl_drewN | (with_reducible refine Bl_set ?_ (by first | omega | (simp; done) | (simp; omega)) _) | (with_reducible refine Bl_trans ?_ (by assumption))))⟩
    simp_all [PlainScalar.alone, T_beq, T_beq0, T_eq0, T_eq, S_beq, S_eq] <;> first | rfl | exact decide_eq_decide.2 Iff.rfl | (intros; omega)
set_option maxRecDepth 100000 in
set_option maxHeartbeats 3200000 in
theorem sjoin_c (a b : Rng) (w : World) : Calls Try.prog 16 #[rv a, rv b] w fun e w' => e = .returned (rv (PlainScalar.join a b)) ∧ Below w.heap.size w w' := by
  go_enter Try.func16, Try.ntmps16
  go_wp2_with fail
  obtain ⟨ga, hga⟩ : ∃ g, g = w.heap.size := ⟨_, rfl⟩
  obtain ⟨gb, hgb⟩ : ∃ g, g = w.heap.size + 1 := ⟨_, rfl⟩
  obtain ⟨gr, hgr⟩ : ∃ g, g = w.heap.size + 1 + 1 := ⟨_, rfl⟩
  have Ba : Blk (((w.alloc (.cells #[uv a.b.v, uv a.b.m, uv a.lo, uv a.hi, sv a.sl, sv a.sh] 39)).alloc (.cells #[uv b.b.v, uv b.b.m, uv b.lo, uv b.hi, sv b.sl, sv b.sh] 39)).alloc (.cells #[.int .u64 0, .int .u64 0, .int .u64 0, .int .u64 0, .int .i64 0, .int .i64 0] 39)) (w.heap.size) 39 #[uv a.b.v, uv a.b.m, uv a.lo, uv a.hi, sv a.sl, sv a.sh] := (((Blk.new w 39 #[uv a.b.v, uv a.b.m, uv a.lo, uv a.hi, sv a.sl, sv a.sh])).alloc _).alloc _
  have Bb : Blk (((w.alloc (.cells #[uv a.b.v, uv a.b.m, uv a.lo, uv a.hi, sv a.sl, sv a.sh] 39)).alloc (.cells #[uv b.b.v, uv b.b.m, uv b.lo, uv b.hi, sv b.sl, sv b.sh] 39)).alloc (.cells #[.int .u64 0, .int .u64 0, .int .u64 0, .int .u64 0, .int .i64 0, .int .i64 0] 39)) (w.heap.size + 1) 39 #[uv b.b.v, uv b.b.m, uv b.lo, uv b.hi, sv b.sl, sv b.sh] := ((by simpa using Blk.new (w.alloc (.cells #[uv a.b.v, uv a.b.m, uv a.lo, uv a.hi, sv a.sl, sv a.sh] 39)) 39 #[uv b.b.v, uv b.b.m, uv b.lo, uv b.hi, sv b.sl, sv b.sh] : Blk _ (w.heap.size + 1) 39 #[uv b.b.v, uv b.b.m, uv b.lo, uv b.hi, sv b.sl, sv b.sh])).alloc _
  have Br : Blk (((w.alloc (.cells #[uv a.b.v, uv a.b.m, uv a.lo, uv a.hi, sv a.sl, sv a.sh] 39)).alloc (.cells #[uv b.b.v, uv b.b.m, uv b.lo, uv b.hi, sv b.sl, sv b.sh] 39)).alloc (.cells #[.int .u64 0, .int .u64 0, .int .u64 0, .int .u64 0, .int .i64 0, .int .i64 0] 39)) (w.heap.size + 1 + 1) 39 #[.int .u64 0, .int .u64 0, .int .u64 0, .int .u64 0, .int .i64 0, .int .i64 0] := (by simpa using Blk.new ((w.alloc (.cells #[uv a.b.v, uv a.b.m, uv a.lo, uv a.hi, sv a.sl, sv a.sh] 39)).alloc (.cells #[uv b.b.v, uv b.b.m, uv b.lo, uv b.hi, sv b.sl, sv b.sh] 39)) 39 #[.int .u64 0, .int .u64 0, .int .u64 0, .int .u64 0, .int .i64 0, .int .i64 0] : Blk _ (w.heap.size + 1 + 1) 39 #[.int .u64 0, .int .u64 0, .int .u64 0, .int .u64 0, .int .i64 0, .int .i64 0])
  have hB : Below w.heap.size w (((w.alloc (.cells #[uv a.b.v, uv a.b.m, uv a.lo, uv a.hi, sv a.sl, sv a.sh] 39)).alloc (.cells #[uv b.b.v, uv b.b.m, uv b.lo, uv b.hi, sv b.sl, sv b.sh] 39)).alloc (.cells #[.int .u64 0, .int .u64 0, .int .u64 0, .int .u64 0, .int .i64 0, .int .i64 0] 39)) := (Bl_alloc (Bl_alloc (Bl_alloc (Bl_refl w) _) _) _)
  clear hga
  clear ga
  clear hgb
  clear gb
  clear hgr
  clear gr
  generalize (((w.alloc (.cells #[uv a.b.v, uv a.b.m, uv a.lo, uv a.hi, sv a.sl, sv a.sh] 39)).alloc (.cells #[uv b.b.v, uv b.b.m, uv b.lo, uv b.hi, sv b.sl, sv b.sh] 39)).alloc (.cells #[.int .u64 0, .int .u64 0, .int .u64 0, .int .u64 0, .int .i64 0, .int .i64 0] 39)) = w1 at *
  have ca0 : w1.cell? ⟨w.heap.size, 0, none⟩ = some (uv a.b.v) := Ba.cell 0
  have ca1 : w1.cell? ⟨w.heap.size, 1, none⟩ = some (uv a.b.m) := Ba.cell 1
  have ca2 : w1.cell? ⟨w.heap.size, 2, none⟩ = some (uv a.lo) := Ba.cell 2
  have ca3 : w1.cell? ⟨w.heap.size, 3, none⟩ = some (uv a.hi) := Ba.cell 3
  have ca4 : w1.cell? ⟨w.heap.size, 4, none⟩ = some (sv a.sl) := Ba.cell 4
  have ca5 : w1.cell? ⟨w.heap.size, 5, none⟩ = some (sv a.sh) := Ba.cell 5
  have fa := Ba.frozen
  have la := Ba.lt
  have cb0 : w1.cell? ⟨w.heap.size + 1, 0, none⟩ = some (uv b.b.v) := Bb.cell 0
  have cb1 : w1.cell? ⟨w.heap.size + 1, 1, none⟩ = some (uv b.b.m) := Bb.cell 1
  have cb2 : w1.cell? ⟨w.heap.size + 1, 2, none⟩ = some (uv b.lo) := Bb.cell 2
  have cb3 : w1.cell? ⟨w.heap.size + 1, 3, none⟩ = some (uv b.hi) := Bb.cell 3
  have cb4 : w1.cell? ⟨w.heap.size + 1, 4, none⟩ = some (sv b.sl) := Bb.cell 4
  have cb5 : w1.cell? ⟨w.heap.size + 1, 5, none⟩ = some (sv b.sh) := Bb.cell 5
  have fb := Bb.frozen
  have lb := Bb.lt
  have cr0 : w1.cell? ⟨w.heap.size + 1 + 1, 0, none⟩ = some (.int .u64 0) := Br.cell 0
  have cr1 : w1.cell? ⟨w.heap.size + 1 + 1, 1, none⟩ = some (.int .u64 0) := Br.cell 1
  have cr2 : w1.cell? ⟨w.heap.size + 1 + 1, 2, none⟩ = some (.int .u64 0) := Br.cell 2
  have cr3 : w1.cell? ⟨w.heap.size + 1 + 1, 3, none⟩ = some (.int .u64 0) := Br.cell 3
  have cr4 : w1.cell? ⟨w.heap.size + 1 + 1, 4, none⟩ = some (.int .i64 0) := Br.cell 4
  have cr5 : w1.cell? ⟨w.heap.size + 1 + 1, 5, none⟩ = some (.int .i64 0) := Br.cell 5
  have fr := Br.frozen
  have lr := Br.lt
  go_wp2_with fail
  replace ca0 : ∀ g : Later w1, g.w.cell? ⟨w.heap.size, 0, none⟩ = some (uv a.b.v) := fun g => g.cell (Ba.cell 0)
  replace ca1 : ∀ g : Later w1, g.w.cell? ⟨w.heap.size, 1, none⟩ = some (uv a.b.m) := fun g => g.cell (Ba.cell 1)
  replace ca2 : ∀ g : Later w1, g.w.cell? ⟨w.heap.size, 2, none⟩ = some (uv a.lo) := fun g => g.cell (Ba.cell 2)
  replace ca3 : ∀ g : Later w1, g.w.cell? ⟨w.heap.size, 3, none⟩ = some (uv a.hi) := fun g => g.cell (Ba.cell 3)
  replace ca4 : ∀ g : Later w1, g.w.cell? ⟨w.heap.size, 4, none⟩ = some (sv a.sl) := fun g => g.cell (Ba.cell 4)
  replace ca5 : ∀ g : Later w1, g.w.cell? ⟨w.heap.size, 5, none⟩ = some (sv a.sh) := fun g => g.cell (Ba.cell 5)
  replace cb0 : ∀ g : Later w1, g.w.cell? ⟨w.heap.size + 1, 0, none⟩ = some (uv b.b.v) := fun g => g.cell (Bb.cell 0)
  replace cb1 : ∀ g : Later w1, g.w.cell? ⟨w.heap.size + 1, 1, none⟩ = some (uv b.b.m) := fun g => g.cell (Bb.cell 1)
  replace cb2 : ∀ g : Later w1, g.w.cell? ⟨w.heap.size + 1, 2, none⟩ = some (uv b.lo) := fun g => g.cell (Bb.cell 2)
  replace cb3 : ∀ g : Later w1, g.w.cell? ⟨w.heap.size + 1, 3, none⟩ = some (uv b.hi) := fun g => g.cell (Bb.cell 3)
  replace cb4 : ∀ g : Later w1, g.w.cell? ⟨w.heap.size + 1, 4, none⟩ = some (sv b.sl) := fun g => g.cell (Bb.cell 4)
  replace cb5 : ∀ g : Later w1, g.w.cell? ⟨w.heap.size + 1, 5, none⟩ = some (sv b.sh) := fun g => g.cell (Bb.cell 5)
  replace cr0 : ∀ g : Later w1, g.w.cell? ⟨w.heap.size + 1 + 1, 0, none⟩ = some (.int .u64 0) := fun g => g.cell (Br.cell 0)
  replace cr1 : ∀ g : Later w1, g.w.cell? ⟨w.heap.size + 1 + 1, 1, none⟩ = some (.int .u64 0) := fun g => g.cell (Br.cell 1)
  replace cr2 : ∀ g : Later w1, g.w.cell? ⟨w.heap.size + 1 + 1, 2, none⟩ = some (.int .u64 0) := fun g => g.cell (Br.cell 2)
  replace cr3 : ∀ g : Later w1, g.w.cell? ⟨w.heap.size + 1 + 1, 3, none⟩ = some (.int .u64 0) := fun g => g.cell (Br.cell 3)
  replace cr4 : ∀ g : Later w1, g.w.cell? ⟨w.heap.size + 1 + 1, 4, none⟩ = some (.int .i64 0) := fun g => g.cell (Br.cell 4)
  replace cr5 : ∀ g : Later w1, g.w.cell? ⟨w.heap.size + 1 + 1, 5, none⟩ = some (.int .i64 0) := fun g => g.cell (Br.cell 5)
  refine wp_region_mix 26 (fun _ => #[]) (by kernel_rfl) (by kernel_rfl) (no_alloc (by kernel_rfl)) ?_
  simp only [List.take_succ_cons, List.take_zero, List.drop_succ_cons, List.drop_zero]
  repeat (refine wpMix_step (fun K hK => ?_); go_simp; first | (refine hK _ ?_; clear hK K) | (refine ⟨_, fun g => join_c _ _ g.w, hK _ ?_⟩; clear hK K))
  refine wpMix_nil ?_
  intro G w2 hgr hblk hdist
  have hb : Below w1.heap.size w1 w2 := hgr
  replace Ba := Ba.next hb
  replace Bb := Bb.next hb
  replace Br := Br.next hb
  clear ca0 ca1 ca2 ca3 ca4 ca5 fa la
  clear cb0 cb1 cb2 cb3 cb4 cb5 fb lb
  clear cr0 cr1 cr2 cr3 cr4 cr5 fr lr
  replace hB : Below w.heap.size w w2 := Bl_trans hB hb
  simp only [putAll, isAlloc]
  clear hb hgr hblk hdist
  have ca0 : w2.cell? ⟨w.heap.size, 0, none⟩ = some (uv a.b.v) := Ba.cell 0
  have ca1 : w2.cell? ⟨w.heap.size, 1, none⟩ = some (uv a.b.m) := Ba.cell 1
  have ca2 : w2.cell? ⟨w.heap.size, 2, none⟩ = some (uv a.lo) := Ba.cell 2
  have ca3 : w2.cell? ⟨w.heap.size, 3, none⟩ = some (uv a.hi) := Ba.cell 3
  have ca4 : w2.cell? ⟨w.heap.size, 4, none⟩ = some (sv a.sl) := Ba.cell 4
  have ca5 : w2.cell? ⟨w.heap.size, 5, none⟩ = some (sv a.sh) := Ba.cell 5
  have fa := Ba.frozen
  have la := Ba.lt
  have cb0 : w2.cell? ⟨w.heap.size + 1, 0, none⟩ = some (uv b.b.v) := Bb.cell 0
  have cb1 : w2.cell? ⟨w.heap.size + 1, 1, none⟩ = some (uv b.b.m) := Bb.cell 1
  have cb2 : w2.cell? ⟨w.heap.size + 1, 2, none⟩ = some (uv b.lo) := Bb.cell 2
  have cb3 : w2.cell? ⟨w.heap.size + 1, 3, none⟩ = some (uv b.hi) := Bb.cell 3
  have cb4 : w2.cell? ⟨w.heap.size + 1, 4, none⟩ = some (sv b.sl) := Bb.cell 4
  have cb5 : w2.cell? ⟨w.heap.size + 1, 5, none⟩ = some (sv b.sh) := Bb.cell 5
  have fb := Bb.frozen
  have lb := Bb.lt
  have cr0 : w2.cell? ⟨w.heap.size + 1 + 1, 0, none⟩ = some (.int .u64 0) := Br.cell 0
  have cr1 : w2.cell? ⟨w.heap.size + 1 + 1, 1, none⟩ = some (.int .u64 0) := Br.cell 1
  have cr2 : w2.cell? ⟨w.heap.size + 1 + 1, 2, none⟩ = some (.int .u64 0) := Br.cell 2
  have cr3 : w2.cell? ⟨w.heap.size + 1 + 1, 3, none⟩ = some (.int .u64 0) := Br.cell 3
  have cr4 : w2.cell? ⟨w.heap.size + 1 + 1, 4, none⟩ = some (.int .i64 0) := Br.cell 4
  have cr5 : w2.cell? ⟨w.heap.size + 1 + 1, 5, none⟩ = some (.int .i64 0) := Br.cell 5
  have fr := Br.frozen
  have lr := Br.lt
  go_wp2
  exact bodyPost_ret (v := rv (PlainScalar.join a b)) (by simp [results, Try.results16, go_sem, cr0, cr1, cr2, cr3, cr4, cr5, lr, PlainScalar.join]) rfl ⟨rfl, by repeat (first | (with_reducible exact hB) | (with_reducible refine Bl_set ?_ (by first | omega | (simp; done) | (simp; omega)) _) | with_reducible apply Bl_alloc)⟩
end Go.Proofs.Ytmghpoagpiljhac
