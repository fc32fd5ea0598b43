/- The walks of the reference of layer 13: what a bit may be; a bit that may be these. -/
import Derived.Test.YtmghpoagpiljhaaLaw13
namespace Go.Proofs.Ytmghpoagpiljhaa
open Go.RowKit
open PlainTnum (N May)

/-- What a bit may be, as a value. -/
abbrev mv (x : May) : Value := .agg #[.bool x.1, .bool x.2]
theorem bit_test (x : W) (i : Nat) : (T ((x >>> i) &&& 1#64) == 1) = x.getLsbD i := by
  rw [T_beq1, Bool.eq_iff_iff, beq_iff_eq]
  have h : ((x >>> i) &&& 1#64).toNat = (x.getLsbD i).toNat := by
    rw [BitVec.toNat_and, show (1#64).toNat = 1 from rfl, Nat.and_one_is_mod, BitVec.toNat_ushiftRight, BitVec.getLsbD, Nat.testBit]
    rw [Nat.one_and_eq_mod_two]
    rcases Nat.mod_two_eq_zero_or_one (x.toNat >>> i) with h | h <;> simp [h]
  constructor
  · intro e
    rw [e] at h
    cases hb : x.getLsbD i with
    | true => rfl
    | false => rw [hb] at h; cases h
  · intro e
    rw [e] at h
    exact BitVec.eq_of_toNat_eq h
set_option maxHeartbeats 400000 in
theorem bits_c (a : N) (i : Int) (h0 : 0 ≤ i) (h1 : i < 64) (w : World) : Calls Try.prog 55 #[nv a, .int .i64 i] w fun e w' => e = .returned (mv (PlainTnum.bitsOf a i.toNat)) ∧ Below w.heap.size w w' := by
  have hn : ¬ i < 0 := by omega
  have hm : min i.toNat 64 = i.toNat := by omega
  cases hq : (T ((a.m >>> i.toNat) &&& 1#64) == 1)
  · go_enter Try.func55, Try.ntmps55
    go_wp2
    exact bodyPost_ret (v := mv (PlainTnum.bitsOf a i.toNat)) (by simp [results, Try.results55, go_sem, PlainTnum.bitsOf, ← bit_test, hq]) rfl ⟨rfl, (by repeat (first | exact Bl_refl _ | apply Bl_alloc | apply Bl_drew | apply Bl_drewN | (refine Bl_set ?_ (by first | omega | (simp; done) | (simp; omega)) _) | (refine Bl_trans ?_ (by assumption))))⟩
  · go_enter Try.func55, Try.ntmps55
    go_wp2
    exact bodyPost_ret (v := mv (PlainTnum.bitsOf a i.toNat)) (by simp [results, Try.results55, go_sem, PlainTnum.bitsOf, ← bit_test, hq]) rfl ⟨rfl, (by repeat (first | exact Bl_refl _ | apply Bl_alloc | apply Bl_drew | apply Bl_drewN | (refine Bl_set ?_ (by first | omega | (simp; done) | (simp; omega)) _) | (refine Bl_trans ?_ (by assumption))))⟩
set_option maxRecDepth 100000 in
set_option maxHeartbeats 3200000 in
theorem set_c (out : N) (i : Int) (h0 : 0 ≤ i) (h1 : i < 64) (may : May) (w : World) : Calls Try.prog 54 #[nv out, .int .i64 i, mv may] w fun e w' => e = .returned (nv (PlainTnum.setN out i.toNat may)) ∧ Below w.heap.size w w' := by
  obtain ⟨p, q⟩ := may
  have hn : ¬ i < 0 := by omega
  have hm : min i.toNat 64 = i.toNat := by omega
  cases p <;> cases q
  · go_enter Try.func54, Try.ntmps54
    go_upto_region 1 with fail
    obtain ⟨go, hgo⟩ : ∃ g, g = w.heap.size := ⟨_, rfl⟩
    obtain ⟨gm, hgm⟩ : ∃ g, g = w.heap.size + 1 := ⟨_, rfl⟩
    obtain ⟨gr, hgr⟩ : ∃ g, g = w.heap.size + 1 + 1 := ⟨_, rfl⟩
    have Bo : Blk (((w.alloc (.cells #[uv out.v, uv out.m] 24)).alloc (.cells #[.bool false, .bool false] 89)).alloc (.cells #[.int .u64 0, .int .u64 0] 24)) (w.heap.size) 24 #[uv out.v, uv out.m] := (((Blk.new w 24 #[uv out.v, uv out.m])).alloc _).alloc _
    have Bm : Blk (((w.alloc (.cells #[uv out.v, uv out.m] 24)).alloc (.cells #[.bool false, .bool false] 89)).alloc (.cells #[.int .u64 0, .int .u64 0] 24)) (w.heap.size + 1) 89 #[.bool false, .bool false] := ((by simpa using Blk.new (w.alloc (.cells #[uv out.v, uv out.m] 24)) 89 #[.bool false, .bool false] : Blk _ (w.heap.size + 1) 89 #[.bool false, .bool false])).alloc _
    have Br : Blk (((w.alloc (.cells #[uv out.v, uv out.m] 24)).alloc (.cells #[.bool false, .bool false] 89)).alloc (.cells #[.int .u64 0, .int .u64 0] 24)) (w.heap.size + 1 + 1) 24 #[.int .u64 0, .int .u64 0] := (by simpa using Blk.new ((w.alloc (.cells #[uv out.v, uv out.m] 24)).alloc (.cells #[.bool false, .bool false] 89)) 24 #[.int .u64 0, .int .u64 0] : Blk _ (w.heap.size + 1 + 1) 24 #[.int .u64 0, .int .u64 0])
    have hB : Below w.heap.size w (((w.alloc (.cells #[uv out.v, uv out.m] 24)).alloc (.cells #[.bool false, .bool false] 89)).alloc (.cells #[.int .u64 0, .int .u64 0] 24)) := (Bl_alloc (Bl_alloc (Bl_alloc (Bl_refl w) _) _) _)
    clear hgo
    clear go
    clear hgm
    clear gm
    clear hgr
    clear gr
    generalize (((w.alloc (.cells #[uv out.v, uv out.m] 24)).alloc (.cells #[.bool false, .bool false] 89)).alloc (.cells #[.int .u64 0, .int .u64 0] 24)) = w1 at *
    have co0 : w1.cell? ⟨w.heap.size, 0, none⟩ = some (uv out.v) := Bo.cell 0
    have co1 : w1.cell? ⟨w.heap.size, 1, none⟩ = some (uv out.m) := Bo.cell 1
    have fo := Bo.frozen
    have lo := Bo.lt
    have cm0 : w1.cell? ⟨w.heap.size + 1, 0, none⟩ = some (.bool false) := Bm.cell 0
    have cm1 : w1.cell? ⟨w.heap.size + 1, 1, none⟩ = some (.bool false) := Bm.cell 1
    have fm := Bm.frozen
    have lm := Bm.lt
    have cr0 : w1.cell? ⟨w.heap.size + 1 + 1, 0, none⟩ = some (.int .u64 0) := Br.cell 0
    have cr1 : w1.cell? ⟨w.heap.size + 1 + 1, 1, none⟩ = some (.int .u64 0) := Br.cell 1
    have fr := Br.frozen
    have lr := Br.lt
    go_wp2
    exact bodyPost_ret (v := nv out) (by simp [results, Try.results54, go_sem, cr0, cr1]) rfl ⟨rfl, by repeat (first | exact hB | (refine Bl_set ?_ (by first | omega | (simp; done) | (simp; omega)) _) | apply Bl_alloc)⟩
  · go_enter Try.func54, Try.ntmps54
    go_upto_region 1 with fail
    obtain ⟨go, hgo⟩ : ∃ g, g = w.heap.size := ⟨_, rfl⟩
    obtain ⟨gm, hgm⟩ : ∃ g, g = w.heap.size + 1 := ⟨_, rfl⟩
    obtain ⟨gr, hgr⟩ : ∃ g, g = w.heap.size + 1 + 1 := ⟨_, rfl⟩
    have Bo : Blk (((w.alloc (.cells #[uv out.v, uv out.m] 24)).alloc (.cells #[.bool false, .bool true] 89)).alloc (.cells #[.int .u64 0, .int .u64 0] 24)) (w.heap.size) 24 #[uv out.v, uv out.m] := (((Blk.new w 24 #[uv out.v, uv out.m])).alloc _).alloc _
    have Bm : Blk (((w.alloc (.cells #[uv out.v, uv out.m] 24)).alloc (.cells #[.bool false, .bool true] 89)).alloc (.cells #[.int .u64 0, .int .u64 0] 24)) (w.heap.size + 1) 89 #[.bool false, .bool true] := ((by simpa using Blk.new (w.alloc (.cells #[uv out.v, uv out.m] 24)) 89 #[.bool false, .bool true] : Blk _ (w.heap.size + 1) 89 #[.bool false, .bool true])).alloc _
    have Br : Blk (((w.alloc (.cells #[uv out.v, uv out.m] 24)).alloc (.cells #[.bool false, .bool true] 89)).alloc (.cells #[.int .u64 0, .int .u64 0] 24)) (w.heap.size + 1 + 1) 24 #[.int .u64 0, .int .u64 0] := (by simpa using Blk.new ((w.alloc (.cells #[uv out.v, uv out.m] 24)).alloc (.cells #[.bool false, .bool true] 89)) 24 #[.int .u64 0, .int .u64 0] : Blk _ (w.heap.size + 1 + 1) 24 #[.int .u64 0, .int .u64 0])
    have hB : Below w.heap.size w (((w.alloc (.cells #[uv out.v, uv out.m] 24)).alloc (.cells #[.bool false, .bool true] 89)).alloc (.cells #[.int .u64 0, .int .u64 0] 24)) := (Bl_alloc (Bl_alloc (Bl_alloc (Bl_refl w) _) _) _)
    clear hgo
    clear go
    clear hgm
    clear gm
    clear hgr
    clear gr
    generalize (((w.alloc (.cells #[uv out.v, uv out.m] 24)).alloc (.cells #[.bool false, .bool true] 89)).alloc (.cells #[.int .u64 0, .int .u64 0] 24)) = w1 at *
    have co0 : w1.cell? ⟨w.heap.size, 0, none⟩ = some (uv out.v) := Bo.cell 0
    have co1 : w1.cell? ⟨w.heap.size, 1, none⟩ = some (uv out.m) := Bo.cell 1
    have fo := Bo.frozen
    have lo := Bo.lt
    have cm0 : w1.cell? ⟨w.heap.size + 1, 0, none⟩ = some (.bool false) := Bm.cell 0
    have cm1 : w1.cell? ⟨w.heap.size + 1, 1, none⟩ = some (.bool true) := Bm.cell 1
    have fm := Bm.frozen
    have lm := Bm.lt
    have cr0 : w1.cell? ⟨w.heap.size + 1 + 1, 0, none⟩ = some (.int .u64 0) := Br.cell 0
    have cr1 : w1.cell? ⟨w.heap.size + 1 + 1, 1, none⟩ = some (.int .u64 0) := Br.cell 1
    have fr := Br.frozen
    have lr := Br.lt
    go_wp2_with fail
    replace co0 : ∀ g : Later w1, g.w.cell? ⟨w.heap.size, 0, none⟩ = some (uv out.v) := fun g => g.cell (Bo.cell 0)
    replace co1 : ∀ g : Later w1, g.w.cell? ⟨w.heap.size, 1, none⟩ = some (uv out.m) := fun g => g.cell (Bo.cell 1)
    replace cm0 : ∀ g : Later w1, g.w.cell? ⟨w.heap.size + 1, 0, none⟩ = some (.bool false) := fun g => g.cell (Bm.cell 0)
    replace cm1 : ∀ g : Later w1, g.w.cell? ⟨w.heap.size + 1, 1, none⟩ = some (.bool true) := fun g => g.cell (Bm.cell 1)
    replace cr0 : ∀ g : Later w1, g.w.cell? ⟨w.heap.size + 1 + 1, 0, none⟩ = some (.int .u64 0) := fun g => g.cell (Br.cell 0)
    replace cr1 : ∀ g : Later w1, g.w.cell? ⟨w.heap.size + 1 + 1, 1, none⟩ = some (.int .u64 0) := fun g => g.cell (Br.cell 1)
    refine wp_region_mix 6 (fun _ => #[]) (by kernel_rfl) (by kernel_rfl) (no_alloc (by kernel_rfl)) ?_
    simp only [List.take_succ_cons, List.take_zero, List.drop_succ_cons, List.drop_zero]
    repeat (refine wpMix_step (fun K hK => ?_); go_simp; first | (refine hK _ ?_; clear hK K))
    refine wpMix_nil ?_
    intro G w2 hgr hblk hdist
    have hb : Below w1.heap.size w1 w2 := hgr
    replace Bo := Bo.next hb
    replace Bm := Bm.next hb
    replace Br := Br.next hb
    clear co0 co1 fo lo
    clear cm0 cm1 fm lm
    clear cr0 cr1 fr lr
    replace hB : Below w.heap.size w w2 := Bl_trans hB hb
    simp only [putAll, isAlloc]
    clear hb hgr hblk hdist
    have co0 : w2.cell? ⟨w.heap.size, 0, none⟩ = some (uv out.v) := Bo.cell 0
    have co1 : w2.cell? ⟨w.heap.size, 1, none⟩ = some (uv out.m) := Bo.cell 1
    have fo := Bo.frozen
    have lo := Bo.lt
    have cm0 : w2.cell? ⟨w.heap.size + 1, 0, none⟩ = some (.bool false) := Bm.cell 0
    have cm1 : w2.cell? ⟨w.heap.size + 1, 1, none⟩ = some (.bool true) := Bm.cell 1
    have fm := Bm.frozen
    have lm := Bm.lt
    have cr0 : w2.cell? ⟨w.heap.size + 1 + 1, 0, none⟩ = some (.int .u64 0) := Br.cell 0
    have cr1 : w2.cell? ⟨w.heap.size + 1 + 1, 1, none⟩ = some (.int .u64 0) := Br.cell 1
    have fr := Br.frozen
    have lr := Br.lt
    go_upto_region 5 with fail
    clear co0 co1 fo lo
    clear cm0 cm1 fm lm
    clear cr0 cr1 fr lr
    replace Bo : Blk (w2.setCell ⟨w.heap.size, 0, none⟩ (uv (out.v ||| 1#64 <<< i.toNat))) (w.heap.size) 24 #[uv (out.v ||| 1#64 <<< i.toNat), uv out.m] := Bo.set_ 0 _
    replace Bm : Blk (w2.setCell ⟨w.heap.size, 0, none⟩ (uv (out.v ||| 1#64 <<< i.toNat))) (w.heap.size + 1) 89 #[.bool false, .bool true] := (Bm.far (by first | (simp; done) | (simp; omega) | (simp [*]; done) | (simp only [ne_eq]; constructor <;> omega)) _)
    replace Br : Blk (w2.setCell ⟨w.heap.size, 0, none⟩ (uv (out.v ||| 1#64 <<< i.toNat))) (w.heap.size + 1 + 1) 24 #[.int .u64 0, .int .u64 0] := (Br.far (by first | (simp; done) | (simp; omega) | (simp [*]; done) | (simp only [ne_eq]; constructor <;> omega)) _)
    replace hB : Below w.heap.size w (w2.setCell ⟨w.heap.size, 0, none⟩ (uv (out.v ||| 1#64 <<< i.toNat))) := (Bl_set hB (by first | omega | (simp; done) | (simp; omega)) _)
    generalize (w2.setCell ⟨w.heap.size, 0, none⟩ (uv (out.v ||| 1#64 <<< i.toNat))) = w3 at *
    have co0 : w3.cell? ⟨w.heap.size, 0, none⟩ = some (uv (out.v ||| 1#64 <<< i.toNat)) := Bo.cell 0
    have co1 : w3.cell? ⟨w.heap.size, 1, none⟩ = some (uv out.m) := Bo.cell 1
    have fo := Bo.frozen
    have lo := Bo.lt
    have cm0 : w3.cell? ⟨w.heap.size + 1, 0, none⟩ = some (.bool false) := Bm.cell 0
    have cm1 : w3.cell? ⟨w.heap.size + 1, 1, none⟩ = some (.bool true) := Bm.cell 1
    have fm := Bm.frozen
    have lm := Bm.lt
    have cr0 : w3.cell? ⟨w.heap.size + 1 + 1, 0, none⟩ = some (.int .u64 0) := Br.cell 0
    have cr1 : w3.cell? ⟨w.heap.size + 1 + 1, 1, none⟩ = some (.int .u64 0) := Br.cell 1
    have fr := Br.frozen
    have lr := Br.lt
    go_wp2
    exact bodyPost_ret (v := nv ⟨out.v ||| 1#64 <<< i.toNat, out.m⟩) (by simp [results, Try.results54, go_sem, cr0, cr1]) rfl ⟨rfl, by repeat (first | exact hB | (refine Bl_set ?_ (by first | omega | (simp; done) | (simp; omega)) _) | apply Bl_alloc)⟩
  · go_enter Try.func54, Try.ntmps54
    go_upto_region 1 with fail
    obtain ⟨go, hgo⟩ : ∃ g, g = w.heap.size := ⟨_, rfl⟩
    obtain ⟨gm, hgm⟩ : ∃ g, g = w.heap.size + 1 := ⟨_, rfl⟩
    obtain ⟨gr, hgr⟩ : ∃ g, g = w.heap.size + 1 + 1 := ⟨_, rfl⟩
    have Bo : Blk (((w.alloc (.cells #[uv out.v, uv out.m] 24)).alloc (.cells #[.bool true, .bool false] 89)).alloc (.cells #[.int .u64 0, .int .u64 0] 24)) (w.heap.size) 24 #[uv out.v, uv out.m] := (((Blk.new w 24 #[uv out.v, uv out.m])).alloc _).alloc _
    have Bm : Blk (((w.alloc (.cells #[uv out.v, uv out.m] 24)).alloc (.cells #[.bool true, .bool false] 89)).alloc (.cells #[.int .u64 0, .int .u64 0] 24)) (w.heap.size + 1) 89 #[.bool true, .bool false] := ((by simpa using Blk.new (w.alloc (.cells #[uv out.v, uv out.m] 24)) 89 #[.bool true, .bool false] : Blk _ (w.heap.size + 1) 89 #[.bool true, .bool false])).alloc _
    have Br : Blk (((w.alloc (.cells #[uv out.v, uv out.m] 24)).alloc (.cells #[.bool true, .bool false] 89)).alloc (.cells #[.int .u64 0, .int .u64 0] 24)) (w.heap.size + 1 + 1) 24 #[.int .u64 0, .int .u64 0] := (by simpa using Blk.new ((w.alloc (.cells #[uv out.v, uv out.m] 24)).alloc (.cells #[.bool true, .bool false] 89)) 24 #[.int .u64 0, .int .u64 0] : Blk _ (w.heap.size + 1 + 1) 24 #[.int .u64 0, .int .u64 0])
    have hB : Below w.heap.size w (((w.alloc (.cells #[uv out.v, uv out.m] 24)).alloc (.cells #[.bool true, .bool false] 89)).alloc (.cells #[.int .u64 0, .int .u64 0] 24)) := (Bl_alloc (Bl_alloc (Bl_alloc (Bl_refl w) _) _) _)
    clear hgo
    clear go
    clear hgm
    clear gm
    clear hgr
    clear gr
    generalize (((w.alloc (.cells #[uv out.v, uv out.m] 24)).alloc (.cells #[.bool true, .bool false] 89)).alloc (.cells #[.int .u64 0, .int .u64 0] 24)) = w1 at *
    have co0 : w1.cell? ⟨w.heap.size, 0, none⟩ = some (uv out.v) := Bo.cell 0
    have co1 : w1.cell? ⟨w.heap.size, 1, none⟩ = some (uv out.m) := Bo.cell 1
    have fo := Bo.frozen
    have lo := Bo.lt
    have cm0 : w1.cell? ⟨w.heap.size + 1, 0, none⟩ = some (.bool true) := Bm.cell 0
    have cm1 : w1.cell? ⟨w.heap.size + 1, 1, none⟩ = some (.bool false) := Bm.cell 1
    have fm := Bm.frozen
    have lm := Bm.lt
    have cr0 : w1.cell? ⟨w.heap.size + 1 + 1, 0, none⟩ = some (.int .u64 0) := Br.cell 0
    have cr1 : w1.cell? ⟨w.heap.size + 1 + 1, 1, none⟩ = some (.int .u64 0) := Br.cell 1
    have fr := Br.frozen
    have lr := Br.lt
    go_wp2
    exact bodyPost_ret (v := nv out) (by simp [results, Try.results54, go_sem, cr0, cr1]) rfl ⟨rfl, by repeat (first | exact hB | (refine Bl_set ?_ (by first | omega | (simp; done) | (simp; omega)) _) | apply Bl_alloc)⟩
  · go_enter Try.func54, Try.ntmps54
    go_upto_region 1 with fail
    obtain ⟨go, hgo⟩ : ∃ g, g = w.heap.size := ⟨_, rfl⟩
    obtain ⟨gm, hgm⟩ : ∃ g, g = w.heap.size + 1 := ⟨_, rfl⟩
    obtain ⟨gr, hgr⟩ : ∃ g, g = w.heap.size + 1 + 1 := ⟨_, rfl⟩
    have Bo : Blk (((w.alloc (.cells #[uv out.v, uv out.m] 24)).alloc (.cells #[.bool true, .bool true] 89)).alloc (.cells #[.int .u64 0, .int .u64 0] 24)) (w.heap.size) 24 #[uv out.v, uv out.m] := (((Blk.new w 24 #[uv out.v, uv out.m])).alloc _).alloc _
    have Bm : Blk (((w.alloc (.cells #[uv out.v, uv out.m] 24)).alloc (.cells #[.bool true, .bool true] 89)).alloc (.cells #[.int .u64 0, .int .u64 0] 24)) (w.heap.size + 1) 89 #[.bool true, .bool true] := ((by simpa using Blk.new (w.alloc (.cells #[uv out.v, uv out.m] 24)) 89 #[.bool true, .bool true] : Blk _ (w.heap.size + 1) 89 #[.bool true, .bool true])).alloc _
    have Br : Blk (((w.alloc (.cells #[uv out.v, uv out.m] 24)).alloc (.cells #[.bool true, .bool true] 89)).alloc (.cells #[.int .u64 0, .int .u64 0] 24)) (w.heap.size + 1 + 1) 24 #[.int .u64 0, .int .u64 0] := (by simpa using Blk.new ((w.alloc (.cells #[uv out.v, uv out.m] 24)).alloc (.cells #[.bool true, .bool true] 89)) 24 #[.int .u64 0, .int .u64 0] : Blk _ (w.heap.size + 1 + 1) 24 #[.int .u64 0, .int .u64 0])
    have hB : Below w.heap.size w (((w.alloc (.cells #[uv out.v, uv out.m] 24)).alloc (.cells #[.bool true, .bool true] 89)).alloc (.cells #[.int .u64 0, .int .u64 0] 24)) := (Bl_alloc (Bl_alloc (Bl_alloc (Bl_refl w) _) _) _)
    clear hgo
    clear go
    clear hgm
    clear gm
    clear hgr
    clear gr
    generalize (((w.alloc (.cells #[uv out.v, uv out.m] 24)).alloc (.cells #[.bool true, .bool true] 89)).alloc (.cells #[.int .u64 0, .int .u64 0] 24)) = w1 at *
    have co0 : w1.cell? ⟨w.heap.size, 0, none⟩ = some (uv out.v) := Bo.cell 0
    have co1 : w1.cell? ⟨w.heap.size, 1, none⟩ = some (uv out.m) := Bo.cell 1
    have fo := Bo.frozen
    have lo := Bo.lt
    have cm0 : w1.cell? ⟨w.heap.size + 1, 0, none⟩ = some (.bool true) := Bm.cell 0
    have cm1 : w1.cell? ⟨w.heap.size + 1, 1, none⟩ = some (.bool true) := Bm.cell 1
    have fm := Bm.frozen
    have lm := Bm.lt
    have cr0 : w1.cell? ⟨w.heap.size + 1 + 1, 0, none⟩ = some (.int .u64 0) := Br.cell 0
    have cr1 : w1.cell? ⟨w.heap.size + 1 + 1, 1, none⟩ = some (.int .u64 0) := Br.cell 1
    have fr := Br.frozen
    have lr := Br.lt
    go_wp2_with fail
    replace co0 : ∀ g : Later w1, g.w.cell? ⟨w.heap.size, 0, none⟩ = some (uv out.v) := fun g => g.cell (Bo.cell 0)
    replace co1 : ∀ g : Later w1, g.w.cell? ⟨w.heap.size, 1, none⟩ = some (uv out.m) := fun g => g.cell (Bo.cell 1)
    replace cm0 : ∀ g : Later w1, g.w.cell? ⟨w.heap.size + 1, 0, none⟩ = some (.bool true) := fun g => g.cell (Bm.cell 0)
    replace cm1 : ∀ g : Later w1, g.w.cell? ⟨w.heap.size + 1, 1, none⟩ = some (.bool true) := fun g => g.cell (Bm.cell 1)
    replace cr0 : ∀ g : Later w1, g.w.cell? ⟨w.heap.size + 1 + 1, 0, none⟩ = some (.int .u64 0) := fun g => g.cell (Br.cell 0)
    replace cr1 : ∀ g : Later w1, g.w.cell? ⟨w.heap.size + 1 + 1, 1, none⟩ = some (.int .u64 0) := fun g => g.cell (Br.cell 1)
    refine wp_region_mix 6 (fun _ => #[]) (by kernel_rfl) (by kernel_rfl) (no_alloc (by kernel_rfl)) ?_
    simp only [List.take_succ_cons, List.take_zero, List.drop_succ_cons, List.drop_zero]
    repeat (refine wpMix_step (fun K hK => ?_); go_simp; first | (refine hK _ ?_; clear hK K))
    refine wpMix_nil ?_
    intro G w2 hgr hblk hdist
    have hb : Below w1.heap.size w1 w2 := hgr
    replace Bo := Bo.next hb
    replace Bm := Bm.next hb
    replace Br := Br.next hb
    clear co0 co1 fo lo
    clear cm0 cm1 fm lm
    clear cr0 cr1 fr lr
    replace hB : Below w.heap.size w w2 := Bl_trans hB hb
    simp only [putAll, isAlloc]
    clear hb hgr hblk hdist
    have co0 : w2.cell? ⟨w.heap.size, 0, none⟩ = some (uv out.v) := Bo.cell 0
    have co1 : w2.cell? ⟨w.heap.size, 1, none⟩ = some (uv out.m) := Bo.cell 1
    have fo := Bo.frozen
    have lo := Bo.lt
    have cm0 : w2.cell? ⟨w.heap.size + 1, 0, none⟩ = some (.bool true) := Bm.cell 0
    have cm1 : w2.cell? ⟨w.heap.size + 1, 1, none⟩ = some (.bool true) := Bm.cell 1
    have fm := Bm.frozen
    have lm := Bm.lt
    have cr0 : w2.cell? ⟨w.heap.size + 1 + 1, 0, none⟩ = some (.int .u64 0) := Br.cell 0
    have cr1 : w2.cell? ⟨w.heap.size + 1 + 1, 1, none⟩ = some (.int .u64 0) := Br.cell 1
    have fr := Br.frozen
    have lr := Br.lt
    go_upto_region 5 with fail
    clear co0 co1 fo lo
    clear cm0 cm1 fm lm
    clear cr0 cr1 fr lr
    replace Bo : Blk (w2.setCell ⟨w.heap.size, 1, none⟩ (uv (out.m ||| 1#64 <<< i.toNat))) (w.heap.size) 24 #[uv out.v, uv (out.m ||| 1#64 <<< i.toNat)] := Bo.set_ 1 _
    replace Bm : Blk (w2.setCell ⟨w.heap.size, 1, none⟩ (uv (out.m ||| 1#64 <<< i.toNat))) (w.heap.size + 1) 89 #[.bool true, .bool true] := (Bm.far (by first | (simp; done) | (simp; omega) | (simp [*]; done) | (simp only [ne_eq]; constructor <;> omega)) _)
    replace Br : Blk (w2.setCell ⟨w.heap.size, 1, none⟩ (uv (out.m ||| 1#64 <<< i.toNat))) (w.heap.size + 1 + 1) 24 #[.int .u64 0, .int .u64 0] := (Br.far (by first | (simp; done) | (simp; omega) | (simp [*]; done) | (simp only [ne_eq]; constructor <;> omega)) _)
    replace hB : Below w.heap.size w (w2.setCell ⟨w.heap.size, 1, none⟩ (uv (out.m ||| 1#64 <<< i.toNat))) := (Bl_set hB (by first | omega | (simp; done) | (simp; omega)) _)
    generalize (w2.setCell ⟨w.heap.size, 1, none⟩ (uv (out.m ||| 1#64 <<< i.toNat))) = w3 at *
    have co0 : w3.cell? ⟨w.heap.size, 0, none⟩ = some (uv out.v) := Bo.cell 0
    have co1 : w3.cell? ⟨w.heap.size, 1, none⟩ = some (uv (out.m ||| 1#64 <<< i.toNat)) := Bo.cell 1
    have fo := Bo.frozen
    have lo := Bo.lt
    have cm0 : w3.cell? ⟨w.heap.size + 1, 0, none⟩ = some (.bool true) := Bm.cell 0
    have cm1 : w3.cell? ⟨w.heap.size + 1, 1, none⟩ = some (.bool true) := Bm.cell 1
    have fm := Bm.frozen
    have lm := Bm.lt
    have cr0 : w3.cell? ⟨w.heap.size + 1 + 1, 0, none⟩ = some (.int .u64 0) := Br.cell 0
    have cr1 : w3.cell? ⟨w.heap.size + 1 + 1, 1, none⟩ = some (.int .u64 0) := Br.cell 1
    have fr := Br.frozen
    have lr := Br.lt
    go_wp2
    exact bodyPost_ret (v := nv ⟨out.v, out.m ||| 1#64 <<< i.toNat⟩) (by simp [results, Try.results54, go_sem, cr0, cr1]) rfl ⟨rfl, by repeat (first | exact hB | (refine Bl_set ?_ (by first | omega | (simp; done) | (simp; omega)) _) | apply Bl_alloc)⟩
end Go.Proofs.Ytmghpoagpiljhaa
