/- Of the reference of layer 13: what a bit may be; a bit that may be these; Join. -/
import Derived.Test.YtmghpoagpiljhabTw
import Derived.Test.YtmghpoagpiljhabMixL
import Derived.Test.YtmghpoagpiljhabBits
import Derived.Test.YtmghpoagpiljhabSigned
import Derived.Deep.DeepCutAuto
set_option linter.unusedSimpArgs false
namespace Go.Proofs.Ytmghpoagpiljhab
open Go.RowKit
open PlainTnum (N May)
/-- What a bit may be, as a value. -/
abbrev mv (x : May) : Value := .agg #[.bool x.1, .bool x.2]
theorem bit_test (x : W) (i : Nat) : (T ((x >>> i) &&& 1#64) == 1) = x.getLsbD i := by
  rw [T_beq1, Bool.eq_iff_iff, beq_iff_eq]
  have h : ((x >>> i) &&& 1#64).toNat = (x.getLsbD i).toNat := by
    rw [BitVec.toNat_and, show (1#64).toNat = 1 from rfl, Nat.and_one_is_mod, BitVec.toNat_ushiftRight, BitVec.getLsbD, Nat.testBit]
    rw [Nat.one_and_eq_mod_two]
    rcases Nat.mod_two_eq_zero_or_one (x.toNat >>> i) with h | h <;> simp [h]
  constructor
  · intro e
    rw [e] at h
    cases hb : x.getLsbD i with
    | true => rfl
    | false => rw [hb] at h; cases h
  · intro e
    rw [e] at h
    exact BitVec.eq_of_toNat_eq h
set_option maxHeartbeats 400000 in
theorem bits_c (a : N) (i : Int) (h0 : 0 ≤ i) (h1 : i < 64) (w : World) : Calls Try.prog 77 #[nv a, .int .i64 i] w fun e w' => e = .returned (mv (PlainTnum.bitsOf a i.toNat)) ∧ Below w.heap.size w w' := by
  have hn : ¬ i < 0 := by omega
  have hm : min i.toNat 64 = i.toNat := by omega
  cases hq : (T ((a.m >>> i.toNat) &&& 1#64) == 1)
  · go_enter Try.func77, Try.ntmps77
    go_wp2
    exact bodyPost_ret (v := mv (PlainTnum.bitsOf a i.toNat)) (by simp [results, Try.results77, go_sem, PlainTnum.bitsOf, ← bit_test, hq]) rfl ⟨rfl, (by repeat (first | exact Bl_refl _ | apply Bl_alloc | apply Bl_drew | apply Bl_drewN | (refine Bl_set ?_ (by first | omega | (simp; done) | (simp; omega)) _) | (refine Bl_trans ?_ (by assumption))))⟩
  · go_enter Try.func77, Try.ntmps77
    go_wp2
    exact bodyPost_ret (v := mv (PlainTnum.bitsOf a i.toNat)) (by simp [results, Try.results77, go_sem, PlainTnum.bitsOf, ← bit_test, hq]) rfl ⟨rfl, (by repeat (first | exact Bl_refl _ | apply Bl_alloc | apply Bl_drew | apply Bl_drewN | (refine Bl_set ?_ (by first | omega | (simp; done) | (simp; omega)) _) | (refine Bl_trans ?_ (by assumption))))⟩
set_option maxRecDepth 100000 in
set_option maxHeartbeats 3200000 in
theorem set_c (out : N) (i : Int) (h0 : 0 ≤ i) (h1 : i < 64) (may : May) (w : World) : Calls Try.prog 78 #[nv out, .int .i64 i, mv may] w fun e w' => e = .returned (nv (PlainTnum.setN out i.toNat may)) ∧ Below w.heap.size w w' := by
  obtain ⟨p, q⟩ := may
  have hn : ¬ i < 0 := by omega
  have hm : min i.toNat 64 = i.toNat := by omega
  cases p <;> cases q
  · go_enter Try.func78, Try.ntmps78
    go_upto_region 1 with fail
    obtain ⟨go, hgo⟩ : ∃ g, g = w.heap.size := ⟨_, rfl⟩
    obtain ⟨gm, hgm⟩ : ∃ g, g = w.heap.size + 1 := ⟨_, rfl⟩
    obtain ⟨gr, hgr⟩ : ∃ g, g = w.heap.size + 1 + 1 := ⟨_, rfl⟩
    have Bo : Blk (((w.alloc (.cells #[uv out.v, uv out.m] 51)).alloc (.cells #[.bool false, .bool false] 133)).alloc (.cells #[.int .u64 0, .int .u64 0] 51)) (w.heap.size) 51 #[uv out.v, uv out.m] := (((Blk.new w 51 #[uv out.v, uv out.m])).alloc _).alloc _
    have Bm : Blk (((w.alloc (.cells #[uv out.v, uv out.m] 51)).alloc (.cells #[.bool false, .bool false] 133)).alloc (.cells #[.int .u64 0, .int .u64 0] 51)) (w.heap.size + 1) 133 #[.bool false, .bool false] := ((by simpa using Blk.new (w.alloc (.cells #[uv out.v, uv out.m] 51)) 133 #[.bool false, .bool false] : Blk _ (w.heap.size + 1) 133 #[.bool false, .bool false])).alloc _
    have Br : Blk (((w.alloc (.cells #[uv out.v, uv out.m] 51)).alloc (.cells #[.bool false, .bool false] 133)).alloc (.cells #[.int .u64 0, .int .u64 0] 51)) (w.heap.size + 1 + 1) 51 #[.int .u64 0, .int .u64 0] := (by simpa using Blk.new ((w.alloc (.cells #[uv out.v, uv out.m] 51)).alloc (.cells #[.bool false, .bool false] 133)) 51 #[.int .u64 0, .int .u64 0] : Blk _ (w.heap.size + 1 + 1) 51 #[.int .u64 0, .int .u64 0])
    have hB : Below w.heap.size w (((w.alloc (.cells #[uv out.v, uv out.m] 51)).alloc (.cells #[.bool false, .bool false] 133)).alloc (.cells #[.int .u64 0, .int .u64 0] 51)) := (Bl_alloc (Bl_alloc (Bl_alloc (Bl_refl w) _) _) _)
    clear hgo
    clear go
    clear hgm
    clear gm
    clear hgr
    clear gr
    generalize (((w.alloc (.cells #[uv out.v, uv out.m] 51)).alloc (.cells #[.bool false, .bool false] 133)).alloc (.cells #[.int .u64 0, .int .u64 0] 51)) = w1 at *
    have co0 : w1.cell? ⟨w.heap.size, 0, none⟩ = some (uv out.v) := Bo.cell 0
    have co1 : w1.cell? ⟨w.heap.size, 1, none⟩ = some (uv out.m) := Bo.cell 1
    have fo := Bo.frozen
    have lo := Bo.lt
    have cm0 : w1.cell? ⟨w.heap.size + 1, 0, none⟩ = some (.bool false) := Bm.cell 0
    have cm1 : w1.cell? ⟨w.heap.size + 1, 1, none⟩ = some (.bool false) := Bm.cell 1
    have fm := Bm.frozen
    have lm := Bm.lt
    have cr0 : w1.cell? ⟨w.heap.size + 1 + 1, 0, none⟩ = some (.int .u64 0) := Br.cell 0
    have cr1 : w1.cell? ⟨w.heap.size + 1 + 1, 1, none⟩ = some (.int .u64 0) := Br.cell 1
    have fr := Br.frozen
    have lr := Br.lt
    go_wp2
    exact bodyPost_ret (v := nv out) (by simp [results, Try.results78, go_sem, cr0, cr1]) rfl ⟨rfl, by repeat (first | exact hB | (refine Bl_set ?_ (by first | omega | (simp; done) | (simp; omega)) _) | apply Bl_alloc)⟩
  · go_enter Try.func78, Try.ntmps78
    go_upto_region 1 with fail
    obtain ⟨go, hgo⟩ : ∃ g, g = w.heap.size := ⟨_, rfl⟩
    obtain ⟨gm, hgm⟩ : ∃ g, g = w.heap.size + 1 := ⟨_, rfl⟩
    obtain ⟨gr, hgr⟩ : ∃ g, g = w.heap.size + 1 + 1 := ⟨_, rfl⟩
    have Bo : Blk (((w.alloc (.cells #[uv out.v, uv out.m] 51)).alloc (.cells #[.bool false, .bool true] 133)).alloc (.cells #[.int .u64 0, .int .u64 0] 51)) (w.heap.size) 51 #[uv out.v, uv out.m] := (((Blk.new w 51 #[uv out.v, uv out.m])).alloc _).alloc _
    have Bm : Blk (((w.alloc (.cells #[uv out.v, uv out.m] 51)).alloc (.cells #[.bool false, .bool true] 133)).alloc (.cells #[.int .u64 0, .int .u64 0] 51)) (w.heap.size + 1) 133 #[.bool false, .bool true] := ((by simpa using Blk.new (w.alloc (.cells #[uv out.v, uv out.m] 51)) 133 #[.bool false, .bool true] : Blk _ (w.heap.size + 1) 133 #[.bool false, .bool true])).alloc _
    have Br : Blk (((w.alloc (.cells #[uv out.v, uv out.m] 51)).alloc (.cells #[.bool false, .bool true] 133)).alloc (.cells #[.int .u64 0, .int .u64 0] 51)) (w.heap.size + 1 + 1) 51 #[.int .u64 0, .int .u64 0] := (by simpa using Blk.new ((w.alloc (.cells #[uv out.v, uv out.m] 51)).alloc (.cells #[.bool false, .bool true] 133)) 51 #[.int .u64 0, .int .u64 0] : Blk _ (w.heap.size + 1 + 1) 51 #[.int .u64 0, .int .u64 0])
    have hB : Below w.heap.size w (((w.alloc (.cells #[uv out.v, uv out.m] 51)).alloc (.cells #[.bool false, .bool true] 133)).alloc (.cells #[.int .u64 0, .int .u64 0] 51)) := (Bl_alloc (Bl_alloc (Bl_alloc (Bl_refl w) _) _) _)
    clear hgo
    clear go
    clear hgm
    clear gm
    clear hgr
    clear gr
    generalize (((w.alloc (.cells #[uv out.v, uv out.m] 51)).alloc (.cells #[.bool false, .bool true] 133)).alloc (.cells #[.int .u64 0, .int .u64 0] 51)) = w1 at *
    have co0 : w1.cell? ⟨w.heap.size, 0, none⟩ = some (uv out.v) := Bo.cell 0
    have co1 : w1.cell? ⟨w.heap.size, 1, none⟩ = some (uv out.m) := Bo.cell 1
    have fo := Bo.frozen
    have lo := Bo.lt
    have cm0 : w1.cell? ⟨w.heap.size + 1, 0, none⟩ = some (.bool false) := Bm.cell 0
    have cm1 : w1.cell? ⟨w.heap.size + 1, 1, none⟩ = some (.bool true) := Bm.cell 1
    have fm := Bm.frozen
    have lm := Bm.lt
    have cr0 : w1.cell? ⟨w.heap.size + 1 + 1, 0, none⟩ = some (.int .u64 0) := Br.cell 0
    have cr1 : w1.cell? ⟨w.heap.size + 1 + 1, 1, none⟩ = some (.int .u64 0) := Br.cell 1
    have fr := Br.frozen
    have lr := Br.lt
    go_wp2_with fail
    replace co0 : ∀ g : Later w1, g.w.cell? ⟨w.heap.size, 0, none⟩ = some (uv out.v) := fun g => g.cell (Bo.cell 0)
    replace co1 : ∀ g : Later w1, g.w.cell? ⟨w.heap.size, 1, none⟩ = some (uv out.m) := fun g => g.cell (Bo.cell 1)
    replace cm0 : ∀ g : Later w1, g.w.cell? ⟨w.heap.size + 1, 0, none⟩ = some (.bool false) := fun g => g.cell (Bm.cell 0)
    replace cm1 : ∀ g : Later w1, g.w.cell? ⟨w.heap.size + 1, 1, none⟩ = some (.bool true) := fun g => g.cell (Bm.cell 1)
    replace cr0 : ∀ g : Later w1, g.w.cell? ⟨w.heap.size + 1 + 1, 0, none⟩ = some (.int .u64 0) := fun g => g.cell (Br.cell 0)
    replace cr1 : ∀ g : Later w1, g.w.cell? ⟨w.heap.size + 1 + 1, 1, none⟩ = some (.int .u64 0) := fun g => g.cell (Br.cell 1)
    refine wp_region_mix 6 (fun _ => #[]) (by kernel_rfl) (by kernel_rfl) (no_alloc (by kernel_rfl)) ?_
    simp only [List.take_succ_cons, List.take_zero, List.drop_succ_cons, List.drop_zero]
    repeat (refine wpMix_step (fun K hK => ?_); go_simp; first | (refine hK _ ?_; clear hK K))
    refine wpMix_nil ?_
    intro G w2 hgr hblk hdist
    have hb : Below w1.heap.size w1 w2 := hgr
    replace Bo := Bo.next hb
    replace Bm := Bm.next hb
    replace Br := Br.next hb
    clear co0 co1 fo lo
    clear cm0 cm1 fm lm
    clear cr0 cr1 fr lr
    replace hB : Below w.heap.size w w2 := Bl_trans hB hb
    simp only [putAll, isAlloc]
    clear hb hgr hblk hdist
    have co0 : w2.cell? ⟨w.heap.size, 0, none⟩ = some (uv out.v) := Bo.cell 0
    have co1 : w2.cell? ⟨w.heap.size, 1, none⟩ = some (uv out.m) := Bo.cell 1
    have fo := Bo.frozen
    have lo := Bo.lt
    have cm0 : w2.cell? ⟨w.heap.size + 1, 0, none⟩ = some (.bool false) := Bm.cell 0
    have cm1 : w2.cell? ⟨w.heap.size + 1, 1, none⟩ = some (.bool true) := Bm.cell 1
    have fm := Bm.frozen
    have lm := Bm.lt
    have cr0 : w2.cell? ⟨w.heap.size + 1 + 1, 0, none⟩ = some (.int .u64 0) := Br.cell 0
    have cr1 : w2.cell? ⟨w.heap.size + 1 + 1, 1, none⟩ = some (.int .u64 0) := Br.cell 1
    have fr := Br.frozen
    have lr := Br.lt
    go_upto_region 5 with fail
    clear co0 co1 fo lo
    clear cm0 cm1 fm lm
    clear cr0 cr1 fr lr
    replace Bo : Blk (w2.setCell ⟨w.heap.size, 0, none⟩ (uv (out.v ||| 1#64 <<< i.toNat))) (w.heap.size) 51 #[uv (out.v ||| 1#64 <<< i.toNat), uv out.m] := Bo.set_ 0 _
    replace Bm : Blk (w2.setCell ⟨w.heap.size, 0, none⟩ (uv (out.v ||| 1#64 <<< i.toNat))) (w.heap.size + 1) 133 #[.bool false, .bool true] := (Bm.far (by first | (simp; done) | (simp; omega) | (simp [*]; done) | (simp only [ne_eq]; constructor <;> omega)) _)
    replace Br : Blk (w2.setCell ⟨w.heap.size, 0, none⟩ (uv (out.v ||| 1#64 <<< i.toNat))) (w.heap.size + 1 + 1) 51 #[.int .u64 0, .int .u64 0] := (Br.far (by first | (simp; done) | (simp; omega) | (simp [*]; done) | (simp only [ne_eq]; constructor <;> omega)) _)
    replace hB : Below w.heap.size w (w2.setCell ⟨w.heap.size, 0, none⟩ (uv (out.v ||| 1#64 <<< i.toNat))) := (Bl_set hB (by first | omega | (simp; done) | (simp; omega)) _)
    generalize (w2.setCell ⟨w.heap.size, 0, none⟩ (uv (out.v ||| 1#64 <<< i.toNat))) = w3 at *
    have co0 : w3.cell? ⟨w.heap.size, 0, none⟩ = some (uv (out.v ||| 1#64 <<< i.toNat)) := Bo.cell 0
    have co1 : w3.cell? ⟨w.heap.size, 1, none⟩ = some (uv out.m) := Bo.cell 1
    have fo := Bo.frozen
    have lo := Bo.lt
    have cm0 : w3.cell? ⟨w.heap.size + 1, 0, none⟩ = some (.bool false) := Bm.cell 0
    have cm1 : w3.cell? ⟨w.heap.size + 1, 1, none⟩ = some (.bool true) := Bm.cell 1
    have fm := Bm.frozen
    have lm := Bm.lt
    have cr0 : w3.cell? ⟨w.heap.size + 1 + 1, 0, none⟩ = some (.int .u64 0) := Br.cell 0
    have cr1 : w3.cell? ⟨w.heap.size + 1 + 1, 1, none⟩ = some (.int .u64 0) := Br.cell 1
    have fr := Br.frozen
    have lr := Br.lt
    go_wp2
    exact bodyPost_ret (v := nv ⟨out.v ||| 1#64 <<< i.toNat, out.m⟩) (by simp [results, Try.results78, go_sem, cr0, cr1]) rfl ⟨rfl, by repeat (first | exact hB | (refine Bl_set ?_ (by first | omega | (simp; done) | (simp; omega)) _) | apply Bl_alloc)⟩
  · go_enter Try.func78, Try.ntmps78
    go_upto_region 1 with fail
    obtain ⟨go, hgo⟩ : ∃ g, g = w.heap.size := ⟨_, rfl⟩
    obtain ⟨gm, hgm⟩ : ∃ g, g = w.heap.size + 1 := ⟨_, rfl⟩
    obtain ⟨gr, hgr⟩ : ∃ g, g = w.heap.size + 1 + 1 := ⟨_, rfl⟩
    have Bo : Blk (((w.alloc (.cells #[uv out.v, uv out.m] 51)).alloc (.cells #[.bool true, .bool false] 133)).alloc (.cells #[.int .u64 0, .int .u64 0] 51)) (w.heap.size) 51 #[uv out.v, uv out.m] := (((Blk.new w 51 #[uv out.v, uv out.m])).alloc _).alloc _
    have Bm : Blk (((w.alloc (.cells #[uv out.v, uv out.m] 51)).alloc (.cells #[.bool true, .bool false] 133)).alloc (.cells #[.int .u64 0, .int .u64 0] 51)) (w.heap.size + 1) 133 #[.bool true, .bool false] := ((by simpa using Blk.new (w.alloc (.cells #[uv out.v, uv out.m] 51)) 133 #[.bool true, .bool false] : Blk _ (w.heap.size + 1) 133 #[.bool true, .bool false])).alloc _
    have Br : Blk (((w.alloc (.cells #[uv out.v, uv out.m] 51)).alloc (.cells #[.bool true, .bool false] 133)).alloc (.cells #[.int .u64 0, .int .u64 0] 51)) (w.heap.size + 1 + 1) 51 #[.int .u64 0, .int .u64 0] := (by simpa using Blk.new ((w.alloc (.cells #[uv out.v, uv out.m] 51)).alloc (.cells #[.bool true, .bool false] 133)) 51 #[.int .u64 0, .int .u64 0] : Blk _ (w.heap.size + 1 + 1) 51 #[.int .u64 0, .int .u64 0])
    have hB : Below w.heap.size w (((w.alloc (.cells #[uv out.v, uv out.m] 51)).alloc (.cells #[.bool true, .bool false] 133)).alloc (.cells #[.int .u64 0, .int .u64 0] 51)) := (Bl_alloc (Bl_alloc (Bl_alloc (Bl_refl w) _) _) _)
    clear hgo
    clear go
    clear hgm
    clear gm
    clear hgr
    clear gr
    generalize (((w.alloc (.cells #[uv out.v, uv out.m] 51)).alloc (.cells #[.bool true, .bool false] 133)).alloc (.cells #[.int .u64 0, .int .u64 0] 51)) = w1 at *
    have co0 : w1.cell? ⟨w.heap.size, 0, none⟩ = some (uv out.v) := Bo.cell 0
    have co1 : w1.cell? ⟨w.heap.size, 1, none⟩ = some (uv out.m) := Bo.cell 1
    have fo := Bo.frozen
    have lo := Bo.lt
    have cm0 : w1.cell? ⟨w.heap.size + 1, 0, none⟩ = some (.bool true) := Bm.cell 0
    have cm1 : w1.cell? ⟨w.heap.size + 1, 1, none⟩ = some (.bool false) := Bm.cell 1
    have fm := Bm.frozen
    have lm := Bm.lt
    have cr0 : w1.cell? ⟨w.heap.size + 1 + 1, 0, none⟩ = some (.int .u64 0) := Br.cell 0
    have cr1 : w1.cell? ⟨w.heap.size + 1 + 1, 1, none⟩ = some (.int .u64 0) := Br.cell 1
    have fr := Br.frozen
    have lr := Br.lt
    go_wp2
    exact bodyPost_ret (v := nv out) (by simp [results, Try.results78, go_sem, cr0, cr1]) rfl ⟨rfl, by repeat (first | exact hB | (refine Bl_set ?_ (by first | omega | (simp; done) | (simp; omega)) _) | apply Bl_alloc)⟩
  · go_enter Try.func78, Try.ntmps78
    go_upto_region 1 with fail
    obtain ⟨go, hgo⟩ : ∃ g, g = w.heap.size := ⟨_, rfl⟩
    obtain ⟨gm, hgm⟩ : ∃ g, g = w.heap.size + 1 := ⟨_, rfl⟩
    obtain ⟨gr, hgr⟩ : ∃ g, g = w.heap.size + 1 + 1 := ⟨_, rfl⟩
    have Bo : Blk (((w.alloc (.cells #[uv out.v, uv out.m] 51)).alloc (.cells #[.bool true, .bool true] 133)).alloc (.cells #[.int .u64 0, .int .u64 0] 51)) (w.heap.size) 51 #[uv out.v, uv out.m] := (((Blk.new w 51 #[uv out.v, uv out.m])).alloc _).alloc _
    have Bm : Blk (((w.alloc (.cells #[uv out.v, uv out.m] 51)).alloc (.cells #[.bool true, .bool true] 133)).alloc (.cells #[.int .u64 0, .int .u64 0] 51)) (w.heap.size + 1) 133 #[.bool true, .bool true] := ((by simpa using Blk.new (w.alloc (.cells #[uv out.v, uv out.m] 51)) 133 #[.bool true, .bool true] : Blk _ (w.heap.size + 1) 133 #[.bool true, .bool true])).alloc _
    have Br : Blk (((w.alloc (.cells #[uv out.v, uv out.m] 51)).alloc (.cells #[.bool true, .bool true] 133)).alloc (.cells #[.int .u64 0, .int .u64 0] 51)) (w.heap.size + 1 + 1) 51 #[.int .u64 0, .int .u64 0] := (by simpa using Blk.new ((w.alloc (.cells #[uv out.v, uv out.m] 51)).alloc (.cells #[.bool true, .bool true] 133)) 51 #[.int .u64 0, .int .u64 0] : Blk _ (w.heap.size + 1 + 1) 51 #[.int .u64 0, .int .u64 0])
    have hB : Below w.heap.size w (((w.alloc (.cells #[uv out.v, uv out.m] 51)).alloc (.cells #[.bool true, .bool true] 133)).alloc (.cells #[.int .u64 0, .int .u64 0] 51)) := (Bl_alloc (Bl_alloc (Bl_alloc (Bl_refl w) _) _) _)
    clear hgo
    clear go
    clear hgm
    clear gm
    clear hgr
    clear gr
    generalize (((w.alloc (.cells #[uv out.v, uv out.m] 51)).alloc (.cells #[.bool true, .bool true] 133)).alloc (.cells #[.int .u64 0, .int .u64 0] 51)) = w1 at *
    have co0 : w1.cell? ⟨w.heap.size, 0, none⟩ = some (uv out.v) := Bo.cell 0
    have co1 : w1.cell? ⟨w.heap.size, 1, none⟩ = some (uv out.m) := Bo.cell 1
    have fo := Bo.frozen
    have lo := Bo.lt
    have cm0 : w1.cell? ⟨w.heap.size + 1, 0, none⟩ = some (.bool true) := Bm.cell 0
    have cm1 : w1.cell? ⟨w.heap.size + 1, 1, none⟩ = some (.bool true) := Bm.cell 1
    have fm := Bm.frozen
    have lm := Bm.lt
    have cr0 : w1.cell? ⟨w.heap.size + 1 + 1, 0, none⟩ = some (.int .u64 0) := Br.cell 0
    have cr1 : w1.cell? ⟨w.heap.size + 1 + 1, 1, none⟩ = some (.int .u64 0) := Br.cell 1
    have fr := Br.frozen
    have lr := Br.lt
    go_wp2_with fail
    replace co0 : ∀ g : Later w1, g.w.cell? ⟨w.heap.size, 0, none⟩ = some (uv out.v) := fun g => g.cell (Bo.cell 0)
    replace co1 : ∀ g : Later w1, g.w.cell? ⟨w.heap.size, 1, none⟩ = some (uv out.m) := fun g => g.cell (Bo.cell 1)
    replace cm0 : ∀ g : Later w1, g.w.cell? ⟨w.heap.size + 1, 0, none⟩ = some (.bool true) := fun g => g.cell (Bm.cell 0)
    replace cm1 : ∀ g : Later w1, g.w.cell? ⟨w.heap.size + 1, 1, none⟩ = some (.bool true) := fun g => g.cell (Bm.cell 1)
    replace cr0 : ∀ g : Later w1, g.w.cell? ⟨w.heap.size + 1 + 1, 0, none⟩ = some (.int .u64 0) := fun g => g.cell (Br.cell 0)
    replace cr1 : ∀ g : Later w1, g.w.cell? ⟨w.heap.size + 1 + 1, 1, none⟩ = some (.int .u64 0) := fun g => g.cell (Br.cell 1)
    refine wp_region_mix 6 (fun _ => #[]) (by kernel_rfl) (by kernel_rfl) (no_alloc (by kernel_rfl)) ?_
    simp only [List.take_succ_cons, List.take_zero, List.drop_succ_cons, List.drop_zero]
    repeat (refine wpMix_step (fun K hK => ?_); go_simp; first | (refine hK _ ?_; clear hK K))
    refine wpMix_nil ?_
    intro G w2 hgr hblk hdist
    have hb : Below w1.heap.size w1 w2 := hgr
    replace Bo := Bo.next hb
    replace Bm := Bm.next hb
    replace Br := Br.next hb
    clear co0 co1 fo lo
    clear cm0 cm1 fm lm
    clear cr0 cr1 fr lr
    replace hB : Below w.heap.size w w2 := Bl_trans hB hb
    simp only [putAll, isAlloc]
    clear hb hgr hblk hdist
    have co0 : w2.cell? ⟨w.heap.size, 0, none⟩ = some (uv out.v) := Bo.cell 0
    have co1 : w2.cell? ⟨w.heap.size, 1, none⟩ = some (uv out.m) := Bo.cell 1
    have fo := Bo.frozen
    have lo := Bo.lt
    have cm0 : w2.cell? ⟨w.heap.size + 1, 0, none⟩ = some (.bool true) := Bm.cell 0
    have cm1 : w2.cell? ⟨w.heap.size + 1, 1, none⟩ = some (.bool true) := Bm.cell 1
    have fm := Bm.frozen
    have lm := Bm.lt
    have cr0 : w2.cell? ⟨w.heap.size + 1 + 1, 0, none⟩ = some (.int .u64 0) := Br.cell 0
    have cr1 : w2.cell? ⟨w.heap.size + 1 + 1, 1, none⟩ = some (.int .u64 0) := Br.cell 1
    have fr := Br.frozen
    have lr := Br.lt
    go_upto_region 5 with fail
    clear co0 co1 fo lo
    clear cm0 cm1 fm lm
    clear cr0 cr1 fr lr
    replace Bo : Blk (w2.setCell ⟨w.heap.size, 1, none⟩ (uv (out.m ||| 1#64 <<< i.toNat))) (w.heap.size) 51 #[uv out.v, uv (out.m ||| 1#64 <<< i.toNat)] := Bo.set_ 1 _
    replace Bm : Blk (w2.setCell ⟨w.heap.size, 1, none⟩ (uv (out.m ||| 1#64 <<< i.toNat))) (w.heap.size + 1) 133 #[.bool true, .bool true] := (Bm.far (by first | (simp; done) | (simp; omega) | (simp [*]; done) | (simp only [ne_eq]; constructor <;> omega)) _)
    replace Br : Blk (w2.setCell ⟨w.heap.size, 1, none⟩ (uv (out.m ||| 1#64 <<< i.toNat))) (w.heap.size + 1 + 1) 51 #[.int .u64 0, .int .u64 0] := (Br.far (by first | (simp; done) | (simp; omega) | (simp [*]; done) | (simp only [ne_eq]; constructor <;> omega)) _)
    replace hB : Below w.heap.size w (w2.setCell ⟨w.heap.size, 1, none⟩ (uv (out.m ||| 1#64 <<< i.toNat))) := (Bl_set hB (by first | omega | (simp; done) | (simp; omega)) _)
    generalize (w2.setCell ⟨w.heap.size, 1, none⟩ (uv (out.m ||| 1#64 <<< i.toNat))) = w3 at *
    have co0 : w3.cell? ⟨w.heap.size, 0, none⟩ = some (uv out.v) := Bo.cell 0
    have co1 : w3.cell? ⟨w.heap.size, 1, none⟩ = some (uv (out.m ||| 1#64 <<< i.toNat)) := Bo.cell 1
    have fo := Bo.frozen
    have lo := Bo.lt
    have cm0 : w3.cell? ⟨w.heap.size + 1, 0, none⟩ = some (.bool true) := Bm.cell 0
    have cm1 : w3.cell? ⟨w.heap.size + 1, 1, none⟩ = some (.bool true) := Bm.cell 1
    have fm := Bm.frozen
    have lm := Bm.lt
    have cr0 : w3.cell? ⟨w.heap.size + 1 + 1, 0, none⟩ = some (.int .u64 0) := Br.cell 0
    have cr1 : w3.cell? ⟨w.heap.size + 1 + 1, 1, none⟩ = some (.int .u64 0) := Br.cell 1
    have fr := Br.frozen
    have lr := Br.lt
    go_wp2
    exact bodyPost_ret (v := nv ⟨out.v, out.m ||| 1#64 <<< i.toNat⟩) (by simp [results, Try.results78, go_sem, cr0, cr1]) rfl ⟨rfl, by repeat (first | exact hB | (refine Bl_set ?_ (by first | omega | (simp; done) | (simp; omega)) _) | apply Bl_alloc)⟩
theorem bits_n (a : N) (z : Int) (n : Nat) (h : z = (n : Int)) (hn : n < 64) (w : World) : Calls Try.prog 77 #[nv a, .int .i64 z] w fun e w' => e = .returned (mv (PlainTnum.bitsOf a n)) ∧ Below w.heap.size w w' := by
  have := bits_c a z (by omega) (by omega) w
  rwa [show z.toNat = n by omega] at this
theorem set_n (a : N) (n : Nat) (hn : n < 64) (m : May) (w : World) : Calls Try.prog 78 #[nv a, .int .i64 (n : Int), mv m] w fun e w' => e = .returned (nv (PlainTnum.setN a n m)) ∧ Below w.heap.size w w' := by
  have := set_c a (n : Int) (by omega) (by omega) m w
  rwa [show ((n : Int)).toNat = n by omega] at this
theorem new_mb {o : Oper} (h : isAlloc o = some 133) (ρ : Operand → Value) (w : World) : (execOp ρ o).run Try.prog w = .ok (.value (.pointer (some ⟨w.heap.size, 0, none⟩))) (w.alloc (.cells #[.bool false, .bool false] 133)) := by
  obtain ⟨dst, op, type, pos, after, guard⟩ := o
  have := alloc_is h
  simp only at this
  subst this
  go_simp
set_option maxRecDepth 100000 in
set_option maxHeartbeats 3200000 in
theorem rjoin_c (a b : N) (w : World) : Calls Try.prog 65 #[nv a, nv b] w fun e w' => e = .returned (nv (PlainTnum.build (PlainTnum.joinF a b) 64)) ∧ Below w.heap.size w w' := by
  obtain ⟨F, e_F⟩ : ∃ z' : Nat → N, z' = PlainTnum.build (PlainTnum.joinF a b) := ⟨_, rfl⟩
  have h0 : F 0 = ⟨0#64, 0#64⟩ := by rw [e_F]; rfl
  have hs : ∀ n, F (n + 1) = PlainTnum.setN (F n) n ((PlainTnum.bitsOf a n).1 || (PlainTnum.bitsOf b n).1, (PlainTnum.bitsOf a n).2 || (PlainTnum.bitsOf b n).2) := fun n => by rw [e_F]; rfl
  rw [← e_F]
  clear e_F
  go_enter Try.func65, Try.ntmps65
  go_wp2_with fail
  obtain ⟨ga, hga⟩ : ∃ g, g = w.heap.size := ⟨_, rfl⟩
  obtain ⟨gb, hgb⟩ : ∃ g, g = w.heap.size + 1 := ⟨_, rfl⟩
  obtain ⟨gr, hgr⟩ : ∃ g, g = w.heap.size + 1 + 1 := ⟨_, rfl⟩
  obtain ⟨go, hgo⟩ : ∃ g, g = w.heap.size + 1 + 1 + 1 := ⟨_, rfl⟩
  have Ba : Blk ((((w.alloc (.cells #[uv a.v, uv a.m] 51)).alloc (.cells #[uv b.v, uv b.m] 51)).alloc (.cells #[.int .u64 0, .int .u64 0] 51)).alloc (.cells #[.int .u64 0, .int .u64 0] 51)) (w.heap.size) 51 #[uv a.v, uv a.m] := ((((Blk.new w 51 #[uv a.v, uv a.m])).alloc _).alloc _).alloc _
  have Bb : Blk ((((w.alloc (.cells #[uv a.v, uv a.m] 51)).alloc (.cells #[uv b.v, uv b.m] 51)).alloc (.cells #[.int .u64 0, .int .u64 0] 51)).alloc (.cells #[.int .u64 0, .int .u64 0] 51)) (w.heap.size + 1) 51 #[uv b.v, uv b.m] := (((by simpa using Blk.new (w.alloc (.cells #[uv a.v, uv a.m] 51)) 51 #[uv b.v, uv b.m] : Blk _ (w.heap.size + 1) 51 #[uv b.v, uv b.m])).alloc _).alloc _
  have Br : Blk ((((w.alloc (.cells #[uv a.v, uv a.m] 51)).alloc (.cells #[uv b.v, uv b.m] 51)).alloc (.cells #[.int .u64 0, .int .u64 0] 51)).alloc (.cells #[.int .u64 0, .int .u64 0] 51)) (w.heap.size + 1 + 1) 51 #[.int .u64 0, .int .u64 0] := ((by simpa using Blk.new ((w.alloc (.cells #[uv a.v, uv a.m] 51)).alloc (.cells #[uv b.v, uv b.m] 51)) 51 #[.int .u64 0, .int .u64 0] : Blk _ (w.heap.size + 1 + 1) 51 #[.int .u64 0, .int .u64 0])).alloc _
  have Bo : Blk ((((w.alloc (.cells #[uv a.v, uv a.m] 51)).alloc (.cells #[uv b.v, uv b.m] 51)).alloc (.cells #[.int .u64 0, .int .u64 0] 51)).alloc (.cells #[.int .u64 0, .int .u64 0] 51)) (w.heap.size + 1 + 1 + 1) 51 #[.int .u64 0, .int .u64 0] := (by simpa using Blk.new (((w.alloc (.cells #[uv a.v, uv a.m] 51)).alloc (.cells #[uv b.v, uv b.m] 51)).alloc (.cells #[.int .u64 0, .int .u64 0] 51)) 51 #[.int .u64 0, .int .u64 0] : Blk _ (w.heap.size + 1 + 1 + 1) 51 #[.int .u64 0, .int .u64 0])
  have hB : Below w.heap.size w ((((w.alloc (.cells #[uv a.v, uv a.m] 51)).alloc (.cells #[uv b.v, uv b.m] 51)).alloc (.cells #[.int .u64 0, .int .u64 0] 51)).alloc (.cells #[.int .u64 0, .int .u64 0] 51)) := (Bl_alloc (Bl_alloc (Bl_alloc (Bl_alloc (Bl_refl w) _) _) _) _)
  clear hga
  clear ga
  clear hgb
  clear gb
  clear hgr
  clear gr
  clear hgo
  clear go
  generalize ((((w.alloc (.cells #[uv a.v, uv a.m] 51)).alloc (.cells #[uv b.v, uv b.m] 51)).alloc (.cells #[.int .u64 0, .int .u64 0] 51)).alloc (.cells #[.int .u64 0, .int .u64 0] 51)) = w1 at *
  obtain ⟨ca0, ca1⟩ := cells2 Ba
  have fa := Ba.frozen; have la := Ba.lt
  obtain ⟨cb0, cb1⟩ := cells2 Bb
  have fb := Bb.frozen; have lb := Bb.lt
  obtain ⟨cr0, cr1⟩ := cells2 Br
  have fr := Br.frozen; have lr := Br.lt
  obtain ⟨co0, co1⟩ := cells2 Bo
  have fo := Bo.frozen; have lo := Bo.lt
  clear ca0 ca1 fa la
  clear cb0 cb1 fb lb
  clear cr0 cr1 fr lr
  clear co0 co1 fo lo
  go_loopg [6] 64 (fun m i wr => ∃ n : Nat, n ≤ 64 ∧ m + n = 64 ∧ i = .int .i64 (n : Int) ∧ Below w.heap.size w wr ∧ Blk wr (w.heap.size) 51 #[uv a.v, uv a.m] ∧ Blk wr (w.heap.size + 1) 51 #[uv b.v, uv b.m] ∧ (∃ x y, Blk wr (w.heap.size + 1 + 1) 51 #[x, y]) ∧ Blk wr (w.heap.size + 1 + 1 + 1) 51 #[uv (F n).v, uv (F n).m])
  case atStart => exact ⟨0, by omega, by omega, rfl, hB, Ba, Bb, ⟨_, _, Br⟩, by rw [h0]; exact Bo⟩
  case round =>
    clear hB Ba Bb Br Bo
    obtain ⟨n, hn, hgk, rfl, hB, Ba, Bb, ⟨x, y, Br⟩, Bo⟩ := hrel
    obtain ⟨ca0, ca1⟩ := cells2 Ba
    have fa := Ba.frozen; have la := Ba.lt
    obtain ⟨cb0, cb1⟩ := cells2 Bb
    have fb := Bb.frozen; have lb := Bb.lt
    obtain ⟨cr0, cr1⟩ := cells2 Br
    have fr := Br.frozen; have lr := Br.lt
    obtain ⟨co0, co1⟩ := cells2 Bo
    have fo := Bo.frozen; have lo := Bo.lt
    cases q : decide ((n : Int) < 64)
    · have eF : F n = F 64 := by have := of_decide_eq_false q; rw [show n = 64 by omega]
      clear hs h0
      go_wp2
      exact bodyPost_ret (v := nv (F 64)) (by simp [results, Try.results65, go_sem, cr0, cr1, co0, co1, lr, lo]) rfl ⟨rfl, by repeat (first | (with_reducible exact hB) | (with_reducible refine Bl_set ?_ (by first | omega | (simp; done) | (simp; omega)) _) | with_reducible apply Bl_alloc)⟩
    · have hlt : (n : Int) < 64 := of_decide_eq_true q
      have k_x := bits_n a (n : Int) n rfl (by omega); have k_y := bits_n b (n : Int) n rfl (by omega)
      have hs1 := hs n; clear hs
      generalize PlainTnum.bitsOf a n = X at k_x hs1; generalize PlainTnum.bitsOf b n = Y at k_y hs1; obtain ⟨x0, x1⟩ := X; obtain ⟨y0, y1⟩ := Y
      have k_s := set_n (F n) n (by omega) (x0 || y0, x1 || y1); rw [← show F (n + 1) = PlainTnum.setN (F n) n (x0 || y0, x1 || y1) from hs1] at k_s; clear hs1
      go_wp2_with fail
      clear ca0 ca1; obtain ⟨ca0, ca1⟩ := lcells2 Ba
      clear cb0 cb1; obtain ⟨cb0, cb1⟩ := lcells2 Bb
      clear cr0 cr1; obtain ⟨cr0, cr1⟩ := lcells2 Br
      clear co0 co1; obtain ⟨co0, co1⟩ := lcells2 Bo
      refine wp_region_mix 8 (fun _ => #[.bool false, .bool false]) (by kernel_rfl) (by kernel_rfl) (fun o t ho ht => by
        simp at ho
        rcases ho with rfl | rfl | rfl | rfl | rfl | rfl | rfl | rfl <;> first | (cases ht; done) | (obtain rfl := Option.some.inj ht; exact fun ρ w => new_mb ht ρ w)) ?_
      simp only [List.take_succ_cons, List.take_zero, List.drop_succ_cons, List.drop_zero]
      repeat (refine wpMix_step (fun K hK => ?_); go_simp; first | (refine hK _ ?_; clear hK K) | (apply Exists.intro; refine ⟨fun g => ?_, hK _ ?_⟩; ((with_reducible refine Calls.mono (k_x g.w) ?_); exact fun _ _ h => h); clear hK K) | (apply Exists.intro; refine ⟨fun g => ?_, hK _ ?_⟩; ((with_reducible refine Calls.mono (k_y g.w) ?_); exact fun _ _ h => h); clear hK K))
      refine wpMix_nil ?_
      intro G w2 hgr hblk hdist
      have hb : Below wr.heap.size wr w2 := hgr
      replace Ba := Ba.next hb
      replace Bb := Bb.next hb
      replace Br := Br.next hb
      replace Bo := Bo.next hb
      obtain ⟨Bp, hlp⟩ := hblk 6 _ rfl
      obtain ⟨Bq, hlq⟩ := hblk 7 _ rfl
      have hdpq := hdist 6 7 _ _ rfl rfl (by decide)
      have hgp : w.heap.size ≤ G 6 := Nat.le_trans hB.size hlp
      have hnap : w.heap.size ≠ G 6 := Nat.ne_of_lt (Nat.lt_of_lt_of_le la hlp)
      have hnbp : w.heap.size + 1 ≠ G 6 := Nat.ne_of_lt (Nat.lt_of_lt_of_le lb hlp)
      have hnrp : w.heap.size + 1 + 1 ≠ G 6 := Nat.ne_of_lt (Nat.lt_of_lt_of_le lr hlp)
      have hnop : w.heap.size + 1 + 1 + 1 ≠ G 6 := Nat.ne_of_lt (Nat.lt_of_lt_of_le lo hlp)
      clear hlp
      have hgq : w.heap.size ≤ G 7 := Nat.le_trans hB.size hlq
      have hnaq : w.heap.size ≠ G 7 := Nat.ne_of_lt (Nat.lt_of_lt_of_le la hlq)
      have hnbq : w.heap.size + 1 ≠ G 7 := Nat.ne_of_lt (Nat.lt_of_lt_of_le lb hlq)
      have hnrq : w.heap.size + 1 + 1 ≠ G 7 := Nat.ne_of_lt (Nat.lt_of_lt_of_le lr hlq)
      have hnoq : w.heap.size + 1 + 1 + 1 ≠ G 7 := Nat.ne_of_lt (Nat.lt_of_lt_of_le lo hlq)
      clear hlq
      clear ca0 ca1 fa la
      clear cb0 cb1 fb lb
      clear cr0 cr1 fr lr
      clear co0 co1 fo lo
      replace hB : Below w.heap.size w w2 := Bl_trans hB hb
      simp only [putAll, isAlloc, Act.put]
      generalize G 6 = gp at *
      generalize G 7 = gq at *
      clear hb hgr hblk hdist
      obtain ⟨ca0, ca1⟩ := cells2 Ba
      have fa := Ba.frozen; have la := Ba.lt
      obtain ⟨cb0, cb1⟩ := cells2 Bb
      have fb := Bb.frozen; have lb := Bb.lt
      obtain ⟨cr0, cr1⟩ := cells2 Br
      have fr := Br.frozen; have lr := Br.lt
      obtain ⟨co0, co1⟩ := cells2 Bo
      have fo := Bo.frozen; have lo := Bo.lt
      obtain ⟨cp0, cp1⟩ := cells2 Bp
      have fp := Bp.frozen; have lp := Bp.lt
      obtain ⟨cq0, cq1⟩ := cells2 Bq
      have fq := Bq.frozen; have lq := Bq.lt
      go_upto_region 6 with fail
      clear ca0 ca1 fa la
      clear cb0 cb1 fb lb
      clear cr0 cr1 fr lr
      clear co0 co1 fo lo
      clear cp0 cp1 fp lp
      clear cq0 cq1 fq lq
      replace Ba : Blk ((w2.setCell ⟨gp, 0, none⟩ (.bool x0)).setCell ⟨gp, 1, none⟩ (.bool x1)) (w.heap.size) 51 #[uv a.v, uv a.m] := ((Ba.far (by first | (simp; done) | (simp; omega) | (simp [*]; done) | (simp only [ne_eq]; constructor <;> omega)) _).far (by first | (simp; done) | (simp; omega) | (simp [*]; done) | (simp only [ne_eq]; constructor <;> omega)) _)
      replace Bb : Blk ((w2.setCell ⟨gp, 0, none⟩ (.bool x0)).setCell ⟨gp, 1, none⟩ (.bool x1)) (w.heap.size + 1) 51 #[uv b.v, uv b.m] := ((Bb.far (by first | (simp; done) | (simp; omega) | (simp [*]; done) | (simp only [ne_eq]; constructor <;> omega)) _).far (by first | (simp; done) | (simp; omega) | (simp [*]; done) | (simp only [ne_eq]; constructor <;> omega)) _)
      replace Br : Blk ((w2.setCell ⟨gp, 0, none⟩ (.bool x0)).setCell ⟨gp, 1, none⟩ (.bool x1)) (w.heap.size + 1 + 1) 51 #[x, y] := ((Br.far (by first | (simp; done) | (simp; omega) | (simp [*]; done) | (simp only [ne_eq]; constructor <;> omega)) _).far (by first | (simp; done) | (simp; omega) | (simp [*]; done) | (simp only [ne_eq]; constructor <;> omega)) _)
      replace Bo : Blk ((w2.setCell ⟨gp, 0, none⟩ (.bool x0)).setCell ⟨gp, 1, none⟩ (.bool x1)) (w.heap.size + 1 + 1 + 1) 51 #[uv (F n).v, uv (F n).m] := ((Bo.far (by first | (simp; done) | (simp; omega) | (simp [*]; done) | (simp only [ne_eq]; constructor <;> omega)) _).far (by first | (simp; done) | (simp; omega) | (simp [*]; done) | (simp only [ne_eq]; constructor <;> omega)) _)
      replace Bp : Blk ((w2.setCell ⟨gp, 0, none⟩ (.bool x0)).setCell ⟨gp, 1, none⟩ (.bool x1)) (gp) 133 #[.bool x0, .bool x1] := ((Bp.set_ 0 _).set_ 1 _)
      replace Bq : Blk ((w2.setCell ⟨gp, 0, none⟩ (.bool x0)).setCell ⟨gp, 1, none⟩ (.bool x1)) (gq) 133 #[.bool false, .bool false] := ((Bq.far (by first | (simp; done) | (simp; omega) | (simp [*]; done) | (simp only [ne_eq]; constructor <;> omega)) _).far (by first | (simp; done) | (simp; omega) | (simp [*]; done) | (simp only [ne_eq]; constructor <;> omega)) _)
      replace hB : Below w.heap.size w ((w2.setCell ⟨gp, 0, none⟩ (.bool x0)).setCell ⟨gp, 1, none⟩ (.bool x1)) := (Bl_set (Bl_set hB (by first | omega | (simp; done) | (simp; omega)) _) (by first | omega | (simp; done) | (simp; omega)) _)
      replace Ba : Blk ((((w2.setCell ⟨gp, 0, none⟩ (.bool x0)).setCell ⟨gp, 1, none⟩ (.bool x1)).setCell ⟨gq, 0, none⟩ (.bool y0)).setCell ⟨gq, 1, none⟩ (.bool y1)) (w.heap.size) 51 #[uv a.v, uv a.m] := ((Ba.far (by first | (simp; done) | (simp; omega) | (simp [*]; done) | (simp only [ne_eq]; constructor <;> omega)) _).far (by first | (simp; done) | (simp; omega) | (simp [*]; done) | (simp only [ne_eq]; constructor <;> omega)) _)
      replace Bb : Blk ((((w2.setCell ⟨gp, 0, none⟩ (.bool x0)).setCell ⟨gp, 1, none⟩ (.bool x1)).setCell ⟨gq, 0, none⟩ (.bool y0)).setCell ⟨gq, 1, none⟩ (.bool y1)) (w.heap.size + 1) 51 #[uv b.v, uv b.m] := ((Bb.far (by first | (simp; done) | (simp; omega) | (simp [*]; done) | (simp only [ne_eq]; constructor <;> omega)) _).far (by first | (simp; done) | (simp; omega) | (simp [*]; done) | (simp only [ne_eq]; constructor <;> omega)) _)
      replace Br : Blk ((((w2.setCell ⟨gp, 0, none⟩ (.bool x0)).setCell ⟨gp, 1, none⟩ (.bool x1)).setCell ⟨gq, 0, none⟩ (.bool y0)).setCell ⟨gq, 1, none⟩ (.bool y1)) (w.heap.size + 1 + 1) 51 #[x, y] := ((Br.far (by first | (simp; done) | (simp; omega) | (simp [*]; done) | (simp only [ne_eq]; constructor <;> omega)) _).far (by first | (simp; done) | (simp; omega) | (simp [*]; done) | (simp only [ne_eq]; constructor <;> omega)) _)
      replace Bo : Blk ((((w2.setCell ⟨gp, 0, none⟩ (.bool x0)).setCell ⟨gp, 1, none⟩ (.bool x1)).setCell ⟨gq, 0, none⟩ (.bool y0)).setCell ⟨gq, 1, none⟩ (.bool y1)) (w.heap.size + 1 + 1 + 1) 51 #[uv (F n).v, uv (F n).m] := ((Bo.far (by first | (simp; done) | (simp; omega) | (simp [*]; done) | (simp only [ne_eq]; constructor <;> omega)) _).far (by first | (simp; done) | (simp; omega) | (simp [*]; done) | (simp only [ne_eq]; constructor <;> omega)) _)
      replace Bp : Blk ((((w2.setCell ⟨gp, 0, none⟩ (.bool x0)).setCell ⟨gp, 1, none⟩ (.bool x1)).setCell ⟨gq, 0, none⟩ (.bool y0)).setCell ⟨gq, 1, none⟩ (.bool y1)) (gp) 133 #[.bool x0, .bool x1] := ((Bp.far (by first | (simp; done) | (simp; omega) | (simp [*]; done) | (simp only [ne_eq]; constructor <;> omega)) _).far (by first | (simp; done) | (simp; omega) | (simp [*]; done) | (simp only [ne_eq]; constructor <;> omega)) _)
      replace Bq : Blk ((((w2.setCell ⟨gp, 0, none⟩ (.bool x0)).setCell ⟨gp, 1, none⟩ (.bool x1)).setCell ⟨gq, 0, none⟩ (.bool y0)).setCell ⟨gq, 1, none⟩ (.bool y1)) (gq) 133 #[.bool y0, .bool y1] := ((Bq.set_ 0 _).set_ 1 _)
      replace hB : Below w.heap.size w ((((w2.setCell ⟨gp, 0, none⟩ (.bool x0)).setCell ⟨gp, 1, none⟩ (.bool x1)).setCell ⟨gq, 0, none⟩ (.bool y0)).setCell ⟨gq, 1, none⟩ (.bool y1)) := (Bl_set (Bl_set hB (by first | omega | (simp; done) | (simp; omega)) _) (by first | omega | (simp; done) | (simp; omega)) _)
      generalize ((((w2.setCell ⟨gp, 0, none⟩ (.bool x0)).setCell ⟨gp, 1, none⟩ (.bool x1)).setCell ⟨gq, 0, none⟩ (.bool y0)).setCell ⟨gq, 1, none⟩ (.bool y1)) = w3 at *
      obtain ⟨ca0, ca1⟩ := cells2 Ba
      have fa := Ba.frozen; have la := Ba.lt
      obtain ⟨cb0, cb1⟩ := cells2 Bb
      have fb := Bb.frozen; have lb := Bb.lt
      obtain ⟨cr0, cr1⟩ := cells2 Br
      have fr := Br.frozen; have lr := Br.lt
      obtain ⟨co0, co1⟩ := cells2 Bo
      have fo := Bo.frozen; have lo := Bo.lt
      obtain ⟨cp0, cp1⟩ := cells2 Bp
      have fp := Bp.frozen; have lp := Bp.lt
      obtain ⟨cq0, cq1⟩ := cells2 Bq
      have fq := Bq.frozen; have lq := Bq.lt
      cases x0
      · cases x1
        · simp only [Bool.true_or, Bool.false_or] at k_s
          go_wp2_with fail
          refine (k_s _).mono ?_
          rintro e w4 ⟨rfl, hb⟩
          clear ca0 ca1 fa la
          clear cb0 cb1 fb lb
          clear cr0 cr1 fr lr
          clear co0 co1 fo lo
          clear cp0 cp1 fp lp
          clear cq0 cq1 fq lq
          replace Ba := (Ba).next hb
          replace Bb := (Bb).next hb
          replace Br := (Br).next hb
          replace Bo := (Bo).next hb
          replace Bp := (Bp).next hb
          replace Bq := (Bq).next hb
          replace hB : Below w.heap.size w w4 := by repeat (first | exact hB | (refine Bl_set ?_ (by first | omega | (simp; omega)) _) | apply Bl_alloc | (refine Bl_trans ?_ hb))
          clear hb
          obtain ⟨ca0, ca1⟩ := cells2 Ba
          have fa := Ba.frozen; have la := Ba.lt
          obtain ⟨cb0, cb1⟩ := cells2 Bb
          have fb := Bb.frozen; have lb := Bb.lt
          obtain ⟨cr0, cr1⟩ := cells2 Br
          have fr := Br.frozen; have lr := Br.lt
          obtain ⟨co0, co1⟩ := cells2 Bo
          have fo := Bo.frozen; have lo := Bo.lt
          obtain ⟨cp0, cp1⟩ := cells2 Bp
          have fp := Bp.frozen; have lp := Bp.lt
          obtain ⟨cq0, cq1⟩ := cells2 Bq
          have fq := Bq.frozen; have lq := Bq.lt
          go_upto_region 4 with fail
          clear ca0 ca1 fa la
          clear cb0 cb1 fb lb
          clear cr0 cr1 fr lr
          clear co0 co1 fo lo
          clear cp0 cp1 fp lp
          clear cq0 cq1 fq lq
          replace Ba : Blk ((w4.setCell ⟨w.heap.size + 1 + 1 + 1, 0, none⟩ (uv (F (n + 1)).v)).setCell ⟨w.heap.size + 1 + 1 + 1, 1, none⟩ (uv (F (n + 1)).m)) (w.heap.size) 51 #[uv a.v, uv a.m] := ((Ba.far (by first | (simp; done) | (simp; omega) | (simp [*]; done) | (simp only [ne_eq]; constructor <;> omega)) _).far (by first | (simp; done) | (simp; omega) | (simp [*]; done) | (simp only [ne_eq]; constructor <;> omega)) _)
          replace Bb : Blk ((w4.setCell ⟨w.heap.size + 1 + 1 + 1, 0, none⟩ (uv (F (n + 1)).v)).setCell ⟨w.heap.size + 1 + 1 + 1, 1, none⟩ (uv (F (n + 1)).m)) (w.heap.size + 1) 51 #[uv b.v, uv b.m] := ((Bb.far (by first | (simp; done) | (simp; omega) | (simp [*]; done) | (simp only [ne_eq]; constructor <;> omega)) _).far (by first | (simp; done) | (simp; omega) | (simp [*]; done) | (simp only [ne_eq]; constructor <;> omega)) _)
          replace Br : Blk ((w4.setCell ⟨w.heap.size + 1 + 1 + 1, 0, none⟩ (uv (F (n + 1)).v)).setCell ⟨w.heap.size + 1 + 1 + 1, 1, none⟩ (uv (F (n + 1)).m)) (w.heap.size + 1 + 1) 51 #[x, y] := ((Br.far (by first | (simp; done) | (simp; omega) | (simp [*]; done) | (simp only [ne_eq]; constructor <;> omega)) _).far (by first | (simp; done) | (simp; omega) | (simp [*]; done) | (simp only [ne_eq]; constructor <;> omega)) _)
          replace Bo : Blk ((w4.setCell ⟨w.heap.size + 1 + 1 + 1, 0, none⟩ (uv (F (n + 1)).v)).setCell ⟨w.heap.size + 1 + 1 + 1, 1, none⟩ (uv (F (n + 1)).m)) (w.heap.size + 1 + 1 + 1) 51 #[uv (F (n + 1)).v, uv (F (n + 1)).m] := ((Bo.set_ 0 _).set_ 1 _)
          replace Bp : Blk ((w4.setCell ⟨w.heap.size + 1 + 1 + 1, 0, none⟩ (uv (F (n + 1)).v)).setCell ⟨w.heap.size + 1 + 1 + 1, 1, none⟩ (uv (F (n + 1)).m)) (gp) 133 #[.bool false, .bool false] := ((Bp.far (by first | (simp; done) | (simp; omega) | (simp [*]; done) | (simp only [ne_eq]; constructor <;> omega)) _).far (by first | (simp; done) | (simp; omega) | (simp [*]; done) | (simp only [ne_eq]; constructor <;> omega)) _)
          replace Bq : Blk ((w4.setCell ⟨w.heap.size + 1 + 1 + 1, 0, none⟩ (uv (F (n + 1)).v)).setCell ⟨w.heap.size + 1 + 1 + 1, 1, none⟩ (uv (F (n + 1)).m)) (gq) 133 #[.bool y0, .bool y1] := ((Bq.far (by first | (simp; done) | (simp; omega) | (simp [*]; done) | (simp only [ne_eq]; constructor <;> omega)) _).far (by first | (simp; done) | (simp; omega) | (simp [*]; done) | (simp only [ne_eq]; constructor <;> omega)) _)
          replace hB : Below w.heap.size w ((w4.setCell ⟨w.heap.size + 1 + 1 + 1, 0, none⟩ (uv (F (n + 1)).v)).setCell ⟨w.heap.size + 1 + 1 + 1, 1, none⟩ (uv (F (n + 1)).m)) := (Bl_set (Bl_set hB (by first | omega | (simp; done) | (simp; omega)) _) (by first | omega | (simp; done) | (simp; omega)) _)
          generalize ((w4.setCell ⟨w.heap.size + 1 + 1 + 1, 0, none⟩ (uv (F (n + 1)).v)).setCell ⟨w.heap.size + 1 + 1 + 1, 1, none⟩ (uv (F (n + 1)).m)) = w5 at *
          obtain ⟨ca0, ca1⟩ := cells2 Ba
          have fa := Ba.frozen; have la := Ba.lt
          obtain ⟨cb0, cb1⟩ := cells2 Bb
          have fb := Bb.frozen; have lb := Bb.lt
          obtain ⟨cr0, cr1⟩ := cells2 Br
          have fr := Br.frozen; have lr := Br.lt
          obtain ⟨co0, co1⟩ := cells2 Bo
          have fo := Bo.frozen; have lo := Bo.lt
          obtain ⟨cp0, cp1⟩ := cells2 Bp
          have fp := Bp.frozen; have lp := Bp.lt
          obtain ⟨cq0, cq1⟩ := cells2 Bq
          have fq := Bq.frozen; have lq := Bq.lt
          go_wp2_with fail
          go_roundg (63 - n)
          case measure => omega
          case rel => exact ⟨n + 1, by omega, by omega, by go_num, hB, Ba, Bb, ⟨_, _, Br⟩, Bo⟩
        · simp only [Bool.true_or, Bool.false_or] at k_s
          go_wp2_with fail
          refine (k_s _).mono ?_
          rintro e w4 ⟨rfl, hb⟩
          clear ca0 ca1 fa la
          clear cb0 cb1 fb lb
          clear cr0 cr1 fr lr
          clear co0 co1 fo lo
          clear cp0 cp1 fp lp
          clear cq0 cq1 fq lq
          replace Ba := (Ba).next hb
          replace Bb := (Bb).next hb
          replace Br := (Br).next hb
          replace Bo := (Bo).next hb
          replace Bp := (Bp).next hb
          replace Bq := (Bq).next hb
          replace hB : Below w.heap.size w w4 := by repeat (first | exact hB | (refine Bl_set ?_ (by first | omega | (simp; omega)) _) | apply Bl_alloc | (refine Bl_trans ?_ hb))
          clear hb
          obtain ⟨ca0, ca1⟩ := cells2 Ba
          have fa := Ba.frozen; have la := Ba.lt
          obtain ⟨cb0, cb1⟩ := cells2 Bb
          have fb := Bb.frozen; have lb := Bb.lt
          obtain ⟨cr0, cr1⟩ := cells2 Br
          have fr := Br.frozen; have lr := Br.lt
          obtain ⟨co0, co1⟩ := cells2 Bo
          have fo := Bo.frozen; have lo := Bo.lt
          obtain ⟨cp0, cp1⟩ := cells2 Bp
          have fp := Bp.frozen; have lp := Bp.lt
          obtain ⟨cq0, cq1⟩ := cells2 Bq
          have fq := Bq.frozen; have lq := Bq.lt
          go_upto_region 4 with fail
          clear ca0 ca1 fa la
          clear cb0 cb1 fb lb
          clear cr0 cr1 fr lr
          clear co0 co1 fo lo
          clear cp0 cp1 fp lp
          clear cq0 cq1 fq lq
          replace Ba : Blk ((w4.setCell ⟨w.heap.size + 1 + 1 + 1, 0, none⟩ (uv (F (n + 1)).v)).setCell ⟨w.heap.size + 1 + 1 + 1, 1, none⟩ (uv (F (n + 1)).m)) (w.heap.size) 51 #[uv a.v, uv a.m] := ((Ba.far (by first | (simp; done) | (simp; omega) | (simp [*]; done) | (simp only [ne_eq]; constructor <;> omega)) _).far (by first | (simp; done) | (simp; omega) | (simp [*]; done) | (simp only [ne_eq]; constructor <;> omega)) _)
          replace Bb : Blk ((w4.setCell ⟨w.heap.size + 1 + 1 + 1, 0, none⟩ (uv (F (n + 1)).v)).setCell ⟨w.heap.size + 1 + 1 + 1, 1, none⟩ (uv (F (n + 1)).m)) (w.heap.size + 1) 51 #[uv b.v, uv b.m] := ((Bb.far (by first | (simp; done) | (simp; omega) | (simp [*]; done) | (simp only [ne_eq]; constructor <;> omega)) _).far (by first | (simp; done) | (simp; omega) | (simp [*]; done) | (simp only [ne_eq]; constructor <;> omega)) _)
          replace Br : Blk ((w4.setCell ⟨w.heap.size + 1 + 1 + 1, 0, none⟩ (uv (F (n + 1)).v)).setCell ⟨w.heap.size + 1 + 1 + 1, 1, none⟩ (uv (F (n + 1)).m)) (w.heap.size + 1 + 1) 51 #[x, y] := ((Br.far (by first | (simp; done) | (simp; omega) | (simp [*]; done) | (simp only [ne_eq]; constructor <;> omega)) _).far (by first | (simp; done) | (simp; omega) | (simp [*]; done) | (simp only [ne_eq]; constructor <;> omega)) _)
          replace Bo : Blk ((w4.setCell ⟨w.heap.size + 1 + 1 + 1, 0, none⟩ (uv (F (n + 1)).v)).setCell ⟨w.heap.size + 1 + 1 + 1, 1, none⟩ (uv (F (n + 1)).m)) (w.heap.size + 1 + 1 + 1) 51 #[uv (F (n + 1)).v, uv (F (n + 1)).m] := ((Bo.set_ 0 _).set_ 1 _)
          replace Bp : Blk ((w4.setCell ⟨w.heap.size + 1 + 1 + 1, 0, none⟩ (uv (F (n + 1)).v)).setCell ⟨w.heap.size + 1 + 1 + 1, 1, none⟩ (uv (F (n + 1)).m)) (gp) 133 #[.bool false, .bool true] := ((Bp.far (by first | (simp; done) | (simp; omega) | (simp [*]; done) | (simp only [ne_eq]; constructor <;> omega)) _).far (by first | (simp; done) | (simp; omega) | (simp [*]; done) | (simp only [ne_eq]; constructor <;> omega)) _)
          replace Bq : Blk ((w4.setCell ⟨w.heap.size + 1 + 1 + 1, 0, none⟩ (uv (F (n + 1)).v)).setCell ⟨w.heap.size + 1 + 1 + 1, 1, none⟩ (uv (F (n + 1)).m)) (gq) 133 #[.bool y0, .bool y1] := ((Bq.far (by first | (simp; done) | (simp; omega) | (simp [*]; done) | (simp only [ne_eq]; constructor <;> omega)) _).far (by first | (simp; done) | (simp; omega) | (simp [*]; done) | (simp only [ne_eq]; constructor <;> omega)) _)
          replace hB : Below w.heap.size w ((w4.setCell ⟨w.heap.size + 1 + 1 + 1, 0, none⟩ (uv (F (n + 1)).v)).setCell ⟨w.heap.size + 1 + 1 + 1, 1, none⟩ (uv (F (n + 1)).m)) := (Bl_set (Bl_set hB (by first | omega | (simp; done) | (simp; omega)) _) (by first | omega | (simp; done) | (simp; omega)) _)
          generalize ((w4.setCell ⟨w.heap.size + 1 + 1 + 1, 0, none⟩ (uv (F (n + 1)).v)).setCell ⟨w.heap.size + 1 + 1 + 1, 1, none⟩ (uv (F (n + 1)).m)) = w5 at *
          obtain ⟨ca0, ca1⟩ := cells2 Ba
          have fa := Ba.frozen; have la := Ba.lt
          obtain ⟨cb0, cb1⟩ := cells2 Bb
          have fb := Bb.frozen; have lb := Bb.lt
          obtain ⟨cr0, cr1⟩ := cells2 Br
          have fr := Br.frozen; have lr := Br.lt
          obtain ⟨co0, co1⟩ := cells2 Bo
          have fo := Bo.frozen; have lo := Bo.lt
          obtain ⟨cp0, cp1⟩ := cells2 Bp
          have fp := Bp.frozen; have lp := Bp.lt
          obtain ⟨cq0, cq1⟩ := cells2 Bq
          have fq := Bq.frozen; have lq := Bq.lt
          go_wp2_with fail
          go_roundg (63 - n)
          case measure => omega
          case rel => exact ⟨n + 1, by omega, by omega, by go_num, hB, Ba, Bb, ⟨_, _, Br⟩, Bo⟩
      · cases x1
        · simp only [Bool.true_or, Bool.false_or] at k_s
          go_wp2_with fail
          refine (k_s _).mono ?_
          rintro e w4 ⟨rfl, hb⟩
          clear ca0 ca1 fa la
          clear cb0 cb1 fb lb
          clear cr0 cr1 fr lr
          clear co0 co1 fo lo
          clear cp0 cp1 fp lp
          clear cq0 cq1 fq lq
          replace Ba := (Ba).next hb
          replace Bb := (Bb).next hb
          replace Br := (Br).next hb
          replace Bo := (Bo).next hb
          replace Bp := (Bp).next hb
          replace Bq := (Bq).next hb
          replace hB : Below w.heap.size w w4 := by repeat (first | exact hB | (refine Bl_set ?_ (by first | omega | (simp; omega)) _) | apply Bl_alloc | (refine Bl_trans ?_ hb))
          clear hb
          obtain ⟨ca0, ca1⟩ := cells2 Ba
          have fa := Ba.frozen; have la := Ba.lt
          obtain ⟨cb0, cb1⟩ := cells2 Bb
          have fb := Bb.frozen; have lb := Bb.lt
          obtain ⟨cr0, cr1⟩ := cells2 Br
          have fr := Br.frozen; have lr := Br.lt
          obtain ⟨co0, co1⟩ := cells2 Bo
          have fo := Bo.frozen; have lo := Bo.lt
          obtain ⟨cp0, cp1⟩ := cells2 Bp
          have fp := Bp.frozen; have lp := Bp.lt
          obtain ⟨cq0, cq1⟩ := cells2 Bq
          have fq := Bq.frozen; have lq := Bq.lt
          go_upto_region 4 with fail
          clear ca0 ca1 fa la
          clear cb0 cb1 fb lb
          clear cr0 cr1 fr lr
          clear co0 co1 fo lo
          clear cp0 cp1 fp lp
          clear cq0 cq1 fq lq
          replace Ba : Blk ((w4.setCell ⟨w.heap.size + 1 + 1 + 1, 0, none⟩ (uv (F (n + 1)).v)).setCell ⟨w.heap.size + 1 + 1 + 1, 1, none⟩ (uv (F (n + 1)).m)) (w.heap.size) 51 #[uv a.v, uv a.m] := ((Ba.far (by first | (simp; done) | (simp; omega) | (simp [*]; done) | (simp only [ne_eq]; constructor <;> omega)) _).far (by first | (simp; done) | (simp; omega) | (simp [*]; done) | (simp only [ne_eq]; constructor <;> omega)) _)
          replace Bb : Blk ((w4.setCell ⟨w.heap.size + 1 + 1 + 1, 0, none⟩ (uv (F (n + 1)).v)).setCell ⟨w.heap.size + 1 + 1 + 1, 1, none⟩ (uv (F (n + 1)).m)) (w.heap.size + 1) 51 #[uv b.v, uv b.m] := ((Bb.far (by first | (simp; done) | (simp; omega) | (simp [*]; done) | (simp only [ne_eq]; constructor <;> omega)) _).far (by first | (simp; done) | (simp; omega) | (simp [*]; done) | (simp only [ne_eq]; constructor <;> omega)) _)
          replace Br : Blk ((w4.setCell ⟨w.heap.size + 1 + 1 + 1, 0, none⟩ (uv (F (n + 1)).v)).setCell ⟨w.heap.size + 1 + 1 + 1, 1, none⟩ (uv (F (n + 1)).m)) (w.heap.size + 1 + 1) 51 #[x, y] := ((Br.far (by first | (simp; done) | (simp; omega) | (simp [*]; done) | (simp only [ne_eq]; constructor <;> omega)) _).far (by first | (simp; done) | (simp; omega) | (simp [*]; done) | (simp only [ne_eq]; constructor <;> omega)) _)
          replace Bo : Blk ((w4.setCell ⟨w.heap.size + 1 + 1 + 1, 0, none⟩ (uv (F (n + 1)).v)).setCell ⟨w.heap.size + 1 + 1 + 1, 1, none⟩ (uv (F (n + 1)).m)) (w.heap.size + 1 + 1 + 1) 51 #[uv (F (n + 1)).v, uv (F (n + 1)).m] := ((Bo.set_ 0 _).set_ 1 _)
          replace Bp : Blk ((w4.setCell ⟨w.heap.size + 1 + 1 + 1, 0, none⟩ (uv (F (n + 1)).v)).setCell ⟨w.heap.size + 1 + 1 + 1, 1, none⟩ (uv (F (n + 1)).m)) (gp) 133 #[.bool true, .bool false] := ((Bp.far (by first | (simp; done) | (simp; omega) | (simp [*]; done) | (simp only [ne_eq]; constructor <;> omega)) _).far (by first | (simp; done) | (simp; omega) | (simp [*]; done) | (simp only [ne_eq]; constructor <;> omega)) _)
          replace Bq : Blk ((w4.setCell ⟨w.heap.size + 1 + 1 + 1, 0, none⟩ (uv (F (n + 1)).v)).setCell ⟨w.heap.size + 1 + 1 + 1, 1, none⟩ (uv (F (n + 1)).m)) (gq) 133 #[.bool y0, .bool y1] := ((Bq.far (by first | (simp; done) | (simp; omega) | (simp [*]; done) | (simp only [ne_eq]; constructor <;> omega)) _).far (by first | (simp; done) | (simp; omega) | (simp [*]; done) | (simp only [ne_eq]; constructor <;> omega)) _)
          replace hB : Below w.heap.size w ((w4.setCell ⟨w.heap.size + 1 + 1 + 1, 0, none⟩ (uv (F (n + 1)).v)).setCell ⟨w.heap.size + 1 + 1 + 1, 1, none⟩ (uv (F (n + 1)).m)) := (Bl_set (Bl_set hB (by first | omega | (simp; done) | (simp; omega)) _) (by first | omega | (simp; done) | (simp; omega)) _)
          generalize ((w4.setCell ⟨w.heap.size + 1 + 1 + 1, 0, none⟩ (uv (F (n + 1)).v)).setCell ⟨w.heap.size + 1 + 1 + 1, 1, none⟩ (uv (F (n + 1)).m)) = w5 at *
          obtain ⟨ca0, ca1⟩ := cells2 Ba
          have fa := Ba.frozen; have la := Ba.lt
          obtain ⟨cb0, cb1⟩ := cells2 Bb
          have fb := Bb.frozen; have lb := Bb.lt
          obtain ⟨cr0, cr1⟩ := cells2 Br
          have fr := Br.frozen; have lr := Br.lt
          obtain ⟨co0, co1⟩ := cells2 Bo
          have fo := Bo.frozen; have lo := Bo.lt
          obtain ⟨cp0, cp1⟩ := cells2 Bp
          have fp := Bp.frozen; have lp := Bp.lt
          obtain ⟨cq0, cq1⟩ := cells2 Bq
          have fq := Bq.frozen; have lq := Bq.lt
          go_wp2_with fail
          go_roundg (63 - n)
          case measure => omega
          case rel => exact ⟨n + 1, by omega, by omega, by go_num, hB, Ba, Bb, ⟨_, _, Br⟩, Bo⟩
        · simp only [Bool.true_or, Bool.false_or] at k_s
          go_wp2_with fail
          refine (k_s _).mono ?_
          rintro e w4 ⟨rfl, hb⟩
          clear ca0 ca1 fa la
          clear cb0 cb1 fb lb
          clear cr0 cr1 fr lr
          clear co0 co1 fo lo
          clear cp0 cp1 fp lp
          clear cq0 cq1 fq lq
          replace Ba := (Ba).next hb
          replace Bb := (Bb).next hb
          replace Br := (Br).next hb
          replace Bo := (Bo).next hb
          replace Bp := (Bp).next hb
          replace Bq := (Bq).next hb
          replace hB : Below w.heap.size w w4 := by repeat (first | exact hB | (refine Bl_set ?_ (by first | omega | (simp; omega)) _) | apply Bl_alloc | (refine Bl_trans ?_ hb))
          clear hb
          obtain ⟨ca0, ca1⟩ := cells2 Ba
          have fa := Ba.frozen; have la := Ba.lt
          obtain ⟨cb0, cb1⟩ := cells2 Bb
          have fb := Bb.frozen; have lb := Bb.lt
          obtain ⟨cr0, cr1⟩ := cells2 Br
          have fr := Br.frozen; have lr := Br.lt
          obtain ⟨co0, co1⟩ := cells2 Bo
          have fo := Bo.frozen; have lo := Bo.lt
          obtain ⟨cp0, cp1⟩ := cells2 Bp
          have fp := Bp.frozen; have lp := Bp.lt
          obtain ⟨cq0, cq1⟩ := cells2 Bq
          have fq := Bq.frozen; have lq := Bq.lt
          go_upto_region 4 with fail
          clear ca0 ca1 fa la
          clear cb0 cb1 fb lb
          clear cr0 cr1 fr lr
          clear co0 co1 fo lo
          clear cp0 cp1 fp lp
          clear cq0 cq1 fq lq
          replace Ba : Blk ((w4.setCell ⟨w.heap.size + 1 + 1 + 1, 0, none⟩ (uv (F (n + 1)).v)).setCell ⟨w.heap.size + 1 + 1 + 1, 1, none⟩ (uv (F (n + 1)).m)) (w.heap.size) 51 #[uv a.v, uv a.m] := ((Ba.far (by first | (simp; done) | (simp; omega) | (simp [*]; done) | (simp only [ne_eq]; constructor <;> omega)) _).far (by first | (simp; done) | (simp; omega) | (simp [*]; done) | (simp only [ne_eq]; constructor <;> omega)) _)
          replace Bb : Blk ((w4.setCell ⟨w.heap.size + 1 + 1 + 1, 0, none⟩ (uv (F (n + 1)).v)).setCell ⟨w.heap.size + 1 + 1 + 1, 1, none⟩ (uv (F (n + 1)).m)) (w.heap.size + 1) 51 #[uv b.v, uv b.m] := ((Bb.far (by first | (simp; done) | (simp; omega) | (simp [*]; done) | (simp only [ne_eq]; constructor <;> omega)) _).far (by first | (simp; done) | (simp; omega) | (simp [*]; done) | (simp only [ne_eq]; constructor <;> omega)) _)
          replace Br : Blk ((w4.setCell ⟨w.heap.size + 1 + 1 + 1, 0, none⟩ (uv (F (n + 1)).v)).setCell ⟨w.heap.size + 1 + 1 + 1, 1, none⟩ (uv (F (n + 1)).m)) (w.heap.size + 1 + 1) 51 #[x, y] := ((Br.far (by first | (simp; done) | (simp; omega) | (simp [*]; done) | (simp only [ne_eq]; constructor <;> omega)) _).far (by first | (simp; done) | (simp; omega) | (simp [*]; done) | (simp only [ne_eq]; constructor <;> omega)) _)
          replace Bo : Blk ((w4.setCell ⟨w.heap.size + 1 + 1 + 1, 0, none⟩ (uv (F (n + 1)).v)).setCell ⟨w.heap.size + 1 + 1 + 1, 1, none⟩ (uv (F (n + 1)).m)) (w.heap.size + 1 + 1 + 1) 51 #[uv (F (n + 1)).v, uv (F (n + 1)).m] := ((Bo.set_ 0 _).set_ 1 _)
          replace Bp : Blk ((w4.setCell ⟨w.heap.size + 1 + 1 + 1, 0, none⟩ (uv (F (n + 1)).v)).setCell ⟨w.heap.size + 1 + 1 + 1, 1, none⟩ (uv (F (n + 1)).m)) (gp) 133 #[.bool true, .bool true] := ((Bp.far (by first | (simp; done) | (simp; omega) | (simp [*]; done) | (simp only [ne_eq]; constructor <;> omega)) _).far (by first | (simp; done) | (simp; omega) | (simp [*]; done) | (simp only [ne_eq]; constructor <;> omega)) _)
          replace Bq : Blk ((w4.setCell ⟨w.heap.size + 1 + 1 + 1, 0, none⟩ (uv (F (n + 1)).v)).setCell ⟨w.heap.size + 1 + 1 + 1, 1, none⟩ (uv (F (n + 1)).m)) (gq) 133 #[.bool y0, .bool y1] := ((Bq.far (by first | (simp; done) | (simp; omega) | (simp [*]; done) | (simp only [ne_eq]; constructor <;> omega)) _).far (by first | (simp; done) | (simp; omega) | (simp [*]; done) | (simp only [ne_eq]; constructor <;> omega)) _)
          replace hB : Below w.heap.size w ((w4.setCell ⟨w.heap.size + 1 + 1 + 1, 0, none⟩ (uv (F (n + 1)).v)).setCell ⟨w.heap.size + 1 + 1 + 1, 1, none⟩ (uv (F (n + 1)).m)) := (Bl_set (Bl_set hB (by first | omega | (simp; done) | (simp; omega)) _) (by first | omega | (simp; done) | (simp; omega)) _)
          generalize ((w4.setCell ⟨w.heap.size + 1 + 1 + 1, 0, none⟩ (uv (F (n + 1)).v)).setCell ⟨w.heap.size + 1 + 1 + 1, 1, none⟩ (uv (F (n + 1)).m)) = w5 at *
          obtain ⟨ca0, ca1⟩ := cells2 Ba
          have fa := Ba.frozen; have la := Ba.lt
          obtain ⟨cb0, cb1⟩ := cells2 Bb
          have fb := Bb.frozen; have lb := Bb.lt
          obtain ⟨cr0, cr1⟩ := cells2 Br
          have fr := Br.frozen; have lr := Br.lt
          obtain ⟨co0, co1⟩ := cells2 Bo
          have fo := Bo.frozen; have lo := Bo.lt
          obtain ⟨cp0, cp1⟩ := cells2 Bp
          have fp := Bp.frozen; have lp := Bp.lt
          obtain ⟨cq0, cq1⟩ := cells2 Bq
          have fq := Bq.frozen; have lq := Bq.lt
          go_wp2_with fail
          go_roundg (63 - n)
          case measure => omega
          case rel => exact ⟨n + 1, by omega, by omega, by go_num, hB, Ba, Bb, ⟨_, _, Br⟩, Bo⟩
end Go.Proofs.Ytmghpoagpiljhab
