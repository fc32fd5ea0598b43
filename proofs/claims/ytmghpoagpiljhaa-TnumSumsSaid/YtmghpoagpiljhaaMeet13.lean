/- The loops of the reference of layer 13: Join, Meet. -/
import Derived.Test.YtmghpoagpiljhaaShift13
set_option linter.unusedSimpArgs false
namespace Go.Proofs.Ytmghpoagpiljhaa
open Go.RowKit
open PlainTnum (N May)
theorem new_mb {o : Oper} (h : isAlloc o = some 89) (ρ : Operand → Value) (w : World) : (execOp ρ o).run Try.prog w = .ok (.value (.pointer (some ⟨w.heap.size, 0, none⟩))) (w.alloc (.cells #[.bool false, .bool false] 89)) := by
  obtain ⟨dst, op, type, pos, after, guard⟩ := o
  have := alloc_is h
  simp only at this
  subst this
  go_simp
set_option maxRecDepth 100000 in
set_option maxHeartbeats 3200000 in
theorem rjoin_c (a b : N) (w : World) : Calls Try.prog 26 #[nv a, nv b] w fun e w' => e = .returned (nv (PlainTnum.build (PlainTnum.joinF a b) 64)) ∧ Below w.heap.size w w' := by
  obtain ⟨F, e_F⟩ : ∃ z' : Nat → N, z' = PlainTnum.build (PlainTnum.joinF a b) := ⟨_, rfl⟩
  have h0 : F 0 = ⟨0#64, 0#64⟩ := by rw [e_F]; rfl
  have hs : ∀ n, F (n + 1) = PlainTnum.setN (F n) n ((PlainTnum.bitsOf a n).1 || (PlainTnum.bitsOf b n).1, (PlainTnum.bitsOf a n).2 || (PlainTnum.bitsOf b n).2) := fun n => by rw [e_F]; rfl
  rw [← e_F]
  clear e_F
  go_enter Try.func26, Try.ntmps26
  go_wp2_with fail
  obtain ⟨ga, hga⟩ : ∃ g, g = w.heap.size := ⟨_, rfl⟩
  obtain ⟨gb, hgb⟩ : ∃ g, g = w.heap.size + 1 := ⟨_, rfl⟩
  obtain ⟨gr, hgr⟩ : ∃ g, g = w.heap.size + 1 + 1 := ⟨_, rfl⟩
  obtain ⟨go, hgo⟩ : ∃ g, g = w.heap.size + 1 + 1 + 1 := ⟨_, rfl⟩
  have Ba : Blk ((((w.alloc (.cells #[uv a.v, uv a.m] 24)).alloc (.cells #[uv b.v, uv b.m] 24)).alloc (.cells #[.int .u64 0, .int .u64 0] 24)).alloc (.cells #[.int .u64 0, .int .u64 0] 24)) (w.heap.size) 24 #[uv a.v, uv a.m] := ((((Blk.new w 24 #[uv a.v, uv a.m])).alloc _).alloc _).alloc _
  have Bb : Blk ((((w.alloc (.cells #[uv a.v, uv a.m] 24)).alloc (.cells #[uv b.v, uv b.m] 24)).alloc (.cells #[.int .u64 0, .int .u64 0] 24)).alloc (.cells #[.int .u64 0, .int .u64 0] 24)) (w.heap.size + 1) 24 #[uv b.v, uv b.m] := (((by simpa using Blk.new (w.alloc (.cells #[uv a.v, uv a.m] 24)) 24 #[uv b.v, uv b.m] : Blk _ (w.heap.size + 1) 24 #[uv b.v, uv b.m])).alloc _).alloc _
  have Br : Blk ((((w.alloc (.cells #[uv a.v, uv a.m] 24)).alloc (.cells #[uv b.v, uv b.m] 24)).alloc (.cells #[.int .u64 0, .int .u64 0] 24)).alloc (.cells #[.int .u64 0, .int .u64 0] 24)) (w.heap.size + 1 + 1) 24 #[.int .u64 0, .int .u64 0] := ((by simpa using Blk.new ((w.alloc (.cells #[uv a.v, uv a.m] 24)).alloc (.cells #[uv b.v, uv b.m] 24)) 24 #[.int .u64 0, .int .u64 0] : Blk _ (w.heap.size + 1 + 1) 24 #[.int .u64 0, .int .u64 0])).alloc _
  have Bo : Blk ((((w.alloc (.cells #[uv a.v, uv a.m] 24)).alloc (.cells #[uv b.v, uv b.m] 24)).alloc (.cells #[.int .u64 0, .int .u64 0] 24)).alloc (.cells #[.int .u64 0, .int .u64 0] 24)) (w.heap.size + 1 + 1 + 1) 24 #[.int .u64 0, .int .u64 0] := (by simpa using Blk.new (((w.alloc (.cells #[uv a.v, uv a.m] 24)).alloc (.cells #[uv b.v, uv b.m] 24)).alloc (.cells #[.int .u64 0, .int .u64 0] 24)) 24 #[.int .u64 0, .int .u64 0] : Blk _ (w.heap.size + 1 + 1 + 1) 24 #[.int .u64 0, .int .u64 0])
  have hB : Below w.heap.size w ((((w.alloc (.cells #[uv a.v, uv a.m] 24)).alloc (.cells #[uv b.v, uv b.m] 24)).alloc (.cells #[.int .u64 0, .int .u64 0] 24)).alloc (.cells #[.int .u64 0, .int .u64 0] 24)) := (Bl_alloc (Bl_alloc (Bl_alloc (Bl_alloc (Bl_refl w) _) _) _) _)
  clear hga
  clear ga
  clear hgb
  clear gb
  clear hgr
  clear gr
  clear hgo
  clear go
  generalize ((((w.alloc (.cells #[uv a.v, uv a.m] 24)).alloc (.cells #[uv b.v, uv b.m] 24)).alloc (.cells #[.int .u64 0, .int .u64 0] 24)).alloc (.cells #[.int .u64 0, .int .u64 0] 24)) = w1 at *
  obtain ⟨ca0, ca1⟩ := cells2 Ba
  have fa := Ba.frozen; have la := Ba.lt
  obtain ⟨cb0, cb1⟩ := cells2 Bb
  have fb := Bb.frozen; have lb := Bb.lt
  obtain ⟨cr0, cr1⟩ := cells2 Br
  have fr := Br.frozen; have lr := Br.lt
  obtain ⟨co0, co1⟩ := cells2 Bo
  have fo := Bo.frozen; have lo := Bo.lt
  clear ca0 ca1 fa la
  clear cb0 cb1 fb lb
  clear cr0 cr1 fr lr
  clear co0 co1 fo lo
  go_loopg [6] 64 (fun m i wr => ∃ n : Nat, n ≤ 64 ∧ m + n = 64 ∧ i = .int .i64 (n : Int) ∧ Below w.heap.size w wr ∧ Blk wr (w.heap.size) 24 #[uv a.v, uv a.m] ∧ Blk wr (w.heap.size + 1) 24 #[uv b.v, uv b.m] ∧ (∃ x y, Blk wr (w.heap.size + 1 + 1) 24 #[x, y]) ∧ Blk wr (w.heap.size + 1 + 1 + 1) 24 #[uv (F n).v, uv (F n).m])
  case atStart => exact ⟨0, by omega, by omega, rfl, hB, Ba, Bb, ⟨_, _, Br⟩, by rw [h0]; exact Bo⟩
  case round =>
    clear hB Ba Bb Br Bo
    obtain ⟨n, hn, hgk, rfl, hB, Ba, Bb, ⟨x, y, Br⟩, Bo⟩ := hrel
    obtain ⟨ca0, ca1⟩ := cells2 Ba
    have fa := Ba.frozen; have la := Ba.lt
    obtain ⟨cb0, cb1⟩ := cells2 Bb
    have fb := Bb.frozen; have lb := Bb.lt
    obtain ⟨cr0, cr1⟩ := cells2 Br
    have fr := Br.frozen; have lr := Br.lt
    obtain ⟨co0, co1⟩ := cells2 Bo
    have fo := Bo.frozen; have lo := Bo.lt
    cases q : decide ((n : Int) < 64)
    · have eF : F n = F 64 := by have := of_decide_eq_false q; rw [show n = 64 by omega]
      clear hs h0
      go_wp2
      exact bodyPost_ret (v := nv (F 64)) (by simp [results, Try.results26, go_sem, cr0, cr1, co0, co1, lr, lo]) rfl ⟨rfl, by repeat (first | (with_reducible exact hB) | (with_reducible refine Bl_set ?_ (by first | omega | (simp; done) | (simp; omega)) _) | with_reducible apply Bl_alloc)⟩
    · have hlt : (n : Int) < 64 := of_decide_eq_true q
      have k_x := bits_n a (n : Int) n rfl (by omega); have k_y := bits_n b (n : Int) n rfl (by omega)
      have hs1 := hs n; clear hs
      generalize PlainTnum.bitsOf a n = X at k_x hs1; generalize PlainTnum.bitsOf b n = Y at k_y hs1; obtain ⟨x0, x1⟩ := X; obtain ⟨y0, y1⟩ := Y
      have k_s := set_n (F n) n (by omega) (x0 || y0, x1 || y1); rw [← show F (n + 1) = PlainTnum.setN (F n) n (x0 || y0, x1 || y1) from hs1] at k_s; clear hs1
      go_wp2_with fail
      clear ca0 ca1; obtain ⟨ca0, ca1⟩ := lcells2 Ba
      clear cb0 cb1; obtain ⟨cb0, cb1⟩ := lcells2 Bb
      clear cr0 cr1; obtain ⟨cr0, cr1⟩ := lcells2 Br
      clear co0 co1; obtain ⟨co0, co1⟩ := lcells2 Bo
      refine wp_region_mix 8 (fun _ => #[.bool false, .bool false]) (by kernel_rfl) (by kernel_rfl) (fun o t ho ht => by
        simp at ho
        rcases ho with rfl | rfl | rfl | rfl | rfl | rfl | rfl | rfl <;> first | (cases ht; done) | (obtain rfl := Option.some.inj ht; exact fun ρ w => new_mb ht ρ w)) ?_
      simp only [List.take_succ_cons, List.take_zero, List.drop_succ_cons, List.drop_zero]
      repeat (refine wpMix_step (fun K hK => ?_); go_simp; first | (refine hK _ ?_; clear hK K) | (apply Exists.intro; refine ⟨fun g => ?_, hK _ ?_⟩; ((with_reducible refine Calls.mono (k_x g.w) ?_); exact fun _ _ h => h); clear hK K) | (apply Exists.intro; refine ⟨fun g => ?_, hK _ ?_⟩; ((with_reducible refine Calls.mono (k_y g.w) ?_); exact fun _ _ h => h); clear hK K))
      refine wpMix_nil ?_
      intro G w2 hgr hblk hdist
      have hb : Below wr.heap.size wr w2 := hgr
      replace Ba := Ba.next hb
      replace Bb := Bb.next hb
      replace Br := Br.next hb
      replace Bo := Bo.next hb
      obtain ⟨Bp, hlp⟩ := hblk 6 _ rfl
      obtain ⟨Bq, hlq⟩ := hblk 7 _ rfl
      have hdpq := hdist 6 7 _ _ rfl rfl (by decide)
      have hgp : w.heap.size ≤ G 6 := Nat.le_trans hB.size hlp
      have hnap : w.heap.size ≠ G 6 := Nat.ne_of_lt (Nat.lt_of_lt_of_le la hlp)
      have hnbp : w.heap.size + 1 ≠ G 6 := Nat.ne_of_lt (Nat.lt_of_lt_of_le lb hlp)
      have hnrp : w.heap.size + 1 + 1 ≠ G 6 := Nat.ne_of_lt (Nat.lt_of_lt_of_le lr hlp)
      have hnop : w.heap.size + 1 + 1 + 1 ≠ G 6 := Nat.ne_of_lt (Nat.lt_of_lt_of_le lo hlp)
      clear hlp
      have hgq : w.heap.size ≤ G 7 := Nat.le_trans hB.size hlq
      have hnaq : w.heap.size ≠ G 7 := Nat.ne_of_lt (Nat.lt_of_lt_of_le la hlq)
      have hnbq : w.heap.size + 1 ≠ G 7 := Nat.ne_of_lt (Nat.lt_of_lt_of_le lb hlq)
      have hnrq : w.heap.size + 1 + 1 ≠ G 7 := Nat.ne_of_lt (Nat.lt_of_lt_of_le lr hlq)
      have hnoq : w.heap.size + 1 + 1 + 1 ≠ G 7 := Nat.ne_of_lt (Nat.lt_of_lt_of_le lo hlq)
      clear hlq
      clear ca0 ca1 fa la
      clear cb0 cb1 fb lb
      clear cr0 cr1 fr lr
      clear co0 co1 fo lo
      replace hB : Below w.heap.size w w2 := Bl_trans hB hb
      simp only [putAll, isAlloc, Act.put]
      generalize G 6 = gp at *
      generalize G 7 = gq at *
      clear hb hgr hblk hdist
      obtain ⟨ca0, ca1⟩ := cells2 Ba
      have fa := Ba.frozen; have la := Ba.lt
      obtain ⟨cb0, cb1⟩ := cells2 Bb
      have fb := Bb.frozen; have lb := Bb.lt
      obtain ⟨cr0, cr1⟩ := cells2 Br
      have fr := Br.frozen; have lr := Br.lt
      obtain ⟨co0, co1⟩ := cells2 Bo
      have fo := Bo.frozen; have lo := Bo.lt
      obtain ⟨cp0, cp1⟩ := cells2 Bp
      have fp := Bp.frozen; have lp := Bp.lt
      obtain ⟨cq0, cq1⟩ := cells2 Bq
      have fq := Bq.frozen; have lq := Bq.lt
      go_upto_region 6 with fail
      clear ca0 ca1 fa la
      clear cb0 cb1 fb lb
      clear cr0 cr1 fr lr
      clear co0 co1 fo lo
      clear cp0 cp1 fp lp
      clear cq0 cq1 fq lq
      replace Ba : Blk ((w2.setCell ⟨gp, 0, none⟩ (.bool x0)).setCell ⟨gp, 1, none⟩ (.bool x1)) (w.heap.size) 24 #[uv a.v, uv a.m] := ((Ba.far (by first | (simp; done) | (simp; omega) | (simp [*]; done) | (simp only [ne_eq]; constructor <;> omega)) _).far (by first | (simp; done) | (simp; omega) | (simp [*]; done) | (simp only [ne_eq]; constructor <;> omega)) _)
      replace Bb : Blk ((w2.setCell ⟨gp, 0, none⟩ (.bool x0)).setCell ⟨gp, 1, none⟩ (.bool x1)) (w.heap.size + 1) 24 #[uv b.v, uv b.m] := ((Bb.far (by first | (simp; done) | (simp; omega) | (simp [*]; done) | (simp only [ne_eq]; constructor <;> omega)) _).far (by first | (simp; done) | (simp; omega) | (simp [*]; done) | (simp only [ne_eq]; constructor <;> omega)) _)
      replace Br : Blk ((w2.setCell ⟨gp, 0, none⟩ (.bool x0)).setCell ⟨gp, 1, none⟩ (.bool x1)) (w.heap.size + 1 + 1) 24 #[x, y] := ((Br.far (by first | (simp; done) | (simp; omega) | (simp [*]; done) | (simp only [ne_eq]; constructor <;> omega)) _).far (by first | (simp; done) | (simp; omega) | (simp [*]; done) | (simp only [ne_eq]; constructor <;> omega)) _)
      replace Bo : Blk ((w2.setCell ⟨gp, 0, none⟩ (.bool x0)).setCell ⟨gp, 1, none⟩ (.bool x1)) (w.heap.size + 1 + 1 + 1) 24 #[uv (F n).v, uv (F n).m] := ((Bo.far (by first | (simp; done) | (simp; omega) | (simp [*]; done) | (simp only [ne_eq]; constructor <;> omega)) _).far (by first | (simp; done) | (simp; omega) | (simp [*]; done) | (simp only [ne_eq]; constructor <;> omega)) _)
      replace Bp : Blk ((w2.setCell ⟨gp, 0, none⟩ (.bool x0)).setCell ⟨gp, 1, none⟩ (.bool x1)) (gp) 89 #[.bool x0, .bool x1] := ((Bp.set_ 0 _).set_ 1 _)
      replace Bq : Blk ((w2.setCell ⟨gp, 0, none⟩ (.bool x0)).setCell ⟨gp, 1, none⟩ (.bool x1)) (gq) 89 #[.bool false, .bool false] := ((Bq.far (by first | (simp; done) | (simp; omega) | (simp [*]; done) | (simp only [ne_eq]; constructor <;> omega)) _).far (by first | (simp; done) | (simp; omega) | (simp [*]; done) | (simp only [ne_eq]; constructor <;> omega)) _)
      replace hB : Below w.heap.size w ((w2.setCell ⟨gp, 0, none⟩ (.bool x0)).setCell ⟨gp, 1, none⟩ (.bool x1)) := (Bl_set (Bl_set hB (by first | omega | (simp; done) | (simp; omega)) _) (by first | omega | (simp; done) | (simp; omega)) _)
      replace Ba : Blk ((((w2.setCell ⟨gp, 0, none⟩ (.bool x0)).setCell ⟨gp, 1, none⟩ (.bool x1)).setCell ⟨gq, 0, none⟩ (.bool y0)).setCell ⟨gq, 1, none⟩ (.bool y1)) (w.heap.size) 24 #[uv a.v, uv a.m] := ((Ba.far (by first | (simp; done) | (simp; omega) | (simp [*]; done) | (simp only [ne_eq]; constructor <;> omega)) _).far (by first | (simp; done) | (simp; omega) | (simp [*]; done) | (simp only [ne_eq]; constructor <;> omega)) _)
      replace Bb : Blk ((((w2.setCell ⟨gp, 0, none⟩ (.bool x0)).setCell ⟨gp, 1, none⟩ (.bool x1)).setCell ⟨gq, 0, none⟩ (.bool y0)).setCell ⟨gq, 1, none⟩ (.bool y1)) (w.heap.size + 1) 24 #[uv b.v, uv b.m] := ((Bb.far (by first | (simp; done) | (simp; omega) | (simp [*]; done) | (simp only [ne_eq]; constructor <;> omega)) _).far (by first | (simp; done) | (simp; omega) | (simp [*]; done) | (simp only [ne_eq]; constructor <;> omega)) _)
      replace Br : Blk ((((w2.setCell ⟨gp, 0, none⟩ (.bool x0)).setCell ⟨gp, 1, none⟩ (.bool x1)).setCell ⟨gq, 0, none⟩ (.bool y0)).setCell ⟨gq, 1, none⟩ (.bool y1)) (w.heap.size + 1 + 1) 24 #[x, y] := ((Br.far (by first | (simp; done) | (simp; omega) | (simp [*]; done) | (simp only [ne_eq]; constructor <;> omega)) _).far (by first | (simp; done) | (simp; omega) | (simp [*]; done) | (simp only [ne_eq]; constructor <;> omega)) _)
      replace Bo : Blk ((((w2.setCell ⟨gp, 0, none⟩ (.bool x0)).setCell ⟨gp, 1, none⟩ (.bool x1)).setCell ⟨gq, 0, none⟩ (.bool y0)).setCell ⟨gq, 1, none⟩ (.bool y1)) (w.heap.size + 1 + 1 + 1) 24 #[uv (F n).v, uv (F n).m] := ((Bo.far (by first | (simp; done) | (simp; omega) | (simp [*]; done) | (simp only [ne_eq]; constructor <;> omega)) _).far (by first | (simp; done) | (simp; omega) | (simp [*]; done) | (simp only [ne_eq]; constructor <;> omega)) _)
      replace Bp : Blk ((((w2.setCell ⟨gp, 0, none⟩ (.bool x0)).setCell ⟨gp, 1, none⟩ (.bool x1)).setCell ⟨gq, 0, none⟩ (.bool y0)).setCell ⟨gq, 1, none⟩ (.bool y1)) (gp) 89 #[.bool x0, .bool x1] := ((Bp.far (by first | (simp; done) | (simp; omega) | (simp [*]; done) | (simp only [ne_eq]; constructor <;> omega)) _).far (by first | (simp; done) | (simp; omega) | (simp [*]; done) | (simp only [ne_eq]; constructor <;> omega)) _)
      replace Bq : Blk ((((w2.setCell ⟨gp, 0, none⟩ (.bool x0)).setCell ⟨gp, 1, none⟩ (.bool x1)).setCell ⟨gq, 0, none⟩ (.bool y0)).setCell ⟨gq, 1, none⟩ (.bool y1)) (gq) 89 #[.bool y0, .bool y1] := ((Bq.set_ 0 _).set_ 1 _)
      replace hB : Below w.heap.size w ((((w2.setCell ⟨gp, 0, none⟩ (.bool x0)).setCell ⟨gp, 1, none⟩ (.bool x1)).setCell ⟨gq, 0, none⟩ (.bool y0)).setCell ⟨gq, 1, none⟩ (.bool y1)) := (Bl_set (Bl_set hB (by first | omega | (simp; done) | (simp; omega)) _) (by first | omega | (simp; done) | (simp; omega)) _)
      generalize ((((w2.setCell ⟨gp, 0, none⟩ (.bool x0)).setCell ⟨gp, 1, none⟩ (.bool x1)).setCell ⟨gq, 0, none⟩ (.bool y0)).setCell ⟨gq, 1, none⟩ (.bool y1)) = w3 at *
      obtain ⟨ca0, ca1⟩ := cells2 Ba
      have fa := Ba.frozen; have la := Ba.lt
      obtain ⟨cb0, cb1⟩ := cells2 Bb
      have fb := Bb.frozen; have lb := Bb.lt
      obtain ⟨cr0, cr1⟩ := cells2 Br
      have fr := Br.frozen; have lr := Br.lt
      obtain ⟨co0, co1⟩ := cells2 Bo
      have fo := Bo.frozen; have lo := Bo.lt
      obtain ⟨cp0, cp1⟩ := cells2 Bp
      have fp := Bp.frozen; have lp := Bp.lt
      obtain ⟨cq0, cq1⟩ := cells2 Bq
      have fq := Bq.frozen; have lq := Bq.lt
      cases x0
      · cases x1
        · simp only [Bool.true_or, Bool.false_or] at k_s
          go_wp2_with fail
          refine (k_s _).mono ?_
          rintro e w4 ⟨rfl, hb⟩
          clear ca0 ca1 fa la
          clear cb0 cb1 fb lb
          clear cr0 cr1 fr lr
          clear co0 co1 fo lo
          clear cp0 cp1 fp lp
          clear cq0 cq1 fq lq
          replace Ba := (Ba).next hb
          replace Bb := (Bb).next hb
          replace Br := (Br).next hb
          replace Bo := (Bo).next hb
          replace Bp := (Bp).next hb
          replace Bq := (Bq).next hb
          replace hB : Below w.heap.size w w4 := by repeat (first | exact hB | (refine Bl_set ?_ (by first | omega | (simp; omega)) _) | apply Bl_alloc | (refine Bl_trans ?_ hb))
          clear hb
          obtain ⟨ca0, ca1⟩ := cells2 Ba
          have fa := Ba.frozen; have la := Ba.lt
          obtain ⟨cb0, cb1⟩ := cells2 Bb
          have fb := Bb.frozen; have lb := Bb.lt
          obtain ⟨cr0, cr1⟩ := cells2 Br
          have fr := Br.frozen; have lr := Br.lt
          obtain ⟨co0, co1⟩ := cells2 Bo
          have fo := Bo.frozen; have lo := Bo.lt
          obtain ⟨cp0, cp1⟩ := cells2 Bp
          have fp := Bp.frozen; have lp := Bp.lt
          obtain ⟨cq0, cq1⟩ := cells2 Bq
          have fq := Bq.frozen; have lq := Bq.lt
          go_upto_region 4 with fail
          clear ca0 ca1 fa la
          clear cb0 cb1 fb lb
          clear cr0 cr1 fr lr
          clear co0 co1 fo lo
          clear cp0 cp1 fp lp
          clear cq0 cq1 fq lq
          replace Ba : Blk ((w4.setCell ⟨w.heap.size + 1 + 1 + 1, 0, none⟩ (uv (F (n + 1)).v)).setCell ⟨w.heap.size + 1 + 1 + 1, 1, none⟩ (uv (F (n + 1)).m)) (w.heap.size) 24 #[uv a.v, uv a.m] := ((Ba.far (by first | (simp; done) | (simp; omega) | (simp [*]; done) | (simp only [ne_eq]; constructor <;> omega)) _).far (by first | (simp; done) | (simp; omega) | (simp [*]; done) | (simp only [ne_eq]; constructor <;> omega)) _)
          replace Bb : Blk ((w4.setCell ⟨w.heap.size + 1 + 1 + 1, 0, none⟩ (uv (F (n + 1)).v)).setCell ⟨w.heap.size + 1 + 1 + 1, 1, none⟩ (uv (F (n + 1)).m)) (w.heap.size + 1) 24 #[uv b.v, uv b.m] := ((Bb.far (by first | (simp; done) | (simp; omega) | (simp [*]; done) | (simp only [ne_eq]; constructor <;> omega)) _).far (by first | (simp; done) | (simp; omega) | (simp [*]; done) | (simp only [ne_eq]; constructor <;> omega)) _)
          replace Br : Blk ((w4.setCell ⟨w.heap.size + 1 + 1 + 1, 0, none⟩ (uv (F (n + 1)).v)).setCell ⟨w.heap.size + 1 + 1 + 1, 1, none⟩ (uv (F (n + 1)).m)) (w.heap.size + 1 + 1) 24 #[x, y] := ((Br.far (by first | (simp; done) | (simp; omega) | (simp [*]; done) | (simp only [ne_eq]; constructor <;> omega)) _).far (by first | (simp; done) | (simp; omega) | (simp [*]; done) | (simp only [ne_eq]; constructor <;> omega)) _)
          replace Bo : Blk ((w4.setCell ⟨w.heap.size + 1 + 1 + 1, 0, none⟩ (uv (F (n + 1)).v)).setCell ⟨w.heap.size + 1 + 1 + 1, 1, none⟩ (uv (F (n + 1)).m)) (w.heap.size + 1 + 1 + 1) 24 #[uv (F (n + 1)).v, uv (F (n + 1)).m] := ((Bo.set_ 0 _).set_ 1 _)
          replace Bp : Blk ((w4.setCell ⟨w.heap.size + 1 + 1 + 1, 0, none⟩ (uv (F (n + 1)).v)).setCell ⟨w.heap.size + 1 + 1 + 1, 1, none⟩ (uv (F (n + 1)).m)) (gp) 89 #[.bool false, .bool false] := ((Bp.far (by first | (simp; done) | (simp; omega) | (simp [*]; done) | (simp only [ne_eq]; constructor <;> omega)) _).far (by first | (simp; done) | (simp; omega) | (simp [*]; done) | (simp only [ne_eq]; constructor <;> omega)) _)
          replace Bq : Blk ((w4.setCell ⟨w.heap.size + 1 + 1 + 1, 0, none⟩ (uv (F (n + 1)).v)).setCell ⟨w.heap.size + 1 + 1 + 1, 1, none⟩ (uv (F (n + 1)).m)) (gq) 89 #[.bool y0, .bool y1] := ((Bq.far (by first | (simp; done) | (simp; omega) | (simp [*]; done) | (simp only [ne_eq]; constructor <;> omega)) _).far (by first | (simp; done) | (simp; omega) | (simp [*]; done) | (simp only [ne_eq]; constructor <;> omega)) _)
          replace hB : Below w.heap.size w ((w4.setCell ⟨w.heap.size + 1 + 1 + 1, 0, none⟩ (uv (F (n + 1)).v)).setCell ⟨w.heap.size + 1 + 1 + 1, 1, none⟩ (uv (F (n + 1)).m)) := (Bl_set (Bl_set hB (by first | omega | (simp; done) | (simp; omega)) _) (by first | omega | (simp; done) | (simp; omega)) _)
          generalize ((w4.setCell ⟨w.heap.size + 1 + 1 + 1, 0, none⟩ (uv (F (n + 1)).v)).setCell ⟨w.heap.size + 1 + 1 + 1, 1, none⟩ (uv (F (n + 1)).m)) = w5 at *
          obtain ⟨ca0, ca1⟩ := cells2 Ba
          have fa := Ba.frozen; have la := Ba.lt
          obtain ⟨cb0, cb1⟩ := cells2 Bb
          have fb := Bb.frozen; have lb := Bb.lt
          obtain ⟨cr0, cr1⟩ := cells2 Br
          have fr := Br.frozen; have lr := Br.lt
          obtain ⟨co0, co1⟩ := cells2 Bo
          have fo := Bo.frozen; have lo := Bo.lt
          obtain ⟨cp0, cp1⟩ := cells2 Bp
          have fp := Bp.frozen; have lp := Bp.lt
          obtain ⟨cq0, cq1⟩ := cells2 Bq
          have fq := Bq.frozen; have lq := Bq.lt
          go_wp2_with fail
          go_roundg (63 - n)
          case measure => omega
          case rel => exact ⟨n + 1, by omega, by omega, by go_num, hB, Ba, Bb, ⟨_, _, Br⟩, Bo⟩
        · simp only [Bool.true_or, Bool.false_or] at k_s
          go_wp2_with fail
          refine (k_s _).mono ?_
          rintro e w4 ⟨rfl, hb⟩
          clear ca0 ca1 fa la
          clear cb0 cb1 fb lb
          clear cr0 cr1 fr lr
          clear co0 co1 fo lo
          clear cp0 cp1 fp lp
          clear cq0 cq1 fq lq
          replace Ba := (Ba).next hb
          replace Bb := (Bb).next hb
          replace Br := (Br).next hb
          replace Bo := (Bo).next hb
          replace Bp := (Bp).next hb
          replace Bq := (Bq).next hb
          replace hB : Below w.heap.size w w4 := by repeat (first | exact hB | (refine Bl_set ?_ (by first | omega | (simp; omega)) _) | apply Bl_alloc | (refine Bl_trans ?_ hb))
          clear hb
          obtain ⟨ca0, ca1⟩ := cells2 Ba
          have fa := Ba.frozen; have la := Ba.lt
          obtain ⟨cb0, cb1⟩ := cells2 Bb
          have fb := Bb.frozen; have lb := Bb.lt
          obtain ⟨cr0, cr1⟩ := cells2 Br
          have fr := Br.frozen; have lr := Br.lt
          obtain ⟨co0, co1⟩ := cells2 Bo
          have fo := Bo.frozen; have lo := Bo.lt
          obtain ⟨cp0, cp1⟩ := cells2 Bp
          have fp := Bp.frozen; have lp := Bp.lt
          obtain ⟨cq0, cq1⟩ := cells2 Bq
          have fq := Bq.frozen; have lq := Bq.lt
          go_upto_region 4 with fail
          clear ca0 ca1 fa la
          clear cb0 cb1 fb lb
          clear cr0 cr1 fr lr
          clear co0 co1 fo lo
          clear cp0 cp1 fp lp
          clear cq0 cq1 fq lq
          replace Ba : Blk ((w4.setCell ⟨w.heap.size + 1 + 1 + 1, 0, none⟩ (uv (F (n + 1)).v)).setCell ⟨w.heap.size + 1 + 1 + 1, 1, none⟩ (uv (F (n + 1)).m)) (w.heap.size) 24 #[uv a.v, uv a.m] := ((Ba.far (by first | (simp; done) | (simp; omega) | (simp [*]; done) | (simp only [ne_eq]; constructor <;> omega)) _).far (by first | (simp; done) | (simp; omega) | (simp [*]; done) | (simp only [ne_eq]; constructor <;> omega)) _)
          replace Bb : Blk ((w4.setCell ⟨w.heap.size + 1 + 1 + 1, 0, none⟩ (uv (F (n + 1)).v)).setCell ⟨w.heap.size + 1 + 1 + 1, 1, none⟩ (uv (F (n + 1)).m)) (w.heap.size + 1) 24 #[uv b.v, uv b.m] := ((Bb.far (by first | (simp; done) | (simp; omega) | (simp [*]; done) | (simp only [ne_eq]; constructor <;> omega)) _).far (by first | (simp; done) | (simp; omega) | (simp [*]; done) | (simp only [ne_eq]; constructor <;> omega)) _)
          replace Br : Blk ((w4.setCell ⟨w.heap.size + 1 + 1 + 1, 0, none⟩ (uv (F (n + 1)).v)).setCell ⟨w.heap.size + 1 + 1 + 1, 1, none⟩ (uv (F (n + 1)).m)) (w.heap.size + 1 + 1) 24 #[x, y] := ((Br.far (by first | (simp; done) | (simp; omega) | (simp [*]; done) | (simp only [ne_eq]; constructor <;> omega)) _).far (by first | (simp; done) | (simp; omega) | (simp [*]; done) | (simp only [ne_eq]; constructor <;> omega)) _)
          replace Bo : Blk ((w4.setCell ⟨w.heap.size + 1 + 1 + 1, 0, none⟩ (uv (F (n + 1)).v)).setCell ⟨w.heap.size + 1 + 1 + 1, 1, none⟩ (uv (F (n + 1)).m)) (w.heap.size + 1 + 1 + 1) 24 #[uv (F (n + 1)).v, uv (F (n + 1)).m] := ((Bo.set_ 0 _).set_ 1 _)
          replace Bp : Blk ((w4.setCell ⟨w.heap.size + 1 + 1 + 1, 0, none⟩ (uv (F (n + 1)).v)).setCell ⟨w.heap.size + 1 + 1 + 1, 1, none⟩ (uv (F (n + 1)).m)) (gp) 89 #[.bool false, .bool true] := ((Bp.far (by first | (simp; done) | (simp; omega) | (simp [*]; done) | (simp only [ne_eq]; constructor <;> omega)) _).far (by first | (simp; done) | (simp; omega) | (simp [*]; done) | (simp only [ne_eq]; constructor <;> omega)) _)
          replace Bq : Blk ((w4.setCell ⟨w.heap.size + 1 + 1 + 1, 0, none⟩ (uv (F (n + 1)).v)).setCell ⟨w.heap.size + 1 + 1 + 1, 1, none⟩ (uv (F (n + 1)).m)) (gq) 89 #[.bool y0, .bool y1] := ((Bq.far (by first | (simp; done) | (simp; omega) | (simp [*]; done) | (simp only [ne_eq]; constructor <;> omega)) _).far (by first | (simp; done) | (simp; omega) | (simp [*]; done) | (simp only [ne_eq]; constructor <;> omega)) _)
          replace hB : Below w.heap.size w ((w4.setCell ⟨w.heap.size + 1 + 1 + 1, 0, none⟩ (uv (F (n + 1)).v)).setCell ⟨w.heap.size + 1 + 1 + 1, 1, none⟩ (uv (F (n + 1)).m)) := (Bl_set (Bl_set hB (by first | omega | (simp; done) | (simp; omega)) _) (by first | omega | (simp; done) | (simp; omega)) _)
          generalize ((w4.setCell ⟨w.heap.size + 1 + 1 + 1, 0, none⟩ (uv (F (n + 1)).v)).setCell ⟨w.heap.size + 1 + 1 + 1, 1, none⟩ (uv (F (n + 1)).m)) = w5 at *
          obtain ⟨ca0, ca1⟩ := cells2 Ba
          have fa := Ba.frozen; have la := Ba.lt
          obtain ⟨cb0, cb1⟩ := cells2 Bb
          have fb := Bb.frozen; have lb := Bb.lt
          obtain ⟨cr0, cr1⟩ := cells2 Br
          have fr := Br.frozen; have lr := Br.lt
          obtain ⟨co0, co1⟩ := cells2 Bo
          have fo := Bo.frozen; have lo := Bo.lt
          obtain ⟨cp0, cp1⟩ := cells2 Bp
          have fp := Bp.frozen; have lp := Bp.lt
          obtain ⟨cq0, cq1⟩ := cells2 Bq
          have fq := Bq.frozen; have lq := Bq.lt
          go_wp2_with fail
          go_roundg (63 - n)
          case measure => omega
          case rel => exact ⟨n + 1, by omega, by omega, by go_num, hB, Ba, Bb, ⟨_, _, Br⟩, Bo⟩
      · cases x1
        · simp only [Bool.true_or, Bool.false_or] at k_s
          go_wp2_with fail
          refine (k_s _).mono ?_
          rintro e w4 ⟨rfl, hb⟩
          clear ca0 ca1 fa la
          clear cb0 cb1 fb lb
          clear cr0 cr1 fr lr
          clear co0 co1 fo lo
          clear cp0 cp1 fp lp
          clear cq0 cq1 fq lq
          replace Ba := (Ba).next hb
          replace Bb := (Bb).next hb
          replace Br := (Br).next hb
          replace Bo := (Bo).next hb
          replace Bp := (Bp).next hb
          replace Bq := (Bq).next hb
          replace hB : Below w.heap.size w w4 := by repeat (first | exact hB | (refine Bl_set ?_ (by first | omega | (simp; omega)) _) | apply Bl_alloc | (refine Bl_trans ?_ hb))
          clear hb
          obtain ⟨ca0, ca1⟩ := cells2 Ba
          have fa := Ba.frozen; have la := Ba.lt
          obtain ⟨cb0, cb1⟩ := cells2 Bb
          have fb := Bb.frozen; have lb := Bb.lt
          obtain ⟨cr0, cr1⟩ := cells2 Br
          have fr := Br.frozen; have lr := Br.lt
          obtain ⟨co0, co1⟩ := cells2 Bo
          have fo := Bo.frozen; have lo := Bo.lt
          obtain ⟨cp0, cp1⟩ := cells2 Bp
          have fp := Bp.frozen; have lp := Bp.lt
          obtain ⟨cq0, cq1⟩ := cells2 Bq
          have fq := Bq.frozen; have lq := Bq.lt
          go_upto_region 4 with fail
          clear ca0 ca1 fa la
          clear cb0 cb1 fb lb
          clear cr0 cr1 fr lr
          clear co0 co1 fo lo
          clear cp0 cp1 fp lp
          clear cq0 cq1 fq lq
          replace Ba : Blk ((w4.setCell ⟨w.heap.size + 1 + 1 + 1, 0, none⟩ (uv (F (n + 1)).v)).setCell ⟨w.heap.size + 1 + 1 + 1, 1, none⟩ (uv (F (n + 1)).m)) (w.heap.size) 24 #[uv a.v, uv a.m] := ((Ba.far (by first | (simp; done) | (simp; omega) | (simp [*]; done) | (simp only [ne_eq]; constructor <;> omega)) _).far (by first | (simp; done) | (simp; omega) | (simp [*]; done) | (simp only [ne_eq]; constructor <;> omega)) _)
          replace Bb : Blk ((w4.setCell ⟨w.heap.size + 1 + 1 + 1, 0, none⟩ (uv (F (n + 1)).v)).setCell ⟨w.heap.size + 1 + 1 + 1, 1, none⟩ (uv (F (n + 1)).m)) (w.heap.size + 1) 24 #[uv b.v, uv b.m] := ((Bb.far (by first | (simp; done) | (simp; omega) | (simp [*]; done) | (simp only [ne_eq]; constructor <;> omega)) _).far (by first | (simp; done) | (simp; omega) | (simp [*]; done) | (simp only [ne_eq]; constructor <;> omega)) _)
          replace Br : Blk ((w4.setCell ⟨w.heap.size + 1 + 1 + 1, 0, none⟩ (uv (F (n + 1)).v)).setCell ⟨w.heap.size + 1 + 1 + 1, 1, none⟩ (uv (F (n + 1)).m)) (w.heap.size + 1 + 1) 24 #[x, y] := ((Br.far (by first | (simp; done) | (simp; omega) | (simp [*]; done) | (simp only [ne_eq]; constructor <;> omega)) _).far (by first | (simp; done) | (simp; omega) | (simp [*]; done) | (simp only [ne_eq]; constructor <;> omega)) _)
          replace Bo : Blk ((w4.setCell ⟨w.heap.size + 1 + 1 + 1, 0, none⟩ (uv (F (n + 1)).v)).setCell ⟨w.heap.size + 1 + 1 + 1, 1, none⟩ (uv (F (n + 1)).m)) (w.heap.size + 1 + 1 + 1) 24 #[uv (F (n + 1)).v, uv (F (n + 1)).m] := ((Bo.set_ 0 _).set_ 1 _)
          replace Bp : Blk ((w4.setCell ⟨w.heap.size + 1 + 1 + 1, 0, none⟩ (uv (F (n + 1)).v)).setCell ⟨w.heap.size + 1 + 1 + 1, 1, none⟩ (uv (F (n + 1)).m)) (gp) 89 #[.bool true, .bool false] := ((Bp.far (by first | (simp; done) | (simp; omega) | (simp [*]; done) | (simp only [ne_eq]; constructor <;> omega)) _).far (by first | (simp; done) | (simp; omega) | (simp [*]; done) | (simp only [ne_eq]; constructor <;> omega)) _)
          replace Bq : Blk ((w4.setCell ⟨w.heap.size + 1 + 1 + 1, 0, none⟩ (uv (F (n + 1)).v)).setCell ⟨w.heap.size + 1 + 1 + 1, 1, none⟩ (uv (F (n + 1)).m)) (gq) 89 #[.bool y0, .bool y1] := ((Bq.far (by first | (simp; done) | (simp; omega) | (simp [*]; done) | (simp only [ne_eq]; constructor <;> omega)) _).far (by first | (simp; done) | (simp; omega) | (simp [*]; done) | (simp only [ne_eq]; constructor <;> omega)) _)
          replace hB : Below w.heap.size w ((w4.setCell ⟨w.heap.size + 1 + 1 + 1, 0, none⟩ (uv (F (n + 1)).v)).setCell ⟨w.heap.size + 1 + 1 + 1, 1, none⟩ (uv (F (n + 1)).m)) := (Bl_set (Bl_set hB (by first | omega | (simp; done) | (simp; omega)) _) (by first | omega | (simp; done) | (simp; omega)) _)
          generalize ((w4.setCell ⟨w.heap.size + 1 + 1 + 1, 0, none⟩ (uv (F (n + 1)).v)).setCell ⟨w.heap.size + 1 + 1 + 1, 1, none⟩ (uv (F (n + 1)).m)) = w5 at *
          obtain ⟨ca0, ca1⟩ := cells2 Ba
          have fa := Ba.frozen; have la := Ba.lt
          obtain ⟨cb0, cb1⟩ := cells2 Bb
          have fb := Bb.frozen; have lb := Bb.lt
          obtain ⟨cr0, cr1⟩ := cells2 Br
          have fr := Br.frozen; have lr := Br.lt
          obtain ⟨co0, co1⟩ := cells2 Bo
          have fo := Bo.frozen; have lo := Bo.lt
          obtain ⟨cp0, cp1⟩ := cells2 Bp
          have fp := Bp.frozen; have lp := Bp.lt
          obtain ⟨cq0, cq1⟩ := cells2 Bq
          have fq := Bq.frozen; have lq := Bq.lt
          go_wp2_with fail
          go_roundg (63 - n)
          case measure => omega
          case rel => exact ⟨n + 1, by omega, by omega, by go_num, hB, Ba, Bb, ⟨_, _, Br⟩, Bo⟩
        · simp only [Bool.true_or, Bool.false_or] at k_s
          go_wp2_with fail
          refine (k_s _).mono ?_
          rintro e w4 ⟨rfl, hb⟩
          clear ca0 ca1 fa la
          clear cb0 cb1 fb lb
          clear cr0 cr1 fr lr
          clear co0 co1 fo lo
          clear cp0 cp1 fp lp
          clear cq0 cq1 fq lq
          replace Ba := (Ba).next hb
          replace Bb := (Bb).next hb
          replace Br := (Br).next hb
          replace Bo := (Bo).next hb
          replace Bp := (Bp).next hb
          replace Bq := (Bq).next hb
          replace hB : Below w.heap.size w w4 := by repeat (first | exact hB | (refine Bl_set ?_ (by first | omega | (simp; omega)) _) | apply Bl_alloc | (refine Bl_trans ?_ hb))
          clear hb
          obtain ⟨ca0, ca1⟩ := cells2 Ba
          have fa := Ba.frozen; have la := Ba.lt
          obtain ⟨cb0, cb1⟩ := cells2 Bb
          have fb := Bb.frozen; have lb := Bb.lt
          obtain ⟨cr0, cr1⟩ := cells2 Br
          have fr := Br.frozen; have lr := Br.lt
          obtain ⟨co0, co1⟩ := cells2 Bo
          have fo := Bo.frozen; have lo := Bo.lt
          obtain ⟨cp0, cp1⟩ := cells2 Bp
          have fp := Bp.frozen; have lp := Bp.lt
          obtain ⟨cq0, cq1⟩ := cells2 Bq
          have fq := Bq.frozen; have lq := Bq.lt
          go_upto_region 4 with fail
          clear ca0 ca1 fa la
          clear cb0 cb1 fb lb
          clear cr0 cr1 fr lr
          clear co0 co1 fo lo
          clear cp0 cp1 fp lp
          clear cq0 cq1 fq lq
          replace Ba : Blk ((w4.setCell ⟨w.heap.size + 1 + 1 + 1, 0, none⟩ (uv (F (n + 1)).v)).setCell ⟨w.heap.size + 1 + 1 + 1, 1, none⟩ (uv (F (n + 1)).m)) (w.heap.size) 24 #[uv a.v, uv a.m] := ((Ba.far (by first | (simp; done) | (simp; omega) | (simp [*]; done) | (simp only [ne_eq]; constructor <;> omega)) _).far (by first | (simp; done) | (simp; omega) | (simp [*]; done) | (simp only [ne_eq]; constructor <;> omega)) _)
          replace Bb : Blk ((w4.setCell ⟨w.heap.size + 1 + 1 + 1, 0, none⟩ (uv (F (n + 1)).v)).setCell ⟨w.heap.size + 1 + 1 + 1, 1, none⟩ (uv (F (n + 1)).m)) (w.heap.size + 1) 24 #[uv b.v, uv b.m] := ((Bb.far (by first | (simp; done) | (simp; omega) | (simp [*]; done) | (simp only [ne_eq]; constructor <;> omega)) _).far (by first | (simp; done) | (simp; omega) | (simp [*]; done) | (simp only [ne_eq]; constructor <;> omega)) _)
          replace Br : Blk ((w4.setCell ⟨w.heap.size + 1 + 1 + 1, 0, none⟩ (uv (F (n + 1)).v)).setCell ⟨w.heap.size + 1 + 1 + 1, 1, none⟩ (uv (F (n + 1)).m)) (w.heap.size + 1 + 1) 24 #[x, y] := ((Br.far (by first | (simp; done) | (simp; omega) | (simp [*]; done) | (simp only [ne_eq]; constructor <;> omega)) _).far (by first | (simp; done) | (simp; omega) | (simp [*]; done) | (simp only [ne_eq]; constructor <;> omega)) _)
          replace Bo : Blk ((w4.setCell ⟨w.heap.size + 1 + 1 + 1, 0, none⟩ (uv (F (n + 1)).v)).setCell ⟨w.heap.size + 1 + 1 + 1, 1, none⟩ (uv (F (n + 1)).m)) (w.heap.size + 1 + 1 + 1) 24 #[uv (F (n + 1)).v, uv (F (n + 1)).m] := ((Bo.set_ 0 _).set_ 1 _)
          replace Bp : Blk ((w4.setCell ⟨w.heap.size + 1 + 1 + 1, 0, none⟩ (uv (F (n + 1)).v)).setCell ⟨w.heap.size + 1 + 1 + 1, 1, none⟩ (uv (F (n + 1)).m)) (gp) 89 #[.bool true, .bool true] := ((Bp.far (by first | (simp; done) | (simp; omega) | (simp [*]; done) | (simp only [ne_eq]; constructor <;> omega)) _).far (by first | (simp; done) | (simp; omega) | (simp [*]; done) | (simp only [ne_eq]; constructor <;> omega)) _)
          replace Bq : Blk ((w4.setCell ⟨w.heap.size + 1 + 1 + 1, 0, none⟩ (uv (F (n + 1)).v)).setCell ⟨w.heap.size + 1 + 1 + 1, 1, none⟩ (uv (F (n + 1)).m)) (gq) 89 #[.bool y0, .bool y1] := ((Bq.far (by first | (simp; done) | (simp; omega) | (simp [*]; done) | (simp only [ne_eq]; constructor <;> omega)) _).far (by first | (simp; done) | (simp; omega) | (simp [*]; done) | (simp only [ne_eq]; constructor <;> omega)) _)
          replace hB : Below w.heap.size w ((w4.setCell ⟨w.heap.size + 1 + 1 + 1, 0, none⟩ (uv (F (n + 1)).v)).setCell ⟨w.heap.size + 1 + 1 + 1, 1, none⟩ (uv (F (n + 1)).m)) := (Bl_set (Bl_set hB (by first | omega | (simp; done) | (simp; omega)) _) (by first | omega | (simp; done) | (simp; omega)) _)
          generalize ((w4.setCell ⟨w.heap.size + 1 + 1 + 1, 0, none⟩ (uv (F (n + 1)).v)).setCell ⟨w.heap.size + 1 + 1 + 1, 1, none⟩ (uv (F (n + 1)).m)) = w5 at *
          obtain ⟨ca0, ca1⟩ := cells2 Ba
          have fa := Ba.frozen; have la := Ba.lt
          obtain ⟨cb0, cb1⟩ := cells2 Bb
          have fb := Bb.frozen; have lb := Bb.lt
          obtain ⟨cr0, cr1⟩ := cells2 Br
          have fr := Br.frozen; have lr := Br.lt
          obtain ⟨co0, co1⟩ := cells2 Bo
          have fo := Bo.frozen; have lo := Bo.lt
          obtain ⟨cp0, cp1⟩ := cells2 Bp
          have fp := Bp.frozen; have lp := Bp.lt
          obtain ⟨cq0, cq1⟩ := cells2 Bq
          have fq := Bq.frozen; have lq := Bq.lt
          go_wp2_with fail
          go_roundg (63 - n)
          case measure => omega
          case rel => exact ⟨n + 1, by omega, by omega, by go_num, hB, Ba, Bb, ⟨_, _, Br⟩, Bo⟩
set_option maxRecDepth 100000 in
set_option maxHeartbeats 3200000 in
theorem rmeet_c (a b : N) (ha : PlainTnum.R a) (hb' : PlainTnum.R b) (w : World) : Calls Try.prog 24 #[nv a, nv b] w fun e w' => e = .returned (.tuple #[nv (PlainTnum.meet a b).1, .bool (PlainTnum.meet a b).2]) ∧ Below w.heap.size w w' := by
  obtain ⟨F, e_F⟩ : ∃ z' : Nat → N, z' = PlainTnum.build (PlainTnum.meetF a b) := ⟨_, rfl⟩
  have h0 : F 0 = ⟨0#64, 0#64⟩ := by rw [e_F]; rfl
  have hs : ∀ n, F (n + 1) = PlainTnum.setN (F n) n ((PlainTnum.bitsOf a n).1 && (PlainTnum.bitsOf b n).1, (PlainTnum.bitsOf a n).2 && (PlainTnum.bitsOf b n).2) := fun n => by rw [e_F]; rfl
  have hyes : PlainTnum.meetOk a b 64 → PlainTnum.meet a b = (F 64, true) := fun h => by rw [e_F]; exact PlainTnum.meet_eq ha hb' h
  have hno : ∀ n, n < 64 → ((PlainTnum.bitsOf a n).1 && (PlainTnum.bitsOf b n).1) = false → ((PlainTnum.bitsOf a n).2 && (PlainTnum.bitsOf b n).2) = false → PlainTnum.meet a b = (⟨0#64, 0#64⟩, false) := fun n hn h1 h2 => PlainTnum.meet_no ha hb' (fun h => by have := h n hn; simp [PlainTnum.meetF, h1, h2] at this)
  have hok : ∀ n, PlainTnum.meetOk a b n → (((PlainTnum.bitsOf a n).1 && (PlainTnum.bitsOf b n).1) || ((PlainTnum.bitsOf a n).2 && (PlainTnum.bitsOf b n).2)) = true → PlainTnum.meetOk a b (n + 1) := fun n h e i hi => by rcases Nat.lt_or_ge i n with g | g; exact h i g; (obtain rfl : i = n := by omega); exact e
  have hok0 : PlainTnum.meetOk a b 0 := fun i hi => absurd hi (by omega)
  obtain ⟨Ok, e_Ok⟩ : ∃ z' : Nat → Prop, z' = PlainTnum.meetOk a b := ⟨_, rfl⟩
  rw [← e_Ok] at hok hok0 hyes; clear e_F e_Ok ha hb'
  generalize PlainTnum.meet a b = R at hyes hno ⊢
  go_enter Try.func24, Try.ntmps24
  go_wp2_with fail
  obtain ⟨ga, hga⟩ : ∃ g, g = w.heap.size := ⟨_, rfl⟩
  obtain ⟨gb, hgb⟩ : ∃ g, g = w.heap.size + 1 := ⟨_, rfl⟩
  obtain ⟨gr, hgr⟩ : ∃ g, g = w.heap.size + 1 + 1 := ⟨_, rfl⟩
  obtain ⟨go, hgo⟩ : ∃ g, g = w.heap.size + 1 + 1 + 1 := ⟨_, rfl⟩
  have Ba : Blk ((((w.alloc (.cells #[uv a.v, uv a.m] 24)).alloc (.cells #[uv b.v, uv b.m] 24)).alloc (.cells #[.int .u64 0, .int .u64 0] 24)).alloc (.cells #[.int .u64 0, .int .u64 0] 24)) (w.heap.size) 24 #[uv a.v, uv a.m] := ((((Blk.new w 24 #[uv a.v, uv a.m])).alloc _).alloc _).alloc _
  have Bb : Blk ((((w.alloc (.cells #[uv a.v, uv a.m] 24)).alloc (.cells #[uv b.v, uv b.m] 24)).alloc (.cells #[.int .u64 0, .int .u64 0] 24)).alloc (.cells #[.int .u64 0, .int .u64 0] 24)) (w.heap.size + 1) 24 #[uv b.v, uv b.m] := (((by simpa using Blk.new (w.alloc (.cells #[uv a.v, uv a.m] 24)) 24 #[uv b.v, uv b.m] : Blk _ (w.heap.size + 1) 24 #[uv b.v, uv b.m])).alloc _).alloc _
  have Br : Blk ((((w.alloc (.cells #[uv a.v, uv a.m] 24)).alloc (.cells #[uv b.v, uv b.m] 24)).alloc (.cells #[.int .u64 0, .int .u64 0] 24)).alloc (.cells #[.int .u64 0, .int .u64 0] 24)) (w.heap.size + 1 + 1) 24 #[.int .u64 0, .int .u64 0] := ((by simpa using Blk.new ((w.alloc (.cells #[uv a.v, uv a.m] 24)).alloc (.cells #[uv b.v, uv b.m] 24)) 24 #[.int .u64 0, .int .u64 0] : Blk _ (w.heap.size + 1 + 1) 24 #[.int .u64 0, .int .u64 0])).alloc _
  have Bo : Blk ((((w.alloc (.cells #[uv a.v, uv a.m] 24)).alloc (.cells #[uv b.v, uv b.m] 24)).alloc (.cells #[.int .u64 0, .int .u64 0] 24)).alloc (.cells #[.int .u64 0, .int .u64 0] 24)) (w.heap.size + 1 + 1 + 1) 24 #[.int .u64 0, .int .u64 0] := (by simpa using Blk.new (((w.alloc (.cells #[uv a.v, uv a.m] 24)).alloc (.cells #[uv b.v, uv b.m] 24)).alloc (.cells #[.int .u64 0, .int .u64 0] 24)) 24 #[.int .u64 0, .int .u64 0] : Blk _ (w.heap.size + 1 + 1 + 1) 24 #[.int .u64 0, .int .u64 0])
  have hB : Below w.heap.size w ((((w.alloc (.cells #[uv a.v, uv a.m] 24)).alloc (.cells #[uv b.v, uv b.m] 24)).alloc (.cells #[.int .u64 0, .int .u64 0] 24)).alloc (.cells #[.int .u64 0, .int .u64 0] 24)) := (Bl_alloc (Bl_alloc (Bl_alloc (Bl_alloc (Bl_refl w) _) _) _) _)
  clear hga
  clear ga
  clear hgb
  clear gb
  clear hgr
  clear gr
  clear hgo
  clear go
  generalize ((((w.alloc (.cells #[uv a.v, uv a.m] 24)).alloc (.cells #[uv b.v, uv b.m] 24)).alloc (.cells #[.int .u64 0, .int .u64 0] 24)).alloc (.cells #[.int .u64 0, .int .u64 0] 24)) = w1 at *
  obtain ⟨ca0, ca1⟩ := cells2 Ba
  have fa := Ba.frozen; have la := Ba.lt
  obtain ⟨cb0, cb1⟩ := cells2 Bb
  have fb := Bb.frozen; have lb := Bb.lt
  obtain ⟨cr0, cr1⟩ := cells2 Br
  have fr := Br.frozen; have lr := Br.lt
  obtain ⟨co0, co1⟩ := cells2 Bo
  have fo := Bo.frozen; have lo := Bo.lt
  clear ca0 ca1 fa la
  clear cb0 cb1 fb lb
  clear cr0 cr1 fr lr
  clear co0 co1 fo lo
  go_loopg [7] 64 (fun m i wr => ∃ n : Nat, n ≤ 64 ∧ m + n = 64 ∧ i = .int .i64 (n : Int) ∧ Below w.heap.size w wr ∧ Ok n ∧ Blk wr (w.heap.size) 24 #[uv a.v, uv a.m] ∧ Blk wr (w.heap.size + 1) 24 #[uv b.v, uv b.m] ∧ (∃ x y, Blk wr (w.heap.size + 1 + 1) 24 #[x, y]) ∧ Blk wr (w.heap.size + 1 + 1 + 1) 24 #[uv (F n).v, uv (F n).m])
  case atStart => exact ⟨0, by omega, by omega, rfl, hB, hok0, Ba, Bb, ⟨_, _, Br⟩, by rw [h0]; exact Bo⟩
  case round =>
    clear hB Ba Bb Br Bo
    obtain ⟨n, hn, hgk, rfl, hB, hOk, Ba, Bb, ⟨x, y, Br⟩, Bo⟩ := hrel
    obtain ⟨ca0, ca1⟩ := cells2 Ba
    have fa := Ba.frozen; have la := Ba.lt
    obtain ⟨cb0, cb1⟩ := cells2 Bb
    have fb := Bb.frozen; have lb := Bb.lt
    obtain ⟨cr0, cr1⟩ := cells2 Br
    have fr := Br.frozen; have lr := Br.lt
    obtain ⟨co0, co1⟩ := cells2 Bo
    have fo := Bo.frozen; have lo := Bo.lt
    cases q : decide ((n : Int) < 64)
    · have eF : F n = F 64 := by have := of_decide_eq_false q; rw [show n = 64 by omega]
      have eR : R = (F 64, true) := hyes (by have := of_decide_eq_false q; rwa [show n = 64 by omega] at hOk)
      clear hs h0 hyes hno hok hok0 hOk
      go_wp2
      exact bodyPost_ret (v := .tuple #[nv (F 64), .bool true]) (by simp [results, Try.results24, go_sem, cr0, cr1, co0, co1, lr, lo]) rfl ⟨by rw [eR], by repeat (first | (with_reducible exact hB) | (with_reducible refine Bl_set ?_ (by first | omega | (simp; done) | (simp; omega)) _) | with_reducible apply Bl_alloc)⟩
    · have hlt : (n : Int) < 64 := of_decide_eq_true q
      have k_x := bits_n a (n : Int) n rfl (by omega); have k_y := bits_n b (n : Int) n rfl (by omega)
      have hs1 := hs n; have hno1 := hno n (by omega); have hok1 := hok n hOk; clear hOk
      have Hs := Lib.hid hs; have Hno := Lib.hid hno; have Hok := Lib.hid hok; have Hyes := Lib.hid hyes; clear hs hno hok hyes hok0 h0
      generalize PlainTnum.bitsOf a n = X at k_x hs1 hno1 hok1; generalize PlainTnum.bitsOf b n = Y at k_y hs1 hno1 hok1; obtain ⟨x0, x1⟩ := X; obtain ⟨y0, y1⟩ := Y
      have k_s := set_n (F n) n (by omega) (x0 && y0, x1 && y1); rw [← show F (n + 1) = PlainTnum.setN (F n) n (x0 && y0, x1 && y1) from hs1] at k_s; clear hs1
      have Hno1 := Lib.hid hno1; have Hok1 := Lib.hid hok1; clear hno1 hok1
      go_wp2_with fail
      clear ca0 ca1; obtain ⟨ca0, ca1⟩ := lcells2 Ba
      clear cb0 cb1; obtain ⟨cb0, cb1⟩ := lcells2 Bb
      clear cr0 cr1; obtain ⟨cr0, cr1⟩ := lcells2 Br
      clear co0 co1; obtain ⟨co0, co1⟩ := lcells2 Bo
      refine wp_region_mix 8 (fun _ => #[.bool false, .bool false]) (by kernel_rfl) (by kernel_rfl) (fun o t ho ht => by
        simp at ho
        rcases ho with rfl | rfl | rfl | rfl | rfl | rfl | rfl | rfl <;> first | (cases ht; done) | (obtain rfl := Option.some.inj ht; exact fun ρ w => new_mb ht ρ w)) ?_
      simp only [List.take_succ_cons, List.take_zero, List.drop_succ_cons, List.drop_zero]
      repeat (refine wpMix_step (fun K hK => ?_); go_simp; first | (refine hK _ ?_; clear hK K) | (apply Exists.intro; refine ⟨fun g => ?_, hK _ ?_⟩; ((with_reducible refine Calls.mono (k_x g.w) ?_); exact fun _ _ h => h); clear hK K) | (apply Exists.intro; refine ⟨fun g => ?_, hK _ ?_⟩; ((with_reducible refine Calls.mono (k_y g.w) ?_); exact fun _ _ h => h); clear hK K))
      refine wpMix_nil ?_
      intro G w2 hgr hblk hdist
      have hb : Below wr.heap.size wr w2 := hgr
      replace Ba := Ba.next hb
      replace Bb := Bb.next hb
      replace Br := Br.next hb
      replace Bo := Bo.next hb
      obtain ⟨Bp, hlp⟩ := hblk 6 _ rfl
      obtain ⟨Bq, hlq⟩ := hblk 7 _ rfl
      have hdpq := hdist 6 7 _ _ rfl rfl (by decide)
      have hgp : w.heap.size ≤ G 6 := Nat.le_trans hB.size hlp
      have hnap : w.heap.size ≠ G 6 := Nat.ne_of_lt (Nat.lt_of_lt_of_le la hlp)
      have hnbp : w.heap.size + 1 ≠ G 6 := Nat.ne_of_lt (Nat.lt_of_lt_of_le lb hlp)
      have hnrp : w.heap.size + 1 + 1 ≠ G 6 := Nat.ne_of_lt (Nat.lt_of_lt_of_le lr hlp)
      have hnop : w.heap.size + 1 + 1 + 1 ≠ G 6 := Nat.ne_of_lt (Nat.lt_of_lt_of_le lo hlp)
      clear hlp
      have hgq : w.heap.size ≤ G 7 := Nat.le_trans hB.size hlq
      have hnaq : w.heap.size ≠ G 7 := Nat.ne_of_lt (Nat.lt_of_lt_of_le la hlq)
      have hnbq : w.heap.size + 1 ≠ G 7 := Nat.ne_of_lt (Nat.lt_of_lt_of_le lb hlq)
      have hnrq : w.heap.size + 1 + 1 ≠ G 7 := Nat.ne_of_lt (Nat.lt_of_lt_of_le lr hlq)
      have hnoq : w.heap.size + 1 + 1 + 1 ≠ G 7 := Nat.ne_of_lt (Nat.lt_of_lt_of_le lo hlq)
      clear hlq
      clear ca0 ca1 fa la
      clear cb0 cb1 fb lb
      clear cr0 cr1 fr lr
      clear co0 co1 fo lo
      replace hB : Below w.heap.size w w2 := Bl_trans hB hb
      simp only [putAll, isAlloc, Act.put]
      generalize G 6 = gp at *
      generalize G 7 = gq at *
      clear hb hgr hblk hdist
      obtain ⟨ca0, ca1⟩ := cells2 Ba
      have fa := Ba.frozen; have la := Ba.lt
      obtain ⟨cb0, cb1⟩ := cells2 Bb
      have fb := Bb.frozen; have lb := Bb.lt
      obtain ⟨cr0, cr1⟩ := cells2 Br
      have fr := Br.frozen; have lr := Br.lt
      obtain ⟨co0, co1⟩ := cells2 Bo
      have fo := Bo.frozen; have lo := Bo.lt
      obtain ⟨cp0, cp1⟩ := cells2 Bp
      have fp := Bp.frozen; have lp := Bp.lt
      obtain ⟨cq0, cq1⟩ := cells2 Bq
      have fq := Bq.frozen; have lq := Bq.lt
      go_upto_region 6 with fail
      clear ca0 ca1 fa la
      clear cb0 cb1 fb lb
      clear cr0 cr1 fr lr
      clear co0 co1 fo lo
      clear cp0 cp1 fp lp
      clear cq0 cq1 fq lq
      replace Ba : Blk ((w2.setCell ⟨gp, 0, none⟩ (.bool x0)).setCell ⟨gp, 1, none⟩ (.bool x1)) (w.heap.size) 24 #[uv a.v, uv a.m] := ((Ba.far (by first | (simp; done) | (simp; omega) | (simp [*]; done) | (simp only [ne_eq]; constructor <;> omega)) _).far (by first | (simp; done) | (simp; omega) | (simp [*]; done) | (simp only [ne_eq]; constructor <;> omega)) _)
      replace Bb : Blk ((w2.setCell ⟨gp, 0, none⟩ (.bool x0)).setCell ⟨gp, 1, none⟩ (.bool x1)) (w.heap.size + 1) 24 #[uv b.v, uv b.m] := ((Bb.far (by first | (simp; done) | (simp; omega) | (simp [*]; done) | (simp only [ne_eq]; constructor <;> omega)) _).far (by first | (simp; done) | (simp; omega) | (simp [*]; done) | (simp only [ne_eq]; constructor <;> omega)) _)
      replace Br : Blk ((w2.setCell ⟨gp, 0, none⟩ (.bool x0)).setCell ⟨gp, 1, none⟩ (.bool x1)) (w.heap.size + 1 + 1) 24 #[x, y] := ((Br.far (by first | (simp; done) | (simp; omega) | (simp [*]; done) | (simp only [ne_eq]; constructor <;> omega)) _).far (by first | (simp; done) | (simp; omega) | (simp [*]; done) | (simp only [ne_eq]; constructor <;> omega)) _)
      replace Bo : Blk ((w2.setCell ⟨gp, 0, none⟩ (.bool x0)).setCell ⟨gp, 1, none⟩ (.bool x1)) (w.heap.size + 1 + 1 + 1) 24 #[uv (F n).v, uv (F n).m] := ((Bo.far (by first | (simp; done) | (simp; omega) | (simp [*]; done) | (simp only [ne_eq]; constructor <;> omega)) _).far (by first | (simp; done) | (simp; omega) | (simp [*]; done) | (simp only [ne_eq]; constructor <;> omega)) _)
      replace Bp : Blk ((w2.setCell ⟨gp, 0, none⟩ (.bool x0)).setCell ⟨gp, 1, none⟩ (.bool x1)) (gp) 89 #[.bool x0, .bool x1] := ((Bp.set_ 0 _).set_ 1 _)
      replace Bq : Blk ((w2.setCell ⟨gp, 0, none⟩ (.bool x0)).setCell ⟨gp, 1, none⟩ (.bool x1)) (gq) 89 #[.bool false, .bool false] := ((Bq.far (by first | (simp; done) | (simp; omega) | (simp [*]; done) | (simp only [ne_eq]; constructor <;> omega)) _).far (by first | (simp; done) | (simp; omega) | (simp [*]; done) | (simp only [ne_eq]; constructor <;> omega)) _)
      replace hB : Below w.heap.size w ((w2.setCell ⟨gp, 0, none⟩ (.bool x0)).setCell ⟨gp, 1, none⟩ (.bool x1)) := (Bl_set (Bl_set hB (by first | omega | (simp; done) | (simp; omega)) _) (by first | omega | (simp; done) | (simp; omega)) _)
      replace Ba : Blk ((((w2.setCell ⟨gp, 0, none⟩ (.bool x0)).setCell ⟨gp, 1, none⟩ (.bool x1)).setCell ⟨gq, 0, none⟩ (.bool y0)).setCell ⟨gq, 1, none⟩ (.bool y1)) (w.heap.size) 24 #[uv a.v, uv a.m] := ((Ba.far (by first | (simp; done) | (simp; omega) | (simp [*]; done) | (simp only [ne_eq]; constructor <;> omega)) _).far (by first | (simp; done) | (simp; omega) | (simp [*]; done) | (simp only [ne_eq]; constructor <;> omega)) _)
      replace Bb : Blk ((((w2.setCell ⟨gp, 0, none⟩ (.bool x0)).setCell ⟨gp, 1, none⟩ (.bool x1)).setCell ⟨gq, 0, none⟩ (.bool y0)).setCell ⟨gq, 1, none⟩ (.bool y1)) (w.heap.size + 1) 24 #[uv b.v, uv b.m] := ((Bb.far (by first | (simp; done) | (simp; omega) | (simp [*]; done) | (simp only [ne_eq]; constructor <;> omega)) _).far (by first | (simp; done) | (simp; omega) | (simp [*]; done) | (simp only [ne_eq]; constructor <;> omega)) _)
      replace Br : Blk ((((w2.setCell ⟨gp, 0, none⟩ (.bool x0)).setCell ⟨gp, 1, none⟩ (.bool x1)).setCell ⟨gq, 0, none⟩ (.bool y0)).setCell ⟨gq, 1, none⟩ (.bool y1)) (w.heap.size + 1 + 1) 24 #[x, y] := ((Br.far (by first | (simp; done) | (simp; omega) | (simp [*]; done) | (simp only [ne_eq]; constructor <;> omega)) _).far (by first | (simp; done) | (simp; omega) | (simp [*]; done) | (simp only [ne_eq]; constructor <;> omega)) _)
      replace Bo : Blk ((((w2.setCell ⟨gp, 0, none⟩ (.bool x0)).setCell ⟨gp, 1, none⟩ (.bool x1)).setCell ⟨gq, 0, none⟩ (.bool y0)).setCell ⟨gq, 1, none⟩ (.bool y1)) (w.heap.size + 1 + 1 + 1) 24 #[uv (F n).v, uv (F n).m] := ((Bo.far (by first | (simp; done) | (simp; omega) | (simp [*]; done) | (simp only [ne_eq]; constructor <;> omega)) _).far (by first | (simp; done) | (simp; omega) | (simp [*]; done) | (simp only [ne_eq]; constructor <;> omega)) _)
      replace Bp : Blk ((((w2.setCell ⟨gp, 0, none⟩ (.bool x0)).setCell ⟨gp, 1, none⟩ (.bool x1)).setCell ⟨gq, 0, none⟩ (.bool y0)).setCell ⟨gq, 1, none⟩ (.bool y1)) (gp) 89 #[.bool x0, .bool x1] := ((Bp.far (by first | (simp; done) | (simp; omega) | (simp [*]; done) | (simp only [ne_eq]; constructor <;> omega)) _).far (by first | (simp; done) | (simp; omega) | (simp [*]; done) | (simp only [ne_eq]; constructor <;> omega)) _)
      replace Bq : Blk ((((w2.setCell ⟨gp, 0, none⟩ (.bool x0)).setCell ⟨gp, 1, none⟩ (.bool x1)).setCell ⟨gq, 0, none⟩ (.bool y0)).setCell ⟨gq, 1, none⟩ (.bool y1)) (gq) 89 #[.bool y0, .bool y1] := ((Bq.set_ 0 _).set_ 1 _)
      replace hB : Below w.heap.size w ((((w2.setCell ⟨gp, 0, none⟩ (.bool x0)).setCell ⟨gp, 1, none⟩ (.bool x1)).setCell ⟨gq, 0, none⟩ (.bool y0)).setCell ⟨gq, 1, none⟩ (.bool y1)) := (Bl_set (Bl_set hB (by first | omega | (simp; done) | (simp; omega)) _) (by first | omega | (simp; done) | (simp; omega)) _)
      generalize ((((w2.setCell ⟨gp, 0, none⟩ (.bool x0)).setCell ⟨gp, 1, none⟩ (.bool x1)).setCell ⟨gq, 0, none⟩ (.bool y0)).setCell ⟨gq, 1, none⟩ (.bool y1)) = w3 at *
      obtain ⟨ca0, ca1⟩ := cells2 Ba
      have fa := Ba.frozen; have la := Ba.lt
      obtain ⟨cb0, cb1⟩ := cells2 Bb
      have fb := Bb.frozen; have lb := Bb.lt
      obtain ⟨cr0, cr1⟩ := cells2 Br
      have fr := Br.frozen; have lr := Br.lt
      obtain ⟨co0, co1⟩ := cells2 Bo
      have fo := Bo.frozen; have lo := Bo.lt
      obtain ⟨cp0, cp1⟩ := cells2 Bp
      have fp := Bp.frozen; have lp := Bp.lt
      obtain ⟨cq0, cq1⟩ := cells2 Bq
      have fq := Bq.frozen; have lq := Bq.lt
      cases x0
      · cases x1
        · cases y0
          · cases y1
            · simp only [Bool.true_and, Bool.false_and] at k_s
              go_upto_region 7 with fail
              clear ca0 ca1 fa la
              clear cb0 cb1 fb lb
              clear cr0 cr1 fr lr
              clear co0 co1 fo lo
              clear cp0 cp1 fp lp
              clear cq0 cq1 fq lq
              have Bz := Blk.new w3 89 #[.bool false, .bool false]
              have hgz := hB.size
              have hnaz := Nat.ne_of_lt Ba.lt; have hltaz := Ba.lt
              have hnbz := Nat.ne_of_lt Bb.lt; have hltbz := Bb.lt
              have hnrz := Nat.ne_of_lt Br.lt; have hltrz := Br.lt
              have hnoz := Nat.ne_of_lt Bo.lt; have hltoz := Bo.lt
              have hnpz := Nat.ne_of_lt Bp.lt; have hltpz := Bp.lt
              have hnqz := Nat.ne_of_lt Bq.lt; have hltqz := Bq.lt
              replace Ba : Blk (w3.alloc (.cells #[.bool false, .bool false] 89)) (w.heap.size) 24 #[uv a.v, uv a.m] := Ba.alloc _
              replace Bb : Blk (w3.alloc (.cells #[.bool false, .bool false] 89)) (w.heap.size + 1) 24 #[uv b.v, uv b.m] := Bb.alloc _
              replace Br : Blk (w3.alloc (.cells #[.bool false, .bool false] 89)) (w.heap.size + 1 + 1) 24 #[x, y] := Br.alloc _
              replace Bo : Blk (w3.alloc (.cells #[.bool false, .bool false] 89)) (w.heap.size + 1 + 1 + 1) 24 #[uv (F n).v, uv (F n).m] := Bo.alloc _
              replace Bp : Blk (w3.alloc (.cells #[.bool false, .bool false] 89)) (gp) 89 #[.bool false, .bool false] := Bp.alloc _
              replace Bq : Blk (w3.alloc (.cells #[.bool false, .bool false] 89)) (gq) 89 #[.bool false, .bool false] := Bq.alloc _
              replace hB : Below w.heap.size w (w3.alloc (.cells #[.bool false, .bool false] 89)) := Bl_alloc hB _
              generalize (w3.alloc (.cells #[.bool false, .bool false] 89)) = w4 at *
              generalize w3.heap.size = gz at *
              obtain ⟨ca0, ca1⟩ := cells2 Ba
              have fa := Ba.frozen; have la := Ba.lt
              obtain ⟨cb0, cb1⟩ := cells2 Bb
              have fb := Bb.frozen; have lb := Bb.lt
              obtain ⟨cr0, cr1⟩ := cells2 Br
              have fr := Br.frozen; have lr := Br.lt
              obtain ⟨co0, co1⟩ := cells2 Bo
              have fo := Bo.frozen; have lo := Bo.lt
              obtain ⟨cp0, cp1⟩ := cells2 Bp
              have fp := Bp.frozen; have lp := Bp.lt
              obtain ⟨cq0, cq1⟩ := cells2 Bq
              have fq := Bq.frozen; have lq := Bq.lt
              obtain ⟨cz0, cz1⟩ := cells2 Bz
              have fz := Bz.frozen; have lz := Bz.lt
              have eR : R = (⟨0#64, 0#64⟩, false) := Hno1.out rfl rfl
              go_wp2
              exact bodyPost_ret (v := .tuple #[.agg #[.int .u64 0, .int .u64 0], .bool false]) (by simp [results, Try.results24, go_sem, cr0, cr1, lr]) rfl ⟨by rw [eR]; rfl, by repeat (first | (with_reducible exact hB) | (with_reducible refine Bl_set ?_ (by first | omega | (simp; done) | (simp; omega)) _) | with_reducible apply Bl_alloc)⟩
            · simp only [Bool.true_and, Bool.false_and] at k_s
              go_upto_region 7 with fail
              clear ca0 ca1 fa la
              clear cb0 cb1 fb lb
              clear cr0 cr1 fr lr
              clear co0 co1 fo lo
              clear cp0 cp1 fp lp
              clear cq0 cq1 fq lq
              have Bz := Blk.new w3 89 #[.bool false, .bool false]
              have hgz := hB.size
              have hnaz := Nat.ne_of_lt Ba.lt; have hltaz := Ba.lt
              have hnbz := Nat.ne_of_lt Bb.lt; have hltbz := Bb.lt
              have hnrz := Nat.ne_of_lt Br.lt; have hltrz := Br.lt
              have hnoz := Nat.ne_of_lt Bo.lt; have hltoz := Bo.lt
              have hnpz := Nat.ne_of_lt Bp.lt; have hltpz := Bp.lt
              have hnqz := Nat.ne_of_lt Bq.lt; have hltqz := Bq.lt
              replace Ba : Blk (w3.alloc (.cells #[.bool false, .bool false] 89)) (w.heap.size) 24 #[uv a.v, uv a.m] := Ba.alloc _
              replace Bb : Blk (w3.alloc (.cells #[.bool false, .bool false] 89)) (w.heap.size + 1) 24 #[uv b.v, uv b.m] := Bb.alloc _
              replace Br : Blk (w3.alloc (.cells #[.bool false, .bool false] 89)) (w.heap.size + 1 + 1) 24 #[x, y] := Br.alloc _
              replace Bo : Blk (w3.alloc (.cells #[.bool false, .bool false] 89)) (w.heap.size + 1 + 1 + 1) 24 #[uv (F n).v, uv (F n).m] := Bo.alloc _
              replace Bp : Blk (w3.alloc (.cells #[.bool false, .bool false] 89)) (gp) 89 #[.bool false, .bool false] := Bp.alloc _
              replace Bq : Blk (w3.alloc (.cells #[.bool false, .bool false] 89)) (gq) 89 #[.bool false, .bool true] := Bq.alloc _
              replace hB : Below w.heap.size w (w3.alloc (.cells #[.bool false, .bool false] 89)) := Bl_alloc hB _
              generalize (w3.alloc (.cells #[.bool false, .bool false] 89)) = w4 at *
              generalize w3.heap.size = gz at *
              obtain ⟨ca0, ca1⟩ := cells2 Ba
              have fa := Ba.frozen; have la := Ba.lt
              obtain ⟨cb0, cb1⟩ := cells2 Bb
              have fb := Bb.frozen; have lb := Bb.lt
              obtain ⟨cr0, cr1⟩ := cells2 Br
              have fr := Br.frozen; have lr := Br.lt
              obtain ⟨co0, co1⟩ := cells2 Bo
              have fo := Bo.frozen; have lo := Bo.lt
              obtain ⟨cp0, cp1⟩ := cells2 Bp
              have fp := Bp.frozen; have lp := Bp.lt
              obtain ⟨cq0, cq1⟩ := cells2 Bq
              have fq := Bq.frozen; have lq := Bq.lt
              obtain ⟨cz0, cz1⟩ := cells2 Bz
              have fz := Bz.frozen; have lz := Bz.lt
              have eR : R = (⟨0#64, 0#64⟩, false) := Hno1.out rfl rfl
              go_wp2
              exact bodyPost_ret (v := .tuple #[.agg #[.int .u64 0, .int .u64 0], .bool false]) (by simp [results, Try.results24, go_sem, cr0, cr1, lr]) rfl ⟨by rw [eR]; rfl, by repeat (first | (with_reducible exact hB) | (with_reducible refine Bl_set ?_ (by first | omega | (simp; done) | (simp; omega)) _) | with_reducible apply Bl_alloc)⟩
          · cases y1
            · simp only [Bool.true_and, Bool.false_and] at k_s
              go_upto_region 7 with fail
              clear ca0 ca1 fa la
              clear cb0 cb1 fb lb
              clear cr0 cr1 fr lr
              clear co0 co1 fo lo
              clear cp0 cp1 fp lp
              clear cq0 cq1 fq lq
              have Bz := Blk.new w3 89 #[.bool false, .bool false]
              have hgz := hB.size
              have hnaz := Nat.ne_of_lt Ba.lt; have hltaz := Ba.lt
              have hnbz := Nat.ne_of_lt Bb.lt; have hltbz := Bb.lt
              have hnrz := Nat.ne_of_lt Br.lt; have hltrz := Br.lt
              have hnoz := Nat.ne_of_lt Bo.lt; have hltoz := Bo.lt
              have hnpz := Nat.ne_of_lt Bp.lt; have hltpz := Bp.lt
              have hnqz := Nat.ne_of_lt Bq.lt; have hltqz := Bq.lt
              replace Ba : Blk (w3.alloc (.cells #[.bool false, .bool false] 89)) (w.heap.size) 24 #[uv a.v, uv a.m] := Ba.alloc _
              replace Bb : Blk (w3.alloc (.cells #[.bool false, .bool false] 89)) (w.heap.size + 1) 24 #[uv b.v, uv b.m] := Bb.alloc _
              replace Br : Blk (w3.alloc (.cells #[.bool false, .bool false] 89)) (w.heap.size + 1 + 1) 24 #[x, y] := Br.alloc _
              replace Bo : Blk (w3.alloc (.cells #[.bool false, .bool false] 89)) (w.heap.size + 1 + 1 + 1) 24 #[uv (F n).v, uv (F n).m] := Bo.alloc _
              replace Bp : Blk (w3.alloc (.cells #[.bool false, .bool false] 89)) (gp) 89 #[.bool false, .bool false] := Bp.alloc _
              replace Bq : Blk (w3.alloc (.cells #[.bool false, .bool false] 89)) (gq) 89 #[.bool true, .bool false] := Bq.alloc _
              replace hB : Below w.heap.size w (w3.alloc (.cells #[.bool false, .bool false] 89)) := Bl_alloc hB _
              generalize (w3.alloc (.cells #[.bool false, .bool false] 89)) = w4 at *
              generalize w3.heap.size = gz at *
              obtain ⟨ca0, ca1⟩ := cells2 Ba
              have fa := Ba.frozen; have la := Ba.lt
              obtain ⟨cb0, cb1⟩ := cells2 Bb
              have fb := Bb.frozen; have lb := Bb.lt
              obtain ⟨cr0, cr1⟩ := cells2 Br
              have fr := Br.frozen; have lr := Br.lt
              obtain ⟨co0, co1⟩ := cells2 Bo
              have fo := Bo.frozen; have lo := Bo.lt
              obtain ⟨cp0, cp1⟩ := cells2 Bp
              have fp := Bp.frozen; have lp := Bp.lt
              obtain ⟨cq0, cq1⟩ := cells2 Bq
              have fq := Bq.frozen; have lq := Bq.lt
              obtain ⟨cz0, cz1⟩ := cells2 Bz
              have fz := Bz.frozen; have lz := Bz.lt
              have eR : R = (⟨0#64, 0#64⟩, false) := Hno1.out rfl rfl
              go_wp2
              exact bodyPost_ret (v := .tuple #[.agg #[.int .u64 0, .int .u64 0], .bool false]) (by simp [results, Try.results24, go_sem, cr0, cr1, lr]) rfl ⟨by rw [eR]; rfl, by repeat (first | (with_reducible exact hB) | (with_reducible refine Bl_set ?_ (by first | omega | (simp; done) | (simp; omega)) _) | with_reducible apply Bl_alloc)⟩
            · simp only [Bool.true_and, Bool.false_and] at k_s
              go_upto_region 7 with fail
              clear ca0 ca1 fa la
              clear cb0 cb1 fb lb
              clear cr0 cr1 fr lr
              clear co0 co1 fo lo
              clear cp0 cp1 fp lp
              clear cq0 cq1 fq lq
              have Bz := Blk.new w3 89 #[.bool false, .bool false]
              have hgz := hB.size
              have hnaz := Nat.ne_of_lt Ba.lt; have hltaz := Ba.lt
              have hnbz := Nat.ne_of_lt Bb.lt; have hltbz := Bb.lt
              have hnrz := Nat.ne_of_lt Br.lt; have hltrz := Br.lt
              have hnoz := Nat.ne_of_lt Bo.lt; have hltoz := Bo.lt
              have hnpz := Nat.ne_of_lt Bp.lt; have hltpz := Bp.lt
              have hnqz := Nat.ne_of_lt Bq.lt; have hltqz := Bq.lt
              replace Ba : Blk (w3.alloc (.cells #[.bool false, .bool false] 89)) (w.heap.size) 24 #[uv a.v, uv a.m] := Ba.alloc _
              replace Bb : Blk (w3.alloc (.cells #[.bool false, .bool false] 89)) (w.heap.size + 1) 24 #[uv b.v, uv b.m] := Bb.alloc _
              replace Br : Blk (w3.alloc (.cells #[.bool false, .bool false] 89)) (w.heap.size + 1 + 1) 24 #[x, y] := Br.alloc _
              replace Bo : Blk (w3.alloc (.cells #[.bool false, .bool false] 89)) (w.heap.size + 1 + 1 + 1) 24 #[uv (F n).v, uv (F n).m] := Bo.alloc _
              replace Bp : Blk (w3.alloc (.cells #[.bool false, .bool false] 89)) (gp) 89 #[.bool false, .bool false] := Bp.alloc _
              replace Bq : Blk (w3.alloc (.cells #[.bool false, .bool false] 89)) (gq) 89 #[.bool true, .bool true] := Bq.alloc _
              replace hB : Below w.heap.size w (w3.alloc (.cells #[.bool false, .bool false] 89)) := Bl_alloc hB _
              generalize (w3.alloc (.cells #[.bool false, .bool false] 89)) = w4 at *
              generalize w3.heap.size = gz at *
              obtain ⟨ca0, ca1⟩ := cells2 Ba
              have fa := Ba.frozen; have la := Ba.lt
              obtain ⟨cb0, cb1⟩ := cells2 Bb
              have fb := Bb.frozen; have lb := Bb.lt
              obtain ⟨cr0, cr1⟩ := cells2 Br
              have fr := Br.frozen; have lr := Br.lt
              obtain ⟨co0, co1⟩ := cells2 Bo
              have fo := Bo.frozen; have lo := Bo.lt
              obtain ⟨cp0, cp1⟩ := cells2 Bp
              have fp := Bp.frozen; have lp := Bp.lt
              obtain ⟨cq0, cq1⟩ := cells2 Bq
              have fq := Bq.frozen; have lq := Bq.lt
              obtain ⟨cz0, cz1⟩ := cells2 Bz
              have fz := Bz.frozen; have lz := Bz.lt
              have eR : R = (⟨0#64, 0#64⟩, false) := Hno1.out rfl rfl
              go_wp2
              exact bodyPost_ret (v := .tuple #[.agg #[.int .u64 0, .int .u64 0], .bool false]) (by simp [results, Try.results24, go_sem, cr0, cr1, lr]) rfl ⟨by rw [eR]; rfl, by repeat (first | (with_reducible exact hB) | (with_reducible refine Bl_set ?_ (by first | omega | (simp; done) | (simp; omega)) _) | with_reducible apply Bl_alloc)⟩
        · cases y0
          · cases y1
            · simp only [Bool.true_and, Bool.false_and] at k_s
              go_upto_region 7 with fail
              clear ca0 ca1 fa la
              clear cb0 cb1 fb lb
              clear cr0 cr1 fr lr
              clear co0 co1 fo lo
              clear cp0 cp1 fp lp
              clear cq0 cq1 fq lq
              have Bz := Blk.new w3 89 #[.bool false, .bool false]
              have hgz := hB.size
              have hnaz := Nat.ne_of_lt Ba.lt; have hltaz := Ba.lt
              have hnbz := Nat.ne_of_lt Bb.lt; have hltbz := Bb.lt
              have hnrz := Nat.ne_of_lt Br.lt; have hltrz := Br.lt
              have hnoz := Nat.ne_of_lt Bo.lt; have hltoz := Bo.lt
              have hnpz := Nat.ne_of_lt Bp.lt; have hltpz := Bp.lt
              have hnqz := Nat.ne_of_lt Bq.lt; have hltqz := Bq.lt
              replace Ba : Blk (w3.alloc (.cells #[.bool false, .bool false] 89)) (w.heap.size) 24 #[uv a.v, uv a.m] := Ba.alloc _
              replace Bb : Blk (w3.alloc (.cells #[.bool false, .bool false] 89)) (w.heap.size + 1) 24 #[uv b.v, uv b.m] := Bb.alloc _
              replace Br : Blk (w3.alloc (.cells #[.bool false, .bool false] 89)) (w.heap.size + 1 + 1) 24 #[x, y] := Br.alloc _
              replace Bo : Blk (w3.alloc (.cells #[.bool false, .bool false] 89)) (w.heap.size + 1 + 1 + 1) 24 #[uv (F n).v, uv (F n).m] := Bo.alloc _
              replace Bp : Blk (w3.alloc (.cells #[.bool false, .bool false] 89)) (gp) 89 #[.bool false, .bool true] := Bp.alloc _
              replace Bq : Blk (w3.alloc (.cells #[.bool false, .bool false] 89)) (gq) 89 #[.bool false, .bool false] := Bq.alloc _
              replace hB : Below w.heap.size w (w3.alloc (.cells #[.bool false, .bool false] 89)) := Bl_alloc hB _
              generalize (w3.alloc (.cells #[.bool false, .bool false] 89)) = w4 at *
              generalize w3.heap.size = gz at *
              obtain ⟨ca0, ca1⟩ := cells2 Ba
              have fa := Ba.frozen; have la := Ba.lt
              obtain ⟨cb0, cb1⟩ := cells2 Bb
              have fb := Bb.frozen; have lb := Bb.lt
              obtain ⟨cr0, cr1⟩ := cells2 Br
              have fr := Br.frozen; have lr := Br.lt
              obtain ⟨co0, co1⟩ := cells2 Bo
              have fo := Bo.frozen; have lo := Bo.lt
              obtain ⟨cp0, cp1⟩ := cells2 Bp
              have fp := Bp.frozen; have lp := Bp.lt
              obtain ⟨cq0, cq1⟩ := cells2 Bq
              have fq := Bq.frozen; have lq := Bq.lt
              obtain ⟨cz0, cz1⟩ := cells2 Bz
              have fz := Bz.frozen; have lz := Bz.lt
              have eR : R = (⟨0#64, 0#64⟩, false) := Hno1.out rfl rfl
              go_wp2
              exact bodyPost_ret (v := .tuple #[.agg #[.int .u64 0, .int .u64 0], .bool false]) (by simp [results, Try.results24, go_sem, cr0, cr1, lr]) rfl ⟨by rw [eR]; rfl, by repeat (first | (with_reducible exact hB) | (with_reducible refine Bl_set ?_ (by first | omega | (simp; done) | (simp; omega)) _) | with_reducible apply Bl_alloc)⟩
            · simp only [Bool.true_and, Bool.false_and] at k_s
              go_upto_region 7 with fail
              clear ca0 ca1 fa la
              clear cb0 cb1 fb lb
              clear cr0 cr1 fr lr
              clear co0 co1 fo lo
              clear cp0 cp1 fp lp
              clear cq0 cq1 fq lq
              have Bz := Blk.new w3 89 #[.bool false, .bool true]
              have hgz := hB.size
              have hnaz := Nat.ne_of_lt Ba.lt; have hltaz := Ba.lt
              have hnbz := Nat.ne_of_lt Bb.lt; have hltbz := Bb.lt
              have hnrz := Nat.ne_of_lt Br.lt; have hltrz := Br.lt
              have hnoz := Nat.ne_of_lt Bo.lt; have hltoz := Bo.lt
              have hnpz := Nat.ne_of_lt Bp.lt; have hltpz := Bp.lt
              have hnqz := Nat.ne_of_lt Bq.lt; have hltqz := Bq.lt
              replace Ba : Blk (w3.alloc (.cells #[.bool false, .bool true] 89)) (w.heap.size) 24 #[uv a.v, uv a.m] := Ba.alloc _
              replace Bb : Blk (w3.alloc (.cells #[.bool false, .bool true] 89)) (w.heap.size + 1) 24 #[uv b.v, uv b.m] := Bb.alloc _
              replace Br : Blk (w3.alloc (.cells #[.bool false, .bool true] 89)) (w.heap.size + 1 + 1) 24 #[x, y] := Br.alloc _
              replace Bo : Blk (w3.alloc (.cells #[.bool false, .bool true] 89)) (w.heap.size + 1 + 1 + 1) 24 #[uv (F n).v, uv (F n).m] := Bo.alloc _
              replace Bp : Blk (w3.alloc (.cells #[.bool false, .bool true] 89)) (gp) 89 #[.bool false, .bool true] := Bp.alloc _
              replace Bq : Blk (w3.alloc (.cells #[.bool false, .bool true] 89)) (gq) 89 #[.bool false, .bool true] := Bq.alloc _
              replace hB : Below w.heap.size w (w3.alloc (.cells #[.bool false, .bool true] 89)) := Bl_alloc hB _
              generalize (w3.alloc (.cells #[.bool false, .bool true] 89)) = w4 at *
              generalize w3.heap.size = gz at *
              obtain ⟨ca0, ca1⟩ := cells2 Ba
              have fa := Ba.frozen; have la := Ba.lt
              obtain ⟨cb0, cb1⟩ := cells2 Bb
              have fb := Bb.frozen; have lb := Bb.lt
              obtain ⟨cr0, cr1⟩ := cells2 Br
              have fr := Br.frozen; have lr := Br.lt
              obtain ⟨co0, co1⟩ := cells2 Bo
              have fo := Bo.frozen; have lo := Bo.lt
              obtain ⟨cp0, cp1⟩ := cells2 Bp
              have fp := Bp.frozen; have lp := Bp.lt
              obtain ⟨cq0, cq1⟩ := cells2 Bq
              have fq := Bq.frozen; have lq := Bq.lt
              obtain ⟨cz0, cz1⟩ := cells2 Bz
              have fz := Bz.frozen; have lz := Bz.lt
              have hOk2 : Ok (n + 1) := Hok1.out rfl
              go_wp2_with fail
              refine (k_s _).mono ?_
              rintro e w5 ⟨rfl, hb⟩
              clear ca0 ca1 fa la
              clear cb0 cb1 fb lb
              clear cr0 cr1 fr lr
              clear co0 co1 fo lo
              clear cp0 cp1 fp lp
              clear cq0 cq1 fq lq
              clear cz0 cz1 fz lz
              replace Ba := (Ba).next hb
              replace Bb := (Bb).next hb
              replace Br := (Br).next hb
              replace Bo := (Bo).next hb
              replace Bp := (Bp).next hb
              replace Bq := (Bq).next hb
              replace Bz := (Bz).next hb
              replace hB : Below w.heap.size w w5 := by repeat (first | exact hB | (refine Bl_set ?_ (by first | omega | (simp; omega)) _) | apply Bl_alloc | (refine Bl_trans ?_ hb))
              clear hb
              obtain ⟨ca0, ca1⟩ := cells2 Ba
              have fa := Ba.frozen; have la := Ba.lt
              obtain ⟨cb0, cb1⟩ := cells2 Bb
              have fb := Bb.frozen; have lb := Bb.lt
              obtain ⟨cr0, cr1⟩ := cells2 Br
              have fr := Br.frozen; have lr := Br.lt
              obtain ⟨co0, co1⟩ := cells2 Bo
              have fo := Bo.frozen; have lo := Bo.lt
              obtain ⟨cp0, cp1⟩ := cells2 Bp
              have fp := Bp.frozen; have lp := Bp.lt
              obtain ⟨cq0, cq1⟩ := cells2 Bq
              have fq := Bq.frozen; have lq := Bq.lt
              obtain ⟨cz0, cz1⟩ := cells2 Bz
              have fz := Bz.frozen; have lz := Bz.lt
              go_upto_region 4 with fail
              clear ca0 ca1 fa la
              clear cb0 cb1 fb lb
              clear cr0 cr1 fr lr
              clear co0 co1 fo lo
              clear cp0 cp1 fp lp
              clear cq0 cq1 fq lq
              clear cz0 cz1 fz lz
              replace Ba : Blk ((w5.setCell ⟨w.heap.size + 1 + 1 + 1, 0, none⟩ (uv (F (n + 1)).v)).setCell ⟨w.heap.size + 1 + 1 + 1, 1, none⟩ (uv (F (n + 1)).m)) (w.heap.size) 24 #[uv a.v, uv a.m] := ((Ba.far (by first | (simp; done) | (simp; omega) | (simp [*]; done) | (simp only [ne_eq]; constructor <;> omega)) _).far (by first | (simp; done) | (simp; omega) | (simp [*]; done) | (simp only [ne_eq]; constructor <;> omega)) _)
              replace Bb : Blk ((w5.setCell ⟨w.heap.size + 1 + 1 + 1, 0, none⟩ (uv (F (n + 1)).v)).setCell ⟨w.heap.size + 1 + 1 + 1, 1, none⟩ (uv (F (n + 1)).m)) (w.heap.size + 1) 24 #[uv b.v, uv b.m] := ((Bb.far (by first | (simp; done) | (simp; omega) | (simp [*]; done) | (simp only [ne_eq]; constructor <;> omega)) _).far (by first | (simp; done) | (simp; omega) | (simp [*]; done) | (simp only [ne_eq]; constructor <;> omega)) _)
              replace Br : Blk ((w5.setCell ⟨w.heap.size + 1 + 1 + 1, 0, none⟩ (uv (F (n + 1)).v)).setCell ⟨w.heap.size + 1 + 1 + 1, 1, none⟩ (uv (F (n + 1)).m)) (w.heap.size + 1 + 1) 24 #[x, y] := ((Br.far (by first | (simp; done) | (simp; omega) | (simp [*]; done) | (simp only [ne_eq]; constructor <;> omega)) _).far (by first | (simp; done) | (simp; omega) | (simp [*]; done) | (simp only [ne_eq]; constructor <;> omega)) _)
              replace Bo : Blk ((w5.setCell ⟨w.heap.size + 1 + 1 + 1, 0, none⟩ (uv (F (n + 1)).v)).setCell ⟨w.heap.size + 1 + 1 + 1, 1, none⟩ (uv (F (n + 1)).m)) (w.heap.size + 1 + 1 + 1) 24 #[uv (F (n + 1)).v, uv (F (n + 1)).m] := ((Bo.set_ 0 _).set_ 1 _)
              replace Bp : Blk ((w5.setCell ⟨w.heap.size + 1 + 1 + 1, 0, none⟩ (uv (F (n + 1)).v)).setCell ⟨w.heap.size + 1 + 1 + 1, 1, none⟩ (uv (F (n + 1)).m)) (gp) 89 #[.bool false, .bool true] := ((Bp.far (by first | (simp; done) | (simp; omega) | (simp [*]; done) | (simp only [ne_eq]; constructor <;> omega)) _).far (by first | (simp; done) | (simp; omega) | (simp [*]; done) | (simp only [ne_eq]; constructor <;> omega)) _)
              replace Bq : Blk ((w5.setCell ⟨w.heap.size + 1 + 1 + 1, 0, none⟩ (uv (F (n + 1)).v)).setCell ⟨w.heap.size + 1 + 1 + 1, 1, none⟩ (uv (F (n + 1)).m)) (gq) 89 #[.bool false, .bool true] := ((Bq.far (by first | (simp; done) | (simp; omega) | (simp [*]; done) | (simp only [ne_eq]; constructor <;> omega)) _).far (by first | (simp; done) | (simp; omega) | (simp [*]; done) | (simp only [ne_eq]; constructor <;> omega)) _)
              replace Bz : Blk ((w5.setCell ⟨w.heap.size + 1 + 1 + 1, 0, none⟩ (uv (F (n + 1)).v)).setCell ⟨w.heap.size + 1 + 1 + 1, 1, none⟩ (uv (F (n + 1)).m)) (gz) 89 #[.bool false, .bool true] := ((Bz.far (by first | (simp; done) | (simp; omega) | (simp [*]; done) | (simp only [ne_eq]; constructor <;> omega)) _).far (by first | (simp; done) | (simp; omega) | (simp [*]; done) | (simp only [ne_eq]; constructor <;> omega)) _)
              replace hB : Below w.heap.size w ((w5.setCell ⟨w.heap.size + 1 + 1 + 1, 0, none⟩ (uv (F (n + 1)).v)).setCell ⟨w.heap.size + 1 + 1 + 1, 1, none⟩ (uv (F (n + 1)).m)) := (Bl_set (Bl_set hB (by first | omega | (simp; done) | (simp; omega)) _) (by first | omega | (simp; done) | (simp; omega)) _)
              generalize ((w5.setCell ⟨w.heap.size + 1 + 1 + 1, 0, none⟩ (uv (F (n + 1)).v)).setCell ⟨w.heap.size + 1 + 1 + 1, 1, none⟩ (uv (F (n + 1)).m)) = w6 at *
              obtain ⟨ca0, ca1⟩ := cells2 Ba
              have fa := Ba.frozen; have la := Ba.lt
              obtain ⟨cb0, cb1⟩ := cells2 Bb
              have fb := Bb.frozen; have lb := Bb.lt
              obtain ⟨cr0, cr1⟩ := cells2 Br
              have fr := Br.frozen; have lr := Br.lt
              obtain ⟨co0, co1⟩ := cells2 Bo
              have fo := Bo.frozen; have lo := Bo.lt
              obtain ⟨cp0, cp1⟩ := cells2 Bp
              have fp := Bp.frozen; have lp := Bp.lt
              obtain ⟨cq0, cq1⟩ := cells2 Bq
              have fq := Bq.frozen; have lq := Bq.lt
              obtain ⟨cz0, cz1⟩ := cells2 Bz
              have fz := Bz.frozen; have lz := Bz.lt
              go_wp2_with fail
              go_roundg (63 - n)
              case measure => omega
              case rel => exact ⟨n + 1, by omega, by omega, by go_num, hB, hOk2, Ba, Bb, ⟨_, _, Br⟩, Bo⟩
          · cases y1
            · simp only [Bool.true_and, Bool.false_and] at k_s
              go_upto_region 7 with fail
              clear ca0 ca1 fa la
              clear cb0 cb1 fb lb
              clear cr0 cr1 fr lr
              clear co0 co1 fo lo
              clear cp0 cp1 fp lp
              clear cq0 cq1 fq lq
              have Bz := Blk.new w3 89 #[.bool false, .bool false]
              have hgz := hB.size
              have hnaz := Nat.ne_of_lt Ba.lt; have hltaz := Ba.lt
              have hnbz := Nat.ne_of_lt Bb.lt; have hltbz := Bb.lt
              have hnrz := Nat.ne_of_lt Br.lt; have hltrz := Br.lt
              have hnoz := Nat.ne_of_lt Bo.lt; have hltoz := Bo.lt
              have hnpz := Nat.ne_of_lt Bp.lt; have hltpz := Bp.lt
              have hnqz := Nat.ne_of_lt Bq.lt; have hltqz := Bq.lt
              replace Ba : Blk (w3.alloc (.cells #[.bool false, .bool false] 89)) (w.heap.size) 24 #[uv a.v, uv a.m] := Ba.alloc _
              replace Bb : Blk (w3.alloc (.cells #[.bool false, .bool false] 89)) (w.heap.size + 1) 24 #[uv b.v, uv b.m] := Bb.alloc _
              replace Br : Blk (w3.alloc (.cells #[.bool false, .bool false] 89)) (w.heap.size + 1 + 1) 24 #[x, y] := Br.alloc _
              replace Bo : Blk (w3.alloc (.cells #[.bool false, .bool false] 89)) (w.heap.size + 1 + 1 + 1) 24 #[uv (F n).v, uv (F n).m] := Bo.alloc _
              replace Bp : Blk (w3.alloc (.cells #[.bool false, .bool false] 89)) (gp) 89 #[.bool false, .bool true] := Bp.alloc _
              replace Bq : Blk (w3.alloc (.cells #[.bool false, .bool false] 89)) (gq) 89 #[.bool true, .bool false] := Bq.alloc _
              replace hB : Below w.heap.size w (w3.alloc (.cells #[.bool false, .bool false] 89)) := Bl_alloc hB _
              generalize (w3.alloc (.cells #[.bool false, .bool false] 89)) = w4 at *
              generalize w3.heap.size = gz at *
              obtain ⟨ca0, ca1⟩ := cells2 Ba
              have fa := Ba.frozen; have la := Ba.lt
              obtain ⟨cb0, cb1⟩ := cells2 Bb
              have fb := Bb.frozen; have lb := Bb.lt
              obtain ⟨cr0, cr1⟩ := cells2 Br
              have fr := Br.frozen; have lr := Br.lt
              obtain ⟨co0, co1⟩ := cells2 Bo
              have fo := Bo.frozen; have lo := Bo.lt
              obtain ⟨cp0, cp1⟩ := cells2 Bp
              have fp := Bp.frozen; have lp := Bp.lt
              obtain ⟨cq0, cq1⟩ := cells2 Bq
              have fq := Bq.frozen; have lq := Bq.lt
              obtain ⟨cz0, cz1⟩ := cells2 Bz
              have fz := Bz.frozen; have lz := Bz.lt
              have eR : R = (⟨0#64, 0#64⟩, false) := Hno1.out rfl rfl
              go_wp2
              exact bodyPost_ret (v := .tuple #[.agg #[.int .u64 0, .int .u64 0], .bool false]) (by simp [results, Try.results24, go_sem, cr0, cr1, lr]) rfl ⟨by rw [eR]; rfl, by repeat (first | (with_reducible exact hB) | (with_reducible refine Bl_set ?_ (by first | omega | (simp; done) | (simp; omega)) _) | with_reducible apply Bl_alloc)⟩
            · simp only [Bool.true_and, Bool.false_and] at k_s
              go_upto_region 7 with fail
              clear ca0 ca1 fa la
              clear cb0 cb1 fb lb
              clear cr0 cr1 fr lr
              clear co0 co1 fo lo
              clear cp0 cp1 fp lp
              clear cq0 cq1 fq lq
              have Bz := Blk.new w3 89 #[.bool false, .bool true]
              have hgz := hB.size
              have hnaz := Nat.ne_of_lt Ba.lt; have hltaz := Ba.lt
              have hnbz := Nat.ne_of_lt Bb.lt; have hltbz := Bb.lt
              have hnrz := Nat.ne_of_lt Br.lt; have hltrz := Br.lt
              have hnoz := Nat.ne_of_lt Bo.lt; have hltoz := Bo.lt
              have hnpz := Nat.ne_of_lt Bp.lt; have hltpz := Bp.lt
              have hnqz := Nat.ne_of_lt Bq.lt; have hltqz := Bq.lt
              replace Ba : Blk (w3.alloc (.cells #[.bool false, .bool true] 89)) (w.heap.size) 24 #[uv a.v, uv a.m] := Ba.alloc _
              replace Bb : Blk (w3.alloc (.cells #[.bool false, .bool true] 89)) (w.heap.size + 1) 24 #[uv b.v, uv b.m] := Bb.alloc _
              replace Br : Blk (w3.alloc (.cells #[.bool false, .bool true] 89)) (w.heap.size + 1 + 1) 24 #[x, y] := Br.alloc _
              replace Bo : Blk (w3.alloc (.cells #[.bool false, .bool true] 89)) (w.heap.size + 1 + 1 + 1) 24 #[uv (F n).v, uv (F n).m] := Bo.alloc _
              replace Bp : Blk (w3.alloc (.cells #[.bool false, .bool true] 89)) (gp) 89 #[.bool false, .bool true] := Bp.alloc _
              replace Bq : Blk (w3.alloc (.cells #[.bool false, .bool true] 89)) (gq) 89 #[.bool true, .bool true] := Bq.alloc _
              replace hB : Below w.heap.size w (w3.alloc (.cells #[.bool false, .bool true] 89)) := Bl_alloc hB _
              generalize (w3.alloc (.cells #[.bool false, .bool true] 89)) = w4 at *
              generalize w3.heap.size = gz at *
              obtain ⟨ca0, ca1⟩ := cells2 Ba
              have fa := Ba.frozen; have la := Ba.lt
              obtain ⟨cb0, cb1⟩ := cells2 Bb
              have fb := Bb.frozen; have lb := Bb.lt
              obtain ⟨cr0, cr1⟩ := cells2 Br
              have fr := Br.frozen; have lr := Br.lt
              obtain ⟨co0, co1⟩ := cells2 Bo
              have fo := Bo.frozen; have lo := Bo.lt
              obtain ⟨cp0, cp1⟩ := cells2 Bp
              have fp := Bp.frozen; have lp := Bp.lt
              obtain ⟨cq0, cq1⟩ := cells2 Bq
              have fq := Bq.frozen; have lq := Bq.lt
              obtain ⟨cz0, cz1⟩ := cells2 Bz
              have fz := Bz.frozen; have lz := Bz.lt
              have hOk2 : Ok (n + 1) := Hok1.out rfl
              go_wp2_with fail
              refine (k_s _).mono ?_
              rintro e w5 ⟨rfl, hb⟩
              clear ca0 ca1 fa la
              clear cb0 cb1 fb lb
              clear cr0 cr1 fr lr
              clear co0 co1 fo lo
              clear cp0 cp1 fp lp
              clear cq0 cq1 fq lq
              clear cz0 cz1 fz lz
              replace Ba := (Ba).next hb
              replace Bb := (Bb).next hb
              replace Br := (Br).next hb
              replace Bo := (Bo).next hb
              replace Bp := (Bp).next hb
              replace Bq := (Bq).next hb
              replace Bz := (Bz).next hb
              replace hB : Below w.heap.size w w5 := by repeat (first | exact hB | (refine Bl_set ?_ (by first | omega | (simp; omega)) _) | apply Bl_alloc | (refine Bl_trans ?_ hb))
              clear hb
              obtain ⟨ca0, ca1⟩ := cells2 Ba
              have fa := Ba.frozen; have la := Ba.lt
              obtain ⟨cb0, cb1⟩ := cells2 Bb
              have fb := Bb.frozen; have lb := Bb.lt
              obtain ⟨cr0, cr1⟩ := cells2 Br
              have fr := Br.frozen; have lr := Br.lt
              obtain ⟨co0, co1⟩ := cells2 Bo
              have fo := Bo.frozen; have lo := Bo.lt
              obtain ⟨cp0, cp1⟩ := cells2 Bp
              have fp := Bp.frozen; have lp := Bp.lt
              obtain ⟨cq0, cq1⟩ := cells2 Bq
              have fq := Bq.frozen; have lq := Bq.lt
              obtain ⟨cz0, cz1⟩ := cells2 Bz
              have fz := Bz.frozen; have lz := Bz.lt
              go_upto_region 4 with fail
              clear ca0 ca1 fa la
              clear cb0 cb1 fb lb
              clear cr0 cr1 fr lr
              clear co0 co1 fo lo
              clear cp0 cp1 fp lp
              clear cq0 cq1 fq lq
              clear cz0 cz1 fz lz
              replace Ba : Blk ((w5.setCell ⟨w.heap.size + 1 + 1 + 1, 0, none⟩ (uv (F (n + 1)).v)).setCell ⟨w.heap.size + 1 + 1 + 1, 1, none⟩ (uv (F (n + 1)).m)) (w.heap.size) 24 #[uv a.v, uv a.m] := ((Ba.far (by first | (simp; done) | (simp; omega) | (simp [*]; done) | (simp only [ne_eq]; constructor <;> omega)) _).far (by first | (simp; done) | (simp; omega) | (simp [*]; done) | (simp only [ne_eq]; constructor <;> omega)) _)
              replace Bb : Blk ((w5.setCell ⟨w.heap.size + 1 + 1 + 1, 0, none⟩ (uv (F (n + 1)).v)).setCell ⟨w.heap.size + 1 + 1 + 1, 1, none⟩ (uv (F (n + 1)).m)) (w.heap.size + 1) 24 #[uv b.v, uv b.m] := ((Bb.far (by first | (simp; done) | (simp; omega) | (simp [*]; done) | (simp only [ne_eq]; constructor <;> omega)) _).far (by first | (simp; done) | (simp; omega) | (simp [*]; done) | (simp only [ne_eq]; constructor <;> omega)) _)
              replace Br : Blk ((w5.setCell ⟨w.heap.size + 1 + 1 + 1, 0, none⟩ (uv (F (n + 1)).v)).setCell ⟨w.heap.size + 1 + 1 + 1, 1, none⟩ (uv (F (n + 1)).m)) (w.heap.size + 1 + 1) 24 #[x, y] := ((Br.far (by first | (simp; done) | (simp; omega) | (simp [*]; done) | (simp only [ne_eq]; constructor <;> omega)) _).far (by first | (simp; done) | (simp; omega) | (simp [*]; done) | (simp only [ne_eq]; constructor <;> omega)) _)
              replace Bo : Blk ((w5.setCell ⟨w.heap.size + 1 + 1 + 1, 0, none⟩ (uv (F (n + 1)).v)).setCell ⟨w.heap.size + 1 + 1 + 1, 1, none⟩ (uv (F (n + 1)).m)) (w.heap.size + 1 + 1 + 1) 24 #[uv (F (n + 1)).v, uv (F (n + 1)).m] := ((Bo.set_ 0 _).set_ 1 _)
              replace Bp : Blk ((w5.setCell ⟨w.heap.size + 1 + 1 + 1, 0, none⟩ (uv (F (n + 1)).v)).setCell ⟨w.heap.size + 1 + 1 + 1, 1, none⟩ (uv (F (n + 1)).m)) (gp) 89 #[.bool false, .bool true] := ((Bp.far (by first | (simp; done) | (simp; omega) | (simp [*]; done) | (simp only [ne_eq]; constructor <;> omega)) _).far (by first | (simp; done) | (simp; omega) | (simp [*]; done) | (simp only [ne_eq]; constructor <;> omega)) _)
              replace Bq : Blk ((w5.setCell ⟨w.heap.size + 1 + 1 + 1, 0, none⟩ (uv (F (n + 1)).v)).setCell ⟨w.heap.size + 1 + 1 + 1, 1, none⟩ (uv (F (n + 1)).m)) (gq) 89 #[.bool true, .bool true] := ((Bq.far (by first | (simp; done) | (simp; omega) | (simp [*]; done) | (simp only [ne_eq]; constructor <;> omega)) _).far (by first | (simp; done) | (simp; omega) | (simp [*]; done) | (simp only [ne_eq]; constructor <;> omega)) _)
              replace Bz : Blk ((w5.setCell ⟨w.heap.size + 1 + 1 + 1, 0, none⟩ (uv (F (n + 1)).v)).setCell ⟨w.heap.size + 1 + 1 + 1, 1, none⟩ (uv (F (n + 1)).m)) (gz) 89 #[.bool false, .bool true] := ((Bz.far (by first | (simp; done) | (simp; omega) | (simp [*]; done) | (simp only [ne_eq]; constructor <;> omega)) _).far (by first | (simp; done) | (simp; omega) | (simp [*]; done) | (simp only [ne_eq]; constructor <;> omega)) _)
              replace hB : Below w.heap.size w ((w5.setCell ⟨w.heap.size + 1 + 1 + 1, 0, none⟩ (uv (F (n + 1)).v)).setCell ⟨w.heap.size + 1 + 1 + 1, 1, none⟩ (uv (F (n + 1)).m)) := (Bl_set (Bl_set hB (by first | omega | (simp; done) | (simp; omega)) _) (by first | omega | (simp; done) | (simp; omega)) _)
              generalize ((w5.setCell ⟨w.heap.size + 1 + 1 + 1, 0, none⟩ (uv (F (n + 1)).v)).setCell ⟨w.heap.size + 1 + 1 + 1, 1, none⟩ (uv (F (n + 1)).m)) = w6 at *
              obtain ⟨ca0, ca1⟩ := cells2 Ba
              have fa := Ba.frozen; have la := Ba.lt
              obtain ⟨cb0, cb1⟩ := cells2 Bb
              have fb := Bb.frozen; have lb := Bb.lt
              obtain ⟨cr0, cr1⟩ := cells2 Br
              have fr := Br.frozen; have lr := Br.lt
              obtain ⟨co0, co1⟩ := cells2 Bo
              have fo := Bo.frozen; have lo := Bo.lt
              obtain ⟨cp0, cp1⟩ := cells2 Bp
              have fp := Bp.frozen; have lp := Bp.lt
              obtain ⟨cq0, cq1⟩ := cells2 Bq
              have fq := Bq.frozen; have lq := Bq.lt
              obtain ⟨cz0, cz1⟩ := cells2 Bz
              have fz := Bz.frozen; have lz := Bz.lt
              go_wp2_with fail
              go_roundg (63 - n)
              case measure => omega
              case rel => exact ⟨n + 1, by omega, by omega, by go_num, hB, hOk2, Ba, Bb, ⟨_, _, Br⟩, Bo⟩
      · cases x1
        · cases y0
          · cases y1
            · simp only [Bool.true_and, Bool.false_and] at k_s
              go_upto_region 7 with fail
              clear ca0 ca1 fa la
              clear cb0 cb1 fb lb
              clear cr0 cr1 fr lr
              clear co0 co1 fo lo
              clear cp0 cp1 fp lp
              clear cq0 cq1 fq lq
              have Bz := Blk.new w3 89 #[.bool false, .bool false]
              have hgz := hB.size
              have hnaz := Nat.ne_of_lt Ba.lt; have hltaz := Ba.lt
              have hnbz := Nat.ne_of_lt Bb.lt; have hltbz := Bb.lt
              have hnrz := Nat.ne_of_lt Br.lt; have hltrz := Br.lt
              have hnoz := Nat.ne_of_lt Bo.lt; have hltoz := Bo.lt
              have hnpz := Nat.ne_of_lt Bp.lt; have hltpz := Bp.lt
              have hnqz := Nat.ne_of_lt Bq.lt; have hltqz := Bq.lt
              replace Ba : Blk (w3.alloc (.cells #[.bool false, .bool false] 89)) (w.heap.size) 24 #[uv a.v, uv a.m] := Ba.alloc _
              replace Bb : Blk (w3.alloc (.cells #[.bool false, .bool false] 89)) (w.heap.size + 1) 24 #[uv b.v, uv b.m] := Bb.alloc _
              replace Br : Blk (w3.alloc (.cells #[.bool false, .bool false] 89)) (w.heap.size + 1 + 1) 24 #[x, y] := Br.alloc _
              replace Bo : Blk (w3.alloc (.cells #[.bool false, .bool false] 89)) (w.heap.size + 1 + 1 + 1) 24 #[uv (F n).v, uv (F n).m] := Bo.alloc _
              replace Bp : Blk (w3.alloc (.cells #[.bool false, .bool false] 89)) (gp) 89 #[.bool true, .bool false] := Bp.alloc _
              replace Bq : Blk (w3.alloc (.cells #[.bool false, .bool false] 89)) (gq) 89 #[.bool false, .bool false] := Bq.alloc _
              replace hB : Below w.heap.size w (w3.alloc (.cells #[.bool false, .bool false] 89)) := Bl_alloc hB _
              generalize (w3.alloc (.cells #[.bool false, .bool false] 89)) = w4 at *
              generalize w3.heap.size = gz at *
              obtain ⟨ca0, ca1⟩ := cells2 Ba
              have fa := Ba.frozen; have la := Ba.lt
              obtain ⟨cb0, cb1⟩ := cells2 Bb
              have fb := Bb.frozen; have lb := Bb.lt
              obtain ⟨cr0, cr1⟩ := cells2 Br
              have fr := Br.frozen; have lr := Br.lt
              obtain ⟨co0, co1⟩ := cells2 Bo
              have fo := Bo.frozen; have lo := Bo.lt
              obtain ⟨cp0, cp1⟩ := cells2 Bp
              have fp := Bp.frozen; have lp := Bp.lt
              obtain ⟨cq0, cq1⟩ := cells2 Bq
              have fq := Bq.frozen; have lq := Bq.lt
              obtain ⟨cz0, cz1⟩ := cells2 Bz
              have fz := Bz.frozen; have lz := Bz.lt
              have eR : R = (⟨0#64, 0#64⟩, false) := Hno1.out rfl rfl
              go_wp2
              exact bodyPost_ret (v := .tuple #[.agg #[.int .u64 0, .int .u64 0], .bool false]) (by simp [results, Try.results24, go_sem, cr0, cr1, lr]) rfl ⟨by rw [eR]; rfl, by repeat (first | (with_reducible exact hB) | (with_reducible refine Bl_set ?_ (by first | omega | (simp; done) | (simp; omega)) _) | with_reducible apply Bl_alloc)⟩
            · simp only [Bool.true_and, Bool.false_and] at k_s
              go_upto_region 7 with fail
              clear ca0 ca1 fa la
              clear cb0 cb1 fb lb
              clear cr0 cr1 fr lr
              clear co0 co1 fo lo
              clear cp0 cp1 fp lp
              clear cq0 cq1 fq lq
              have Bz := Blk.new w3 89 #[.bool false, .bool false]
              have hgz := hB.size
              have hnaz := Nat.ne_of_lt Ba.lt; have hltaz := Ba.lt
              have hnbz := Nat.ne_of_lt Bb.lt; have hltbz := Bb.lt
              have hnrz := Nat.ne_of_lt Br.lt; have hltrz := Br.lt
              have hnoz := Nat.ne_of_lt Bo.lt; have hltoz := Bo.lt
              have hnpz := Nat.ne_of_lt Bp.lt; have hltpz := Bp.lt
              have hnqz := Nat.ne_of_lt Bq.lt; have hltqz := Bq.lt
              replace Ba : Blk (w3.alloc (.cells #[.bool false, .bool false] 89)) (w.heap.size) 24 #[uv a.v, uv a.m] := Ba.alloc _
              replace Bb : Blk (w3.alloc (.cells #[.bool false, .bool false] 89)) (w.heap.size + 1) 24 #[uv b.v, uv b.m] := Bb.alloc _
              replace Br : Blk (w3.alloc (.cells #[.bool false, .bool false] 89)) (w.heap.size + 1 + 1) 24 #[x, y] := Br.alloc _
              replace Bo : Blk (w3.alloc (.cells #[.bool false, .bool false] 89)) (w.heap.size + 1 + 1 + 1) 24 #[uv (F n).v, uv (F n).m] := Bo.alloc _
              replace Bp : Blk (w3.alloc (.cells #[.bool false, .bool false] 89)) (gp) 89 #[.bool true, .bool false] := Bp.alloc _
              replace Bq : Blk (w3.alloc (.cells #[.bool false, .bool false] 89)) (gq) 89 #[.bool false, .bool true] := Bq.alloc _
              replace hB : Below w.heap.size w (w3.alloc (.cells #[.bool false, .bool false] 89)) := Bl_alloc hB _
              generalize (w3.alloc (.cells #[.bool false, .bool false] 89)) = w4 at *
              generalize w3.heap.size = gz at *
              obtain ⟨ca0, ca1⟩ := cells2 Ba
              have fa := Ba.frozen; have la := Ba.lt
              obtain ⟨cb0, cb1⟩ := cells2 Bb
              have fb := Bb.frozen; have lb := Bb.lt
              obtain ⟨cr0, cr1⟩ := cells2 Br
              have fr := Br.frozen; have lr := Br.lt
              obtain ⟨co0, co1⟩ := cells2 Bo
              have fo := Bo.frozen; have lo := Bo.lt
              obtain ⟨cp0, cp1⟩ := cells2 Bp
              have fp := Bp.frozen; have lp := Bp.lt
              obtain ⟨cq0, cq1⟩ := cells2 Bq
              have fq := Bq.frozen; have lq := Bq.lt
              obtain ⟨cz0, cz1⟩ := cells2 Bz
              have fz := Bz.frozen; have lz := Bz.lt
              have eR : R = (⟨0#64, 0#64⟩, false) := Hno1.out rfl rfl
              go_wp2
              exact bodyPost_ret (v := .tuple #[.agg #[.int .u64 0, .int .u64 0], .bool false]) (by simp [results, Try.results24, go_sem, cr0, cr1, lr]) rfl ⟨by rw [eR]; rfl, by repeat (first | (with_reducible exact hB) | (with_reducible refine Bl_set ?_ (by first | omega | (simp; done) | (simp; omega)) _) | with_reducible apply Bl_alloc)⟩
          · cases y1
            · simp only [Bool.true_and, Bool.false_and] at k_s
              go_upto_region 7 with fail
              clear ca0 ca1 fa la
              clear cb0 cb1 fb lb
              clear cr0 cr1 fr lr
              clear co0 co1 fo lo
              clear cp0 cp1 fp lp
              clear cq0 cq1 fq lq
              have Bz := Blk.new w3 89 #[.bool true, .bool false]
              have hgz := hB.size
              have hnaz := Nat.ne_of_lt Ba.lt; have hltaz := Ba.lt
              have hnbz := Nat.ne_of_lt Bb.lt; have hltbz := Bb.lt
              have hnrz := Nat.ne_of_lt Br.lt; have hltrz := Br.lt
              have hnoz := Nat.ne_of_lt Bo.lt; have hltoz := Bo.lt
              have hnpz := Nat.ne_of_lt Bp.lt; have hltpz := Bp.lt
              have hnqz := Nat.ne_of_lt Bq.lt; have hltqz := Bq.lt
              replace Ba : Blk (w3.alloc (.cells #[.bool true, .bool false] 89)) (w.heap.size) 24 #[uv a.v, uv a.m] := Ba.alloc _
              replace Bb : Blk (w3.alloc (.cells #[.bool true, .bool false] 89)) (w.heap.size + 1) 24 #[uv b.v, uv b.m] := Bb.alloc _
              replace Br : Blk (w3.alloc (.cells #[.bool true, .bool false] 89)) (w.heap.size + 1 + 1) 24 #[x, y] := Br.alloc _
              replace Bo : Blk (w3.alloc (.cells #[.bool true, .bool false] 89)) (w.heap.size + 1 + 1 + 1) 24 #[uv (F n).v, uv (F n).m] := Bo.alloc _
              replace Bp : Blk (w3.alloc (.cells #[.bool true, .bool false] 89)) (gp) 89 #[.bool true, .bool false] := Bp.alloc _
              replace Bq : Blk (w3.alloc (.cells #[.bool true, .bool false] 89)) (gq) 89 #[.bool true, .bool false] := Bq.alloc _
              replace hB : Below w.heap.size w (w3.alloc (.cells #[.bool true, .bool false] 89)) := Bl_alloc hB _
              generalize (w3.alloc (.cells #[.bool true, .bool false] 89)) = w4 at *
              generalize w3.heap.size = gz at *
              obtain ⟨ca0, ca1⟩ := cells2 Ba
              have fa := Ba.frozen; have la := Ba.lt
              obtain ⟨cb0, cb1⟩ := cells2 Bb
              have fb := Bb.frozen; have lb := Bb.lt
              obtain ⟨cr0, cr1⟩ := cells2 Br
              have fr := Br.frozen; have lr := Br.lt
              obtain ⟨co0, co1⟩ := cells2 Bo
              have fo := Bo.frozen; have lo := Bo.lt
              obtain ⟨cp0, cp1⟩ := cells2 Bp
              have fp := Bp.frozen; have lp := Bp.lt
              obtain ⟨cq0, cq1⟩ := cells2 Bq
              have fq := Bq.frozen; have lq := Bq.lt
              obtain ⟨cz0, cz1⟩ := cells2 Bz
              have fz := Bz.frozen; have lz := Bz.lt
              have hOk2 : Ok (n + 1) := Hok1.out rfl
              go_wp2_with fail
              refine (k_s _).mono ?_
              rintro e w5 ⟨rfl, hb⟩
              clear ca0 ca1 fa la
              clear cb0 cb1 fb lb
              clear cr0 cr1 fr lr
              clear co0 co1 fo lo
              clear cp0 cp1 fp lp
              clear cq0 cq1 fq lq
              clear cz0 cz1 fz lz
              replace Ba := (Ba).next hb
              replace Bb := (Bb).next hb
              replace Br := (Br).next hb
              replace Bo := (Bo).next hb
              replace Bp := (Bp).next hb
              replace Bq := (Bq).next hb
              replace Bz := (Bz).next hb
              replace hB : Below w.heap.size w w5 := by repeat (first | exact hB | (refine Bl_set ?_ (by first | omega | (simp; omega)) _) | apply Bl_alloc | (refine Bl_trans ?_ hb))
              clear hb
              obtain ⟨ca0, ca1⟩ := cells2 Ba
              have fa := Ba.frozen; have la := Ba.lt
              obtain ⟨cb0, cb1⟩ := cells2 Bb
              have fb := Bb.frozen; have lb := Bb.lt
              obtain ⟨cr0, cr1⟩ := cells2 Br
              have fr := Br.frozen; have lr := Br.lt
              obtain ⟨co0, co1⟩ := cells2 Bo
              have fo := Bo.frozen; have lo := Bo.lt
              obtain ⟨cp0, cp1⟩ := cells2 Bp
              have fp := Bp.frozen; have lp := Bp.lt
              obtain ⟨cq0, cq1⟩ := cells2 Bq
              have fq := Bq.frozen; have lq := Bq.lt
              obtain ⟨cz0, cz1⟩ := cells2 Bz
              have fz := Bz.frozen; have lz := Bz.lt
              go_upto_region 4 with fail
              clear ca0 ca1 fa la
              clear cb0 cb1 fb lb
              clear cr0 cr1 fr lr
              clear co0 co1 fo lo
              clear cp0 cp1 fp lp
              clear cq0 cq1 fq lq
              clear cz0 cz1 fz lz
              replace Ba : Blk ((w5.setCell ⟨w.heap.size + 1 + 1 + 1, 0, none⟩ (uv (F (n + 1)).v)).setCell ⟨w.heap.size + 1 + 1 + 1, 1, none⟩ (uv (F (n + 1)).m)) (w.heap.size) 24 #[uv a.v, uv a.m] := ((Ba.far (by first | (simp; done) | (simp; omega) | (simp [*]; done) | (simp only [ne_eq]; constructor <;> omega)) _).far (by first | (simp; done) | (simp; omega) | (simp [*]; done) | (simp only [ne_eq]; constructor <;> omega)) _)
              replace Bb : Blk ((w5.setCell ⟨w.heap.size + 1 + 1 + 1, 0, none⟩ (uv (F (n + 1)).v)).setCell ⟨w.heap.size + 1 + 1 + 1, 1, none⟩ (uv (F (n + 1)).m)) (w.heap.size + 1) 24 #[uv b.v, uv b.m] := ((Bb.far (by first | (simp; done) | (simp; omega) | (simp [*]; done) | (simp only [ne_eq]; constructor <;> omega)) _).far (by first | (simp; done) | (simp; omega) | (simp [*]; done) | (simp only [ne_eq]; constructor <;> omega)) _)
              replace Br : Blk ((w5.setCell ⟨w.heap.size + 1 + 1 + 1, 0, none⟩ (uv (F (n + 1)).v)).setCell ⟨w.heap.size + 1 + 1 + 1, 1, none⟩ (uv (F (n + 1)).m)) (w.heap.size + 1 + 1) 24 #[x, y] := ((Br.far (by first | (simp; done) | (simp; omega) | (simp [*]; done) | (simp only [ne_eq]; constructor <;> omega)) _).far (by first | (simp; done) | (simp; omega) | (simp [*]; done) | (simp only [ne_eq]; constructor <;> omega)) _)
              replace Bo : Blk ((w5.setCell ⟨w.heap.size + 1 + 1 + 1, 0, none⟩ (uv (F (n + 1)).v)).setCell ⟨w.heap.size + 1 + 1 + 1, 1, none⟩ (uv (F (n + 1)).m)) (w.heap.size + 1 + 1 + 1) 24 #[uv (F (n + 1)).v, uv (F (n + 1)).m] := ((Bo.set_ 0 _).set_ 1 _)
              replace Bp : Blk ((w5.setCell ⟨w.heap.size + 1 + 1 + 1, 0, none⟩ (uv (F (n + 1)).v)).setCell ⟨w.heap.size + 1 + 1 + 1, 1, none⟩ (uv (F (n + 1)).m)) (gp) 89 #[.bool true, .bool false] := ((Bp.far (by first | (simp; done) | (simp; omega) | (simp [*]; done) | (simp only [ne_eq]; constructor <;> omega)) _).far (by first | (simp; done) | (simp; omega) | (simp [*]; done) | (simp only [ne_eq]; constructor <;> omega)) _)
              replace Bq : Blk ((w5.setCell ⟨w.heap.size + 1 + 1 + 1, 0, none⟩ (uv (F (n + 1)).v)).setCell ⟨w.heap.size + 1 + 1 + 1, 1, none⟩ (uv (F (n + 1)).m)) (gq) 89 #[.bool true, .bool false] := ((Bq.far (by first | (simp; done) | (simp; omega) | (simp [*]; done) | (simp only [ne_eq]; constructor <;> omega)) _).far (by first | (simp; done) | (simp; omega) | (simp [*]; done) | (simp only [ne_eq]; constructor <;> omega)) _)
              replace Bz : Blk ((w5.setCell ⟨w.heap.size + 1 + 1 + 1, 0, none⟩ (uv (F (n + 1)).v)).setCell ⟨w.heap.size + 1 + 1 + 1, 1, none⟩ (uv (F (n + 1)).m)) (gz) 89 #[.bool true, .bool false] := ((Bz.far (by first | (simp; done) | (simp; omega) | (simp [*]; done) | (simp only [ne_eq]; constructor <;> omega)) _).far (by first | (simp; done) | (simp; omega) | (simp [*]; done) | (simp only [ne_eq]; constructor <;> omega)) _)
              replace hB : Below w.heap.size w ((w5.setCell ⟨w.heap.size + 1 + 1 + 1, 0, none⟩ (uv (F (n + 1)).v)).setCell ⟨w.heap.size + 1 + 1 + 1, 1, none⟩ (uv (F (n + 1)).m)) := (Bl_set (Bl_set hB (by first | omega | (simp; done) | (simp; omega)) _) (by first | omega | (simp; done) | (simp; omega)) _)
              generalize ((w5.setCell ⟨w.heap.size + 1 + 1 + 1, 0, none⟩ (uv (F (n + 1)).v)).setCell ⟨w.heap.size + 1 + 1 + 1, 1, none⟩ (uv (F (n + 1)).m)) = w6 at *
              obtain ⟨ca0, ca1⟩ := cells2 Ba
              have fa := Ba.frozen; have la := Ba.lt
              obtain ⟨cb0, cb1⟩ := cells2 Bb
              have fb := Bb.frozen; have lb := Bb.lt
              obtain ⟨cr0, cr1⟩ := cells2 Br
              have fr := Br.frozen; have lr := Br.lt
              obtain ⟨co0, co1⟩ := cells2 Bo
              have fo := Bo.frozen; have lo := Bo.lt
              obtain ⟨cp0, cp1⟩ := cells2 Bp
              have fp := Bp.frozen; have lp := Bp.lt
              obtain ⟨cq0, cq1⟩ := cells2 Bq
              have fq := Bq.frozen; have lq := Bq.lt
              obtain ⟨cz0, cz1⟩ := cells2 Bz
              have fz := Bz.frozen; have lz := Bz.lt
              go_wp2_with fail
              go_roundg (63 - n)
              case measure => omega
              case rel => exact ⟨n + 1, by omega, by omega, by go_num, hB, hOk2, Ba, Bb, ⟨_, _, Br⟩, Bo⟩
            · simp only [Bool.true_and, Bool.false_and] at k_s
              go_upto_region 7 with fail
              clear ca0 ca1 fa la
              clear cb0 cb1 fb lb
              clear cr0 cr1 fr lr
              clear co0 co1 fo lo
              clear cp0 cp1 fp lp
              clear cq0 cq1 fq lq
              have Bz := Blk.new w3 89 #[.bool true, .bool false]
              have hgz := hB.size
              have hnaz := Nat.ne_of_lt Ba.lt; have hltaz := Ba.lt
              have hnbz := Nat.ne_of_lt Bb.lt; have hltbz := Bb.lt
              have hnrz := Nat.ne_of_lt Br.lt; have hltrz := Br.lt
              have hnoz := Nat.ne_of_lt Bo.lt; have hltoz := Bo.lt
              have hnpz := Nat.ne_of_lt Bp.lt; have hltpz := Bp.lt
              have hnqz := Nat.ne_of_lt Bq.lt; have hltqz := Bq.lt
              replace Ba : Blk (w3.alloc (.cells #[.bool true, .bool false] 89)) (w.heap.size) 24 #[uv a.v, uv a.m] := Ba.alloc _
              replace Bb : Blk (w3.alloc (.cells #[.bool true, .bool false] 89)) (w.heap.size + 1) 24 #[uv b.v, uv b.m] := Bb.alloc _
              replace Br : Blk (w3.alloc (.cells #[.bool true, .bool false] 89)) (w.heap.size + 1 + 1) 24 #[x, y] := Br.alloc _
              replace Bo : Blk (w3.alloc (.cells #[.bool true, .bool false] 89)) (w.heap.size + 1 + 1 + 1) 24 #[uv (F n).v, uv (F n).m] := Bo.alloc _
              replace Bp : Blk (w3.alloc (.cells #[.bool true, .bool false] 89)) (gp) 89 #[.bool true, .bool false] := Bp.alloc _
              replace Bq : Blk (w3.alloc (.cells #[.bool true, .bool false] 89)) (gq) 89 #[.bool true, .bool true] := Bq.alloc _
              replace hB : Below w.heap.size w (w3.alloc (.cells #[.bool true, .bool false] 89)) := Bl_alloc hB _
              generalize (w3.alloc (.cells #[.bool true, .bool false] 89)) = w4 at *
              generalize w3.heap.size = gz at *
              obtain ⟨ca0, ca1⟩ := cells2 Ba
              have fa := Ba.frozen; have la := Ba.lt
              obtain ⟨cb0, cb1⟩ := cells2 Bb
              have fb := Bb.frozen; have lb := Bb.lt
              obtain ⟨cr0, cr1⟩ := cells2 Br
              have fr := Br.frozen; have lr := Br.lt
              obtain ⟨co0, co1⟩ := cells2 Bo
              have fo := Bo.frozen; have lo := Bo.lt
              obtain ⟨cp0, cp1⟩ := cells2 Bp
              have fp := Bp.frozen; have lp := Bp.lt
              obtain ⟨cq0, cq1⟩ := cells2 Bq
              have fq := Bq.frozen; have lq := Bq.lt
              obtain ⟨cz0, cz1⟩ := cells2 Bz
              have fz := Bz.frozen; have lz := Bz.lt
              have hOk2 : Ok (n + 1) := Hok1.out rfl
              go_wp2_with fail
              refine (k_s _).mono ?_
              rintro e w5 ⟨rfl, hb⟩
              clear ca0 ca1 fa la
              clear cb0 cb1 fb lb
              clear cr0 cr1 fr lr
              clear co0 co1 fo lo
              clear cp0 cp1 fp lp
              clear cq0 cq1 fq lq
              clear cz0 cz1 fz lz
              replace Ba := (Ba).next hb
              replace Bb := (Bb).next hb
              replace Br := (Br).next hb
              replace Bo := (Bo).next hb
              replace Bp := (Bp).next hb
              replace Bq := (Bq).next hb
              replace Bz := (Bz).next hb
              replace hB : Below w.heap.size w w5 := by repeat (first | exact hB | (refine Bl_set ?_ (by first | omega | (simp; omega)) _) | apply Bl_alloc | (refine Bl_trans ?_ hb))
              clear hb
              obtain ⟨ca0, ca1⟩ := cells2 Ba
              have fa := Ba.frozen; have la := Ba.lt
              obtain ⟨cb0, cb1⟩ := cells2 Bb
              have fb := Bb.frozen; have lb := Bb.lt
              obtain ⟨cr0, cr1⟩ := cells2 Br
              have fr := Br.frozen; have lr := Br.lt
              obtain ⟨co0, co1⟩ := cells2 Bo
              have fo := Bo.frozen; have lo := Bo.lt
              obtain ⟨cp0, cp1⟩ := cells2 Bp
              have fp := Bp.frozen; have lp := Bp.lt
              obtain ⟨cq0, cq1⟩ := cells2 Bq
              have fq := Bq.frozen; have lq := Bq.lt
              obtain ⟨cz0, cz1⟩ := cells2 Bz
              have fz := Bz.frozen; have lz := Bz.lt
              go_upto_region 4 with fail
              clear ca0 ca1 fa la
              clear cb0 cb1 fb lb
              clear cr0 cr1 fr lr
              clear co0 co1 fo lo
              clear cp0 cp1 fp lp
              clear cq0 cq1 fq lq
              clear cz0 cz1 fz lz
              replace Ba : Blk ((w5.setCell ⟨w.heap.size + 1 + 1 + 1, 0, none⟩ (uv (F (n + 1)).v)).setCell ⟨w.heap.size + 1 + 1 + 1, 1, none⟩ (uv (F (n + 1)).m)) (w.heap.size) 24 #[uv a.v, uv a.m] := ((Ba.far (by first | (simp; done) | (simp; omega) | (simp [*]; done) | (simp only [ne_eq]; constructor <;> omega)) _).far (by first | (simp; done) | (simp; omega) | (simp [*]; done) | (simp only [ne_eq]; constructor <;> omega)) _)
              replace Bb : Blk ((w5.setCell ⟨w.heap.size + 1 + 1 + 1, 0, none⟩ (uv (F (n + 1)).v)).setCell ⟨w.heap.size + 1 + 1 + 1, 1, none⟩ (uv (F (n + 1)).m)) (w.heap.size + 1) 24 #[uv b.v, uv b.m] := ((Bb.far (by first | (simp; done) | (simp; omega) | (simp [*]; done) | (simp only [ne_eq]; constructor <;> omega)) _).far (by first | (simp; done) | (simp; omega) | (simp [*]; done) | (simp only [ne_eq]; constructor <;> omega)) _)
              replace Br : Blk ((w5.setCell ⟨w.heap.size + 1 + 1 + 1, 0, none⟩ (uv (F (n + 1)).v)).setCell ⟨w.heap.size + 1 + 1 + 1, 1, none⟩ (uv (F (n + 1)).m)) (w.heap.size + 1 + 1) 24 #[x, y] := ((Br.far (by first | (simp; done) | (simp; omega) | (simp [*]; done) | (simp only [ne_eq]; constructor <;> omega)) _).far (by first | (simp; done) | (simp; omega) | (simp [*]; done) | (simp only [ne_eq]; constructor <;> omega)) _)
              replace Bo : Blk ((w5.setCell ⟨w.heap.size + 1 + 1 + 1, 0, none⟩ (uv (F (n + 1)).v)).setCell ⟨w.heap.size + 1 + 1 + 1, 1, none⟩ (uv (F (n + 1)).m)) (w.heap.size + 1 + 1 + 1) 24 #[uv (F (n + 1)).v, uv (F (n + 1)).m] := ((Bo.set_ 0 _).set_ 1 _)
              replace Bp : Blk ((w5.setCell ⟨w.heap.size + 1 + 1 + 1, 0, none⟩ (uv (F (n + 1)).v)).setCell ⟨w.heap.size + 1 + 1 + 1, 1, none⟩ (uv (F (n + 1)).m)) (gp) 89 #[.bool true, .bool false] := ((Bp.far (by first | (simp; done) | (simp; omega) | (simp [*]; done) | (simp only [ne_eq]; constructor <;> omega)) _).far (by first | (simp; done) | (simp; omega) | (simp [*]; done) | (simp only [ne_eq]; constructor <;> omega)) _)
              replace Bq : Blk ((w5.setCell ⟨w.heap.size + 1 + 1 + 1, 0, none⟩ (uv (F (n + 1)).v)).setCell ⟨w.heap.size + 1 + 1 + 1, 1, none⟩ (uv (F (n + 1)).m)) (gq) 89 #[.bool true, .bool true] := ((Bq.far (by first | (simp; done) | (simp; omega) | (simp [*]; done) | (simp only [ne_eq]; constructor <;> omega)) _).far (by first | (simp; done) | (simp; omega) | (simp [*]; done) | (simp only [ne_eq]; constructor <;> omega)) _)
              replace Bz : Blk ((w5.setCell ⟨w.heap.size + 1 + 1 + 1, 0, none⟩ (uv (F (n + 1)).v)).setCell ⟨w.heap.size + 1 + 1 + 1, 1, none⟩ (uv (F (n + 1)).m)) (gz) 89 #[.bool true, .bool false] := ((Bz.far (by first | (simp; done) | (simp; omega) | (simp [*]; done) | (simp only [ne_eq]; constructor <;> omega)) _).far (by first | (simp; done) | (simp; omega) | (simp [*]; done) | (simp only [ne_eq]; constructor <;> omega)) _)
              replace hB : Below w.heap.size w ((w5.setCell ⟨w.heap.size + 1 + 1 + 1, 0, none⟩ (uv (F (n + 1)).v)).setCell ⟨w.heap.size + 1 + 1 + 1, 1, none⟩ (uv (F (n + 1)).m)) := (Bl_set (Bl_set hB (by first | omega | (simp; done) | (simp; omega)) _) (by first | omega | (simp; done) | (simp; omega)) _)
              generalize ((w5.setCell ⟨w.heap.size + 1 + 1 + 1, 0, none⟩ (uv (F (n + 1)).v)).setCell ⟨w.heap.size + 1 + 1 + 1, 1, none⟩ (uv (F (n + 1)).m)) = w6 at *
              obtain ⟨ca0, ca1⟩ := cells2 Ba
              have fa := Ba.frozen; have la := Ba.lt
              obtain ⟨cb0, cb1⟩ := cells2 Bb
              have fb := Bb.frozen; have lb := Bb.lt
              obtain ⟨cr0, cr1⟩ := cells2 Br
              have fr := Br.frozen; have lr := Br.lt
              obtain ⟨co0, co1⟩ := cells2 Bo
              have fo := Bo.frozen; have lo := Bo.lt
              obtain ⟨cp0, cp1⟩ := cells2 Bp
              have fp := Bp.frozen; have lp := Bp.lt
              obtain ⟨cq0, cq1⟩ := cells2 Bq
              have fq := Bq.frozen; have lq := Bq.lt
              obtain ⟨cz0, cz1⟩ := cells2 Bz
              have fz := Bz.frozen; have lz := Bz.lt
              go_wp2_with fail
              go_roundg (63 - n)
              case measure => omega
              case rel => exact ⟨n + 1, by omega, by omega, by go_num, hB, hOk2, Ba, Bb, ⟨_, _, Br⟩, Bo⟩
        · cases y0
          · cases y1
            · simp only [Bool.true_and, Bool.false_and] at k_s
              go_upto_region 7 with fail
              clear ca0 ca1 fa la
              clear cb0 cb1 fb lb
              clear cr0 cr1 fr lr
              clear co0 co1 fo lo
              clear cp0 cp1 fp lp
              clear cq0 cq1 fq lq
              have Bz := Blk.new w3 89 #[.bool false, .bool false]
              have hgz := hB.size
              have hnaz := Nat.ne_of_lt Ba.lt; have hltaz := Ba.lt
              have hnbz := Nat.ne_of_lt Bb.lt; have hltbz := Bb.lt
              have hnrz := Nat.ne_of_lt Br.lt; have hltrz := Br.lt
              have hnoz := Nat.ne_of_lt Bo.lt; have hltoz := Bo.lt
              have hnpz := Nat.ne_of_lt Bp.lt; have hltpz := Bp.lt
              have hnqz := Nat.ne_of_lt Bq.lt; have hltqz := Bq.lt
              replace Ba : Blk (w3.alloc (.cells #[.bool false, .bool false] 89)) (w.heap.size) 24 #[uv a.v, uv a.m] := Ba.alloc _
              replace Bb : Blk (w3.alloc (.cells #[.bool false, .bool false] 89)) (w.heap.size + 1) 24 #[uv b.v, uv b.m] := Bb.alloc _
              replace Br : Blk (w3.alloc (.cells #[.bool false, .bool false] 89)) (w.heap.size + 1 + 1) 24 #[x, y] := Br.alloc _
              replace Bo : Blk (w3.alloc (.cells #[.bool false, .bool false] 89)) (w.heap.size + 1 + 1 + 1) 24 #[uv (F n).v, uv (F n).m] := Bo.alloc _
              replace Bp : Blk (w3.alloc (.cells #[.bool false, .bool false] 89)) (gp) 89 #[.bool true, .bool true] := Bp.alloc _
              replace Bq : Blk (w3.alloc (.cells #[.bool false, .bool false] 89)) (gq) 89 #[.bool false, .bool false] := Bq.alloc _
              replace hB : Below w.heap.size w (w3.alloc (.cells #[.bool false, .bool false] 89)) := Bl_alloc hB _
              generalize (w3.alloc (.cells #[.bool false, .bool false] 89)) = w4 at *
              generalize w3.heap.size = gz at *
              obtain ⟨ca0, ca1⟩ := cells2 Ba
              have fa := Ba.frozen; have la := Ba.lt
              obtain ⟨cb0, cb1⟩ := cells2 Bb
              have fb := Bb.frozen; have lb := Bb.lt
              obtain ⟨cr0, cr1⟩ := cells2 Br
              have fr := Br.frozen; have lr := Br.lt
              obtain ⟨co0, co1⟩ := cells2 Bo
              have fo := Bo.frozen; have lo := Bo.lt
              obtain ⟨cp0, cp1⟩ := cells2 Bp
              have fp := Bp.frozen; have lp := Bp.lt
              obtain ⟨cq0, cq1⟩ := cells2 Bq
              have fq := Bq.frozen; have lq := Bq.lt
              obtain ⟨cz0, cz1⟩ := cells2 Bz
              have fz := Bz.frozen; have lz := Bz.lt
              have eR : R = (⟨0#64, 0#64⟩, false) := Hno1.out rfl rfl
              go_wp2
              exact bodyPost_ret (v := .tuple #[.agg #[.int .u64 0, .int .u64 0], .bool false]) (by simp [results, Try.results24, go_sem, cr0, cr1, lr]) rfl ⟨by rw [eR]; rfl, by repeat (first | (with_reducible exact hB) | (with_reducible refine Bl_set ?_ (by first | omega | (simp; done) | (simp; omega)) _) | with_reducible apply Bl_alloc)⟩
            · simp only [Bool.true_and, Bool.false_and] at k_s
              go_upto_region 7 with fail
              clear ca0 ca1 fa la
              clear cb0 cb1 fb lb
              clear cr0 cr1 fr lr
              clear co0 co1 fo lo
              clear cp0 cp1 fp lp
              clear cq0 cq1 fq lq
              have Bz := Blk.new w3 89 #[.bool false, .bool true]
              have hgz := hB.size
              have hnaz := Nat.ne_of_lt Ba.lt; have hltaz := Ba.lt
              have hnbz := Nat.ne_of_lt Bb.lt; have hltbz := Bb.lt
              have hnrz := Nat.ne_of_lt Br.lt; have hltrz := Br.lt
              have hnoz := Nat.ne_of_lt Bo.lt; have hltoz := Bo.lt
              have hnpz := Nat.ne_of_lt Bp.lt; have hltpz := Bp.lt
              have hnqz := Nat.ne_of_lt Bq.lt; have hltqz := Bq.lt
              replace Ba : Blk (w3.alloc (.cells #[.bool false, .bool true] 89)) (w.heap.size) 24 #[uv a.v, uv a.m] := Ba.alloc _
              replace Bb : Blk (w3.alloc (.cells #[.bool false, .bool true] 89)) (w.heap.size + 1) 24 #[uv b.v, uv b.m] := Bb.alloc _
              replace Br : Blk (w3.alloc (.cells #[.bool false, .bool true] 89)) (w.heap.size + 1 + 1) 24 #[x, y] := Br.alloc _
              replace Bo : Blk (w3.alloc (.cells #[.bool false, .bool true] 89)) (w.heap.size + 1 + 1 + 1) 24 #[uv (F n).v, uv (F n).m] := Bo.alloc _
              replace Bp : Blk (w3.alloc (.cells #[.bool false, .bool true] 89)) (gp) 89 #[.bool true, .bool true] := Bp.alloc _
              replace Bq : Blk (w3.alloc (.cells #[.bool false, .bool true] 89)) (gq) 89 #[.bool false, .bool true] := Bq.alloc _
              replace hB : Below w.heap.size w (w3.alloc (.cells #[.bool false, .bool true] 89)) := Bl_alloc hB _
              generalize (w3.alloc (.cells #[.bool false, .bool true] 89)) = w4 at *
              generalize w3.heap.size = gz at *
              obtain ⟨ca0, ca1⟩ := cells2 Ba
              have fa := Ba.frozen; have la := Ba.lt
              obtain ⟨cb0, cb1⟩ := cells2 Bb
              have fb := Bb.frozen; have lb := Bb.lt
              obtain ⟨cr0, cr1⟩ := cells2 Br
              have fr := Br.frozen; have lr := Br.lt
              obtain ⟨co0, co1⟩ := cells2 Bo
              have fo := Bo.frozen; have lo := Bo.lt
              obtain ⟨cp0, cp1⟩ := cells2 Bp
              have fp := Bp.frozen; have lp := Bp.lt
              obtain ⟨cq0, cq1⟩ := cells2 Bq
              have fq := Bq.frozen; have lq := Bq.lt
              obtain ⟨cz0, cz1⟩ := cells2 Bz
              have fz := Bz.frozen; have lz := Bz.lt
              have hOk2 : Ok (n + 1) := Hok1.out rfl
              go_wp2_with fail
              refine (k_s _).mono ?_
              rintro e w5 ⟨rfl, hb⟩
              clear ca0 ca1 fa la
              clear cb0 cb1 fb lb
              clear cr0 cr1 fr lr
              clear co0 co1 fo lo
              clear cp0 cp1 fp lp
              clear cq0 cq1 fq lq
              clear cz0 cz1 fz lz
              replace Ba := (Ba).next hb
              replace Bb := (Bb).next hb
              replace Br := (Br).next hb
              replace Bo := (Bo).next hb
              replace Bp := (Bp).next hb
              replace Bq := (Bq).next hb
              replace Bz := (Bz).next hb
              replace hB : Below w.heap.size w w5 := by repeat (first | exact hB | (refine Bl_set ?_ (by first | omega | (simp; omega)) _) | apply Bl_alloc | (refine Bl_trans ?_ hb))
              clear hb
              obtain ⟨ca0, ca1⟩ := cells2 Ba
              have fa := Ba.frozen; have la := Ba.lt
              obtain ⟨cb0, cb1⟩ := cells2 Bb
              have fb := Bb.frozen; have lb := Bb.lt
              obtain ⟨cr0, cr1⟩ := cells2 Br
              have fr := Br.frozen; have lr := Br.lt
              obtain ⟨co0, co1⟩ := cells2 Bo
              have fo := Bo.frozen; have lo := Bo.lt
              obtain ⟨cp0, cp1⟩ := cells2 Bp
              have fp := Bp.frozen; have lp := Bp.lt
              obtain ⟨cq0, cq1⟩ := cells2 Bq
              have fq := Bq.frozen; have lq := Bq.lt
              obtain ⟨cz0, cz1⟩ := cells2 Bz
              have fz := Bz.frozen; have lz := Bz.lt
              go_upto_region 4 with fail
              clear ca0 ca1 fa la
              clear cb0 cb1 fb lb
              clear cr0 cr1 fr lr
              clear co0 co1 fo lo
              clear cp0 cp1 fp lp
              clear cq0 cq1 fq lq
              clear cz0 cz1 fz lz
              replace Ba : Blk ((w5.setCell ⟨w.heap.size + 1 + 1 + 1, 0, none⟩ (uv (F (n + 1)).v)).setCell ⟨w.heap.size + 1 + 1 + 1, 1, none⟩ (uv (F (n + 1)).m)) (w.heap.size) 24 #[uv a.v, uv a.m] := ((Ba.far (by first | (simp; done) | (simp; omega) | (simp [*]; done) | (simp only [ne_eq]; constructor <;> omega)) _).far (by first | (simp; done) | (simp; omega) | (simp [*]; done) | (simp only [ne_eq]; constructor <;> omega)) _)
              replace Bb : Blk ((w5.setCell ⟨w.heap.size + 1 + 1 + 1, 0, none⟩ (uv (F (n + 1)).v)).setCell ⟨w.heap.size + 1 + 1 + 1, 1, none⟩ (uv (F (n + 1)).m)) (w.heap.size + 1) 24 #[uv b.v, uv b.m] := ((Bb.far (by first | (simp; done) | (simp; omega) | (simp [*]; done) | (simp only [ne_eq]; constructor <;> omega)) _).far (by first | (simp; done) | (simp; omega) | (simp [*]; done) | (simp only [ne_eq]; constructor <;> omega)) _)
              replace Br : Blk ((w5.setCell ⟨w.heap.size + 1 + 1 + 1, 0, none⟩ (uv (F (n + 1)).v)).setCell ⟨w.heap.size + 1 + 1 + 1, 1, none⟩ (uv (F (n + 1)).m)) (w.heap.size + 1 + 1) 24 #[x, y] := ((Br.far (by first | (simp; done) | (simp; omega) | (simp [*]; done) | (simp only [ne_eq]; constructor <;> omega)) _).far (by first | (simp; done) | (simp; omega) | (simp [*]; done) | (simp only [ne_eq]; constructor <;> omega)) _)
              replace Bo : Blk ((w5.setCell ⟨w.heap.size + 1 + 1 + 1, 0, none⟩ (uv (F (n + 1)).v)).setCell ⟨w.heap.size + 1 + 1 + 1, 1, none⟩ (uv (F (n + 1)).m)) (w.heap.size + 1 + 1 + 1) 24 #[uv (F (n + 1)).v, uv (F (n + 1)).m] := ((Bo.set_ 0 _).set_ 1 _)
              replace Bp : Blk ((w5.setCell ⟨w.heap.size + 1 + 1 + 1, 0, none⟩ (uv (F (n + 1)).v)).setCell ⟨w.heap.size + 1 + 1 + 1, 1, none⟩ (uv (F (n + 1)).m)) (gp) 89 #[.bool true, .bool true] := ((Bp.far (by first | (simp; done) | (simp; omega) | (simp [*]; done) | (simp only [ne_eq]; constructor <;> omega)) _).far (by first | (simp; done) | (simp; omega) | (simp [*]; done) | (simp only [ne_eq]; constructor <;> omega)) _)
              replace Bq : Blk ((w5.setCell ⟨w.heap.size + 1 + 1 + 1, 0, none⟩ (uv (F (n + 1)).v)).setCell ⟨w.heap.size + 1 + 1 + 1, 1, none⟩ (uv (F (n + 1)).m)) (gq) 89 #[.bool false, .bool true] := ((Bq.far (by first | (simp; done) | (simp; omega) | (simp [*]; done) | (simp only [ne_eq]; constructor <;> omega)) _).far (by first | (simp; done) | (simp; omega) | (simp [*]; done) | (simp only [ne_eq]; constructor <;> omega)) _)
              replace Bz : Blk ((w5.setCell ⟨w.heap.size + 1 + 1 + 1, 0, none⟩ (uv (F (n + 1)).v)).setCell ⟨w.heap.size + 1 + 1 + 1, 1, none⟩ (uv (F (n + 1)).m)) (gz) 89 #[.bool false, .bool true] := ((Bz.far (by first | (simp; done) | (simp; omega) | (simp [*]; done) | (simp only [ne_eq]; constructor <;> omega)) _).far (by first | (simp; done) | (simp; omega) | (simp [*]; done) | (simp only [ne_eq]; constructor <;> omega)) _)
              replace hB : Below w.heap.size w ((w5.setCell ⟨w.heap.size + 1 + 1 + 1, 0, none⟩ (uv (F (n + 1)).v)).setCell ⟨w.heap.size + 1 + 1 + 1, 1, none⟩ (uv (F (n + 1)).m)) := (Bl_set (Bl_set hB (by first | omega | (simp; done) | (simp; omega)) _) (by first | omega | (simp; done) | (simp; omega)) _)
              generalize ((w5.setCell ⟨w.heap.size + 1 + 1 + 1, 0, none⟩ (uv (F (n + 1)).v)).setCell ⟨w.heap.size + 1 + 1 + 1, 1, none⟩ (uv (F (n + 1)).m)) = w6 at *
              obtain ⟨ca0, ca1⟩ := cells2 Ba
              have fa := Ba.frozen; have la := Ba.lt
              obtain ⟨cb0, cb1⟩ := cells2 Bb
              have fb := Bb.frozen; have lb := Bb.lt
              obtain ⟨cr0, cr1⟩ := cells2 Br
              have fr := Br.frozen; have lr := Br.lt
              obtain ⟨co0, co1⟩ := cells2 Bo
              have fo := Bo.frozen; have lo := Bo.lt
              obtain ⟨cp0, cp1⟩ := cells2 Bp
              have fp := Bp.frozen; have lp := Bp.lt
              obtain ⟨cq0, cq1⟩ := cells2 Bq
              have fq := Bq.frozen; have lq := Bq.lt
              obtain ⟨cz0, cz1⟩ := cells2 Bz
              have fz := Bz.frozen; have lz := Bz.lt
              go_wp2_with fail
              go_roundg (63 - n)
              case measure => omega
              case rel => exact ⟨n + 1, by omega, by omega, by go_num, hB, hOk2, Ba, Bb, ⟨_, _, Br⟩, Bo⟩
          · cases y1
            · simp only [Bool.true_and, Bool.false_and] at k_s
              go_upto_region 7 with fail
              clear ca0 ca1 fa la
              clear cb0 cb1 fb lb
              clear cr0 cr1 fr lr
              clear co0 co1 fo lo
              clear cp0 cp1 fp lp
              clear cq0 cq1 fq lq
              have Bz := Blk.new w3 89 #[.bool true, .bool false]
              have hgz := hB.size
              have hnaz := Nat.ne_of_lt Ba.lt; have hltaz := Ba.lt
              have hnbz := Nat.ne_of_lt Bb.lt; have hltbz := Bb.lt
              have hnrz := Nat.ne_of_lt Br.lt; have hltrz := Br.lt
              have hnoz := Nat.ne_of_lt Bo.lt; have hltoz := Bo.lt
              have hnpz := Nat.ne_of_lt Bp.lt; have hltpz := Bp.lt
              have hnqz := Nat.ne_of_lt Bq.lt; have hltqz := Bq.lt
              replace Ba : Blk (w3.alloc (.cells #[.bool true, .bool false] 89)) (w.heap.size) 24 #[uv a.v, uv a.m] := Ba.alloc _
              replace Bb : Blk (w3.alloc (.cells #[.bool true, .bool false] 89)) (w.heap.size + 1) 24 #[uv b.v, uv b.m] := Bb.alloc _
              replace Br : Blk (w3.alloc (.cells #[.bool true, .bool false] 89)) (w.heap.size + 1 + 1) 24 #[x, y] := Br.alloc _
              replace Bo : Blk (w3.alloc (.cells #[.bool true, .bool false] 89)) (w.heap.size + 1 + 1 + 1) 24 #[uv (F n).v, uv (F n).m] := Bo.alloc _
              replace Bp : Blk (w3.alloc (.cells #[.bool true, .bool false] 89)) (gp) 89 #[.bool true, .bool true] := Bp.alloc _
              replace Bq : Blk (w3.alloc (.cells #[.bool true, .bool false] 89)) (gq) 89 #[.bool true, .bool false] := Bq.alloc _
              replace hB : Below w.heap.size w (w3.alloc (.cells #[.bool true, .bool false] 89)) := Bl_alloc hB _
              generalize (w3.alloc (.cells #[.bool true, .bool false] 89)) = w4 at *
              generalize w3.heap.size = gz at *
              obtain ⟨ca0, ca1⟩ := cells2 Ba
              have fa := Ba.frozen; have la := Ba.lt
              obtain ⟨cb0, cb1⟩ := cells2 Bb
              have fb := Bb.frozen; have lb := Bb.lt
              obtain ⟨cr0, cr1⟩ := cells2 Br
              have fr := Br.frozen; have lr := Br.lt
              obtain ⟨co0, co1⟩ := cells2 Bo
              have fo := Bo.frozen; have lo := Bo.lt
              obtain ⟨cp0, cp1⟩ := cells2 Bp
              have fp := Bp.frozen; have lp := Bp.lt
              obtain ⟨cq0, cq1⟩ := cells2 Bq
              have fq := Bq.frozen; have lq := Bq.lt
              obtain ⟨cz0, cz1⟩ := cells2 Bz
              have fz := Bz.frozen; have lz := Bz.lt
              have hOk2 : Ok (n + 1) := Hok1.out rfl
              go_wp2_with fail
              refine (k_s _).mono ?_
              rintro e w5 ⟨rfl, hb⟩
              clear ca0 ca1 fa la
              clear cb0 cb1 fb lb
              clear cr0 cr1 fr lr
              clear co0 co1 fo lo
              clear cp0 cp1 fp lp
              clear cq0 cq1 fq lq
              clear cz0 cz1 fz lz
              replace Ba := (Ba).next hb
              replace Bb := (Bb).next hb
              replace Br := (Br).next hb
              replace Bo := (Bo).next hb
              replace Bp := (Bp).next hb
              replace Bq := (Bq).next hb
              replace Bz := (Bz).next hb
              replace hB : Below w.heap.size w w5 := by repeat (first | exact hB | (refine Bl_set ?_ (by first | omega | (simp; omega)) _) | apply Bl_alloc | (refine Bl_trans ?_ hb))
              clear hb
              obtain ⟨ca0, ca1⟩ := cells2 Ba
              have fa := Ba.frozen; have la := Ba.lt
              obtain ⟨cb0, cb1⟩ := cells2 Bb
              have fb := Bb.frozen; have lb := Bb.lt
              obtain ⟨cr0, cr1⟩ := cells2 Br
              have fr := Br.frozen; have lr := Br.lt
              obtain ⟨co0, co1⟩ := cells2 Bo
              have fo := Bo.frozen; have lo := Bo.lt
              obtain ⟨cp0, cp1⟩ := cells2 Bp
              have fp := Bp.frozen; have lp := Bp.lt
              obtain ⟨cq0, cq1⟩ := cells2 Bq
              have fq := Bq.frozen; have lq := Bq.lt
              obtain ⟨cz0, cz1⟩ := cells2 Bz
              have fz := Bz.frozen; have lz := Bz.lt
              go_upto_region 4 with fail
              clear ca0 ca1 fa la
              clear cb0 cb1 fb lb
              clear cr0 cr1 fr lr
              clear co0 co1 fo lo
              clear cp0 cp1 fp lp
              clear cq0 cq1 fq lq
              clear cz0 cz1 fz lz
              replace Ba : Blk ((w5.setCell ⟨w.heap.size + 1 + 1 + 1, 0, none⟩ (uv (F (n + 1)).v)).setCell ⟨w.heap.size + 1 + 1 + 1, 1, none⟩ (uv (F (n + 1)).m)) (w.heap.size) 24 #[uv a.v, uv a.m] := ((Ba.far (by first | (simp; done) | (simp; omega) | (simp [*]; done) | (simp only [ne_eq]; constructor <;> omega)) _).far (by first | (simp; done) | (simp; omega) | (simp [*]; done) | (simp only [ne_eq]; constructor <;> omega)) _)
              replace Bb : Blk ((w5.setCell ⟨w.heap.size + 1 + 1 + 1, 0, none⟩ (uv (F (n + 1)).v)).setCell ⟨w.heap.size + 1 + 1 + 1, 1, none⟩ (uv (F (n + 1)).m)) (w.heap.size + 1) 24 #[uv b.v, uv b.m] := ((Bb.far (by first | (simp; done) | (simp; omega) | (simp [*]; done) | (simp only [ne_eq]; constructor <;> omega)) _).far (by first | (simp; done) | (simp; omega) | (simp [*]; done) | (simp only [ne_eq]; constructor <;> omega)) _)
              replace Br : Blk ((w5.setCell ⟨w.heap.size + 1 + 1 + 1, 0, none⟩ (uv (F (n + 1)).v)).setCell ⟨w.heap.size + 1 + 1 + 1, 1, none⟩ (uv (F (n + 1)).m)) (w.heap.size + 1 + 1) 24 #[x, y] := ((Br.far (by first | (simp; done) | (simp; omega) | (simp [*]; done) | (simp only [ne_eq]; constructor <;> omega)) _).far (by first | (simp; done) | (simp; omega) | (simp [*]; done) | (simp only [ne_eq]; constructor <;> omega)) _)
              replace Bo : Blk ((w5.setCell ⟨w.heap.size + 1 + 1 + 1, 0, none⟩ (uv (F (n + 1)).v)).setCell ⟨w.heap.size + 1 + 1 + 1, 1, none⟩ (uv (F (n + 1)).m)) (w.heap.size + 1 + 1 + 1) 24 #[uv (F (n + 1)).v, uv (F (n + 1)).m] := ((Bo.set_ 0 _).set_ 1 _)
              replace Bp : Blk ((w5.setCell ⟨w.heap.size + 1 + 1 + 1, 0, none⟩ (uv (F (n + 1)).v)).setCell ⟨w.heap.size + 1 + 1 + 1, 1, none⟩ (uv (F (n + 1)).m)) (gp) 89 #[.bool true, .bool true] := ((Bp.far (by first | (simp; done) | (simp; omega) | (simp [*]; done) | (simp only [ne_eq]; constructor <;> omega)) _).far (by first | (simp; done) | (simp; omega) | (simp [*]; done) | (simp only [ne_eq]; constructor <;> omega)) _)
              replace Bq : Blk ((w5.setCell ⟨w.heap.size + 1 + 1 + 1, 0, none⟩ (uv (F (n + 1)).v)).setCell ⟨w.heap.size + 1 + 1 + 1, 1, none⟩ (uv (F (n + 1)).m)) (gq) 89 #[.bool true, .bool false] := ((Bq.far (by first | (simp; done) | (simp; omega) | (simp [*]; done) | (simp only [ne_eq]; constructor <;> omega)) _).far (by first | (simp; done) | (simp; omega) | (simp [*]; done) | (simp only [ne_eq]; constructor <;> omega)) _)
              replace Bz : Blk ((w5.setCell ⟨w.heap.size + 1 + 1 + 1, 0, none⟩ (uv (F (n + 1)).v)).setCell ⟨w.heap.size + 1 + 1 + 1, 1, none⟩ (uv (F (n + 1)).m)) (gz) 89 #[.bool true, .bool false] := ((Bz.far (by first | (simp; done) | (simp; omega) | (simp [*]; done) | (simp only [ne_eq]; constructor <;> omega)) _).far (by first | (simp; done) | (simp; omega) | (simp [*]; done) | (simp only [ne_eq]; constructor <;> omega)) _)
              replace hB : Below w.heap.size w ((w5.setCell ⟨w.heap.size + 1 + 1 + 1, 0, none⟩ (uv (F (n + 1)).v)).setCell ⟨w.heap.size + 1 + 1 + 1, 1, none⟩ (uv (F (n + 1)).m)) := (Bl_set (Bl_set hB (by first | omega | (simp; done) | (simp; omega)) _) (by first | omega | (simp; done) | (simp; omega)) _)
              generalize ((w5.setCell ⟨w.heap.size + 1 + 1 + 1, 0, none⟩ (uv (F (n + 1)).v)).setCell ⟨w.heap.size + 1 + 1 + 1, 1, none⟩ (uv (F (n + 1)).m)) = w6 at *
              obtain ⟨ca0, ca1⟩ := cells2 Ba
              have fa := Ba.frozen; have la := Ba.lt
              obtain ⟨cb0, cb1⟩ := cells2 Bb
              have fb := Bb.frozen; have lb := Bb.lt
              obtain ⟨cr0, cr1⟩ := cells2 Br
              have fr := Br.frozen; have lr := Br.lt
              obtain ⟨co0, co1⟩ := cells2 Bo
              have fo := Bo.frozen; have lo := Bo.lt
              obtain ⟨cp0, cp1⟩ := cells2 Bp
              have fp := Bp.frozen; have lp := Bp.lt
              obtain ⟨cq0, cq1⟩ := cells2 Bq
              have fq := Bq.frozen; have lq := Bq.lt
              obtain ⟨cz0, cz1⟩ := cells2 Bz
              have fz := Bz.frozen; have lz := Bz.lt
              go_wp2_with fail
              go_roundg (63 - n)
              case measure => omega
              case rel => exact ⟨n + 1, by omega, by omega, by go_num, hB, hOk2, Ba, Bb, ⟨_, _, Br⟩, Bo⟩
            · simp only [Bool.true_and, Bool.false_and] at k_s
              go_upto_region 7 with fail
              clear ca0 ca1 fa la
              clear cb0 cb1 fb lb
              clear cr0 cr1 fr lr
              clear co0 co1 fo lo
              clear cp0 cp1 fp lp
              clear cq0 cq1 fq lq
              have Bz := Blk.new w3 89 #[.bool true, .bool true]
              have hgz := hB.size
              have hnaz := Nat.ne_of_lt Ba.lt; have hltaz := Ba.lt
              have hnbz := Nat.ne_of_lt Bb.lt; have hltbz := Bb.lt
              have hnrz := Nat.ne_of_lt Br.lt; have hltrz := Br.lt
              have hnoz := Nat.ne_of_lt Bo.lt; have hltoz := Bo.lt
              have hnpz := Nat.ne_of_lt Bp.lt; have hltpz := Bp.lt
              have hnqz := Nat.ne_of_lt Bq.lt; have hltqz := Bq.lt
              replace Ba : Blk (w3.alloc (.cells #[.bool true, .bool true] 89)) (w.heap.size) 24 #[uv a.v, uv a.m] := Ba.alloc _
              replace Bb : Blk (w3.alloc (.cells #[.bool true, .bool true] 89)) (w.heap.size + 1) 24 #[uv b.v, uv b.m] := Bb.alloc _
              replace Br : Blk (w3.alloc (.cells #[.bool true, .bool true] 89)) (w.heap.size + 1 + 1) 24 #[x, y] := Br.alloc _
              replace Bo : Blk (w3.alloc (.cells #[.bool true, .bool true] 89)) (w.heap.size + 1 + 1 + 1) 24 #[uv (F n).v, uv (F n).m] := Bo.alloc _
              replace Bp : Blk (w3.alloc (.cells #[.bool true, .bool true] 89)) (gp) 89 #[.bool true, .bool true] := Bp.alloc _
              replace Bq : Blk (w3.alloc (.cells #[.bool true, .bool true] 89)) (gq) 89 #[.bool true, .bool true] := Bq.alloc _
              replace hB : Below w.heap.size w (w3.alloc (.cells #[.bool true, .bool true] 89)) := Bl_alloc hB _
              generalize (w3.alloc (.cells #[.bool true, .bool true] 89)) = w4 at *
              generalize w3.heap.size = gz at *
              obtain ⟨ca0, ca1⟩ := cells2 Ba
              have fa := Ba.frozen; have la := Ba.lt
              obtain ⟨cb0, cb1⟩ := cells2 Bb
              have fb := Bb.frozen; have lb := Bb.lt
              obtain ⟨cr0, cr1⟩ := cells2 Br
              have fr := Br.frozen; have lr := Br.lt
              obtain ⟨co0, co1⟩ := cells2 Bo
              have fo := Bo.frozen; have lo := Bo.lt
              obtain ⟨cp0, cp1⟩ := cells2 Bp
              have fp := Bp.frozen; have lp := Bp.lt
              obtain ⟨cq0, cq1⟩ := cells2 Bq
              have fq := Bq.frozen; have lq := Bq.lt
              obtain ⟨cz0, cz1⟩ := cells2 Bz
              have fz := Bz.frozen; have lz := Bz.lt
              have hOk2 : Ok (n + 1) := Hok1.out rfl
              go_wp2_with fail
              refine (k_s _).mono ?_
              rintro e w5 ⟨rfl, hb⟩
              clear ca0 ca1 fa la
              clear cb0 cb1 fb lb
              clear cr0 cr1 fr lr
              clear co0 co1 fo lo
              clear cp0 cp1 fp lp
              clear cq0 cq1 fq lq
              clear cz0 cz1 fz lz
              replace Ba := (Ba).next hb
              replace Bb := (Bb).next hb
              replace Br := (Br).next hb
              replace Bo := (Bo).next hb
              replace Bp := (Bp).next hb
              replace Bq := (Bq).next hb
              replace Bz := (Bz).next hb
              replace hB : Below w.heap.size w w5 := by repeat (first | exact hB | (refine Bl_set ?_ (by first | omega | (simp; omega)) _) | apply Bl_alloc | (refine Bl_trans ?_ hb))
              clear hb
              obtain ⟨ca0, ca1⟩ := cells2 Ba
              have fa := Ba.frozen; have la := Ba.lt
              obtain ⟨cb0, cb1⟩ := cells2 Bb
              have fb := Bb.frozen; have lb := Bb.lt
              obtain ⟨cr0, cr1⟩ := cells2 Br
              have fr := Br.frozen; have lr := Br.lt
              obtain ⟨co0, co1⟩ := cells2 Bo
              have fo := Bo.frozen; have lo := Bo.lt
              obtain ⟨cp0, cp1⟩ := cells2 Bp
              have fp := Bp.frozen; have lp := Bp.lt
              obtain ⟨cq0, cq1⟩ := cells2 Bq
              have fq := Bq.frozen; have lq := Bq.lt
              obtain ⟨cz0, cz1⟩ := cells2 Bz
              have fz := Bz.frozen; have lz := Bz.lt
              go_upto_region 4 with fail
              clear ca0 ca1 fa la
              clear cb0 cb1 fb lb
              clear cr0 cr1 fr lr
              clear co0 co1 fo lo
              clear cp0 cp1 fp lp
              clear cq0 cq1 fq lq
              clear cz0 cz1 fz lz
              replace Ba : Blk ((w5.setCell ⟨w.heap.size + 1 + 1 + 1, 0, none⟩ (uv (F (n + 1)).v)).setCell ⟨w.heap.size + 1 + 1 + 1, 1, none⟩ (uv (F (n + 1)).m)) (w.heap.size) 24 #[uv a.v, uv a.m] := ((Ba.far (by first | (simp; done) | (simp; omega) | (simp [*]; done) | (simp only [ne_eq]; constructor <;> omega)) _).far (by first | (simp; done) | (simp; omega) | (simp [*]; done) | (simp only [ne_eq]; constructor <;> omega)) _)
              replace Bb : Blk ((w5.setCell ⟨w.heap.size + 1 + 1 + 1, 0, none⟩ (uv (F (n + 1)).v)).setCell ⟨w.heap.size + 1 + 1 + 1, 1, none⟩ (uv (F (n + 1)).m)) (w.heap.size + 1) 24 #[uv b.v, uv b.m] := ((Bb.far (by first | (simp; done) | (simp; omega) | (simp [*]; done) | (simp only [ne_eq]; constructor <;> omega)) _).far (by first | (simp; done) | (simp; omega) | (simp [*]; done) | (simp only [ne_eq]; constructor <;> omega)) _)
              replace Br : Blk ((w5.setCell ⟨w.heap.size + 1 + 1 + 1, 0, none⟩ (uv (F (n + 1)).v)).setCell ⟨w.heap.size + 1 + 1 + 1, 1, none⟩ (uv (F (n + 1)).m)) (w.heap.size + 1 + 1) 24 #[x, y] := ((Br.far (by first | (simp; done) | (simp; omega) | (simp [*]; done) | (simp only [ne_eq]; constructor <;> omega)) _).far (by first | (simp; done) | (simp; omega) | (simp [*]; done) | (simp only [ne_eq]; constructor <;> omega)) _)
              replace Bo : Blk ((w5.setCell ⟨w.heap.size + 1 + 1 + 1, 0, none⟩ (uv (F (n + 1)).v)).setCell ⟨w.heap.size + 1 + 1 + 1, 1, none⟩ (uv (F (n + 1)).m)) (w.heap.size + 1 + 1 + 1) 24 #[uv (F (n + 1)).v, uv (F (n + 1)).m] := ((Bo.set_ 0 _).set_ 1 _)
              replace Bp : Blk ((w5.setCell ⟨w.heap.size + 1 + 1 + 1, 0, none⟩ (uv (F (n + 1)).v)).setCell ⟨w.heap.size + 1 + 1 + 1, 1, none⟩ (uv (F (n + 1)).m)) (gp) 89 #[.bool true, .bool true] := ((Bp.far (by first | (simp; done) | (simp; omega) | (simp [*]; done) | (simp only [ne_eq]; constructor <;> omega)) _).far (by first | (simp; done) | (simp; omega) | (simp [*]; done) | (simp only [ne_eq]; constructor <;> omega)) _)
              replace Bq : Blk ((w5.setCell ⟨w.heap.size + 1 + 1 + 1, 0, none⟩ (uv (F (n + 1)).v)).setCell ⟨w.heap.size + 1 + 1 + 1, 1, none⟩ (uv (F (n + 1)).m)) (gq) 89 #[.bool true, .bool true] := ((Bq.far (by first | (simp; done) | (simp; omega) | (simp [*]; done) | (simp only [ne_eq]; constructor <;> omega)) _).far (by first | (simp; done) | (simp; omega) | (simp [*]; done) | (simp only [ne_eq]; constructor <;> omega)) _)
              replace Bz : Blk ((w5.setCell ⟨w.heap.size + 1 + 1 + 1, 0, none⟩ (uv (F (n + 1)).v)).setCell ⟨w.heap.size + 1 + 1 + 1, 1, none⟩ (uv (F (n + 1)).m)) (gz) 89 #[.bool true, .bool true] := ((Bz.far (by first | (simp; done) | (simp; omega) | (simp [*]; done) | (simp only [ne_eq]; constructor <;> omega)) _).far (by first | (simp; done) | (simp; omega) | (simp [*]; done) | (simp only [ne_eq]; constructor <;> omega)) _)
              replace hB : Below w.heap.size w ((w5.setCell ⟨w.heap.size + 1 + 1 + 1, 0, none⟩ (uv (F (n + 1)).v)).setCell ⟨w.heap.size + 1 + 1 + 1, 1, none⟩ (uv (F (n + 1)).m)) := (Bl_set (Bl_set hB (by first | omega | (simp; done) | (simp; omega)) _) (by first | omega | (simp; done) | (simp; omega)) _)
              generalize ((w5.setCell ⟨w.heap.size + 1 + 1 + 1, 0, none⟩ (uv (F (n + 1)).v)).setCell ⟨w.heap.size + 1 + 1 + 1, 1, none⟩ (uv (F (n + 1)).m)) = w6 at *
              obtain ⟨ca0, ca1⟩ := cells2 Ba
              have fa := Ba.frozen; have la := Ba.lt
              obtain ⟨cb0, cb1⟩ := cells2 Bb
              have fb := Bb.frozen; have lb := Bb.lt
              obtain ⟨cr0, cr1⟩ := cells2 Br
              have fr := Br.frozen; have lr := Br.lt
              obtain ⟨co0, co1⟩ := cells2 Bo
              have fo := Bo.frozen; have lo := Bo.lt
              obtain ⟨cp0, cp1⟩ := cells2 Bp
              have fp := Bp.frozen; have lp := Bp.lt
              obtain ⟨cq0, cq1⟩ := cells2 Bq
              have fq := Bq.frozen; have lq := Bq.lt
              obtain ⟨cz0, cz1⟩ := cells2 Bz
              have fz := Bz.frozen; have lz := Bz.lt
              go_wp2_with fail
              go_roundg (63 - n)
              case measure => omega
              case rel => exact ⟨n + 1, by omega, by omega, by go_num, hB, hOk2, Ba, Bb, ⟨_, _, Br⟩, Bo⟩
end Go.Proofs.Ytmghpoagpiljhaa
