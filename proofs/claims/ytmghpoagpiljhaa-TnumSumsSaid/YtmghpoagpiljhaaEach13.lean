/- The loops in one another of the reference of layer 13: Each. -/
import Derived.Test.YtmghpoagpiljhaaSum13
set_option linter.unusedSimpArgs false
namespace Go.Proofs.Ytmghpoagpiljhaa
open Go.RowKit
open PlainTnum (N May)
set_option maxRecDepth 100000 in
set_option maxHeartbeats 4000000 in
theorem reach_0 (a b : N) (w : World) : Calls Try.prog 40 #[nv a, nv b, .int .i64 0] w fun e w' => e = .returned (nv (PlainTnum.build (PlainTnum.eachF 0 a b) 64)) ∧ Below w.heap.size w w' := by
  obtain ⟨F, e_F⟩ : ∃ z' : Nat → N, z' = PlainTnum.build (PlainTnum.eachF 0 a b) := ⟨_, rfl⟩
  have h0 : F 0 = ⟨0#64, 0#64⟩ := by rw [e_F]; rfl
  have hs : ∀ n, F (n + 1) = PlainTnum.setN (F n) n (PlainTnum.eachSt 0 (PlainTnum.bitsOf a n) (PlainTnum.bitsOf b n) 4) := fun n => by rw [PlainTnum.eachSt_4 0 (by omega), e_F]; rfl
  rw [← e_F]
  clear e_F
  have ix0 : ∀ (u v z : Value) (w : World), (Instr.index 91 (.agg #[u, v, z]) (.int .i64 0)).run Try.prog w = .ok u w := fun _ _ _ _ => by kernel_rfl
  have band00 : bits .and .i64 0 0 = 0 := by decide
  have bor00 : bits .or .i64 0 0 = 0 := by decide
  have bxor00 : bits .xor .i64 0 0 = 0 := by decide
  have band01 : bits .and .i64 0 1 = 0 := by decide
  have bor01 : bits .or .i64 0 1 = 1 := by decide
  have bxor01 : bits .xor .i64 0 1 = 1 := by decide
  have band10 : bits .and .i64 1 0 = 0 := by decide
  have bor10 : bits .or .i64 1 0 = 1 := by decide
  have bxor10 : bits .xor .i64 1 0 = 1 := by decide
  have band11 : bits .and .i64 1 1 = 1 := by decide
  have bor11 : bits .or .i64 1 1 = 1 := by decide
  have bxor11 : bits .xor .i64 1 1 = 0 := by decide
  go_enter Try.func40, Try.ntmps40
  go_wp2_with fail
  obtain ⟨ga, hga⟩ : ∃ g, g = w.heap.size := ⟨_, rfl⟩
  obtain ⟨gb, hgb⟩ : ∃ g, g = w.heap.size + 1 := ⟨_, rfl⟩
  obtain ⟨gr, hgr⟩ : ∃ g, g = w.heap.size + 1 + 1 := ⟨_, rfl⟩
  obtain ⟨go, hgo⟩ : ∃ g, g = w.heap.size + 1 + 1 + 1 := ⟨_, rfl⟩
  have Ba : Blk ((((w.alloc (.cells #[uv a.v, uv a.m] 24)).alloc (.cells #[uv b.v, uv b.m] 24)).alloc (.cells #[.int .u64 0, .int .u64 0] 24)).alloc (.cells #[.int .u64 0, .int .u64 0] 24)) (w.heap.size) 24 #[uv a.v, uv a.m] := ((((Blk.new w 24 #[uv a.v, uv a.m])).alloc _).alloc _).alloc _
  have Bb : Blk ((((w.alloc (.cells #[uv a.v, uv a.m] 24)).alloc (.cells #[uv b.v, uv b.m] 24)).alloc (.cells #[.int .u64 0, .int .u64 0] 24)).alloc (.cells #[.int .u64 0, .int .u64 0] 24)) (w.heap.size + 1) 24 #[uv b.v, uv b.m] := (((by simpa using Blk.new (w.alloc (.cells #[uv a.v, uv a.m] 24)) 24 #[uv b.v, uv b.m] : Blk _ (w.heap.size + 1) 24 #[uv b.v, uv b.m])).alloc _).alloc _
  have Br : Blk ((((w.alloc (.cells #[uv a.v, uv a.m] 24)).alloc (.cells #[uv b.v, uv b.m] 24)).alloc (.cells #[.int .u64 0, .int .u64 0] 24)).alloc (.cells #[.int .u64 0, .int .u64 0] 24)) (w.heap.size + 1 + 1) 24 #[.int .u64 0, .int .u64 0] := ((by simpa using Blk.new ((w.alloc (.cells #[uv a.v, uv a.m] 24)).alloc (.cells #[uv b.v, uv b.m] 24)) 24 #[.int .u64 0, .int .u64 0] : Blk _ (w.heap.size + 1 + 1) 24 #[.int .u64 0, .int .u64 0])).alloc _
  have Bo : Blk ((((w.alloc (.cells #[uv a.v, uv a.m] 24)).alloc (.cells #[uv b.v, uv b.m] 24)).alloc (.cells #[.int .u64 0, .int .u64 0] 24)).alloc (.cells #[.int .u64 0, .int .u64 0] 24)) (w.heap.size + 1 + 1 + 1) 24 #[.int .u64 0, .int .u64 0] := (by simpa using Blk.new (((w.alloc (.cells #[uv a.v, uv a.m] 24)).alloc (.cells #[uv b.v, uv b.m] 24)).alloc (.cells #[.int .u64 0, .int .u64 0] 24)) 24 #[.int .u64 0, .int .u64 0] : Blk _ (w.heap.size + 1 + 1 + 1) 24 #[.int .u64 0, .int .u64 0])
  have hB : Below w.heap.size w ((((w.alloc (.cells #[uv a.v, uv a.m] 24)).alloc (.cells #[uv b.v, uv b.m] 24)).alloc (.cells #[.int .u64 0, .int .u64 0] 24)).alloc (.cells #[.int .u64 0, .int .u64 0] 24)) := (Bl_alloc (Bl_alloc (Bl_alloc (Bl_alloc (Bl_refl w) _) _) _) _)
  clear hga
  clear ga
  clear hgb
  clear gb
  clear hgr
  clear gr
  clear hgo
  clear go
  generalize ((((w.alloc (.cells #[uv a.v, uv a.m] 24)).alloc (.cells #[uv b.v, uv b.m] 24)).alloc (.cells #[.int .u64 0, .int .u64 0] 24)).alloc (.cells #[.int .u64 0, .int .u64 0] 24)) = w1 at *
  obtain ⟨ca0, ca1⟩ := cells2 Ba
  have fa := Ba.frozen; have la := Ba.lt
  obtain ⟨cb0, cb1⟩ := cells2 Bb
  have fb := Bb.frozen; have lb := Bb.lt
  obtain ⟨cr0, cr1⟩ := cells2 Br
  have fr := Br.frozen; have lr := Br.lt
  obtain ⟨co0, co1⟩ := cells2 Bo
  have fo := Bo.frozen; have lo := Bo.lt
  clear ca0 ca1 fa la
  clear cb0 cb1 fb lb
  clear cr0 cr1 fr lr
  clear co0 co1 fo lo
  go_loopg [8] 64 (fun m i wr => ∃ n : Nat, n ≤ 64 ∧ m + n = 64 ∧ i = .int .i64 (n : Int) ∧ Below w.heap.size w wr ∧ Blk wr (w.heap.size) 24 #[uv a.v, uv a.m] ∧ Blk wr (w.heap.size + 1) 24 #[uv b.v, uv b.m] ∧ (∃ x y, Blk wr (w.heap.size + 1 + 1) 24 #[x, y]) ∧ Blk wr (w.heap.size + 1 + 1 + 1) 24 #[uv (F n).v, uv (F n).m])
  case atStart => exact ⟨0, by omega, by omega, rfl, hB, Ba, Bb, ⟨_, _, Br⟩, by rw [h0]; exact Bo⟩
  case round =>
    clear hB Ba Bb Br Bo
    obtain ⟨n, hn, hgk, rfl, hB, Ba, Bb, ⟨x, y, Br⟩, Bo⟩ := hrel
    obtain ⟨wo, rfl⟩ : ∃ z : World, z = wr := ⟨_, rfl⟩
    cases q : decide ((n : Int) < 64)
    · obtain ⟨ca0, ca1⟩ := cells2 Ba
      have fa := Ba.frozen; have la := Ba.lt
      obtain ⟨cb0, cb1⟩ := cells2 Bb
      have fb := Bb.frozen; have lb := Bb.lt
      obtain ⟨cr0, cr1⟩ := cells2 Br
      have fr := Br.frozen; have lr := Br.lt
      obtain ⟨co0, co1⟩ := cells2 Bo
      have fo := Bo.frozen; have lo := Bo.lt
      have eF : F n = F 64 := by have := of_decide_eq_false q; rw [show n = 64 by omega]
      clear hs h0
      go_wp2
      exact bodyPost_ret (v := nv (F 64)) (by simp [results, Try.results40, go_sem, cr0, cr1, co0, co1, lr, lo]) rfl ⟨rfl, by repeat (first | (with_reducible exact hB) | (with_reducible refine Bl_set ?_ (by first | omega | (simp; done) | (simp; omega)) _) | with_reducible apply Bl_alloc)⟩
    · have hlt : (n : Int) < 64 := of_decide_eq_true q
      have k_x := bits_n a (n : Int) n rfl (by omega); have k_y := bits_n b (n : Int) n rfl (by omega)
      have hs1 := hs n; clear hs h0
      generalize PlainTnum.bitsOf a n = X at k_x hs1; generalize PlainTnum.bitsOf b n = Y at k_y hs1; obtain ⟨x0, x1⟩ := X; obtain ⟨y0, y1⟩ := Y
      obtain ⟨V, e_V⟩ : ∃ z' : Nat → May, z' = PlainTnum.eachSt 0 (x0, x1) (y0, y1) := ⟨_, rfl⟩
      rw [← e_V] at hs1
      have g0 : V 0 = (false, false) := by rw [e_V]; rfl
      have H0 := Lib.hid (show V 1 = (if PlainTnum.sel (x0, x1) false && PlainTnum.sel (y0, y1) false then PlainTnum.put (V 0) (PlainTnum.eachOp 0 false false) else V 0) by rw [e_V]; rfl)
      have H1 := Lib.hid (show V 2 = (if PlainTnum.sel (x0, x1) false && PlainTnum.sel (y0, y1) true then PlainTnum.put (V 1) (PlainTnum.eachOp 0 false true) else V 1) by rw [e_V]; rfl)
      have H2 := Lib.hid (show V 3 = (if PlainTnum.sel (x0, x1) true && PlainTnum.sel (y0, y1) false then PlainTnum.put (V 2) (PlainTnum.eachOp 0 true false) else V 2) by rw [e_V]; rfl)
      have H3 := Lib.hid (show V 4 = (if PlainTnum.sel (x0, x1) true && PlainTnum.sel (y0, y1) true then PlainTnum.put (V 3) (PlainTnum.eachOp 0 true true) else V 3) by rw [e_V]; rfl)
      have k_s := set_n (F n) n (by omega) (V 4); rw [← hs1] at k_s; clear hs1 e_V
      obtain ⟨ca0, ca1⟩ := cells2 Ba
      have fa := Ba.frozen; have la := Ba.lt
      obtain ⟨cb0, cb1⟩ := cells2 Bb
      have fb := Bb.frozen; have lb := Bb.lt
      obtain ⟨cr0, cr1⟩ := cells2 Br
      have fr := Br.frozen; have lr := Br.lt
      obtain ⟨co0, co1⟩ := cells2 Bo
      have fo := Bo.frozen; have lo := Bo.lt
      go_upto_region 6 with fail
      clear ca0 ca1 fa la
      clear cb0 cb1 fb lb
      clear cr0 cr1 fr lr
      clear co0 co1 fo lo
      have Bm := Blk.new wo 89 #[.bool false, .bool false]
      have hgm := hB.size
      have hnam := Nat.ne_of_lt Ba.lt; have hltam := Ba.lt
      have hnbm := Nat.ne_of_lt Bb.lt; have hltbm := Bb.lt
      have hnrm := Nat.ne_of_lt Br.lt; have hltrm := Br.lt
      have hnom := Nat.ne_of_lt Bo.lt; have hltom := Bo.lt
      replace Ba : Blk (wo.alloc (.cells #[.bool false, .bool false] 89)) (w.heap.size) 24 #[uv a.v, uv a.m] := Ba.alloc _
      replace Bb : Blk (wo.alloc (.cells #[.bool false, .bool false] 89)) (w.heap.size + 1) 24 #[uv b.v, uv b.m] := Bb.alloc _
      replace Br : Blk (wo.alloc (.cells #[.bool false, .bool false] 89)) (w.heap.size + 1 + 1) 24 #[x, y] := Br.alloc _
      replace Bo : Blk (wo.alloc (.cells #[.bool false, .bool false] 89)) (w.heap.size + 1 + 1 + 1) 24 #[uv (F n).v, uv (F n).m] := Bo.alloc _
      replace hB : Below w.heap.size w (wo.alloc (.cells #[.bool false, .bool false] 89)) := Bl_alloc hB _
      generalize (wo.alloc (.cells #[.bool false, .bool false] 89)) = w2 at *
      generalize wo.heap.size = gm at *
      obtain ⟨ca0, ca1⟩ := cells2 Ba
      have fa := Ba.frozen; have la := Ba.lt
      obtain ⟨cb0, cb1⟩ := cells2 Bb
      have fb := Bb.frozen; have lb := Bb.lt
      obtain ⟨cr0, cr1⟩ := cells2 Br
      have fr := Br.frozen; have lr := Br.lt
      obtain ⟨co0, co1⟩ := cells2 Bo
      have fo := Bo.frozen; have lo := Bo.lt
      obtain ⟨cm0, cm1⟩ := cells2 Bm
      have fm := Bm.frozen; have lm := Bm.lt
      go_wp2_with fail
      clear ca0 ca1; obtain ⟨ca0, ca1⟩ := lcells2 Ba
      clear cb0 cb1; obtain ⟨cb0, cb1⟩ := lcells2 Bb
      clear cr0 cr1; obtain ⟨cr0, cr1⟩ := lcells2 Br
      clear co0 co1; obtain ⟨co0, co1⟩ := lcells2 Bo
      clear cm0 cm1; obtain ⟨cm0, cm1⟩ := lcells2 Bm
      refine wp_region_mix 8 (fun _ => #[.bool false, .bool false]) (by kernel_rfl) (by kernel_rfl) (fun o t ho ht => by
        simp at ho
        rcases ho with rfl | rfl | rfl | rfl | rfl | rfl | rfl | rfl <;> first | (cases ht; done) | (obtain rfl := Option.some.inj ht; exact fun ρ w => new_mb ht ρ w)) ?_
      simp only [List.take_succ_cons, List.take_zero, List.drop_succ_cons, List.drop_zero]
      repeat ((with_reducible refine wpMix_step (fun K hK => ?_)); go_simp; first | ((with_reducible refine hK _ ?_); clear hK K) | (rw [if_neg (by decide)]; (with_reducible refine hK _ ?_); clear hK K) | (apply Exists.intro; refine ⟨fun g => ?_, hK _ ?_⟩; ((with_reducible refine Calls.mono (k_x g.w) ?_); exact fun _ _ h => h); clear hK K) | (apply Exists.intro; refine ⟨fun g => ?_, hK _ ?_⟩; ((with_reducible refine Calls.mono (k_y g.w) ?_); exact fun _ _ h => h); clear hK K))
      refine wpMix_nil ?_
      intro G w3 hgr hblk hdist
      have hb : Below w2.heap.size w2 w3 := hgr
      replace Ba := Ba.next hb
      replace Bb := Bb.next hb
      replace Br := Br.next hb
      replace Bo := Bo.next hb
      replace Bm := Bm.next hb
      obtain ⟨Bp, hlp⟩ := hblk 6 _ rfl
      obtain ⟨Bq, hlq⟩ := hblk 7 _ rfl
      have hdpq := hdist 6 7 _ _ rfl rfl (by decide)
      have hgp : w.heap.size ≤ G 6 := Nat.le_trans hB.size hlp
      have hnap : w.heap.size ≠ G 6 := Nat.ne_of_lt (Nat.lt_of_lt_of_le la hlp)
      have hnbp : w.heap.size + 1 ≠ G 6 := Nat.ne_of_lt (Nat.lt_of_lt_of_le lb hlp)
      have hnrp : w.heap.size + 1 + 1 ≠ G 6 := Nat.ne_of_lt (Nat.lt_of_lt_of_le lr hlp)
      have hnop : w.heap.size + 1 + 1 + 1 ≠ G 6 := Nat.ne_of_lt (Nat.lt_of_lt_of_le lo hlp)
      have hnmp : gm ≠ G 6 := Nat.ne_of_lt (Nat.lt_of_lt_of_le lm hlp)
      clear hlp
      have hgq : w.heap.size ≤ G 7 := Nat.le_trans hB.size hlq
      have hnaq : w.heap.size ≠ G 7 := Nat.ne_of_lt (Nat.lt_of_lt_of_le la hlq)
      have hnbq : w.heap.size + 1 ≠ G 7 := Nat.ne_of_lt (Nat.lt_of_lt_of_le lb hlq)
      have hnrq : w.heap.size + 1 + 1 ≠ G 7 := Nat.ne_of_lt (Nat.lt_of_lt_of_le lr hlq)
      have hnoq : w.heap.size + 1 + 1 + 1 ≠ G 7 := Nat.ne_of_lt (Nat.lt_of_lt_of_le lo hlq)
      have hnmq : gm ≠ G 7 := Nat.ne_of_lt (Nat.lt_of_lt_of_le lm hlq)
      clear hlq
      clear ca0 ca1 fa la
      clear cb0 cb1 fb lb
      clear cr0 cr1 fr lr
      clear co0 co1 fo lo
      clear cm0 cm1 fm lm
      replace hB : Below w.heap.size w w3 := Bl_trans hB hb
      simp only [putAll, isAlloc, Act.put]
      generalize G 6 = gp at *
      generalize G 7 = gq at *
      clear hb hgr hblk hdist
      obtain ⟨ca0, ca1⟩ := cells2 Ba
      have fa := Ba.frozen; have la := Ba.lt
      obtain ⟨cb0, cb1⟩ := cells2 Bb
      have fb := Bb.frozen; have lb := Bb.lt
      obtain ⟨cr0, cr1⟩ := cells2 Br
      have fr := Br.frozen; have lr := Br.lt
      obtain ⟨co0, co1⟩ := cells2 Bo
      have fo := Bo.frozen; have lo := Bo.lt
      obtain ⟨cm0, cm1⟩ := cells2 Bm
      have fm := Bm.frozen; have lm := Bm.lt
      obtain ⟨cp0, cp1⟩ := cells2 Bp
      have fp := Bp.frozen; have lp := Bp.lt
      obtain ⟨cq0, cq1⟩ := cells2 Bq
      have fq := Bq.frozen; have lq := Bq.lt
      go_upto_region 7 with fail
      clear ca0 ca1 fa la
      clear cb0 cb1 fb lb
      clear cr0 cr1 fr lr
      clear co0 co1 fo lo
      clear cm0 cm1 fm lm
      clear cp0 cp1 fp lp
      clear cq0 cq1 fq lq
      replace Ba : Blk ((w3.setCell ⟨gp, 0, none⟩ (.bool x0)).setCell ⟨gp, 1, none⟩ (.bool x1)) (w.heap.size) 24 #[uv a.v, uv a.m] := ((Ba.far (by first | (simp; done) | (simp; omega) | (simp [*]; done) | (simp only [ne_eq]; constructor <;> omega)) _).far (by first | (simp; done) | (simp; omega) | (simp [*]; done) | (simp only [ne_eq]; constructor <;> omega)) _)
      replace Bb : Blk ((w3.setCell ⟨gp, 0, none⟩ (.bool x0)).setCell ⟨gp, 1, none⟩ (.bool x1)) (w.heap.size + 1) 24 #[uv b.v, uv b.m] := ((Bb.far (by first | (simp; done) | (simp; omega) | (simp [*]; done) | (simp only [ne_eq]; constructor <;> omega)) _).far (by first | (simp; done) | (simp; omega) | (simp [*]; done) | (simp only [ne_eq]; constructor <;> omega)) _)
      replace Br : Blk ((w3.setCell ⟨gp, 0, none⟩ (.bool x0)).setCell ⟨gp, 1, none⟩ (.bool x1)) (w.heap.size + 1 + 1) 24 #[x, y] := ((Br.far (by first | (simp; done) | (simp; omega) | (simp [*]; done) | (simp only [ne_eq]; constructor <;> omega)) _).far (by first | (simp; done) | (simp; omega) | (simp [*]; done) | (simp only [ne_eq]; constructor <;> omega)) _)
      replace Bo : Blk ((w3.setCell ⟨gp, 0, none⟩ (.bool x0)).setCell ⟨gp, 1, none⟩ (.bool x1)) (w.heap.size + 1 + 1 + 1) 24 #[uv (F n).v, uv (F n).m] := ((Bo.far (by first | (simp; done) | (simp; omega) | (simp [*]; done) | (simp only [ne_eq]; constructor <;> omega)) _).far (by first | (simp; done) | (simp; omega) | (simp [*]; done) | (simp only [ne_eq]; constructor <;> omega)) _)
      replace Bm : Blk ((w3.setCell ⟨gp, 0, none⟩ (.bool x0)).setCell ⟨gp, 1, none⟩ (.bool x1)) (gm) 89 #[.bool false, .bool false] := ((Bm.far (by first | (simp; done) | (simp; omega) | (simp [*]; done) | (simp only [ne_eq]; constructor <;> omega)) _).far (by first | (simp; done) | (simp; omega) | (simp [*]; done) | (simp only [ne_eq]; constructor <;> omega)) _)
      replace Bp : Blk ((w3.setCell ⟨gp, 0, none⟩ (.bool x0)).setCell ⟨gp, 1, none⟩ (.bool x1)) (gp) 89 #[.bool x0, .bool x1] := ((Bp.set_ 0 _).set_ 1 _)
      replace Bq : Blk ((w3.setCell ⟨gp, 0, none⟩ (.bool x0)).setCell ⟨gp, 1, none⟩ (.bool x1)) (gq) 89 #[.bool false, .bool false] := ((Bq.far (by first | (simp; done) | (simp; omega) | (simp [*]; done) | (simp only [ne_eq]; constructor <;> omega)) _).far (by first | (simp; done) | (simp; omega) | (simp [*]; done) | (simp only [ne_eq]; constructor <;> omega)) _)
      replace hB : Below w.heap.size w ((w3.setCell ⟨gp, 0, none⟩ (.bool x0)).setCell ⟨gp, 1, none⟩ (.bool x1)) := (Bl_set (Bl_set hB (by first | omega | (simp; done) | (simp; omega)) _) (by first | omega | (simp; done) | (simp; omega)) _)
      replace Ba : Blk ((((w3.setCell ⟨gp, 0, none⟩ (.bool x0)).setCell ⟨gp, 1, none⟩ (.bool x1)).setCell ⟨gq, 0, none⟩ (.bool y0)).setCell ⟨gq, 1, none⟩ (.bool y1)) (w.heap.size) 24 #[uv a.v, uv a.m] := ((Ba.far (by first | (simp; done) | (simp; omega) | (simp [*]; done) | (simp only [ne_eq]; constructor <;> omega)) _).far (by first | (simp; done) | (simp; omega) | (simp [*]; done) | (simp only [ne_eq]; constructor <;> omega)) _)
      replace Bb : Blk ((((w3.setCell ⟨gp, 0, none⟩ (.bool x0)).setCell ⟨gp, 1, none⟩ (.bool x1)).setCell ⟨gq, 0, none⟩ (.bool y0)).setCell ⟨gq, 1, none⟩ (.bool y1)) (w.heap.size + 1) 24 #[uv b.v, uv b.m] := ((Bb.far (by first | (simp; done) | (simp; omega) | (simp [*]; done) | (simp only [ne_eq]; constructor <;> omega)) _).far (by first | (simp; done) | (simp; omega) | (simp [*]; done) | (simp only [ne_eq]; constructor <;> omega)) _)
      replace Br : Blk ((((w3.setCell ⟨gp, 0, none⟩ (.bool x0)).setCell ⟨gp, 1, none⟩ (.bool x1)).setCell ⟨gq, 0, none⟩ (.bool y0)).setCell ⟨gq, 1, none⟩ (.bool y1)) (w.heap.size + 1 + 1) 24 #[x, y] := ((Br.far (by first | (simp; done) | (simp; omega) | (simp [*]; done) | (simp only [ne_eq]; constructor <;> omega)) _).far (by first | (simp; done) | (simp; omega) | (simp [*]; done) | (simp only [ne_eq]; constructor <;> omega)) _)
      replace Bo : Blk ((((w3.setCell ⟨gp, 0, none⟩ (.bool x0)).setCell ⟨gp, 1, none⟩ (.bool x1)).setCell ⟨gq, 0, none⟩ (.bool y0)).setCell ⟨gq, 1, none⟩ (.bool y1)) (w.heap.size + 1 + 1 + 1) 24 #[uv (F n).v, uv (F n).m] := ((Bo.far (by first | (simp; done) | (simp; omega) | (simp [*]; done) | (simp only [ne_eq]; constructor <;> omega)) _).far (by first | (simp; done) | (simp; omega) | (simp [*]; done) | (simp only [ne_eq]; constructor <;> omega)) _)
      replace Bm : Blk ((((w3.setCell ⟨gp, 0, none⟩ (.bool x0)).setCell ⟨gp, 1, none⟩ (.bool x1)).setCell ⟨gq, 0, none⟩ (.bool y0)).setCell ⟨gq, 1, none⟩ (.bool y1)) (gm) 89 #[.bool false, .bool false] := ((Bm.far (by first | (simp; done) | (simp; omega) | (simp [*]; done) | (simp only [ne_eq]; constructor <;> omega)) _).far (by first | (simp; done) | (simp; omega) | (simp [*]; done) | (simp only [ne_eq]; constructor <;> omega)) _)
      replace Bp : Blk ((((w3.setCell ⟨gp, 0, none⟩ (.bool x0)).setCell ⟨gp, 1, none⟩ (.bool x1)).setCell ⟨gq, 0, none⟩ (.bool y0)).setCell ⟨gq, 1, none⟩ (.bool y1)) (gp) 89 #[.bool x0, .bool x1] := ((Bp.far (by first | (simp; done) | (simp; omega) | (simp [*]; done) | (simp only [ne_eq]; constructor <;> omega)) _).far (by first | (simp; done) | (simp; omega) | (simp [*]; done) | (simp only [ne_eq]; constructor <;> omega)) _)
      replace Bq : Blk ((((w3.setCell ⟨gp, 0, none⟩ (.bool x0)).setCell ⟨gp, 1, none⟩ (.bool x1)).setCell ⟨gq, 0, none⟩ (.bool y0)).setCell ⟨gq, 1, none⟩ (.bool y1)) (gq) 89 #[.bool y0, .bool y1] := ((Bq.set_ 0 _).set_ 1 _)
      replace hB : Below w.heap.size w ((((w3.setCell ⟨gp, 0, none⟩ (.bool x0)).setCell ⟨gp, 1, none⟩ (.bool x1)).setCell ⟨gq, 0, none⟩ (.bool y0)).setCell ⟨gq, 1, none⟩ (.bool y1)) := (Bl_set (Bl_set hB (by first | omega | (simp; done) | (simp; omega)) _) (by first | omega | (simp; done) | (simp; omega)) _)
      generalize ((((w3.setCell ⟨gp, 0, none⟩ (.bool x0)).setCell ⟨gp, 1, none⟩ (.bool x1)).setCell ⟨gq, 0, none⟩ (.bool y0)).setCell ⟨gq, 1, none⟩ (.bool y1)) = w4 at *
      obtain ⟨ca0, ca1⟩ := cells2 Ba
      have fa := Ba.frozen; have la := Ba.lt
      obtain ⟨cb0, cb1⟩ := cells2 Bb
      have fb := Bb.frozen; have lb := Bb.lt
      obtain ⟨cr0, cr1⟩ := cells2 Br
      have fr := Br.frozen; have lr := Br.lt
      obtain ⟨co0, co1⟩ := cells2 Bo
      have fo := Bo.frozen; have lo := Bo.lt
      obtain ⟨cm0, cm1⟩ := cells2 Bm
      have fm := Bm.frozen; have lm := Bm.lt
      obtain ⟨cp0, cp1⟩ := cells2 Bp
      have fp := Bp.frozen; have lp := Bp.lt
      obtain ⟨cq0, cq1⟩ := cells2 Bq
      have fq := Bq.frozen; have lq := Bq.lt
      clear ca0 ca1 fa la
      clear cb0 cb1 fb lb
      clear cr0 cr1 fr lr
      clear co0 co1 fo lo
      clear cm0 cm1 fm lm
      clear cp0 cp1 fp lp
      clear cq0 cq1 fq lq
      replace Bm : Blk w4 (gm) 89 #[.bool (V 0).1, .bool (V 0).2] := by rw [g0]; exact Bm
      clear g0
      obtain ⟨ca0, ca1⟩ := cells2 Ba
      have fa := Ba.frozen; have la := Ba.lt
      obtain ⟨cb0, cb1⟩ := cells2 Bb
      have fb := Bb.frozen; have lb := Bb.lt
      obtain ⟨cr0, cr1⟩ := cells2 Br
      have fr := Br.frozen; have lr := Br.lt
      obtain ⟨co0, co1⟩ := cells2 Bo
      have fo := Bo.frozen; have lo := Bo.lt
      obtain ⟨cm0, cm1⟩ := cells2 Bm
      have fm := Bm.frozen; have lm := Bm.lt
      obtain ⟨cp0, cp1⟩ := cells2 Bp
      have fp := Bp.frozen; have lp := Bp.lt
      obtain ⟨cq0, cq1⟩ := cells2 Bq
      have fq := Bq.frozen; have lq := Bq.lt
      go_wp2_with fail
      clear ca0 ca1 fa la
      clear cb0 cb1 fb lb
      clear cr0 cr1 fr lr
      clear co0 co1 fo lo
      clear cm0 cm1 fm lm
      clear cp0 cp1 fp lp
      clear cq0 cq1 fq lq
      go_loopg [12] 2 (fun m i wr => Below w.heap.size w wr ∧ Blk wr (w.heap.size) 24 #[uv a.v, uv a.m] ∧ Blk wr (w.heap.size + 1) 24 #[uv b.v, uv b.m] ∧ Blk wr (w.heap.size + 1 + 1) 24 #[x, y] ∧ Blk wr (w.heap.size + 1 + 1 + 1) 24 #[uv (F n).v, uv (F n).m] ∧ Blk wr (gp) 89 #[.bool x0, .bool x1] ∧ Blk wr (gq) 89 #[.bool y0, .bool y1] ∧ ((m = 2 ∧ i = .int .i64 0 ∧ Blk wr (gm) 89 #[.bool (V 0).1, .bool (V 0).2]) ∨ (m = 1 ∧ i = .int .i64 1 ∧ Blk wr (gm) 89 #[.bool (V 2).1, .bool (V 2).2]) ∨ (m = 0 ∧ i = .int .i64 2 ∧ Blk wr (gm) 89 #[.bool (V 4).1, .bool (V 4).2])))
      case atStart => exact ⟨hB, Ba, Bb, Br, Bo, Bp, Bq, .inl ⟨rfl, rfl, Bm⟩⟩
      case round =>
        rename Nat => gh0
        clear hB Ba Bb Br Bo Bp Bq Bm
        obtain ⟨hB, Ba, Bb, Br, Bo, Bp, Bq, ⟨hm, rfl, Bm⟩ | ⟨hm, rfl, Bm⟩ | ⟨hm, rfl, Bm⟩⟩ := hrel
        · obtain ⟨wl0, rfl⟩ : ∃ z : World, z = wr := ⟨_, rfl⟩
          obtain ⟨ca0, ca1⟩ := cells2 Ba
          have fa := Ba.frozen; have la := Ba.lt
          obtain ⟨cb0, cb1⟩ := cells2 Bb
          have fb := Bb.frozen; have lb := Bb.lt
          obtain ⟨cr0, cr1⟩ := cells2 Br
          have fr := Br.frozen; have lr := Br.lt
          obtain ⟨co0, co1⟩ := cells2 Bo
          have fo := Bo.frozen; have lo := Bo.lt
          obtain ⟨cm0, cm1⟩ := cells2 Bm
          have fm := Bm.frozen; have lm := Bm.lt
          obtain ⟨cp0, cp1⟩ := cells2 Bp
          have fp := Bp.frozen; have lp := Bp.lt
          obtain ⟨cq0, cq1⟩ := cells2 Bq
          have fq := Bq.frozen; have lq := Bq.lt
          go_wp2_with fail
          clear ca0 ca1 fa la
          clear cb0 cb1 fb lb
          clear cr0 cr1 fr lr
          clear co0 co1 fo lo
          clear cm0 cm1 fm lm
          clear cp0 cp1 fp lp
          clear cq0 cq1 fq lq
          go_loopg [13] 2 (fun m i wr => Below w.heap.size w wr ∧ Blk wr (w.heap.size) 24 #[uv a.v, uv a.m] ∧ Blk wr (w.heap.size + 1) 24 #[uv b.v, uv b.m] ∧ Blk wr (w.heap.size + 1 + 1) 24 #[x, y] ∧ Blk wr (w.heap.size + 1 + 1 + 1) 24 #[uv (F n).v, uv (F n).m] ∧ Blk wr (gp) 89 #[.bool x0, .bool x1] ∧ Blk wr (gq) 89 #[.bool y0, .bool y1] ∧ ((m = 2 ∧ i = .int .i64 0 ∧ Blk wr (gm) 89 #[.bool (V 0).1, .bool (V 0).2]) ∨ (m = 1 ∧ i = .int .i64 1 ∧ Blk wr (gm) 89 #[.bool (V 1).1, .bool (V 1).2]) ∨ (m = 0 ∧ i = .int .i64 2 ∧ Blk wr (gm) 89 #[.bool (V 2).1, .bool (V 2).2])))
          case atStart => exact ⟨hB, Ba, Bb, Br, Bo, Bp, Bq, .inl ⟨rfl, rfl, Bm⟩⟩
          case round =>
            rename Nat => gh1
            clear hB Ba Bb Br Bo Bp Bq Bm
            obtain ⟨hB, Ba, Bb, Br, Bo, Bp, Bq, ⟨hm, rfl, Bm⟩ | ⟨hm, rfl, Bm⟩ | ⟨hm, rfl, Bm⟩⟩ := hrel
            · obtain ⟨wl1, rfl⟩ : ∃ z : World, z = wr := ⟨_, rfl⟩
              obtain ⟨ca0, ca1⟩ := cells2 Ba
              have fa := Ba.frozen; have la := Ba.lt
              obtain ⟨cb0, cb1⟩ := cells2 Bb
              have fb := Bb.frozen; have lb := Bb.lt
              obtain ⟨cr0, cr1⟩ := cells2 Br
              have fr := Br.frozen; have lr := Br.lt
              obtain ⟨co0, co1⟩ := cells2 Bo
              have fo := Bo.frozen; have lo := Bo.lt
              obtain ⟨cm0, cm1⟩ := cells2 Bm
              have fm := Bm.frozen; have lm := Bm.lt
              obtain ⟨cp0, cp1⟩ := cells2 Bp
              have fp := Bp.frozen; have lp := Bp.lt
              obtain ⟨cq0, cq1⟩ := cells2 Bq
              have fq := Bq.frozen; have lq := Bq.lt
              cases x0
              · go_upto_region 12 with fail
                have eG := H0.out; simp [PlainTnum.sel, PlainTnum.put, PlainTnum.eachOp] at eG
                clear ca0 ca1 fa la
                clear cb0 cb1 fb lb
                clear cr0 cr1 fr lr
                clear co0 co1 fo lo
                clear cm0 cm1 fm lm
                clear cp0 cp1 fp lp
                clear cq0 cq1 fq lq
                replace Bm : Blk wl1 (gm) 89 #[.bool (V 1).1, .bool (V 1).2] := by rw [eG]; exact Bm
                clear eG
                go_wp2_with fail
                go_roundg 1
                case measure => omega
                case rel => exact ⟨hB, Ba, Bb, Br, Bo, Bp, Bq, .inr (.inl ⟨rfl, by go_num, Bm⟩)⟩
              · cases y0
                · go_upto_region 12 with fail
                  have eG := H0.out; simp [PlainTnum.sel, PlainTnum.put, PlainTnum.eachOp] at eG
                  clear ca0 ca1 fa la
                  clear cb0 cb1 fb lb
                  clear cr0 cr1 fr lr
                  clear co0 co1 fo lo
                  clear cm0 cm1 fm lm
                  clear cp0 cp1 fp lp
                  clear cq0 cq1 fq lq
                  replace Bm : Blk wl1 (gm) 89 #[.bool (V 1).1, .bool (V 1).2] := by rw [eG]; exact Bm
                  clear eG
                  go_wp2_with fail
                  go_roundg 1
                  case measure => omega
                  case rel => exact ⟨hB, Ba, Bb, Br, Bo, Bp, Bq, .inr (.inl ⟨rfl, by go_num, Bm⟩)⟩
                · go_upto_region 12 with fail
                  clear ca0 ca1 fa la
                  clear cb0 cb1 fb lb
                  clear cr0 cr1 fr lr
                  clear co0 co1 fo lo
                  clear cm0 cm1 fm lm
                  clear cp0 cp1 fp lp
                  clear cq0 cq1 fq lq
                  replace Ba : Blk (wl1.setCell ⟨gm, 0, none⟩ (.bool true)) (w.heap.size) 24 #[uv a.v, uv a.m] := (Ba.far (by first | (simp; done) | (simp; omega) | (simp [*]; done) | (simp only [ne_eq]; constructor <;> omega)) _)
                  replace Bb : Blk (wl1.setCell ⟨gm, 0, none⟩ (.bool true)) (w.heap.size + 1) 24 #[uv b.v, uv b.m] := (Bb.far (by first | (simp; done) | (simp; omega) | (simp [*]; done) | (simp only [ne_eq]; constructor <;> omega)) _)
                  replace Br : Blk (wl1.setCell ⟨gm, 0, none⟩ (.bool true)) (w.heap.size + 1 + 1) 24 #[x, y] := (Br.far (by first | (simp; done) | (simp; omega) | (simp [*]; done) | (simp only [ne_eq]; constructor <;> omega)) _)
                  replace Bo : Blk (wl1.setCell ⟨gm, 0, none⟩ (.bool true)) (w.heap.size + 1 + 1 + 1) 24 #[uv (F n).v, uv (F n).m] := (Bo.far (by first | (simp; done) | (simp; omega) | (simp [*]; done) | (simp only [ne_eq]; constructor <;> omega)) _)
                  replace Bm : Blk (wl1.setCell ⟨gm, 0, none⟩ (.bool true)) (gm) 89 #[.bool true, .bool (V 0).2] := Bm.set_ 0 _
                  replace Bp : Blk (wl1.setCell ⟨gm, 0, none⟩ (.bool true)) (gp) 89 #[.bool true, .bool x1] := (Bp.far (by first | (simp; done) | (simp; omega) | (simp [*]; done) | (simp only [ne_eq]; constructor <;> omega)) _)
                  replace Bq : Blk (wl1.setCell ⟨gm, 0, none⟩ (.bool true)) (gq) 89 #[.bool true, .bool y1] := (Bq.far (by first | (simp; done) | (simp; omega) | (simp [*]; done) | (simp only [ne_eq]; constructor <;> omega)) _)
                  replace hB : Below w.heap.size w (wl1.setCell ⟨gm, 0, none⟩ (.bool true)) := (Bl_set hB (by first | omega | (simp; done) | (simp; omega)) _)
                  generalize (wl1.setCell ⟨gm, 0, none⟩ (.bool true)) = w5 at *
                  obtain ⟨ca0, ca1⟩ := cells2 Ba
                  have fa := Ba.frozen; have la := Ba.lt
                  obtain ⟨cb0, cb1⟩ := cells2 Bb
                  have fb := Bb.frozen; have lb := Bb.lt
                  obtain ⟨cr0, cr1⟩ := cells2 Br
                  have fr := Br.frozen; have lr := Br.lt
                  obtain ⟨co0, co1⟩ := cells2 Bo
                  have fo := Bo.frozen; have lo := Bo.lt
                  obtain ⟨cm0, cm1⟩ := cells2 Bm
                  have fm := Bm.frozen; have lm := Bm.lt
                  obtain ⟨cp0, cp1⟩ := cells2 Bp
                  have fp := Bp.frozen; have lp := Bp.lt
                  obtain ⟨cq0, cq1⟩ := cells2 Bq
                  have fq := Bq.frozen; have lq := Bq.lt
                  have eG := H0.out; simp [PlainTnum.sel, PlainTnum.put, PlainTnum.eachOp] at eG
                  clear ca0 ca1 fa la
                  clear cb0 cb1 fb lb
                  clear cr0 cr1 fr lr
                  clear co0 co1 fo lo
                  clear cm0 cm1 fm lm
                  clear cp0 cp1 fp lp
                  clear cq0 cq1 fq lq
                  replace Bm : Blk w5 (gm) 89 #[.bool (V 1).1, .bool (V 1).2] := by rw [eG]; exact Bm
                  clear eG
                  go_wp2_with fail
                  go_roundg 1
                  case measure => omega
                  case rel => exact ⟨hB, Ba, Bb, Br, Bo, Bp, Bq, .inr (.inl ⟨rfl, by go_num, Bm⟩)⟩
            · obtain ⟨wl1, rfl⟩ : ∃ z : World, z = wr := ⟨_, rfl⟩
              obtain ⟨ca0, ca1⟩ := cells2 Ba
              have fa := Ba.frozen; have la := Ba.lt
              obtain ⟨cb0, cb1⟩ := cells2 Bb
              have fb := Bb.frozen; have lb := Bb.lt
              obtain ⟨cr0, cr1⟩ := cells2 Br
              have fr := Br.frozen; have lr := Br.lt
              obtain ⟨co0, co1⟩ := cells2 Bo
              have fo := Bo.frozen; have lo := Bo.lt
              obtain ⟨cm0, cm1⟩ := cells2 Bm
              have fm := Bm.frozen; have lm := Bm.lt
              obtain ⟨cp0, cp1⟩ := cells2 Bp
              have fp := Bp.frozen; have lp := Bp.lt
              obtain ⟨cq0, cq1⟩ := cells2 Bq
              have fq := Bq.frozen; have lq := Bq.lt
              cases x0
              · go_upto_region 12 with fail
                have eG := H1.out; simp [PlainTnum.sel, PlainTnum.put, PlainTnum.eachOp] at eG
                clear ca0 ca1 fa la
                clear cb0 cb1 fb lb
                clear cr0 cr1 fr lr
                clear co0 co1 fo lo
                clear cm0 cm1 fm lm
                clear cp0 cp1 fp lp
                clear cq0 cq1 fq lq
                replace Bm : Blk wl1 (gm) 89 #[.bool (V 2).1, .bool (V 2).2] := by rw [eG]; exact Bm
                clear eG
                go_wp2_with fail
                go_roundg 0
                case measure => omega
                case rel => exact ⟨hB, Ba, Bb, Br, Bo, Bp, Bq, .inr (.inr ⟨rfl, by go_num, Bm⟩)⟩
              · cases y1
                · go_upto_region 12 with fail
                  have eG := H1.out; simp [PlainTnum.sel, PlainTnum.put, PlainTnum.eachOp] at eG
                  clear ca0 ca1 fa la
                  clear cb0 cb1 fb lb
                  clear cr0 cr1 fr lr
                  clear co0 co1 fo lo
                  clear cm0 cm1 fm lm
                  clear cp0 cp1 fp lp
                  clear cq0 cq1 fq lq
                  replace Bm : Blk wl1 (gm) 89 #[.bool (V 2).1, .bool (V 2).2] := by rw [eG]; exact Bm
                  clear eG
                  go_wp2_with fail
                  go_roundg 0
                  case measure => omega
                  case rel => exact ⟨hB, Ba, Bb, Br, Bo, Bp, Bq, .inr (.inr ⟨rfl, by go_num, Bm⟩)⟩
                · go_upto_region 12 with fail
                  clear ca0 ca1 fa la
                  clear cb0 cb1 fb lb
                  clear cr0 cr1 fr lr
                  clear co0 co1 fo lo
                  clear cm0 cm1 fm lm
                  clear cp0 cp1 fp lp
                  clear cq0 cq1 fq lq
                  replace Ba : Blk (wl1.setCell ⟨gm, 0, none⟩ (.bool true)) (w.heap.size) 24 #[uv a.v, uv a.m] := (Ba.far (by first | (simp; done) | (simp; omega) | (simp [*]; done) | (simp only [ne_eq]; constructor <;> omega)) _)
                  replace Bb : Blk (wl1.setCell ⟨gm, 0, none⟩ (.bool true)) (w.heap.size + 1) 24 #[uv b.v, uv b.m] := (Bb.far (by first | (simp; done) | (simp; omega) | (simp [*]; done) | (simp only [ne_eq]; constructor <;> omega)) _)
                  replace Br : Blk (wl1.setCell ⟨gm, 0, none⟩ (.bool true)) (w.heap.size + 1 + 1) 24 #[x, y] := (Br.far (by first | (simp; done) | (simp; omega) | (simp [*]; done) | (simp only [ne_eq]; constructor <;> omega)) _)
                  replace Bo : Blk (wl1.setCell ⟨gm, 0, none⟩ (.bool true)) (w.heap.size + 1 + 1 + 1) 24 #[uv (F n).v, uv (F n).m] := (Bo.far (by first | (simp; done) | (simp; omega) | (simp [*]; done) | (simp only [ne_eq]; constructor <;> omega)) _)
                  replace Bm : Blk (wl1.setCell ⟨gm, 0, none⟩ (.bool true)) (gm) 89 #[.bool true, .bool (V 1).2] := Bm.set_ 0 _
                  replace Bp : Blk (wl1.setCell ⟨gm, 0, none⟩ (.bool true)) (gp) 89 #[.bool true, .bool x1] := (Bp.far (by first | (simp; done) | (simp; omega) | (simp [*]; done) | (simp only [ne_eq]; constructor <;> omega)) _)
                  replace Bq : Blk (wl1.setCell ⟨gm, 0, none⟩ (.bool true)) (gq) 89 #[.bool y0, .bool true] := (Bq.far (by first | (simp; done) | (simp; omega) | (simp [*]; done) | (simp only [ne_eq]; constructor <;> omega)) _)
                  replace hB : Below w.heap.size w (wl1.setCell ⟨gm, 0, none⟩ (.bool true)) := (Bl_set hB (by first | omega | (simp; done) | (simp; omega)) _)
                  generalize (wl1.setCell ⟨gm, 0, none⟩ (.bool true)) = w5 at *
                  obtain ⟨ca0, ca1⟩ := cells2 Ba
                  have fa := Ba.frozen; have la := Ba.lt
                  obtain ⟨cb0, cb1⟩ := cells2 Bb
                  have fb := Bb.frozen; have lb := Bb.lt
                  obtain ⟨cr0, cr1⟩ := cells2 Br
                  have fr := Br.frozen; have lr := Br.lt
                  obtain ⟨co0, co1⟩ := cells2 Bo
                  have fo := Bo.frozen; have lo := Bo.lt
                  obtain ⟨cm0, cm1⟩ := cells2 Bm
                  have fm := Bm.frozen; have lm := Bm.lt
                  obtain ⟨cp0, cp1⟩ := cells2 Bp
                  have fp := Bp.frozen; have lp := Bp.lt
                  obtain ⟨cq0, cq1⟩ := cells2 Bq
                  have fq := Bq.frozen; have lq := Bq.lt
                  have eG := H1.out; simp [PlainTnum.sel, PlainTnum.put, PlainTnum.eachOp] at eG
                  clear ca0 ca1 fa la
                  clear cb0 cb1 fb lb
                  clear cr0 cr1 fr lr
                  clear co0 co1 fo lo
                  clear cm0 cm1 fm lm
                  clear cp0 cp1 fp lp
                  clear cq0 cq1 fq lq
                  replace Bm : Blk w5 (gm) 89 #[.bool (V 2).1, .bool (V 2).2] := by rw [eG]; exact Bm
                  clear eG
                  go_wp2_with fail
                  go_roundg 0
                  case measure => omega
                  case rel => exact ⟨hB, Ba, Bb, Br, Bo, Bp, Bq, .inr (.inr ⟨rfl, by go_num, Bm⟩)⟩
            · obtain ⟨wl1, rfl⟩ : ∃ z : World, z = wr := ⟨_, rfl⟩
              obtain ⟨ca0, ca1⟩ := cells2 Ba
              have fa := Ba.frozen; have la := Ba.lt
              obtain ⟨cb0, cb1⟩ := cells2 Bb
              have fb := Bb.frozen; have lb := Bb.lt
              obtain ⟨cr0, cr1⟩ := cells2 Br
              have fr := Br.frozen; have lr := Br.lt
              obtain ⟨co0, co1⟩ := cells2 Bo
              have fo := Bo.frozen; have lo := Bo.lt
              obtain ⟨cm0, cm1⟩ := cells2 Bm
              have fm := Bm.frozen; have lm := Bm.lt
              obtain ⟨cp0, cp1⟩ := cells2 Bp
              have fp := Bp.frozen; have lp := Bp.lt
              obtain ⟨cq0, cq1⟩ := cells2 Bq
              have fq := Bq.frozen; have lq := Bq.lt
              go_wp2_with fail
              go_roundg 1
              case measure => omega
              case rel => exact ⟨hB, Ba, Bb, Br, Bo, Bp, Bq, .inr (.inl ⟨rfl, by go_num, Bm⟩)⟩
        · obtain ⟨wl0, rfl⟩ : ∃ z : World, z = wr := ⟨_, rfl⟩
          obtain ⟨ca0, ca1⟩ := cells2 Ba
          have fa := Ba.frozen; have la := Ba.lt
          obtain ⟨cb0, cb1⟩ := cells2 Bb
          have fb := Bb.frozen; have lb := Bb.lt
          obtain ⟨cr0, cr1⟩ := cells2 Br
          have fr := Br.frozen; have lr := Br.lt
          obtain ⟨co0, co1⟩ := cells2 Bo
          have fo := Bo.frozen; have lo := Bo.lt
          obtain ⟨cm0, cm1⟩ := cells2 Bm
          have fm := Bm.frozen; have lm := Bm.lt
          obtain ⟨cp0, cp1⟩ := cells2 Bp
          have fp := Bp.frozen; have lp := Bp.lt
          obtain ⟨cq0, cq1⟩ := cells2 Bq
          have fq := Bq.frozen; have lq := Bq.lt
          go_wp2_with fail
          clear ca0 ca1 fa la
          clear cb0 cb1 fb lb
          clear cr0 cr1 fr lr
          clear co0 co1 fo lo
          clear cm0 cm1 fm lm
          clear cp0 cp1 fp lp
          clear cq0 cq1 fq lq
          go_loopg [13] 2 (fun m i wr => Below w.heap.size w wr ∧ Blk wr (w.heap.size) 24 #[uv a.v, uv a.m] ∧ Blk wr (w.heap.size + 1) 24 #[uv b.v, uv b.m] ∧ Blk wr (w.heap.size + 1 + 1) 24 #[x, y] ∧ Blk wr (w.heap.size + 1 + 1 + 1) 24 #[uv (F n).v, uv (F n).m] ∧ Blk wr (gp) 89 #[.bool x0, .bool x1] ∧ Blk wr (gq) 89 #[.bool y0, .bool y1] ∧ ((m = 2 ∧ i = .int .i64 0 ∧ Blk wr (gm) 89 #[.bool (V 2).1, .bool (V 2).2]) ∨ (m = 1 ∧ i = .int .i64 1 ∧ Blk wr (gm) 89 #[.bool (V 3).1, .bool (V 3).2]) ∨ (m = 0 ∧ i = .int .i64 2 ∧ Blk wr (gm) 89 #[.bool (V 4).1, .bool (V 4).2])))
          case atStart => exact ⟨hB, Ba, Bb, Br, Bo, Bp, Bq, .inl ⟨rfl, rfl, Bm⟩⟩
          case round =>
            rename Nat => gh1
            clear hB Ba Bb Br Bo Bp Bq Bm
            obtain ⟨hB, Ba, Bb, Br, Bo, Bp, Bq, ⟨hm, rfl, Bm⟩ | ⟨hm, rfl, Bm⟩ | ⟨hm, rfl, Bm⟩⟩ := hrel
            · obtain ⟨wl1, rfl⟩ : ∃ z : World, z = wr := ⟨_, rfl⟩
              obtain ⟨ca0, ca1⟩ := cells2 Ba
              have fa := Ba.frozen; have la := Ba.lt
              obtain ⟨cb0, cb1⟩ := cells2 Bb
              have fb := Bb.frozen; have lb := Bb.lt
              obtain ⟨cr0, cr1⟩ := cells2 Br
              have fr := Br.frozen; have lr := Br.lt
              obtain ⟨co0, co1⟩ := cells2 Bo
              have fo := Bo.frozen; have lo := Bo.lt
              obtain ⟨cm0, cm1⟩ := cells2 Bm
              have fm := Bm.frozen; have lm := Bm.lt
              obtain ⟨cp0, cp1⟩ := cells2 Bp
              have fp := Bp.frozen; have lp := Bp.lt
              obtain ⟨cq0, cq1⟩ := cells2 Bq
              have fq := Bq.frozen; have lq := Bq.lt
              cases x1
              · go_upto_region 12 with fail
                have eG := H2.out; simp [PlainTnum.sel, PlainTnum.put, PlainTnum.eachOp] at eG
                clear ca0 ca1 fa la
                clear cb0 cb1 fb lb
                clear cr0 cr1 fr lr
                clear co0 co1 fo lo
                clear cm0 cm1 fm lm
                clear cp0 cp1 fp lp
                clear cq0 cq1 fq lq
                replace Bm : Blk wl1 (gm) 89 #[.bool (V 3).1, .bool (V 3).2] := by rw [eG]; exact Bm
                clear eG
                go_wp2_with fail
                go_roundg 1
                case measure => omega
                case rel => exact ⟨hB, Ba, Bb, Br, Bo, Bp, Bq, .inr (.inl ⟨rfl, by go_num, Bm⟩)⟩
              · cases y0
                · go_upto_region 12 with fail
                  have eG := H2.out; simp [PlainTnum.sel, PlainTnum.put, PlainTnum.eachOp] at eG
                  clear ca0 ca1 fa la
                  clear cb0 cb1 fb lb
                  clear cr0 cr1 fr lr
                  clear co0 co1 fo lo
                  clear cm0 cm1 fm lm
                  clear cp0 cp1 fp lp
                  clear cq0 cq1 fq lq
                  replace Bm : Blk wl1 (gm) 89 #[.bool (V 3).1, .bool (V 3).2] := by rw [eG]; exact Bm
                  clear eG
                  go_wp2_with fail
                  go_roundg 1
                  case measure => omega
                  case rel => exact ⟨hB, Ba, Bb, Br, Bo, Bp, Bq, .inr (.inl ⟨rfl, by go_num, Bm⟩)⟩
                · go_upto_region 12 with fail
                  clear ca0 ca1 fa la
                  clear cb0 cb1 fb lb
                  clear cr0 cr1 fr lr
                  clear co0 co1 fo lo
                  clear cm0 cm1 fm lm
                  clear cp0 cp1 fp lp
                  clear cq0 cq1 fq lq
                  replace Ba : Blk (wl1.setCell ⟨gm, 0, none⟩ (.bool true)) (w.heap.size) 24 #[uv a.v, uv a.m] := (Ba.far (by first | (simp; done) | (simp; omega) | (simp [*]; done) | (simp only [ne_eq]; constructor <;> omega)) _)
                  replace Bb : Blk (wl1.setCell ⟨gm, 0, none⟩ (.bool true)) (w.heap.size + 1) 24 #[uv b.v, uv b.m] := (Bb.far (by first | (simp; done) | (simp; omega) | (simp [*]; done) | (simp only [ne_eq]; constructor <;> omega)) _)
                  replace Br : Blk (wl1.setCell ⟨gm, 0, none⟩ (.bool true)) (w.heap.size + 1 + 1) 24 #[x, y] := (Br.far (by first | (simp; done) | (simp; omega) | (simp [*]; done) | (simp only [ne_eq]; constructor <;> omega)) _)
                  replace Bo : Blk (wl1.setCell ⟨gm, 0, none⟩ (.bool true)) (w.heap.size + 1 + 1 + 1) 24 #[uv (F n).v, uv (F n).m] := (Bo.far (by first | (simp; done) | (simp; omega) | (simp [*]; done) | (simp only [ne_eq]; constructor <;> omega)) _)
                  replace Bm : Blk (wl1.setCell ⟨gm, 0, none⟩ (.bool true)) (gm) 89 #[.bool true, .bool (V 2).2] := Bm.set_ 0 _
                  replace Bp : Blk (wl1.setCell ⟨gm, 0, none⟩ (.bool true)) (gp) 89 #[.bool x0, .bool true] := (Bp.far (by first | (simp; done) | (simp; omega) | (simp [*]; done) | (simp only [ne_eq]; constructor <;> omega)) _)
                  replace Bq : Blk (wl1.setCell ⟨gm, 0, none⟩ (.bool true)) (gq) 89 #[.bool true, .bool y1] := (Bq.far (by first | (simp; done) | (simp; omega) | (simp [*]; done) | (simp only [ne_eq]; constructor <;> omega)) _)
                  replace hB : Below w.heap.size w (wl1.setCell ⟨gm, 0, none⟩ (.bool true)) := (Bl_set hB (by first | omega | (simp; done) | (simp; omega)) _)
                  generalize (wl1.setCell ⟨gm, 0, none⟩ (.bool true)) = w5 at *
                  obtain ⟨ca0, ca1⟩ := cells2 Ba
                  have fa := Ba.frozen; have la := Ba.lt
                  obtain ⟨cb0, cb1⟩ := cells2 Bb
                  have fb := Bb.frozen; have lb := Bb.lt
                  obtain ⟨cr0, cr1⟩ := cells2 Br
                  have fr := Br.frozen; have lr := Br.lt
                  obtain ⟨co0, co1⟩ := cells2 Bo
                  have fo := Bo.frozen; have lo := Bo.lt
                  obtain ⟨cm0, cm1⟩ := cells2 Bm
                  have fm := Bm.frozen; have lm := Bm.lt
                  obtain ⟨cp0, cp1⟩ := cells2 Bp
                  have fp := Bp.frozen; have lp := Bp.lt
                  obtain ⟨cq0, cq1⟩ := cells2 Bq
                  have fq := Bq.frozen; have lq := Bq.lt
                  have eG := H2.out; simp [PlainTnum.sel, PlainTnum.put, PlainTnum.eachOp] at eG
                  clear ca0 ca1 fa la
                  clear cb0 cb1 fb lb
                  clear cr0 cr1 fr lr
                  clear co0 co1 fo lo
                  clear cm0 cm1 fm lm
                  clear cp0 cp1 fp lp
                  clear cq0 cq1 fq lq
                  replace Bm : Blk w5 (gm) 89 #[.bool (V 3).1, .bool (V 3).2] := by rw [eG]; exact Bm
                  clear eG
                  go_wp2_with fail
                  go_roundg 1
                  case measure => omega
                  case rel => exact ⟨hB, Ba, Bb, Br, Bo, Bp, Bq, .inr (.inl ⟨rfl, by go_num, Bm⟩)⟩
            · obtain ⟨wl1, rfl⟩ : ∃ z : World, z = wr := ⟨_, rfl⟩
              obtain ⟨ca0, ca1⟩ := cells2 Ba
              have fa := Ba.frozen; have la := Ba.lt
              obtain ⟨cb0, cb1⟩ := cells2 Bb
              have fb := Bb.frozen; have lb := Bb.lt
              obtain ⟨cr0, cr1⟩ := cells2 Br
              have fr := Br.frozen; have lr := Br.lt
              obtain ⟨co0, co1⟩ := cells2 Bo
              have fo := Bo.frozen; have lo := Bo.lt
              obtain ⟨cm0, cm1⟩ := cells2 Bm
              have fm := Bm.frozen; have lm := Bm.lt
              obtain ⟨cp0, cp1⟩ := cells2 Bp
              have fp := Bp.frozen; have lp := Bp.lt
              obtain ⟨cq0, cq1⟩ := cells2 Bq
              have fq := Bq.frozen; have lq := Bq.lt
              cases x1
              · go_upto_region 12 with fail
                have eG := H3.out; simp [PlainTnum.sel, PlainTnum.put, PlainTnum.eachOp] at eG
                clear ca0 ca1 fa la
                clear cb0 cb1 fb lb
                clear cr0 cr1 fr lr
                clear co0 co1 fo lo
                clear cm0 cm1 fm lm
                clear cp0 cp1 fp lp
                clear cq0 cq1 fq lq
                replace Bm : Blk wl1 (gm) 89 #[.bool (V 4).1, .bool (V 4).2] := by rw [eG]; exact Bm
                clear eG
                go_wp2_with fail
                go_roundg 0
                case measure => omega
                case rel => exact ⟨hB, Ba, Bb, Br, Bo, Bp, Bq, .inr (.inr ⟨rfl, by go_num, Bm⟩)⟩
              · cases y1
                · go_upto_region 12 with fail
                  have eG := H3.out; simp [PlainTnum.sel, PlainTnum.put, PlainTnum.eachOp] at eG
                  clear ca0 ca1 fa la
                  clear cb0 cb1 fb lb
                  clear cr0 cr1 fr lr
                  clear co0 co1 fo lo
                  clear cm0 cm1 fm lm
                  clear cp0 cp1 fp lp
                  clear cq0 cq1 fq lq
                  replace Bm : Blk wl1 (gm) 89 #[.bool (V 4).1, .bool (V 4).2] := by rw [eG]; exact Bm
                  clear eG
                  go_wp2_with fail
                  go_roundg 0
                  case measure => omega
                  case rel => exact ⟨hB, Ba, Bb, Br, Bo, Bp, Bq, .inr (.inr ⟨rfl, by go_num, Bm⟩)⟩
                · go_upto_region 12 with fail
                  clear ca0 ca1 fa la
                  clear cb0 cb1 fb lb
                  clear cr0 cr1 fr lr
                  clear co0 co1 fo lo
                  clear cm0 cm1 fm lm
                  clear cp0 cp1 fp lp
                  clear cq0 cq1 fq lq
                  replace Ba : Blk (wl1.setCell ⟨gm, 1, none⟩ (.bool true)) (w.heap.size) 24 #[uv a.v, uv a.m] := (Ba.far (by first | (simp; done) | (simp; omega) | (simp [*]; done) | (simp only [ne_eq]; constructor <;> omega)) _)
                  replace Bb : Blk (wl1.setCell ⟨gm, 1, none⟩ (.bool true)) (w.heap.size + 1) 24 #[uv b.v, uv b.m] := (Bb.far (by first | (simp; done) | (simp; omega) | (simp [*]; done) | (simp only [ne_eq]; constructor <;> omega)) _)
                  replace Br : Blk (wl1.setCell ⟨gm, 1, none⟩ (.bool true)) (w.heap.size + 1 + 1) 24 #[x, y] := (Br.far (by first | (simp; done) | (simp; omega) | (simp [*]; done) | (simp only [ne_eq]; constructor <;> omega)) _)
                  replace Bo : Blk (wl1.setCell ⟨gm, 1, none⟩ (.bool true)) (w.heap.size + 1 + 1 + 1) 24 #[uv (F n).v, uv (F n).m] := (Bo.far (by first | (simp; done) | (simp; omega) | (simp [*]; done) | (simp only [ne_eq]; constructor <;> omega)) _)
                  replace Bm : Blk (wl1.setCell ⟨gm, 1, none⟩ (.bool true)) (gm) 89 #[.bool (V 3).1, .bool true] := Bm.set_ 1 _
                  replace Bp : Blk (wl1.setCell ⟨gm, 1, none⟩ (.bool true)) (gp) 89 #[.bool x0, .bool true] := (Bp.far (by first | (simp; done) | (simp; omega) | (simp [*]; done) | (simp only [ne_eq]; constructor <;> omega)) _)
                  replace Bq : Blk (wl1.setCell ⟨gm, 1, none⟩ (.bool true)) (gq) 89 #[.bool y0, .bool true] := (Bq.far (by first | (simp; done) | (simp; omega) | (simp [*]; done) | (simp only [ne_eq]; constructor <;> omega)) _)
                  replace hB : Below w.heap.size w (wl1.setCell ⟨gm, 1, none⟩ (.bool true)) := (Bl_set hB (by first | omega | (simp; done) | (simp; omega)) _)
                  generalize (wl1.setCell ⟨gm, 1, none⟩ (.bool true)) = w5 at *
                  obtain ⟨ca0, ca1⟩ := cells2 Ba
                  have fa := Ba.frozen; have la := Ba.lt
                  obtain ⟨cb0, cb1⟩ := cells2 Bb
                  have fb := Bb.frozen; have lb := Bb.lt
                  obtain ⟨cr0, cr1⟩ := cells2 Br
                  have fr := Br.frozen; have lr := Br.lt
                  obtain ⟨co0, co1⟩ := cells2 Bo
                  have fo := Bo.frozen; have lo := Bo.lt
                  obtain ⟨cm0, cm1⟩ := cells2 Bm
                  have fm := Bm.frozen; have lm := Bm.lt
                  obtain ⟨cp0, cp1⟩ := cells2 Bp
                  have fp := Bp.frozen; have lp := Bp.lt
                  obtain ⟨cq0, cq1⟩ := cells2 Bq
                  have fq := Bq.frozen; have lq := Bq.lt
                  have eG := H3.out; simp [PlainTnum.sel, PlainTnum.put, PlainTnum.eachOp] at eG
                  clear ca0 ca1 fa la
                  clear cb0 cb1 fb lb
                  clear cr0 cr1 fr lr
                  clear co0 co1 fo lo
                  clear cm0 cm1 fm lm
                  clear cp0 cp1 fp lp
                  clear cq0 cq1 fq lq
                  replace Bm : Blk w5 (gm) 89 #[.bool (V 4).1, .bool (V 4).2] := by rw [eG]; exact Bm
                  clear eG
                  go_wp2_with fail
                  go_roundg 0
                  case measure => omega
                  case rel => exact ⟨hB, Ba, Bb, Br, Bo, Bp, Bq, .inr (.inr ⟨rfl, by go_num, Bm⟩)⟩
            · obtain ⟨wl1, rfl⟩ : ∃ z : World, z = wr := ⟨_, rfl⟩
              obtain ⟨ca0, ca1⟩ := cells2 Ba
              have fa := Ba.frozen; have la := Ba.lt
              obtain ⟨cb0, cb1⟩ := cells2 Bb
              have fb := Bb.frozen; have lb := Bb.lt
              obtain ⟨cr0, cr1⟩ := cells2 Br
              have fr := Br.frozen; have lr := Br.lt
              obtain ⟨co0, co1⟩ := cells2 Bo
              have fo := Bo.frozen; have lo := Bo.lt
              obtain ⟨cm0, cm1⟩ := cells2 Bm
              have fm := Bm.frozen; have lm := Bm.lt
              obtain ⟨cp0, cp1⟩ := cells2 Bp
              have fp := Bp.frozen; have lp := Bp.lt
              obtain ⟨cq0, cq1⟩ := cells2 Bq
              have fq := Bq.frozen; have lq := Bq.lt
              go_wp2_with fail
              go_roundg 0
              case measure => omega
              case rel => exact ⟨hB, Ba, Bb, Br, Bo, Bp, Bq, .inr (.inr ⟨rfl, by go_num, Bm⟩)⟩
        · obtain ⟨wl0, rfl⟩ : ∃ z : World, z = wr := ⟨_, rfl⟩
          obtain ⟨ca0, ca1⟩ := cells2 Ba
          have fa := Ba.frozen; have la := Ba.lt
          obtain ⟨cb0, cb1⟩ := cells2 Bb
          have fb := Bb.frozen; have lb := Bb.lt
          obtain ⟨cr0, cr1⟩ := cells2 Br
          have fr := Br.frozen; have lr := Br.lt
          obtain ⟨co0, co1⟩ := cells2 Bo
          have fo := Bo.frozen; have lo := Bo.lt
          obtain ⟨cm0, cm1⟩ := cells2 Bm
          have fm := Bm.frozen; have lm := Bm.lt
          obtain ⟨cp0, cp1⟩ := cells2 Bp
          have fp := Bp.frozen; have lp := Bp.lt
          obtain ⟨cq0, cq1⟩ := cells2 Bq
          have fq := Bq.frozen; have lq := Bq.lt
          go_wp2_with fail
          refine (k_s _).mono ?_
          rintro e w5 ⟨rfl, hb⟩
          clear ca0 ca1 fa la
          clear cb0 cb1 fb lb
          clear cr0 cr1 fr lr
          clear co0 co1 fo lo
          clear cm0 cm1 fm lm
          clear cp0 cp1 fp lp
          clear cq0 cq1 fq lq
          replace Ba := (Ba).next hb
          replace Bb := (Bb).next hb
          replace Br := (Br).next hb
          replace Bo := (Bo).next hb
          replace Bm := (Bm).next hb
          replace Bp := (Bp).next hb
          replace Bq := (Bq).next hb
          replace hB : Below w.heap.size w w5 := by repeat (first | exact hB | (refine Bl_set ?_ (by first | omega | (simp; omega)) _) | apply Bl_alloc | (refine Bl_trans ?_ hb))
          clear hb
          obtain ⟨ca0, ca1⟩ := cells2 Ba
          have fa := Ba.frozen; have la := Ba.lt
          obtain ⟨cb0, cb1⟩ := cells2 Bb
          have fb := Bb.frozen; have lb := Bb.lt
          obtain ⟨cr0, cr1⟩ := cells2 Br
          have fr := Br.frozen; have lr := Br.lt
          obtain ⟨co0, co1⟩ := cells2 Bo
          have fo := Bo.frozen; have lo := Bo.lt
          obtain ⟨cm0, cm1⟩ := cells2 Bm
          have fm := Bm.frozen; have lm := Bm.lt
          obtain ⟨cp0, cp1⟩ := cells2 Bp
          have fp := Bp.frozen; have lp := Bp.lt
          obtain ⟨cq0, cq1⟩ := cells2 Bq
          have fq := Bq.frozen; have lq := Bq.lt
          go_upto_region 4 with fail
          clear ca0 ca1 fa la
          clear cb0 cb1 fb lb
          clear cr0 cr1 fr lr
          clear co0 co1 fo lo
          clear cm0 cm1 fm lm
          clear cp0 cp1 fp lp
          clear cq0 cq1 fq lq
          replace Ba : Blk ((w5.setCell ⟨w.heap.size + 1 + 1 + 1, 0, none⟩ (uv (F (n + 1)).v)).setCell ⟨w.heap.size + 1 + 1 + 1, 1, none⟩ (uv (F (n + 1)).m)) (w.heap.size) 24 #[uv a.v, uv a.m] := ((Ba.far (by first | (simp; done) | (simp; omega) | (simp [*]; done) | (simp only [ne_eq]; constructor <;> omega)) _).far (by first | (simp; done) | (simp; omega) | (simp [*]; done) | (simp only [ne_eq]; constructor <;> omega)) _)
          replace Bb : Blk ((w5.setCell ⟨w.heap.size + 1 + 1 + 1, 0, none⟩ (uv (F (n + 1)).v)).setCell ⟨w.heap.size + 1 + 1 + 1, 1, none⟩ (uv (F (n + 1)).m)) (w.heap.size + 1) 24 #[uv b.v, uv b.m] := ((Bb.far (by first | (simp; done) | (simp; omega) | (simp [*]; done) | (simp only [ne_eq]; constructor <;> omega)) _).far (by first | (simp; done) | (simp; omega) | (simp [*]; done) | (simp only [ne_eq]; constructor <;> omega)) _)
          replace Br : Blk ((w5.setCell ⟨w.heap.size + 1 + 1 + 1, 0, none⟩ (uv (F (n + 1)).v)).setCell ⟨w.heap.size + 1 + 1 + 1, 1, none⟩ (uv (F (n + 1)).m)) (w.heap.size + 1 + 1) 24 #[x, y] := ((Br.far (by first | (simp; done) | (simp; omega) | (simp [*]; done) | (simp only [ne_eq]; constructor <;> omega)) _).far (by first | (simp; done) | (simp; omega) | (simp [*]; done) | (simp only [ne_eq]; constructor <;> omega)) _)
          replace Bo : Blk ((w5.setCell ⟨w.heap.size + 1 + 1 + 1, 0, none⟩ (uv (F (n + 1)).v)).setCell ⟨w.heap.size + 1 + 1 + 1, 1, none⟩ (uv (F (n + 1)).m)) (w.heap.size + 1 + 1 + 1) 24 #[uv (F (n + 1)).v, uv (F (n + 1)).m] := ((Bo.set_ 0 _).set_ 1 _)
          replace Bm : Blk ((w5.setCell ⟨w.heap.size + 1 + 1 + 1, 0, none⟩ (uv (F (n + 1)).v)).setCell ⟨w.heap.size + 1 + 1 + 1, 1, none⟩ (uv (F (n + 1)).m)) (gm) 89 #[.bool (V 4).1, .bool (V 4).2] := ((Bm.far (by first | (simp; done) | (simp; omega) | (simp [*]; done) | (simp only [ne_eq]; constructor <;> omega)) _).far (by first | (simp; done) | (simp; omega) | (simp [*]; done) | (simp only [ne_eq]; constructor <;> omega)) _)
          replace Bp : Blk ((w5.setCell ⟨w.heap.size + 1 + 1 + 1, 0, none⟩ (uv (F (n + 1)).v)).setCell ⟨w.heap.size + 1 + 1 + 1, 1, none⟩ (uv (F (n + 1)).m)) (gp) 89 #[.bool x0, .bool x1] := ((Bp.far (by first | (simp; done) | (simp; omega) | (simp [*]; done) | (simp only [ne_eq]; constructor <;> omega)) _).far (by first | (simp; done) | (simp; omega) | (simp [*]; done) | (simp only [ne_eq]; constructor <;> omega)) _)
          replace Bq : Blk ((w5.setCell ⟨w.heap.size + 1 + 1 + 1, 0, none⟩ (uv (F (n + 1)).v)).setCell ⟨w.heap.size + 1 + 1 + 1, 1, none⟩ (uv (F (n + 1)).m)) (gq) 89 #[.bool y0, .bool y1] := ((Bq.far (by first | (simp; done) | (simp; omega) | (simp [*]; done) | (simp only [ne_eq]; constructor <;> omega)) _).far (by first | (simp; done) | (simp; omega) | (simp [*]; done) | (simp only [ne_eq]; constructor <;> omega)) _)
          replace hB : Below w.heap.size w ((w5.setCell ⟨w.heap.size + 1 + 1 + 1, 0, none⟩ (uv (F (n + 1)).v)).setCell ⟨w.heap.size + 1 + 1 + 1, 1, none⟩ (uv (F (n + 1)).m)) := (Bl_set (Bl_set hB (by first | omega | (simp; done) | (simp; omega)) _) (by first | omega | (simp; done) | (simp; omega)) _)
          generalize ((w5.setCell ⟨w.heap.size + 1 + 1 + 1, 0, none⟩ (uv (F (n + 1)).v)).setCell ⟨w.heap.size + 1 + 1 + 1, 1, none⟩ (uv (F (n + 1)).m)) = w6 at *
          obtain ⟨ca0, ca1⟩ := cells2 Ba
          have fa := Ba.frozen; have la := Ba.lt
          obtain ⟨cb0, cb1⟩ := cells2 Bb
          have fb := Bb.frozen; have lb := Bb.lt
          obtain ⟨cr0, cr1⟩ := cells2 Br
          have fr := Br.frozen; have lr := Br.lt
          obtain ⟨co0, co1⟩ := cells2 Bo
          have fo := Bo.frozen; have lo := Bo.lt
          obtain ⟨cm0, cm1⟩ := cells2 Bm
          have fm := Bm.frozen; have lm := Bm.lt
          obtain ⟨cp0, cp1⟩ := cells2 Bp
          have fp := Bp.frozen; have lp := Bp.lt
          obtain ⟨cq0, cq1⟩ := cells2 Bq
          have fq := Bq.frozen; have lq := Bq.lt
          go_wp2_with fail
          go_roundg (63 - n)
          case measure => omega
          case rel => exact ⟨n + 1, by omega, by omega, by go_num, hB, Ba, Bb, ⟨_, _, Br⟩, Bo⟩
set_option maxRecDepth 100000 in
set_option maxHeartbeats 4000000 in
theorem reach_1 (a b : N) (w : World) : Calls Try.prog 40 #[nv a, nv b, .int .i64 1] w fun e w' => e = .returned (nv (PlainTnum.build (PlainTnum.eachF 1 a b) 64)) ∧ Below w.heap.size w w' := by
  obtain ⟨F, e_F⟩ : ∃ z' : Nat → N, z' = PlainTnum.build (PlainTnum.eachF 1 a b) := ⟨_, rfl⟩
  have h0 : F 0 = ⟨0#64, 0#64⟩ := by rw [e_F]; rfl
  have hs : ∀ n, F (n + 1) = PlainTnum.setN (F n) n (PlainTnum.eachSt 1 (PlainTnum.bitsOf a n) (PlainTnum.bitsOf b n) 4) := fun n => by rw [PlainTnum.eachSt_4 1 (by omega), e_F]; rfl
  rw [← e_F]
  clear e_F
  have ix1 : ∀ (u v z : Value) (w : World), (Instr.index 91 (.agg #[u, v, z]) (.int .i64 1)).run Try.prog w = .ok v w := fun _ _ _ _ => by kernel_rfl
  have band00 : bits .and .i64 0 0 = 0 := by decide
  have bor00 : bits .or .i64 0 0 = 0 := by decide
  have bxor00 : bits .xor .i64 0 0 = 0 := by decide
  have band01 : bits .and .i64 0 1 = 0 := by decide
  have bor01 : bits .or .i64 0 1 = 1 := by decide
  have bxor01 : bits .xor .i64 0 1 = 1 := by decide
  have band10 : bits .and .i64 1 0 = 0 := by decide
  have bor10 : bits .or .i64 1 0 = 1 := by decide
  have bxor10 : bits .xor .i64 1 0 = 1 := by decide
  have band11 : bits .and .i64 1 1 = 1 := by decide
  have bor11 : bits .or .i64 1 1 = 1 := by decide
  have bxor11 : bits .xor .i64 1 1 = 0 := by decide
  go_enter Try.func40, Try.ntmps40
  go_wp2_with fail
  obtain ⟨ga, hga⟩ : ∃ g, g = w.heap.size := ⟨_, rfl⟩
  obtain ⟨gb, hgb⟩ : ∃ g, g = w.heap.size + 1 := ⟨_, rfl⟩
  obtain ⟨gr, hgr⟩ : ∃ g, g = w.heap.size + 1 + 1 := ⟨_, rfl⟩
  obtain ⟨go, hgo⟩ : ∃ g, g = w.heap.size + 1 + 1 + 1 := ⟨_, rfl⟩
  have Ba : Blk ((((w.alloc (.cells #[uv a.v, uv a.m] 24)).alloc (.cells #[uv b.v, uv b.m] 24)).alloc (.cells #[.int .u64 0, .int .u64 0] 24)).alloc (.cells #[.int .u64 0, .int .u64 0] 24)) (w.heap.size) 24 #[uv a.v, uv a.m] := ((((Blk.new w 24 #[uv a.v, uv a.m])).alloc _).alloc _).alloc _
  have Bb : Blk ((((w.alloc (.cells #[uv a.v, uv a.m] 24)).alloc (.cells #[uv b.v, uv b.m] 24)).alloc (.cells #[.int .u64 0, .int .u64 0] 24)).alloc (.cells #[.int .u64 0, .int .u64 0] 24)) (w.heap.size + 1) 24 #[uv b.v, uv b.m] := (((by simpa using Blk.new (w.alloc (.cells #[uv a.v, uv a.m] 24)) 24 #[uv b.v, uv b.m] : Blk _ (w.heap.size + 1) 24 #[uv b.v, uv b.m])).alloc _).alloc _
  have Br : Blk ((((w.alloc (.cells #[uv a.v, uv a.m] 24)).alloc (.cells #[uv b.v, uv b.m] 24)).alloc (.cells #[.int .u64 0, .int .u64 0] 24)).alloc (.cells #[.int .u64 0, .int .u64 0] 24)) (w.heap.size + 1 + 1) 24 #[.int .u64 0, .int .u64 0] := ((by simpa using Blk.new ((w.alloc (.cells #[uv a.v, uv a.m] 24)).alloc (.cells #[uv b.v, uv b.m] 24)) 24 #[.int .u64 0, .int .u64 0] : Blk _ (w.heap.size + 1 + 1) 24 #[.int .u64 0, .int .u64 0])).alloc _
  have Bo : Blk ((((w.alloc (.cells #[uv a.v, uv a.m] 24)).alloc (.cells #[uv b.v, uv b.m] 24)).alloc (.cells #[.int .u64 0, .int .u64 0] 24)).alloc (.cells #[.int .u64 0, .int .u64 0] 24)) (w.heap.size + 1 + 1 + 1) 24 #[.int .u64 0, .int .u64 0] := (by simpa using Blk.new (((w.alloc (.cells #[uv a.v, uv a.m] 24)).alloc (.cells #[uv b.v, uv b.m] 24)).alloc (.cells #[.int .u64 0, .int .u64 0] 24)) 24 #[.int .u64 0, .int .u64 0] : Blk _ (w.heap.size + 1 + 1 + 1) 24 #[.int .u64 0, .int .u64 0])
  have hB : Below w.heap.size w ((((w.alloc (.cells #[uv a.v, uv a.m] 24)).alloc (.cells #[uv b.v, uv b.m] 24)).alloc (.cells #[.int .u64 0, .int .u64 0] 24)).alloc (.cells #[.int .u64 0, .int .u64 0] 24)) := (Bl_alloc (Bl_alloc (Bl_alloc (Bl_alloc (Bl_refl w) _) _) _) _)
  clear hga
  clear ga
  clear hgb
  clear gb
  clear hgr
  clear gr
  clear hgo
  clear go
  generalize ((((w.alloc (.cells #[uv a.v, uv a.m] 24)).alloc (.cells #[uv b.v, uv b.m] 24)).alloc (.cells #[.int .u64 0, .int .u64 0] 24)).alloc (.cells #[.int .u64 0, .int .u64 0] 24)) = w1 at *
  obtain ⟨ca0, ca1⟩ := cells2 Ba
  have fa := Ba.frozen; have la := Ba.lt
  obtain ⟨cb0, cb1⟩ := cells2 Bb
  have fb := Bb.frozen; have lb := Bb.lt
  obtain ⟨cr0, cr1⟩ := cells2 Br
  have fr := Br.frozen; have lr := Br.lt
  obtain ⟨co0, co1⟩ := cells2 Bo
  have fo := Bo.frozen; have lo := Bo.lt
  clear ca0 ca1 fa la
  clear cb0 cb1 fb lb
  clear cr0 cr1 fr lr
  clear co0 co1 fo lo
  go_loopg [8] 64 (fun m i wr => ∃ n : Nat, n ≤ 64 ∧ m + n = 64 ∧ i = .int .i64 (n : Int) ∧ Below w.heap.size w wr ∧ Blk wr (w.heap.size) 24 #[uv a.v, uv a.m] ∧ Blk wr (w.heap.size + 1) 24 #[uv b.v, uv b.m] ∧ (∃ x y, Blk wr (w.heap.size + 1 + 1) 24 #[x, y]) ∧ Blk wr (w.heap.size + 1 + 1 + 1) 24 #[uv (F n).v, uv (F n).m])
  case atStart => exact ⟨0, by omega, by omega, rfl, hB, Ba, Bb, ⟨_, _, Br⟩, by rw [h0]; exact Bo⟩
  case round =>
    clear hB Ba Bb Br Bo
    obtain ⟨n, hn, hgk, rfl, hB, Ba, Bb, ⟨x, y, Br⟩, Bo⟩ := hrel
    obtain ⟨wo, rfl⟩ : ∃ z : World, z = wr := ⟨_, rfl⟩
    cases q : decide ((n : Int) < 64)
    · obtain ⟨ca0, ca1⟩ := cells2 Ba
      have fa := Ba.frozen; have la := Ba.lt
      obtain ⟨cb0, cb1⟩ := cells2 Bb
      have fb := Bb.frozen; have lb := Bb.lt
      obtain ⟨cr0, cr1⟩ := cells2 Br
      have fr := Br.frozen; have lr := Br.lt
      obtain ⟨co0, co1⟩ := cells2 Bo
      have fo := Bo.frozen; have lo := Bo.lt
      have eF : F n = F 64 := by have := of_decide_eq_false q; rw [show n = 64 by omega]
      clear hs h0
      go_wp2
      exact bodyPost_ret (v := nv (F 64)) (by simp [results, Try.results40, go_sem, cr0, cr1, co0, co1, lr, lo]) rfl ⟨rfl, by repeat (first | (with_reducible exact hB) | (with_reducible refine Bl_set ?_ (by first | omega | (simp; done) | (simp; omega)) _) | with_reducible apply Bl_alloc)⟩
    · have hlt : (n : Int) < 64 := of_decide_eq_true q
      have k_x := bits_n a (n : Int) n rfl (by omega); have k_y := bits_n b (n : Int) n rfl (by omega)
      have hs1 := hs n; clear hs h0
      generalize PlainTnum.bitsOf a n = X at k_x hs1; generalize PlainTnum.bitsOf b n = Y at k_y hs1; obtain ⟨x0, x1⟩ := X; obtain ⟨y0, y1⟩ := Y
      obtain ⟨V, e_V⟩ : ∃ z' : Nat → May, z' = PlainTnum.eachSt 1 (x0, x1) (y0, y1) := ⟨_, rfl⟩
      rw [← e_V] at hs1
      have g0 : V 0 = (false, false) := by rw [e_V]; rfl
      have H0 := Lib.hid (show V 1 = (if PlainTnum.sel (x0, x1) false && PlainTnum.sel (y0, y1) false then PlainTnum.put (V 0) (PlainTnum.eachOp 1 false false) else V 0) by rw [e_V]; rfl)
      have H1 := Lib.hid (show V 2 = (if PlainTnum.sel (x0, x1) false && PlainTnum.sel (y0, y1) true then PlainTnum.put (V 1) (PlainTnum.eachOp 1 false true) else V 1) by rw [e_V]; rfl)
      have H2 := Lib.hid (show V 3 = (if PlainTnum.sel (x0, x1) true && PlainTnum.sel (y0, y1) false then PlainTnum.put (V 2) (PlainTnum.eachOp 1 true false) else V 2) by rw [e_V]; rfl)
      have H3 := Lib.hid (show V 4 = (if PlainTnum.sel (x0, x1) true && PlainTnum.sel (y0, y1) true then PlainTnum.put (V 3) (PlainTnum.eachOp 1 true true) else V 3) by rw [e_V]; rfl)
      have k_s := set_n (F n) n (by omega) (V 4); rw [← hs1] at k_s; clear hs1 e_V
      obtain ⟨ca0, ca1⟩ := cells2 Ba
      have fa := Ba.frozen; have la := Ba.lt
      obtain ⟨cb0, cb1⟩ := cells2 Bb
      have fb := Bb.frozen; have lb := Bb.lt
      obtain ⟨cr0, cr1⟩ := cells2 Br
      have fr := Br.frozen; have lr := Br.lt
      obtain ⟨co0, co1⟩ := cells2 Bo
      have fo := Bo.frozen; have lo := Bo.lt
      go_upto_region 6 with fail
      clear ca0 ca1 fa la
      clear cb0 cb1 fb lb
      clear cr0 cr1 fr lr
      clear co0 co1 fo lo
      have Bm := Blk.new wo 89 #[.bool false, .bool false]
      have hgm := hB.size
      have hnam := Nat.ne_of_lt Ba.lt; have hltam := Ba.lt
      have hnbm := Nat.ne_of_lt Bb.lt; have hltbm := Bb.lt
      have hnrm := Nat.ne_of_lt Br.lt; have hltrm := Br.lt
      have hnom := Nat.ne_of_lt Bo.lt; have hltom := Bo.lt
      replace Ba : Blk (wo.alloc (.cells #[.bool false, .bool false] 89)) (w.heap.size) 24 #[uv a.v, uv a.m] := Ba.alloc _
      replace Bb : Blk (wo.alloc (.cells #[.bool false, .bool false] 89)) (w.heap.size + 1) 24 #[uv b.v, uv b.m] := Bb.alloc _
      replace Br : Blk (wo.alloc (.cells #[.bool false, .bool false] 89)) (w.heap.size + 1 + 1) 24 #[x, y] := Br.alloc _
      replace Bo : Blk (wo.alloc (.cells #[.bool false, .bool false] 89)) (w.heap.size + 1 + 1 + 1) 24 #[uv (F n).v, uv (F n).m] := Bo.alloc _
      replace hB : Below w.heap.size w (wo.alloc (.cells #[.bool false, .bool false] 89)) := Bl_alloc hB _
      generalize (wo.alloc (.cells #[.bool false, .bool false] 89)) = w2 at *
      generalize wo.heap.size = gm at *
      obtain ⟨ca0, ca1⟩ := cells2 Ba
      have fa := Ba.frozen; have la := Ba.lt
      obtain ⟨cb0, cb1⟩ := cells2 Bb
      have fb := Bb.frozen; have lb := Bb.lt
      obtain ⟨cr0, cr1⟩ := cells2 Br
      have fr := Br.frozen; have lr := Br.lt
      obtain ⟨co0, co1⟩ := cells2 Bo
      have fo := Bo.frozen; have lo := Bo.lt
      obtain ⟨cm0, cm1⟩ := cells2 Bm
      have fm := Bm.frozen; have lm := Bm.lt
      go_wp2_with fail
      clear ca0 ca1; obtain ⟨ca0, ca1⟩ := lcells2 Ba
      clear cb0 cb1; obtain ⟨cb0, cb1⟩ := lcells2 Bb
      clear cr0 cr1; obtain ⟨cr0, cr1⟩ := lcells2 Br
      clear co0 co1; obtain ⟨co0, co1⟩ := lcells2 Bo
      clear cm0 cm1; obtain ⟨cm0, cm1⟩ := lcells2 Bm
      refine wp_region_mix 8 (fun _ => #[.bool false, .bool false]) (by kernel_rfl) (by kernel_rfl) (fun o t ho ht => by
        simp at ho
        rcases ho with rfl | rfl | rfl | rfl | rfl | rfl | rfl | rfl <;> first | (cases ht; done) | (obtain rfl := Option.some.inj ht; exact fun ρ w => new_mb ht ρ w)) ?_
      simp only [List.take_succ_cons, List.take_zero, List.drop_succ_cons, List.drop_zero]
      repeat ((with_reducible refine wpMix_step (fun K hK => ?_)); go_simp; first | ((with_reducible refine hK _ ?_); clear hK K) | (rw [if_neg (by decide)]; (with_reducible refine hK _ ?_); clear hK K) | (apply Exists.intro; refine ⟨fun g => ?_, hK _ ?_⟩; ((with_reducible refine Calls.mono (k_x g.w) ?_); exact fun _ _ h => h); clear hK K) | (apply Exists.intro; refine ⟨fun g => ?_, hK _ ?_⟩; ((with_reducible refine Calls.mono (k_y g.w) ?_); exact fun _ _ h => h); clear hK K))
      refine wpMix_nil ?_
      intro G w3 hgr hblk hdist
      have hb : Below w2.heap.size w2 w3 := hgr
      replace Ba := Ba.next hb
      replace Bb := Bb.next hb
      replace Br := Br.next hb
      replace Bo := Bo.next hb
      replace Bm := Bm.next hb
      obtain ⟨Bp, hlp⟩ := hblk 6 _ rfl
      obtain ⟨Bq, hlq⟩ := hblk 7 _ rfl
      have hdpq := hdist 6 7 _ _ rfl rfl (by decide)
      have hgp : w.heap.size ≤ G 6 := Nat.le_trans hB.size hlp
      have hnap : w.heap.size ≠ G 6 := Nat.ne_of_lt (Nat.lt_of_lt_of_le la hlp)
      have hnbp : w.heap.size + 1 ≠ G 6 := Nat.ne_of_lt (Nat.lt_of_lt_of_le lb hlp)
      have hnrp : w.heap.size + 1 + 1 ≠ G 6 := Nat.ne_of_lt (Nat.lt_of_lt_of_le lr hlp)
      have hnop : w.heap.size + 1 + 1 + 1 ≠ G 6 := Nat.ne_of_lt (Nat.lt_of_lt_of_le lo hlp)
      have hnmp : gm ≠ G 6 := Nat.ne_of_lt (Nat.lt_of_lt_of_le lm hlp)
      clear hlp
      have hgq : w.heap.size ≤ G 7 := Nat.le_trans hB.size hlq
      have hnaq : w.heap.size ≠ G 7 := Nat.ne_of_lt (Nat.lt_of_lt_of_le la hlq)
      have hnbq : w.heap.size + 1 ≠ G 7 := Nat.ne_of_lt (Nat.lt_of_lt_of_le lb hlq)
      have hnrq : w.heap.size + 1 + 1 ≠ G 7 := Nat.ne_of_lt (Nat.lt_of_lt_of_le lr hlq)
      have hnoq : w.heap.size + 1 + 1 + 1 ≠ G 7 := Nat.ne_of_lt (Nat.lt_of_lt_of_le lo hlq)
      have hnmq : gm ≠ G 7 := Nat.ne_of_lt (Nat.lt_of_lt_of_le lm hlq)
      clear hlq
      clear ca0 ca1 fa la
      clear cb0 cb1 fb lb
      clear cr0 cr1 fr lr
      clear co0 co1 fo lo
      clear cm0 cm1 fm lm
      replace hB : Below w.heap.size w w3 := Bl_trans hB hb
      simp only [putAll, isAlloc, Act.put]
      generalize G 6 = gp at *
      generalize G 7 = gq at *
      clear hb hgr hblk hdist
      obtain ⟨ca0, ca1⟩ := cells2 Ba
      have fa := Ba.frozen; have la := Ba.lt
      obtain ⟨cb0, cb1⟩ := cells2 Bb
      have fb := Bb.frozen; have lb := Bb.lt
      obtain ⟨cr0, cr1⟩ := cells2 Br
      have fr := Br.frozen; have lr := Br.lt
      obtain ⟨co0, co1⟩ := cells2 Bo
      have fo := Bo.frozen; have lo := Bo.lt
      obtain ⟨cm0, cm1⟩ := cells2 Bm
      have fm := Bm.frozen; have lm := Bm.lt
      obtain ⟨cp0, cp1⟩ := cells2 Bp
      have fp := Bp.frozen; have lp := Bp.lt
      obtain ⟨cq0, cq1⟩ := cells2 Bq
      have fq := Bq.frozen; have lq := Bq.lt
      go_upto_region 7 with fail
      clear ca0 ca1 fa la
      clear cb0 cb1 fb lb
      clear cr0 cr1 fr lr
      clear co0 co1 fo lo
      clear cm0 cm1 fm lm
      clear cp0 cp1 fp lp
      clear cq0 cq1 fq lq
      replace Ba : Blk ((w3.setCell ⟨gp, 0, none⟩ (.bool x0)).setCell ⟨gp, 1, none⟩ (.bool x1)) (w.heap.size) 24 #[uv a.v, uv a.m] := ((Ba.far (by first | (simp; done) | (simp; omega) | (simp [*]; done) | (simp only [ne_eq]; constructor <;> omega)) _).far (by first | (simp; done) | (simp; omega) | (simp [*]; done) | (simp only [ne_eq]; constructor <;> omega)) _)
      replace Bb : Blk ((w3.setCell ⟨gp, 0, none⟩ (.bool x0)).setCell ⟨gp, 1, none⟩ (.bool x1)) (w.heap.size + 1) 24 #[uv b.v, uv b.m] := ((Bb.far (by first | (simp; done) | (simp; omega) | (simp [*]; done) | (simp only [ne_eq]; constructor <;> omega)) _).far (by first | (simp; done) | (simp; omega) | (simp [*]; done) | (simp only [ne_eq]; constructor <;> omega)) _)
      replace Br : Blk ((w3.setCell ⟨gp, 0, none⟩ (.bool x0)).setCell ⟨gp, 1, none⟩ (.bool x1)) (w.heap.size + 1 + 1) 24 #[x, y] := ((Br.far (by first | (simp; done) | (simp; omega) | (simp [*]; done) | (simp only [ne_eq]; constructor <;> omega)) _).far (by first | (simp; done) | (simp; omega) | (simp [*]; done) | (simp only [ne_eq]; constructor <;> omega)) _)
      replace Bo : Blk ((w3.setCell ⟨gp, 0, none⟩ (.bool x0)).setCell ⟨gp, 1, none⟩ (.bool x1)) (w.heap.size + 1 + 1 + 1) 24 #[uv (F n).v, uv (F n).m] := ((Bo.far (by first | (simp; done) | (simp; omega) | (simp [*]; done) | (simp only [ne_eq]; constructor <;> omega)) _).far (by first | (simp; done) | (simp; omega) | (simp [*]; done) | (simp only [ne_eq]; constructor <;> omega)) _)
      replace Bm : Blk ((w3.setCell ⟨gp, 0, none⟩ (.bool x0)).setCell ⟨gp, 1, none⟩ (.bool x1)) (gm) 89 #[.bool false, .bool false] := ((Bm.far (by first | (simp; done) | (simp; omega) | (simp [*]; done) | (simp only [ne_eq]; constructor <;> omega)) _).far (by first | (simp; done) | (simp; omega) | (simp [*]; done) | (simp only [ne_eq]; constructor <;> omega)) _)
      replace Bp : Blk ((w3.setCell ⟨gp, 0, none⟩ (.bool x0)).setCell ⟨gp, 1, none⟩ (.bool x1)) (gp) 89 #[.bool x0, .bool x1] := ((Bp.set_ 0 _).set_ 1 _)
      replace Bq : Blk ((w3.setCell ⟨gp, 0, none⟩ (.bool x0)).setCell ⟨gp, 1, none⟩ (.bool x1)) (gq) 89 #[.bool false, .bool false] := ((Bq.far (by first | (simp; done) | (simp; omega) | (simp [*]; done) | (simp only [ne_eq]; constructor <;> omega)) _).far (by first | (simp; done) | (simp; omega) | (simp [*]; done) | (simp only [ne_eq]; constructor <;> omega)) _)
      replace hB : Below w.heap.size w ((w3.setCell ⟨gp, 0, none⟩ (.bool x0)).setCell ⟨gp, 1, none⟩ (.bool x1)) := (Bl_set (Bl_set hB (by first | omega | (simp; done) | (simp; omega)) _) (by first | omega | (simp; done) | (simp; omega)) _)
      replace Ba : Blk ((((w3.setCell ⟨gp, 0, none⟩ (.bool x0)).setCell ⟨gp, 1, none⟩ (.bool x1)).setCell ⟨gq, 0, none⟩ (.bool y0)).setCell ⟨gq, 1, none⟩ (.bool y1)) (w.heap.size) 24 #[uv a.v, uv a.m] := ((Ba.far (by first | (simp; done) | (simp; omega) | (simp [*]; done) | (simp only [ne_eq]; constructor <;> omega)) _).far (by first | (simp; done) | (simp; omega) | (simp [*]; done) | (simp only [ne_eq]; constructor <;> omega)) _)
      replace Bb : Blk ((((w3.setCell ⟨gp, 0, none⟩ (.bool x0)).setCell ⟨gp, 1, none⟩ (.bool x1)).setCell ⟨gq, 0, none⟩ (.bool y0)).setCell ⟨gq, 1, none⟩ (.bool y1)) (w.heap.size + 1) 24 #[uv b.v, uv b.m] := ((Bb.far (by first | (simp; done) | (simp; omega) | (simp [*]; done) | (simp only [ne_eq]; constructor <;> omega)) _).far (by first | (simp; done) | (simp; omega) | (simp [*]; done) | (simp only [ne_eq]; constructor <;> omega)) _)
      replace Br : Blk ((((w3.setCell ⟨gp, 0, none⟩ (.bool x0)).setCell ⟨gp, 1, none⟩ (.bool x1)).setCell ⟨gq, 0, none⟩ (.bool y0)).setCell ⟨gq, 1, none⟩ (.bool y1)) (w.heap.size + 1 + 1) 24 #[x, y] := ((Br.far (by first | (simp; done) | (simp; omega) | (simp [*]; done) | (simp only [ne_eq]; constructor <;> omega)) _).far (by first | (simp; done) | (simp; omega) | (simp [*]; done) | (simp only [ne_eq]; constructor <;> omega)) _)
      replace Bo : Blk ((((w3.setCell ⟨gp, 0, none⟩ (.bool x0)).setCell ⟨gp, 1, none⟩ (.bool x1)).setCell ⟨gq, 0, none⟩ (.bool y0)).setCell ⟨gq, 1, none⟩ (.bool y1)) (w.heap.size + 1 + 1 + 1) 24 #[uv (F n).v, uv (F n).m] := ((Bo.far (by first | (simp; done) | (simp; omega) | (simp [*]; done) | (simp only [ne_eq]; constructor <;> omega)) _).far (by first | (simp; done) | (simp; omega) | (simp [*]; done) | (simp only [ne_eq]; constructor <;> omega)) _)
      replace Bm : Blk ((((w3.setCell ⟨gp, 0, none⟩ (.bool x0)).setCell ⟨gp, 1, none⟩ (.bool x1)).setCell ⟨gq, 0, none⟩ (.bool y0)).setCell ⟨gq, 1, none⟩ (.bool y1)) (gm) 89 #[.bool false, .bool false] := ((Bm.far (by first | (simp; done) | (simp; omega) | (simp [*]; done) | (simp only [ne_eq]; constructor <;> omega)) _).far (by first | (simp; done) | (simp; omega) | (simp [*]; done) | (simp only [ne_eq]; constructor <;> omega)) _)
      replace Bp : Blk ((((w3.setCell ⟨gp, 0, none⟩ (.bool x0)).setCell ⟨gp, 1, none⟩ (.bool x1)).setCell ⟨gq, 0, none⟩ (.bool y0)).setCell ⟨gq, 1, none⟩ (.bool y1)) (gp) 89 #[.bool x0, .bool x1] := ((Bp.far (by first | (simp; done) | (simp; omega) | (simp [*]; done) | (simp only [ne_eq]; constructor <;> omega)) _).far (by first | (simp; done) | (simp; omega) | (simp [*]; done) | (simp only [ne_eq]; constructor <;> omega)) _)
      replace Bq : Blk ((((w3.setCell ⟨gp, 0, none⟩ (.bool x0)).setCell ⟨gp, 1, none⟩ (.bool x1)).setCell ⟨gq, 0, none⟩ (.bool y0)).setCell ⟨gq, 1, none⟩ (.bool y1)) (gq) 89 #[.bool y0, .bool y1] := ((Bq.set_ 0 _).set_ 1 _)
      replace hB : Below w.heap.size w ((((w3.setCell ⟨gp, 0, none⟩ (.bool x0)).setCell ⟨gp, 1, none⟩ (.bool x1)).setCell ⟨gq, 0, none⟩ (.bool y0)).setCell ⟨gq, 1, none⟩ (.bool y1)) := (Bl_set (Bl_set hB (by first | omega | (simp; done) | (simp; omega)) _) (by first | omega | (simp; done) | (simp; omega)) _)
      generalize ((((w3.setCell ⟨gp, 0, none⟩ (.bool x0)).setCell ⟨gp, 1, none⟩ (.bool x1)).setCell ⟨gq, 0, none⟩ (.bool y0)).setCell ⟨gq, 1, none⟩ (.bool y1)) = w4 at *
      obtain ⟨ca0, ca1⟩ := cells2 Ba
      have fa := Ba.frozen; have la := Ba.lt
      obtain ⟨cb0, cb1⟩ := cells2 Bb
      have fb := Bb.frozen; have lb := Bb.lt
      obtain ⟨cr0, cr1⟩ := cells2 Br
      have fr := Br.frozen; have lr := Br.lt
      obtain ⟨co0, co1⟩ := cells2 Bo
      have fo := Bo.frozen; have lo := Bo.lt
      obtain ⟨cm0, cm1⟩ := cells2 Bm
      have fm := Bm.frozen; have lm := Bm.lt
      obtain ⟨cp0, cp1⟩ := cells2 Bp
      have fp := Bp.frozen; have lp := Bp.lt
      obtain ⟨cq0, cq1⟩ := cells2 Bq
      have fq := Bq.frozen; have lq := Bq.lt
      clear ca0 ca1 fa la
      clear cb0 cb1 fb lb
      clear cr0 cr1 fr lr
      clear co0 co1 fo lo
      clear cm0 cm1 fm lm
      clear cp0 cp1 fp lp
      clear cq0 cq1 fq lq
      replace Bm : Blk w4 (gm) 89 #[.bool (V 0).1, .bool (V 0).2] := by rw [g0]; exact Bm
      clear g0
      obtain ⟨ca0, ca1⟩ := cells2 Ba
      have fa := Ba.frozen; have la := Ba.lt
      obtain ⟨cb0, cb1⟩ := cells2 Bb
      have fb := Bb.frozen; have lb := Bb.lt
      obtain ⟨cr0, cr1⟩ := cells2 Br
      have fr := Br.frozen; have lr := Br.lt
      obtain ⟨co0, co1⟩ := cells2 Bo
      have fo := Bo.frozen; have lo := Bo.lt
      obtain ⟨cm0, cm1⟩ := cells2 Bm
      have fm := Bm.frozen; have lm := Bm.lt
      obtain ⟨cp0, cp1⟩ := cells2 Bp
      have fp := Bp.frozen; have lp := Bp.lt
      obtain ⟨cq0, cq1⟩ := cells2 Bq
      have fq := Bq.frozen; have lq := Bq.lt
      go_wp2_with fail
      clear ca0 ca1 fa la
      clear cb0 cb1 fb lb
      clear cr0 cr1 fr lr
      clear co0 co1 fo lo
      clear cm0 cm1 fm lm
      clear cp0 cp1 fp lp
      clear cq0 cq1 fq lq
      go_loopg [12] 2 (fun m i wr => Below w.heap.size w wr ∧ Blk wr (w.heap.size) 24 #[uv a.v, uv a.m] ∧ Blk wr (w.heap.size + 1) 24 #[uv b.v, uv b.m] ∧ Blk wr (w.heap.size + 1 + 1) 24 #[x, y] ∧ Blk wr (w.heap.size + 1 + 1 + 1) 24 #[uv (F n).v, uv (F n).m] ∧ Blk wr (gp) 89 #[.bool x0, .bool x1] ∧ Blk wr (gq) 89 #[.bool y0, .bool y1] ∧ ((m = 2 ∧ i = .int .i64 0 ∧ Blk wr (gm) 89 #[.bool (V 0).1, .bool (V 0).2]) ∨ (m = 1 ∧ i = .int .i64 1 ∧ Blk wr (gm) 89 #[.bool (V 2).1, .bool (V 2).2]) ∨ (m = 0 ∧ i = .int .i64 2 ∧ Blk wr (gm) 89 #[.bool (V 4).1, .bool (V 4).2])))
      case atStart => exact ⟨hB, Ba, Bb, Br, Bo, Bp, Bq, .inl ⟨rfl, rfl, Bm⟩⟩
      case round =>
        rename Nat => gh0
        clear hB Ba Bb Br Bo Bp Bq Bm
        obtain ⟨hB, Ba, Bb, Br, Bo, Bp, Bq, ⟨hm, rfl, Bm⟩ | ⟨hm, rfl, Bm⟩ | ⟨hm, rfl, Bm⟩⟩ := hrel
        · obtain ⟨wl0, rfl⟩ : ∃ z : World, z = wr := ⟨_, rfl⟩
          obtain ⟨ca0, ca1⟩ := cells2 Ba
          have fa := Ba.frozen; have la := Ba.lt
          obtain ⟨cb0, cb1⟩ := cells2 Bb
          have fb := Bb.frozen; have lb := Bb.lt
          obtain ⟨cr0, cr1⟩ := cells2 Br
          have fr := Br.frozen; have lr := Br.lt
          obtain ⟨co0, co1⟩ := cells2 Bo
          have fo := Bo.frozen; have lo := Bo.lt
          obtain ⟨cm0, cm1⟩ := cells2 Bm
          have fm := Bm.frozen; have lm := Bm.lt
          obtain ⟨cp0, cp1⟩ := cells2 Bp
          have fp := Bp.frozen; have lp := Bp.lt
          obtain ⟨cq0, cq1⟩ := cells2 Bq
          have fq := Bq.frozen; have lq := Bq.lt
          go_wp2_with fail
          clear ca0 ca1 fa la
          clear cb0 cb1 fb lb
          clear cr0 cr1 fr lr
          clear co0 co1 fo lo
          clear cm0 cm1 fm lm
          clear cp0 cp1 fp lp
          clear cq0 cq1 fq lq
          go_loopg [13] 2 (fun m i wr => Below w.heap.size w wr ∧ Blk wr (w.heap.size) 24 #[uv a.v, uv a.m] ∧ Blk wr (w.heap.size + 1) 24 #[uv b.v, uv b.m] ∧ Blk wr (w.heap.size + 1 + 1) 24 #[x, y] ∧ Blk wr (w.heap.size + 1 + 1 + 1) 24 #[uv (F n).v, uv (F n).m] ∧ Blk wr (gp) 89 #[.bool x0, .bool x1] ∧ Blk wr (gq) 89 #[.bool y0, .bool y1] ∧ ((m = 2 ∧ i = .int .i64 0 ∧ Blk wr (gm) 89 #[.bool (V 0).1, .bool (V 0).2]) ∨ (m = 1 ∧ i = .int .i64 1 ∧ Blk wr (gm) 89 #[.bool (V 1).1, .bool (V 1).2]) ∨ (m = 0 ∧ i = .int .i64 2 ∧ Blk wr (gm) 89 #[.bool (V 2).1, .bool (V 2).2])))
          case atStart => exact ⟨hB, Ba, Bb, Br, Bo, Bp, Bq, .inl ⟨rfl, rfl, Bm⟩⟩
          case round =>
            rename Nat => gh1
            clear hB Ba Bb Br Bo Bp Bq Bm
            obtain ⟨hB, Ba, Bb, Br, Bo, Bp, Bq, ⟨hm, rfl, Bm⟩ | ⟨hm, rfl, Bm⟩ | ⟨hm, rfl, Bm⟩⟩ := hrel
            · obtain ⟨wl1, rfl⟩ : ∃ z : World, z = wr := ⟨_, rfl⟩
              obtain ⟨ca0, ca1⟩ := cells2 Ba
              have fa := Ba.frozen; have la := Ba.lt
              obtain ⟨cb0, cb1⟩ := cells2 Bb
              have fb := Bb.frozen; have lb := Bb.lt
              obtain ⟨cr0, cr1⟩ := cells2 Br
              have fr := Br.frozen; have lr := Br.lt
              obtain ⟨co0, co1⟩ := cells2 Bo
              have fo := Bo.frozen; have lo := Bo.lt
              obtain ⟨cm0, cm1⟩ := cells2 Bm
              have fm := Bm.frozen; have lm := Bm.lt
              obtain ⟨cp0, cp1⟩ := cells2 Bp
              have fp := Bp.frozen; have lp := Bp.lt
              obtain ⟨cq0, cq1⟩ := cells2 Bq
              have fq := Bq.frozen; have lq := Bq.lt
              cases x0
              · go_upto_region 12 with fail
                have eG := H0.out; simp [PlainTnum.sel, PlainTnum.put, PlainTnum.eachOp] at eG
                clear ca0 ca1 fa la
                clear cb0 cb1 fb lb
                clear cr0 cr1 fr lr
                clear co0 co1 fo lo
                clear cm0 cm1 fm lm
                clear cp0 cp1 fp lp
                clear cq0 cq1 fq lq
                replace Bm : Blk wl1 (gm) 89 #[.bool (V 1).1, .bool (V 1).2] := by rw [eG]; exact Bm
                clear eG
                go_wp2_with fail
                go_roundg 1
                case measure => omega
                case rel => exact ⟨hB, Ba, Bb, Br, Bo, Bp, Bq, .inr (.inl ⟨rfl, by go_num, Bm⟩)⟩
              · cases y0
                · go_upto_region 12 with fail
                  have eG := H0.out; simp [PlainTnum.sel, PlainTnum.put, PlainTnum.eachOp] at eG
                  clear ca0 ca1 fa la
                  clear cb0 cb1 fb lb
                  clear cr0 cr1 fr lr
                  clear co0 co1 fo lo
                  clear cm0 cm1 fm lm
                  clear cp0 cp1 fp lp
                  clear cq0 cq1 fq lq
                  replace Bm : Blk wl1 (gm) 89 #[.bool (V 1).1, .bool (V 1).2] := by rw [eG]; exact Bm
                  clear eG
                  go_wp2_with fail
                  go_roundg 1
                  case measure => omega
                  case rel => exact ⟨hB, Ba, Bb, Br, Bo, Bp, Bq, .inr (.inl ⟨rfl, by go_num, Bm⟩)⟩
                · go_upto_region 12 with fail
                  clear ca0 ca1 fa la
                  clear cb0 cb1 fb lb
                  clear cr0 cr1 fr lr
                  clear co0 co1 fo lo
                  clear cm0 cm1 fm lm
                  clear cp0 cp1 fp lp
                  clear cq0 cq1 fq lq
                  replace Ba : Blk (wl1.setCell ⟨gm, 0, none⟩ (.bool true)) (w.heap.size) 24 #[uv a.v, uv a.m] := (Ba.far (by first | (simp; done) | (simp; omega) | (simp [*]; done) | (simp only [ne_eq]; constructor <;> omega)) _)
                  replace Bb : Blk (wl1.setCell ⟨gm, 0, none⟩ (.bool true)) (w.heap.size + 1) 24 #[uv b.v, uv b.m] := (Bb.far (by first | (simp; done) | (simp; omega) | (simp [*]; done) | (simp only [ne_eq]; constructor <;> omega)) _)
                  replace Br : Blk (wl1.setCell ⟨gm, 0, none⟩ (.bool true)) (w.heap.size + 1 + 1) 24 #[x, y] := (Br.far (by first | (simp; done) | (simp; omega) | (simp [*]; done) | (simp only [ne_eq]; constructor <;> omega)) _)
                  replace Bo : Blk (wl1.setCell ⟨gm, 0, none⟩ (.bool true)) (w.heap.size + 1 + 1 + 1) 24 #[uv (F n).v, uv (F n).m] := (Bo.far (by first | (simp; done) | (simp; omega) | (simp [*]; done) | (simp only [ne_eq]; constructor <;> omega)) _)
                  replace Bm : Blk (wl1.setCell ⟨gm, 0, none⟩ (.bool true)) (gm) 89 #[.bool true, .bool (V 0).2] := Bm.set_ 0 _
                  replace Bp : Blk (wl1.setCell ⟨gm, 0, none⟩ (.bool true)) (gp) 89 #[.bool true, .bool x1] := (Bp.far (by first | (simp; done) | (simp; omega) | (simp [*]; done) | (simp only [ne_eq]; constructor <;> omega)) _)
                  replace Bq : Blk (wl1.setCell ⟨gm, 0, none⟩ (.bool true)) (gq) 89 #[.bool true, .bool y1] := (Bq.far (by first | (simp; done) | (simp; omega) | (simp [*]; done) | (simp only [ne_eq]; constructor <;> omega)) _)
                  replace hB : Below w.heap.size w (wl1.setCell ⟨gm, 0, none⟩ (.bool true)) := (Bl_set hB (by first | omega | (simp; done) | (simp; omega)) _)
                  generalize (wl1.setCell ⟨gm, 0, none⟩ (.bool true)) = w5 at *
                  obtain ⟨ca0, ca1⟩ := cells2 Ba
                  have fa := Ba.frozen; have la := Ba.lt
                  obtain ⟨cb0, cb1⟩ := cells2 Bb
                  have fb := Bb.frozen; have lb := Bb.lt
                  obtain ⟨cr0, cr1⟩ := cells2 Br
                  have fr := Br.frozen; have lr := Br.lt
                  obtain ⟨co0, co1⟩ := cells2 Bo
                  have fo := Bo.frozen; have lo := Bo.lt
                  obtain ⟨cm0, cm1⟩ := cells2 Bm
                  have fm := Bm.frozen; have lm := Bm.lt
                  obtain ⟨cp0, cp1⟩ := cells2 Bp
                  have fp := Bp.frozen; have lp := Bp.lt
                  obtain ⟨cq0, cq1⟩ := cells2 Bq
                  have fq := Bq.frozen; have lq := Bq.lt
                  have eG := H0.out; simp [PlainTnum.sel, PlainTnum.put, PlainTnum.eachOp] at eG
                  clear ca0 ca1 fa la
                  clear cb0 cb1 fb lb
                  clear cr0 cr1 fr lr
                  clear co0 co1 fo lo
                  clear cm0 cm1 fm lm
                  clear cp0 cp1 fp lp
                  clear cq0 cq1 fq lq
                  replace Bm : Blk w5 (gm) 89 #[.bool (V 1).1, .bool (V 1).2] := by rw [eG]; exact Bm
                  clear eG
                  go_wp2_with fail
                  go_roundg 1
                  case measure => omega
                  case rel => exact ⟨hB, Ba, Bb, Br, Bo, Bp, Bq, .inr (.inl ⟨rfl, by go_num, Bm⟩)⟩
            · obtain ⟨wl1, rfl⟩ : ∃ z : World, z = wr := ⟨_, rfl⟩
              obtain ⟨ca0, ca1⟩ := cells2 Ba
              have fa := Ba.frozen; have la := Ba.lt
              obtain ⟨cb0, cb1⟩ := cells2 Bb
              have fb := Bb.frozen; have lb := Bb.lt
              obtain ⟨cr0, cr1⟩ := cells2 Br
              have fr := Br.frozen; have lr := Br.lt
              obtain ⟨co0, co1⟩ := cells2 Bo
              have fo := Bo.frozen; have lo := Bo.lt
              obtain ⟨cm0, cm1⟩ := cells2 Bm
              have fm := Bm.frozen; have lm := Bm.lt
              obtain ⟨cp0, cp1⟩ := cells2 Bp
              have fp := Bp.frozen; have lp := Bp.lt
              obtain ⟨cq0, cq1⟩ := cells2 Bq
              have fq := Bq.frozen; have lq := Bq.lt
              cases x0
              · go_upto_region 12 with fail
                have eG := H1.out; simp [PlainTnum.sel, PlainTnum.put, PlainTnum.eachOp] at eG
                clear ca0 ca1 fa la
                clear cb0 cb1 fb lb
                clear cr0 cr1 fr lr
                clear co0 co1 fo lo
                clear cm0 cm1 fm lm
                clear cp0 cp1 fp lp
                clear cq0 cq1 fq lq
                replace Bm : Blk wl1 (gm) 89 #[.bool (V 2).1, .bool (V 2).2] := by rw [eG]; exact Bm
                clear eG
                go_wp2_with fail
                go_roundg 0
                case measure => omega
                case rel => exact ⟨hB, Ba, Bb, Br, Bo, Bp, Bq, .inr (.inr ⟨rfl, by go_num, Bm⟩)⟩
              · cases y1
                · go_upto_region 12 with fail
                  have eG := H1.out; simp [PlainTnum.sel, PlainTnum.put, PlainTnum.eachOp] at eG
                  clear ca0 ca1 fa la
                  clear cb0 cb1 fb lb
                  clear cr0 cr1 fr lr
                  clear co0 co1 fo lo
                  clear cm0 cm1 fm lm
                  clear cp0 cp1 fp lp
                  clear cq0 cq1 fq lq
                  replace Bm : Blk wl1 (gm) 89 #[.bool (V 2).1, .bool (V 2).2] := by rw [eG]; exact Bm
                  clear eG
                  go_wp2_with fail
                  go_roundg 0
                  case measure => omega
                  case rel => exact ⟨hB, Ba, Bb, Br, Bo, Bp, Bq, .inr (.inr ⟨rfl, by go_num, Bm⟩)⟩
                · go_upto_region 12 with fail
                  clear ca0 ca1 fa la
                  clear cb0 cb1 fb lb
                  clear cr0 cr1 fr lr
                  clear co0 co1 fo lo
                  clear cm0 cm1 fm lm
                  clear cp0 cp1 fp lp
                  clear cq0 cq1 fq lq
                  replace Ba : Blk (wl1.setCell ⟨gm, 1, none⟩ (.bool true)) (w.heap.size) 24 #[uv a.v, uv a.m] := (Ba.far (by first | (simp; done) | (simp; omega) | (simp [*]; done) | (simp only [ne_eq]; constructor <;> omega)) _)
                  replace Bb : Blk (wl1.setCell ⟨gm, 1, none⟩ (.bool true)) (w.heap.size + 1) 24 #[uv b.v, uv b.m] := (Bb.far (by first | (simp; done) | (simp; omega) | (simp [*]; done) | (simp only [ne_eq]; constructor <;> omega)) _)
                  replace Br : Blk (wl1.setCell ⟨gm, 1, none⟩ (.bool true)) (w.heap.size + 1 + 1) 24 #[x, y] := (Br.far (by first | (simp; done) | (simp; omega) | (simp [*]; done) | (simp only [ne_eq]; constructor <;> omega)) _)
                  replace Bo : Blk (wl1.setCell ⟨gm, 1, none⟩ (.bool true)) (w.heap.size + 1 + 1 + 1) 24 #[uv (F n).v, uv (F n).m] := (Bo.far (by first | (simp; done) | (simp; omega) | (simp [*]; done) | (simp only [ne_eq]; constructor <;> omega)) _)
                  replace Bm : Blk (wl1.setCell ⟨gm, 1, none⟩ (.bool true)) (gm) 89 #[.bool (V 1).1, .bool true] := Bm.set_ 1 _
                  replace Bp : Blk (wl1.setCell ⟨gm, 1, none⟩ (.bool true)) (gp) 89 #[.bool true, .bool x1] := (Bp.far (by first | (simp; done) | (simp; omega) | (simp [*]; done) | (simp only [ne_eq]; constructor <;> omega)) _)
                  replace Bq : Blk (wl1.setCell ⟨gm, 1, none⟩ (.bool true)) (gq) 89 #[.bool y0, .bool true] := (Bq.far (by first | (simp; done) | (simp; omega) | (simp [*]; done) | (simp only [ne_eq]; constructor <;> omega)) _)
                  replace hB : Below w.heap.size w (wl1.setCell ⟨gm, 1, none⟩ (.bool true)) := (Bl_set hB (by first | omega | (simp; done) | (simp; omega)) _)
                  generalize (wl1.setCell ⟨gm, 1, none⟩ (.bool true)) = w5 at *
                  obtain ⟨ca0, ca1⟩ := cells2 Ba
                  have fa := Ba.frozen; have la := Ba.lt
                  obtain ⟨cb0, cb1⟩ := cells2 Bb
                  have fb := Bb.frozen; have lb := Bb.lt
                  obtain ⟨cr0, cr1⟩ := cells2 Br
                  have fr := Br.frozen; have lr := Br.lt
                  obtain ⟨co0, co1⟩ := cells2 Bo
                  have fo := Bo.frozen; have lo := Bo.lt
                  obtain ⟨cm0, cm1⟩ := cells2 Bm
                  have fm := Bm.frozen; have lm := Bm.lt
                  obtain ⟨cp0, cp1⟩ := cells2 Bp
                  have fp := Bp.frozen; have lp := Bp.lt
                  obtain ⟨cq0, cq1⟩ := cells2 Bq
                  have fq := Bq.frozen; have lq := Bq.lt
                  have eG := H1.out; simp [PlainTnum.sel, PlainTnum.put, PlainTnum.eachOp] at eG
                  clear ca0 ca1 fa la
                  clear cb0 cb1 fb lb
                  clear cr0 cr1 fr lr
                  clear co0 co1 fo lo
                  clear cm0 cm1 fm lm
                  clear cp0 cp1 fp lp
                  clear cq0 cq1 fq lq
                  replace Bm : Blk w5 (gm) 89 #[.bool (V 2).1, .bool (V 2).2] := by rw [eG]; exact Bm
                  clear eG
                  go_wp2_with fail
                  go_roundg 0
                  case measure => omega
                  case rel => exact ⟨hB, Ba, Bb, Br, Bo, Bp, Bq, .inr (.inr ⟨rfl, by go_num, Bm⟩)⟩
            · obtain ⟨wl1, rfl⟩ : ∃ z : World, z = wr := ⟨_, rfl⟩
              obtain ⟨ca0, ca1⟩ := cells2 Ba
              have fa := Ba.frozen; have la := Ba.lt
              obtain ⟨cb0, cb1⟩ := cells2 Bb
              have fb := Bb.frozen; have lb := Bb.lt
              obtain ⟨cr0, cr1⟩ := cells2 Br
              have fr := Br.frozen; have lr := Br.lt
              obtain ⟨co0, co1⟩ := cells2 Bo
              have fo := Bo.frozen; have lo := Bo.lt
              obtain ⟨cm0, cm1⟩ := cells2 Bm
              have fm := Bm.frozen; have lm := Bm.lt
              obtain ⟨cp0, cp1⟩ := cells2 Bp
              have fp := Bp.frozen; have lp := Bp.lt
              obtain ⟨cq0, cq1⟩ := cells2 Bq
              have fq := Bq.frozen; have lq := Bq.lt
              go_wp2_with fail
              go_roundg 1
              case measure => omega
              case rel => exact ⟨hB, Ba, Bb, Br, Bo, Bp, Bq, .inr (.inl ⟨rfl, by go_num, Bm⟩)⟩
        · obtain ⟨wl0, rfl⟩ : ∃ z : World, z = wr := ⟨_, rfl⟩
          obtain ⟨ca0, ca1⟩ := cells2 Ba
          have fa := Ba.frozen; have la := Ba.lt
          obtain ⟨cb0, cb1⟩ := cells2 Bb
          have fb := Bb.frozen; have lb := Bb.lt
          obtain ⟨cr0, cr1⟩ := cells2 Br
          have fr := Br.frozen; have lr := Br.lt
          obtain ⟨co0, co1⟩ := cells2 Bo
          have fo := Bo.frozen; have lo := Bo.lt
          obtain ⟨cm0, cm1⟩ := cells2 Bm
          have fm := Bm.frozen; have lm := Bm.lt
          obtain ⟨cp0, cp1⟩ := cells2 Bp
          have fp := Bp.frozen; have lp := Bp.lt
          obtain ⟨cq0, cq1⟩ := cells2 Bq
          have fq := Bq.frozen; have lq := Bq.lt
          go_wp2_with fail
          clear ca0 ca1 fa la
          clear cb0 cb1 fb lb
          clear cr0 cr1 fr lr
          clear co0 co1 fo lo
          clear cm0 cm1 fm lm
          clear cp0 cp1 fp lp
          clear cq0 cq1 fq lq
          go_loopg [13] 2 (fun m i wr => Below w.heap.size w wr ∧ Blk wr (w.heap.size) 24 #[uv a.v, uv a.m] ∧ Blk wr (w.heap.size + 1) 24 #[uv b.v, uv b.m] ∧ Blk wr (w.heap.size + 1 + 1) 24 #[x, y] ∧ Blk wr (w.heap.size + 1 + 1 + 1) 24 #[uv (F n).v, uv (F n).m] ∧ Blk wr (gp) 89 #[.bool x0, .bool x1] ∧ Blk wr (gq) 89 #[.bool y0, .bool y1] ∧ ((m = 2 ∧ i = .int .i64 0 ∧ Blk wr (gm) 89 #[.bool (V 2).1, .bool (V 2).2]) ∨ (m = 1 ∧ i = .int .i64 1 ∧ Blk wr (gm) 89 #[.bool (V 3).1, .bool (V 3).2]) ∨ (m = 0 ∧ i = .int .i64 2 ∧ Blk wr (gm) 89 #[.bool (V 4).1, .bool (V 4).2])))
          case atStart => exact ⟨hB, Ba, Bb, Br, Bo, Bp, Bq, .inl ⟨rfl, rfl, Bm⟩⟩
          case round =>
            rename Nat => gh1
            clear hB Ba Bb Br Bo Bp Bq Bm
            obtain ⟨hB, Ba, Bb, Br, Bo, Bp, Bq, ⟨hm, rfl, Bm⟩ | ⟨hm, rfl, Bm⟩ | ⟨hm, rfl, Bm⟩⟩ := hrel
            · obtain ⟨wl1, rfl⟩ : ∃ z : World, z = wr := ⟨_, rfl⟩
              obtain ⟨ca0, ca1⟩ := cells2 Ba
              have fa := Ba.frozen; have la := Ba.lt
              obtain ⟨cb0, cb1⟩ := cells2 Bb
              have fb := Bb.frozen; have lb := Bb.lt
              obtain ⟨cr0, cr1⟩ := cells2 Br
              have fr := Br.frozen; have lr := Br.lt
              obtain ⟨co0, co1⟩ := cells2 Bo
              have fo := Bo.frozen; have lo := Bo.lt
              obtain ⟨cm0, cm1⟩ := cells2 Bm
              have fm := Bm.frozen; have lm := Bm.lt
              obtain ⟨cp0, cp1⟩ := cells2 Bp
              have fp := Bp.frozen; have lp := Bp.lt
              obtain ⟨cq0, cq1⟩ := cells2 Bq
              have fq := Bq.frozen; have lq := Bq.lt
              cases x1
              · go_upto_region 12 with fail
                have eG := H2.out; simp [PlainTnum.sel, PlainTnum.put, PlainTnum.eachOp] at eG
                clear ca0 ca1 fa la
                clear cb0 cb1 fb lb
                clear cr0 cr1 fr lr
                clear co0 co1 fo lo
                clear cm0 cm1 fm lm
                clear cp0 cp1 fp lp
                clear cq0 cq1 fq lq
                replace Bm : Blk wl1 (gm) 89 #[.bool (V 3).1, .bool (V 3).2] := by rw [eG]; exact Bm
                clear eG
                go_wp2_with fail
                go_roundg 1
                case measure => omega
                case rel => exact ⟨hB, Ba, Bb, Br, Bo, Bp, Bq, .inr (.inl ⟨rfl, by go_num, Bm⟩)⟩
              · cases y0
                · go_upto_region 12 with fail
                  have eG := H2.out; simp [PlainTnum.sel, PlainTnum.put, PlainTnum.eachOp] at eG
                  clear ca0 ca1 fa la
                  clear cb0 cb1 fb lb
                  clear cr0 cr1 fr lr
                  clear co0 co1 fo lo
                  clear cm0 cm1 fm lm
                  clear cp0 cp1 fp lp
                  clear cq0 cq1 fq lq
                  replace Bm : Blk wl1 (gm) 89 #[.bool (V 3).1, .bool (V 3).2] := by rw [eG]; exact Bm
                  clear eG
                  go_wp2_with fail
                  go_roundg 1
                  case measure => omega
                  case rel => exact ⟨hB, Ba, Bb, Br, Bo, Bp, Bq, .inr (.inl ⟨rfl, by go_num, Bm⟩)⟩
                · go_upto_region 12 with fail
                  clear ca0 ca1 fa la
                  clear cb0 cb1 fb lb
                  clear cr0 cr1 fr lr
                  clear co0 co1 fo lo
                  clear cm0 cm1 fm lm
                  clear cp0 cp1 fp lp
                  clear cq0 cq1 fq lq
                  replace Ba : Blk (wl1.setCell ⟨gm, 1, none⟩ (.bool true)) (w.heap.size) 24 #[uv a.v, uv a.m] := (Ba.far (by first | (simp; done) | (simp; omega) | (simp [*]; done) | (simp only [ne_eq]; constructor <;> omega)) _)
                  replace Bb : Blk (wl1.setCell ⟨gm, 1, none⟩ (.bool true)) (w.heap.size + 1) 24 #[uv b.v, uv b.m] := (Bb.far (by first | (simp; done) | (simp; omega) | (simp [*]; done) | (simp only [ne_eq]; constructor <;> omega)) _)
                  replace Br : Blk (wl1.setCell ⟨gm, 1, none⟩ (.bool true)) (w.heap.size + 1 + 1) 24 #[x, y] := (Br.far (by first | (simp; done) | (simp; omega) | (simp [*]; done) | (simp only [ne_eq]; constructor <;> omega)) _)
                  replace Bo : Blk (wl1.setCell ⟨gm, 1, none⟩ (.bool true)) (w.heap.size + 1 + 1 + 1) 24 #[uv (F n).v, uv (F n).m] := (Bo.far (by first | (simp; done) | (simp; omega) | (simp [*]; done) | (simp only [ne_eq]; constructor <;> omega)) _)
                  replace Bm : Blk (wl1.setCell ⟨gm, 1, none⟩ (.bool true)) (gm) 89 #[.bool (V 2).1, .bool true] := Bm.set_ 1 _
                  replace Bp : Blk (wl1.setCell ⟨gm, 1, none⟩ (.bool true)) (gp) 89 #[.bool x0, .bool true] := (Bp.far (by first | (simp; done) | (simp; omega) | (simp [*]; done) | (simp only [ne_eq]; constructor <;> omega)) _)
                  replace Bq : Blk (wl1.setCell ⟨gm, 1, none⟩ (.bool true)) (gq) 89 #[.bool true, .bool y1] := (Bq.far (by first | (simp; done) | (simp; omega) | (simp [*]; done) | (simp only [ne_eq]; constructor <;> omega)) _)
                  replace hB : Below w.heap.size w (wl1.setCell ⟨gm, 1, none⟩ (.bool true)) := (Bl_set hB (by first | omega | (simp; done) | (simp; omega)) _)
                  generalize (wl1.setCell ⟨gm, 1, none⟩ (.bool true)) = w5 at *
                  obtain ⟨ca0, ca1⟩ := cells2 Ba
                  have fa := Ba.frozen; have la := Ba.lt
                  obtain ⟨cb0, cb1⟩ := cells2 Bb
                  have fb := Bb.frozen; have lb := Bb.lt
                  obtain ⟨cr0, cr1⟩ := cells2 Br
                  have fr := Br.frozen; have lr := Br.lt
                  obtain ⟨co0, co1⟩ := cells2 Bo
                  have fo := Bo.frozen; have lo := Bo.lt
                  obtain ⟨cm0, cm1⟩ := cells2 Bm
                  have fm := Bm.frozen; have lm := Bm.lt
                  obtain ⟨cp0, cp1⟩ := cells2 Bp
                  have fp := Bp.frozen; have lp := Bp.lt
                  obtain ⟨cq0, cq1⟩ := cells2 Bq
                  have fq := Bq.frozen; have lq := Bq.lt
                  have eG := H2.out; simp [PlainTnum.sel, PlainTnum.put, PlainTnum.eachOp] at eG
                  clear ca0 ca1 fa la
                  clear cb0 cb1 fb lb
                  clear cr0 cr1 fr lr
                  clear co0 co1 fo lo
                  clear cm0 cm1 fm lm
                  clear cp0 cp1 fp lp
                  clear cq0 cq1 fq lq
                  replace Bm : Blk w5 (gm) 89 #[.bool (V 3).1, .bool (V 3).2] := by rw [eG]; exact Bm
                  clear eG
                  go_wp2_with fail
                  go_roundg 1
                  case measure => omega
                  case rel => exact ⟨hB, Ba, Bb, Br, Bo, Bp, Bq, .inr (.inl ⟨rfl, by go_num, Bm⟩)⟩
            · obtain ⟨wl1, rfl⟩ : ∃ z : World, z = wr := ⟨_, rfl⟩
              obtain ⟨ca0, ca1⟩ := cells2 Ba
              have fa := Ba.frozen; have la := Ba.lt
              obtain ⟨cb0, cb1⟩ := cells2 Bb
              have fb := Bb.frozen; have lb := Bb.lt
              obtain ⟨cr0, cr1⟩ := cells2 Br
              have fr := Br.frozen; have lr := Br.lt
              obtain ⟨co0, co1⟩ := cells2 Bo
              have fo := Bo.frozen; have lo := Bo.lt
              obtain ⟨cm0, cm1⟩ := cells2 Bm
              have fm := Bm.frozen; have lm := Bm.lt
              obtain ⟨cp0, cp1⟩ := cells2 Bp
              have fp := Bp.frozen; have lp := Bp.lt
              obtain ⟨cq0, cq1⟩ := cells2 Bq
              have fq := Bq.frozen; have lq := Bq.lt
              cases x1
              · go_upto_region 12 with fail
                have eG := H3.out; simp [PlainTnum.sel, PlainTnum.put, PlainTnum.eachOp] at eG
                clear ca0 ca1 fa la
                clear cb0 cb1 fb lb
                clear cr0 cr1 fr lr
                clear co0 co1 fo lo
                clear cm0 cm1 fm lm
                clear cp0 cp1 fp lp
                clear cq0 cq1 fq lq
                replace Bm : Blk wl1 (gm) 89 #[.bool (V 4).1, .bool (V 4).2] := by rw [eG]; exact Bm
                clear eG
                go_wp2_with fail
                go_roundg 0
                case measure => omega
                case rel => exact ⟨hB, Ba, Bb, Br, Bo, Bp, Bq, .inr (.inr ⟨rfl, by go_num, Bm⟩)⟩
              · cases y1
                · go_upto_region 12 with fail
                  have eG := H3.out; simp [PlainTnum.sel, PlainTnum.put, PlainTnum.eachOp] at eG
                  clear ca0 ca1 fa la
                  clear cb0 cb1 fb lb
                  clear cr0 cr1 fr lr
                  clear co0 co1 fo lo
                  clear cm0 cm1 fm lm
                  clear cp0 cp1 fp lp
                  clear cq0 cq1 fq lq
                  replace Bm : Blk wl1 (gm) 89 #[.bool (V 4).1, .bool (V 4).2] := by rw [eG]; exact Bm
                  clear eG
                  go_wp2_with fail
                  go_roundg 0
                  case measure => omega
                  case rel => exact ⟨hB, Ba, Bb, Br, Bo, Bp, Bq, .inr (.inr ⟨rfl, by go_num, Bm⟩)⟩
                · go_upto_region 12 with fail
                  clear ca0 ca1 fa la
                  clear cb0 cb1 fb lb
                  clear cr0 cr1 fr lr
                  clear co0 co1 fo lo
                  clear cm0 cm1 fm lm
                  clear cp0 cp1 fp lp
                  clear cq0 cq1 fq lq
                  replace Ba : Blk (wl1.setCell ⟨gm, 1, none⟩ (.bool true)) (w.heap.size) 24 #[uv a.v, uv a.m] := (Ba.far (by first | (simp; done) | (simp; omega) | (simp [*]; done) | (simp only [ne_eq]; constructor <;> omega)) _)
                  replace Bb : Blk (wl1.setCell ⟨gm, 1, none⟩ (.bool true)) (w.heap.size + 1) 24 #[uv b.v, uv b.m] := (Bb.far (by first | (simp; done) | (simp; omega) | (simp [*]; done) | (simp only [ne_eq]; constructor <;> omega)) _)
                  replace Br : Blk (wl1.setCell ⟨gm, 1, none⟩ (.bool true)) (w.heap.size + 1 + 1) 24 #[x, y] := (Br.far (by first | (simp; done) | (simp; omega) | (simp [*]; done) | (simp only [ne_eq]; constructor <;> omega)) _)
                  replace Bo : Blk (wl1.setCell ⟨gm, 1, none⟩ (.bool true)) (w.heap.size + 1 + 1 + 1) 24 #[uv (F n).v, uv (F n).m] := (Bo.far (by first | (simp; done) | (simp; omega) | (simp [*]; done) | (simp only [ne_eq]; constructor <;> omega)) _)
                  replace Bm : Blk (wl1.setCell ⟨gm, 1, none⟩ (.bool true)) (gm) 89 #[.bool (V 3).1, .bool true] := Bm.set_ 1 _
                  replace Bp : Blk (wl1.setCell ⟨gm, 1, none⟩ (.bool true)) (gp) 89 #[.bool x0, .bool true] := (Bp.far (by first | (simp; done) | (simp; omega) | (simp [*]; done) | (simp only [ne_eq]; constructor <;> omega)) _)
                  replace Bq : Blk (wl1.setCell ⟨gm, 1, none⟩ (.bool true)) (gq) 89 #[.bool y0, .bool true] := (Bq.far (by first | (simp; done) | (simp; omega) | (simp [*]; done) | (simp only [ne_eq]; constructor <;> omega)) _)
                  replace hB : Below w.heap.size w (wl1.setCell ⟨gm, 1, none⟩ (.bool true)) := (Bl_set hB (by first | omega | (simp; done) | (simp; omega)) _)
                  generalize (wl1.setCell ⟨gm, 1, none⟩ (.bool true)) = w5 at *
                  obtain ⟨ca0, ca1⟩ := cells2 Ba
                  have fa := Ba.frozen; have la := Ba.lt
                  obtain ⟨cb0, cb1⟩ := cells2 Bb
                  have fb := Bb.frozen; have lb := Bb.lt
                  obtain ⟨cr0, cr1⟩ := cells2 Br
                  have fr := Br.frozen; have lr := Br.lt
                  obtain ⟨co0, co1⟩ := cells2 Bo
                  have fo := Bo.frozen; have lo := Bo.lt
                  obtain ⟨cm0, cm1⟩ := cells2 Bm
                  have fm := Bm.frozen; have lm := Bm.lt
                  obtain ⟨cp0, cp1⟩ := cells2 Bp
                  have fp := Bp.frozen; have lp := Bp.lt
                  obtain ⟨cq0, cq1⟩ := cells2 Bq
                  have fq := Bq.frozen; have lq := Bq.lt
                  have eG := H3.out; simp [PlainTnum.sel, PlainTnum.put, PlainTnum.eachOp] at eG
                  clear ca0 ca1 fa la
                  clear cb0 cb1 fb lb
                  clear cr0 cr1 fr lr
                  clear co0 co1 fo lo
                  clear cm0 cm1 fm lm
                  clear cp0 cp1 fp lp
                  clear cq0 cq1 fq lq
                  replace Bm : Blk w5 (gm) 89 #[.bool (V 4).1, .bool (V 4).2] := by rw [eG]; exact Bm
                  clear eG
                  go_wp2_with fail
                  go_roundg 0
                  case measure => omega
                  case rel => exact ⟨hB, Ba, Bb, Br, Bo, Bp, Bq, .inr (.inr ⟨rfl, by go_num, Bm⟩)⟩
            · obtain ⟨wl1, rfl⟩ : ∃ z : World, z = wr := ⟨_, rfl⟩
              obtain ⟨ca0, ca1⟩ := cells2 Ba
              have fa := Ba.frozen; have la := Ba.lt
              obtain ⟨cb0, cb1⟩ := cells2 Bb
              have fb := Bb.frozen; have lb := Bb.lt
              obtain ⟨cr0, cr1⟩ := cells2 Br
              have fr := Br.frozen; have lr := Br.lt
              obtain ⟨co0, co1⟩ := cells2 Bo
              have fo := Bo.frozen; have lo := Bo.lt
              obtain ⟨cm0, cm1⟩ := cells2 Bm
              have fm := Bm.frozen; have lm := Bm.lt
              obtain ⟨cp0, cp1⟩ := cells2 Bp
              have fp := Bp.frozen; have lp := Bp.lt
              obtain ⟨cq0, cq1⟩ := cells2 Bq
              have fq := Bq.frozen; have lq := Bq.lt
              go_wp2_with fail
              go_roundg 0
              case measure => omega
              case rel => exact ⟨hB, Ba, Bb, Br, Bo, Bp, Bq, .inr (.inr ⟨rfl, by go_num, Bm⟩)⟩
        · obtain ⟨wl0, rfl⟩ : ∃ z : World, z = wr := ⟨_, rfl⟩
          obtain ⟨ca0, ca1⟩ := cells2 Ba
          have fa := Ba.frozen; have la := Ba.lt
          obtain ⟨cb0, cb1⟩ := cells2 Bb
          have fb := Bb.frozen; have lb := Bb.lt
          obtain ⟨cr0, cr1⟩ := cells2 Br
          have fr := Br.frozen; have lr := Br.lt
          obtain ⟨co0, co1⟩ := cells2 Bo
          have fo := Bo.frozen; have lo := Bo.lt
          obtain ⟨cm0, cm1⟩ := cells2 Bm
          have fm := Bm.frozen; have lm := Bm.lt
          obtain ⟨cp0, cp1⟩ := cells2 Bp
          have fp := Bp.frozen; have lp := Bp.lt
          obtain ⟨cq0, cq1⟩ := cells2 Bq
          have fq := Bq.frozen; have lq := Bq.lt
          go_wp2_with fail
          refine (k_s _).mono ?_
          rintro e w5 ⟨rfl, hb⟩
          clear ca0 ca1 fa la
          clear cb0 cb1 fb lb
          clear cr0 cr1 fr lr
          clear co0 co1 fo lo
          clear cm0 cm1 fm lm
          clear cp0 cp1 fp lp
          clear cq0 cq1 fq lq
          replace Ba := (Ba).next hb
          replace Bb := (Bb).next hb
          replace Br := (Br).next hb
          replace Bo := (Bo).next hb
          replace Bm := (Bm).next hb
          replace Bp := (Bp).next hb
          replace Bq := (Bq).next hb
          replace hB : Below w.heap.size w w5 := by repeat (first | exact hB | (refine Bl_set ?_ (by first | omega | (simp; omega)) _) | apply Bl_alloc | (refine Bl_trans ?_ hb))
          clear hb
          obtain ⟨ca0, ca1⟩ := cells2 Ba
          have fa := Ba.frozen; have la := Ba.lt
          obtain ⟨cb0, cb1⟩ := cells2 Bb
          have fb := Bb.frozen; have lb := Bb.lt
          obtain ⟨cr0, cr1⟩ := cells2 Br
          have fr := Br.frozen; have lr := Br.lt
          obtain ⟨co0, co1⟩ := cells2 Bo
          have fo := Bo.frozen; have lo := Bo.lt
          obtain ⟨cm0, cm1⟩ := cells2 Bm
          have fm := Bm.frozen; have lm := Bm.lt
          obtain ⟨cp0, cp1⟩ := cells2 Bp
          have fp := Bp.frozen; have lp := Bp.lt
          obtain ⟨cq0, cq1⟩ := cells2 Bq
          have fq := Bq.frozen; have lq := Bq.lt
          go_upto_region 4 with fail
          clear ca0 ca1 fa la
          clear cb0 cb1 fb lb
          clear cr0 cr1 fr lr
          clear co0 co1 fo lo
          clear cm0 cm1 fm lm
          clear cp0 cp1 fp lp
          clear cq0 cq1 fq lq
          replace Ba : Blk ((w5.setCell ⟨w.heap.size + 1 + 1 + 1, 0, none⟩ (uv (F (n + 1)).v)).setCell ⟨w.heap.size + 1 + 1 + 1, 1, none⟩ (uv (F (n + 1)).m)) (w.heap.size) 24 #[uv a.v, uv a.m] := ((Ba.far (by first | (simp; done) | (simp; omega) | (simp [*]; done) | (simp only [ne_eq]; constructor <;> omega)) _).far (by first | (simp; done) | (simp; omega) | (simp [*]; done) | (simp only [ne_eq]; constructor <;> omega)) _)
          replace Bb : Blk ((w5.setCell ⟨w.heap.size + 1 + 1 + 1, 0, none⟩ (uv (F (n + 1)).v)).setCell ⟨w.heap.size + 1 + 1 + 1, 1, none⟩ (uv (F (n + 1)).m)) (w.heap.size + 1) 24 #[uv b.v, uv b.m] := ((Bb.far (by first | (simp; done) | (simp; omega) | (simp [*]; done) | (simp only [ne_eq]; constructor <;> omega)) _).far (by first | (simp; done) | (simp; omega) | (simp [*]; done) | (simp only [ne_eq]; constructor <;> omega)) _)
          replace Br : Blk ((w5.setCell ⟨w.heap.size + 1 + 1 + 1, 0, none⟩ (uv (F (n + 1)).v)).setCell ⟨w.heap.size + 1 + 1 + 1, 1, none⟩ (uv (F (n + 1)).m)) (w.heap.size + 1 + 1) 24 #[x, y] := ((Br.far (by first | (simp; done) | (simp; omega) | (simp [*]; done) | (simp only [ne_eq]; constructor <;> omega)) _).far (by first | (simp; done) | (simp; omega) | (simp [*]; done) | (simp only [ne_eq]; constructor <;> omega)) _)
          replace Bo : Blk ((w5.setCell ⟨w.heap.size + 1 + 1 + 1, 0, none⟩ (uv (F (n + 1)).v)).setCell ⟨w.heap.size + 1 + 1 + 1, 1, none⟩ (uv (F (n + 1)).m)) (w.heap.size + 1 + 1 + 1) 24 #[uv (F (n + 1)).v, uv (F (n + 1)).m] := ((Bo.set_ 0 _).set_ 1 _)
          replace Bm : Blk ((w5.setCell ⟨w.heap.size + 1 + 1 + 1, 0, none⟩ (uv (F (n + 1)).v)).setCell ⟨w.heap.size + 1 + 1 + 1, 1, none⟩ (uv (F (n + 1)).m)) (gm) 89 #[.bool (V 4).1, .bool (V 4).2] := ((Bm.far (by first | (simp; done) | (simp; omega) | (simp [*]; done) | (simp only [ne_eq]; constructor <;> omega)) _).far (by first | (simp; done) | (simp; omega) | (simp [*]; done) | (simp only [ne_eq]; constructor <;> omega)) _)
          replace Bp : Blk ((w5.setCell ⟨w.heap.size + 1 + 1 + 1, 0, none⟩ (uv (F (n + 1)).v)).setCell ⟨w.heap.size + 1 + 1 + 1, 1, none⟩ (uv (F (n + 1)).m)) (gp) 89 #[.bool x0, .bool x1] := ((Bp.far (by first | (simp; done) | (simp; omega) | (simp [*]; done) | (simp only [ne_eq]; constructor <;> omega)) _).far (by first | (simp; done) | (simp; omega) | (simp [*]; done) | (simp only [ne_eq]; constructor <;> omega)) _)
          replace Bq : Blk ((w5.setCell ⟨w.heap.size + 1 + 1 + 1, 0, none⟩ (uv (F (n + 1)).v)).setCell ⟨w.heap.size + 1 + 1 + 1, 1, none⟩ (uv (F (n + 1)).m)) (gq) 89 #[.bool y0, .bool y1] := ((Bq.far (by first | (simp; done) | (simp; omega) | (simp [*]; done) | (simp only [ne_eq]; constructor <;> omega)) _).far (by first | (simp; done) | (simp; omega) | (simp [*]; done) | (simp only [ne_eq]; constructor <;> omega)) _)
          replace hB : Below w.heap.size w ((w5.setCell ⟨w.heap.size + 1 + 1 + 1, 0, none⟩ (uv (F (n + 1)).v)).setCell ⟨w.heap.size + 1 + 1 + 1, 1, none⟩ (uv (F (n + 1)).m)) := (Bl_set (Bl_set hB (by first | omega | (simp; done) | (simp; omega)) _) (by first | omega | (simp; done) | (simp; omega)) _)
          generalize ((w5.setCell ⟨w.heap.size + 1 + 1 + 1, 0, none⟩ (uv (F (n + 1)).v)).setCell ⟨w.heap.size + 1 + 1 + 1, 1, none⟩ (uv (F (n + 1)).m)) = w6 at *
          obtain ⟨ca0, ca1⟩ := cells2 Ba
          have fa := Ba.frozen; have la := Ba.lt
          obtain ⟨cb0, cb1⟩ := cells2 Bb
          have fb := Bb.frozen; have lb := Bb.lt
          obtain ⟨cr0, cr1⟩ := cells2 Br
          have fr := Br.frozen; have lr := Br.lt
          obtain ⟨co0, co1⟩ := cells2 Bo
          have fo := Bo.frozen; have lo := Bo.lt
          obtain ⟨cm0, cm1⟩ := cells2 Bm
          have fm := Bm.frozen; have lm := Bm.lt
          obtain ⟨cp0, cp1⟩ := cells2 Bp
          have fp := Bp.frozen; have lp := Bp.lt
          obtain ⟨cq0, cq1⟩ := cells2 Bq
          have fq := Bq.frozen; have lq := Bq.lt
          go_wp2_with fail
          go_roundg (63 - n)
          case measure => omega
          case rel => exact ⟨n + 1, by omega, by omega, by go_num, hB, Ba, Bb, ⟨_, _, Br⟩, Bo⟩
set_option maxRecDepth 100000 in
set_option maxHeartbeats 4000000 in
theorem reach_2 (a b : N) (w : World) : Calls Try.prog 40 #[nv a, nv b, .int .i64 2] w fun e w' => e = .returned (nv (PlainTnum.build (PlainTnum.eachF 2 a b) 64)) ∧ Below w.heap.size w w' := by
  obtain ⟨F, e_F⟩ : ∃ z' : Nat → N, z' = PlainTnum.build (PlainTnum.eachF 2 a b) := ⟨_, rfl⟩
  have h0 : F 0 = ⟨0#64, 0#64⟩ := by rw [e_F]; rfl
  have hs : ∀ n, F (n + 1) = PlainTnum.setN (F n) n (PlainTnum.eachSt 2 (PlainTnum.bitsOf a n) (PlainTnum.bitsOf b n) 4) := fun n => by rw [PlainTnum.eachSt_4 2 (by omega), e_F]; rfl
  rw [← e_F]
  clear e_F
  have ix2 : ∀ (u v z : Value) (w : World), (Instr.index 91 (.agg #[u, v, z]) (.int .i64 2)).run Try.prog w = .ok z w := fun _ _ _ _ => by kernel_rfl
  have band00 : bits .and .i64 0 0 = 0 := by decide
  have bor00 : bits .or .i64 0 0 = 0 := by decide
  have bxor00 : bits .xor .i64 0 0 = 0 := by decide
  have band01 : bits .and .i64 0 1 = 0 := by decide
  have bor01 : bits .or .i64 0 1 = 1 := by decide
  have bxor01 : bits .xor .i64 0 1 = 1 := by decide
  have band10 : bits .and .i64 1 0 = 0 := by decide
  have bor10 : bits .or .i64 1 0 = 1 := by decide
  have bxor10 : bits .xor .i64 1 0 = 1 := by decide
  have band11 : bits .and .i64 1 1 = 1 := by decide
  have bor11 : bits .or .i64 1 1 = 1 := by decide
  have bxor11 : bits .xor .i64 1 1 = 0 := by decide
  go_enter Try.func40, Try.ntmps40
  go_wp2_with fail
  obtain ⟨ga, hga⟩ : ∃ g, g = w.heap.size := ⟨_, rfl⟩
  obtain ⟨gb, hgb⟩ : ∃ g, g = w.heap.size + 1 := ⟨_, rfl⟩
  obtain ⟨gr, hgr⟩ : ∃ g, g = w.heap.size + 1 + 1 := ⟨_, rfl⟩
  obtain ⟨go, hgo⟩ : ∃ g, g = w.heap.size + 1 + 1 + 1 := ⟨_, rfl⟩
  have Ba : Blk ((((w.alloc (.cells #[uv a.v, uv a.m] 24)).alloc (.cells #[uv b.v, uv b.m] 24)).alloc (.cells #[.int .u64 0, .int .u64 0] 24)).alloc (.cells #[.int .u64 0, .int .u64 0] 24)) (w.heap.size) 24 #[uv a.v, uv a.m] := ((((Blk.new w 24 #[uv a.v, uv a.m])).alloc _).alloc _).alloc _
  have Bb : Blk ((((w.alloc (.cells #[uv a.v, uv a.m] 24)).alloc (.cells #[uv b.v, uv b.m] 24)).alloc (.cells #[.int .u64 0, .int .u64 0] 24)).alloc (.cells #[.int .u64 0, .int .u64 0] 24)) (w.heap.size + 1) 24 #[uv b.v, uv b.m] := (((by simpa using Blk.new (w.alloc (.cells #[uv a.v, uv a.m] 24)) 24 #[uv b.v, uv b.m] : Blk _ (w.heap.size + 1) 24 #[uv b.v, uv b.m])).alloc _).alloc _
  have Br : Blk ((((w.alloc (.cells #[uv a.v, uv a.m] 24)).alloc (.cells #[uv b.v, uv b.m] 24)).alloc (.cells #[.int .u64 0, .int .u64 0] 24)).alloc (.cells #[.int .u64 0, .int .u64 0] 24)) (w.heap.size + 1 + 1) 24 #[.int .u64 0, .int .u64 0] := ((by simpa using Blk.new ((w.alloc (.cells #[uv a.v, uv a.m] 24)).alloc (.cells #[uv b.v, uv b.m] 24)) 24 #[.int .u64 0, .int .u64 0] : Blk _ (w.heap.size + 1 + 1) 24 #[.int .u64 0, .int .u64 0])).alloc _
  have Bo : Blk ((((w.alloc (.cells #[uv a.v, uv a.m] 24)).alloc (.cells #[uv b.v, uv b.m] 24)).alloc (.cells #[.int .u64 0, .int .u64 0] 24)).alloc (.cells #[.int .u64 0, .int .u64 0] 24)) (w.heap.size + 1 + 1 + 1) 24 #[.int .u64 0, .int .u64 0] := (by simpa using Blk.new (((w.alloc (.cells #[uv a.v, uv a.m] 24)).alloc (.cells #[uv b.v, uv b.m] 24)).alloc (.cells #[.int .u64 0, .int .u64 0] 24)) 24 #[.int .u64 0, .int .u64 0] : Blk _ (w.heap.size + 1 + 1 + 1) 24 #[.int .u64 0, .int .u64 0])
  have hB : Below w.heap.size w ((((w.alloc (.cells #[uv a.v, uv a.m] 24)).alloc (.cells #[uv b.v, uv b.m] 24)).alloc (.cells #[.int .u64 0, .int .u64 0] 24)).alloc (.cells #[.int .u64 0, .int .u64 0] 24)) := (Bl_alloc (Bl_alloc (Bl_alloc (Bl_alloc (Bl_refl w) _) _) _) _)
  clear hga
  clear ga
  clear hgb
  clear gb
  clear hgr
  clear gr
  clear hgo
  clear go
  generalize ((((w.alloc (.cells #[uv a.v, uv a.m] 24)).alloc (.cells #[uv b.v, uv b.m] 24)).alloc (.cells #[.int .u64 0, .int .u64 0] 24)).alloc (.cells #[.int .u64 0, .int .u64 0] 24)) = w1 at *
  obtain ⟨ca0, ca1⟩ := cells2 Ba
  have fa := Ba.frozen; have la := Ba.lt
  obtain ⟨cb0, cb1⟩ := cells2 Bb
  have fb := Bb.frozen; have lb := Bb.lt
  obtain ⟨cr0, cr1⟩ := cells2 Br
  have fr := Br.frozen; have lr := Br.lt
  obtain ⟨co0, co1⟩ := cells2 Bo
  have fo := Bo.frozen; have lo := Bo.lt
  clear ca0 ca1 fa la
  clear cb0 cb1 fb lb
  clear cr0 cr1 fr lr
  clear co0 co1 fo lo
  go_loopg [8] 64 (fun m i wr => ∃ n : Nat, n ≤ 64 ∧ m + n = 64 ∧ i = .int .i64 (n : Int) ∧ Below w.heap.size w wr ∧ Blk wr (w.heap.size) 24 #[uv a.v, uv a.m] ∧ Blk wr (w.heap.size + 1) 24 #[uv b.v, uv b.m] ∧ (∃ x y, Blk wr (w.heap.size + 1 + 1) 24 #[x, y]) ∧ Blk wr (w.heap.size + 1 + 1 + 1) 24 #[uv (F n).v, uv (F n).m])
  case atStart => exact ⟨0, by omega, by omega, rfl, hB, Ba, Bb, ⟨_, _, Br⟩, by rw [h0]; exact Bo⟩
  case round =>
    clear hB Ba Bb Br Bo
    obtain ⟨n, hn, hgk, rfl, hB, Ba, Bb, ⟨x, y, Br⟩, Bo⟩ := hrel
    obtain ⟨wo, rfl⟩ : ∃ z : World, z = wr := ⟨_, rfl⟩
    cases q : decide ((n : Int) < 64)
    · obtain ⟨ca0, ca1⟩ := cells2 Ba
      have fa := Ba.frozen; have la := Ba.lt
      obtain ⟨cb0, cb1⟩ := cells2 Bb
      have fb := Bb.frozen; have lb := Bb.lt
      obtain ⟨cr0, cr1⟩ := cells2 Br
      have fr := Br.frozen; have lr := Br.lt
      obtain ⟨co0, co1⟩ := cells2 Bo
      have fo := Bo.frozen; have lo := Bo.lt
      have eF : F n = F 64 := by have := of_decide_eq_false q; rw [show n = 64 by omega]
      clear hs h0
      go_wp2
      exact bodyPost_ret (v := nv (F 64)) (by simp [results, Try.results40, go_sem, cr0, cr1, co0, co1, lr, lo]) rfl ⟨rfl, by repeat (first | (with_reducible exact hB) | (with_reducible refine Bl_set ?_ (by first | omega | (simp; done) | (simp; omega)) _) | with_reducible apply Bl_alloc)⟩
    · have hlt : (n : Int) < 64 := of_decide_eq_true q
      have k_x := bits_n a (n : Int) n rfl (by omega); have k_y := bits_n b (n : Int) n rfl (by omega)
      have hs1 := hs n; clear hs h0
      generalize PlainTnum.bitsOf a n = X at k_x hs1; generalize PlainTnum.bitsOf b n = Y at k_y hs1; obtain ⟨x0, x1⟩ := X; obtain ⟨y0, y1⟩ := Y
      obtain ⟨V, e_V⟩ : ∃ z' : Nat → May, z' = PlainTnum.eachSt 2 (x0, x1) (y0, y1) := ⟨_, rfl⟩
      rw [← e_V] at hs1
      have g0 : V 0 = (false, false) := by rw [e_V]; rfl
      have H0 := Lib.hid (show V 1 = (if PlainTnum.sel (x0, x1) false && PlainTnum.sel (y0, y1) false then PlainTnum.put (V 0) (PlainTnum.eachOp 2 false false) else V 0) by rw [e_V]; rfl)
      have H1 := Lib.hid (show V 2 = (if PlainTnum.sel (x0, x1) false && PlainTnum.sel (y0, y1) true then PlainTnum.put (V 1) (PlainTnum.eachOp 2 false true) else V 1) by rw [e_V]; rfl)
      have H2 := Lib.hid (show V 3 = (if PlainTnum.sel (x0, x1) true && PlainTnum.sel (y0, y1) false then PlainTnum.put (V 2) (PlainTnum.eachOp 2 true false) else V 2) by rw [e_V]; rfl)
      have H3 := Lib.hid (show V 4 = (if PlainTnum.sel (x0, x1) true && PlainTnum.sel (y0, y1) true then PlainTnum.put (V 3) (PlainTnum.eachOp 2 true true) else V 3) by rw [e_V]; rfl)
      have k_s := set_n (F n) n (by omega) (V 4); rw [← hs1] at k_s; clear hs1 e_V
      obtain ⟨ca0, ca1⟩ := cells2 Ba
      have fa := Ba.frozen; have la := Ba.lt
      obtain ⟨cb0, cb1⟩ := cells2 Bb
      have fb := Bb.frozen; have lb := Bb.lt
      obtain ⟨cr0, cr1⟩ := cells2 Br
      have fr := Br.frozen; have lr := Br.lt
      obtain ⟨co0, co1⟩ := cells2 Bo
      have fo := Bo.frozen; have lo := Bo.lt
      go_upto_region 6 with fail
      clear ca0 ca1 fa la
      clear cb0 cb1 fb lb
      clear cr0 cr1 fr lr
      clear co0 co1 fo lo
      have Bm := Blk.new wo 89 #[.bool false, .bool false]
      have hgm := hB.size
      have hnam := Nat.ne_of_lt Ba.lt; have hltam := Ba.lt
      have hnbm := Nat.ne_of_lt Bb.lt; have hltbm := Bb.lt
      have hnrm := Nat.ne_of_lt Br.lt; have hltrm := Br.lt
      have hnom := Nat.ne_of_lt Bo.lt; have hltom := Bo.lt
      replace Ba : Blk (wo.alloc (.cells #[.bool false, .bool false] 89)) (w.heap.size) 24 #[uv a.v, uv a.m] := Ba.alloc _
      replace Bb : Blk (wo.alloc (.cells #[.bool false, .bool false] 89)) (w.heap.size + 1) 24 #[uv b.v, uv b.m] := Bb.alloc _
      replace Br : Blk (wo.alloc (.cells #[.bool false, .bool false] 89)) (w.heap.size + 1 + 1) 24 #[x, y] := Br.alloc _
      replace Bo : Blk (wo.alloc (.cells #[.bool false, .bool false] 89)) (w.heap.size + 1 + 1 + 1) 24 #[uv (F n).v, uv (F n).m] := Bo.alloc _
      replace hB : Below w.heap.size w (wo.alloc (.cells #[.bool false, .bool false] 89)) := Bl_alloc hB _
      generalize (wo.alloc (.cells #[.bool false, .bool false] 89)) = w2 at *
      generalize wo.heap.size = gm at *
      obtain ⟨ca0, ca1⟩ := cells2 Ba
      have fa := Ba.frozen; have la := Ba.lt
      obtain ⟨cb0, cb1⟩ := cells2 Bb
      have fb := Bb.frozen; have lb := Bb.lt
      obtain ⟨cr0, cr1⟩ := cells2 Br
      have fr := Br.frozen; have lr := Br.lt
      obtain ⟨co0, co1⟩ := cells2 Bo
      have fo := Bo.frozen; have lo := Bo.lt
      obtain ⟨cm0, cm1⟩ := cells2 Bm
      have fm := Bm.frozen; have lm := Bm.lt
      go_wp2_with fail
      clear ca0 ca1; obtain ⟨ca0, ca1⟩ := lcells2 Ba
      clear cb0 cb1; obtain ⟨cb0, cb1⟩ := lcells2 Bb
      clear cr0 cr1; obtain ⟨cr0, cr1⟩ := lcells2 Br
      clear co0 co1; obtain ⟨co0, co1⟩ := lcells2 Bo
      clear cm0 cm1; obtain ⟨cm0, cm1⟩ := lcells2 Bm
      refine wp_region_mix 8 (fun _ => #[.bool false, .bool false]) (by kernel_rfl) (by kernel_rfl) (fun o t ho ht => by
        simp at ho
        rcases ho with rfl | rfl | rfl | rfl | rfl | rfl | rfl | rfl <;> first | (cases ht; done) | (obtain rfl := Option.some.inj ht; exact fun ρ w => new_mb ht ρ w)) ?_
      simp only [List.take_succ_cons, List.take_zero, List.drop_succ_cons, List.drop_zero]
      repeat ((with_reducible refine wpMix_step (fun K hK => ?_)); go_simp; first | ((with_reducible refine hK _ ?_); clear hK K) | (rw [if_neg (by decide)]; (with_reducible refine hK _ ?_); clear hK K) | (apply Exists.intro; refine ⟨fun g => ?_, hK _ ?_⟩; ((with_reducible refine Calls.mono (k_x g.w) ?_); exact fun _ _ h => h); clear hK K) | (apply Exists.intro; refine ⟨fun g => ?_, hK _ ?_⟩; ((with_reducible refine Calls.mono (k_y g.w) ?_); exact fun _ _ h => h); clear hK K))
      refine wpMix_nil ?_
      intro G w3 hgr hblk hdist
      have hb : Below w2.heap.size w2 w3 := hgr
      replace Ba := Ba.next hb
      replace Bb := Bb.next hb
      replace Br := Br.next hb
      replace Bo := Bo.next hb
      replace Bm := Bm.next hb
      obtain ⟨Bp, hlp⟩ := hblk 6 _ rfl
      obtain ⟨Bq, hlq⟩ := hblk 7 _ rfl
      have hdpq := hdist 6 7 _ _ rfl rfl (by decide)
      have hgp : w.heap.size ≤ G 6 := Nat.le_trans hB.size hlp
      have hnap : w.heap.size ≠ G 6 := Nat.ne_of_lt (Nat.lt_of_lt_of_le la hlp)
      have hnbp : w.heap.size + 1 ≠ G 6 := Nat.ne_of_lt (Nat.lt_of_lt_of_le lb hlp)
      have hnrp : w.heap.size + 1 + 1 ≠ G 6 := Nat.ne_of_lt (Nat.lt_of_lt_of_le lr hlp)
      have hnop : w.heap.size + 1 + 1 + 1 ≠ G 6 := Nat.ne_of_lt (Nat.lt_of_lt_of_le lo hlp)
      have hnmp : gm ≠ G 6 := Nat.ne_of_lt (Nat.lt_of_lt_of_le lm hlp)
      clear hlp
      have hgq : w.heap.size ≤ G 7 := Nat.le_trans hB.size hlq
      have hnaq : w.heap.size ≠ G 7 := Nat.ne_of_lt (Nat.lt_of_lt_of_le la hlq)
      have hnbq : w.heap.size + 1 ≠ G 7 := Nat.ne_of_lt (Nat.lt_of_lt_of_le lb hlq)
      have hnrq : w.heap.size + 1 + 1 ≠ G 7 := Nat.ne_of_lt (Nat.lt_of_lt_of_le lr hlq)
      have hnoq : w.heap.size + 1 + 1 + 1 ≠ G 7 := Nat.ne_of_lt (Nat.lt_of_lt_of_le lo hlq)
      have hnmq : gm ≠ G 7 := Nat.ne_of_lt (Nat.lt_of_lt_of_le lm hlq)
      clear hlq
      clear ca0 ca1 fa la
      clear cb0 cb1 fb lb
      clear cr0 cr1 fr lr
      clear co0 co1 fo lo
      clear cm0 cm1 fm lm
      replace hB : Below w.heap.size w w3 := Bl_trans hB hb
      simp only [putAll, isAlloc, Act.put]
      generalize G 6 = gp at *
      generalize G 7 = gq at *
      clear hb hgr hblk hdist
      obtain ⟨ca0, ca1⟩ := cells2 Ba
      have fa := Ba.frozen; have la := Ba.lt
      obtain ⟨cb0, cb1⟩ := cells2 Bb
      have fb := Bb.frozen; have lb := Bb.lt
      obtain ⟨cr0, cr1⟩ := cells2 Br
      have fr := Br.frozen; have lr := Br.lt
      obtain ⟨co0, co1⟩ := cells2 Bo
      have fo := Bo.frozen; have lo := Bo.lt
      obtain ⟨cm0, cm1⟩ := cells2 Bm
      have fm := Bm.frozen; have lm := Bm.lt
      obtain ⟨cp0, cp1⟩ := cells2 Bp
      have fp := Bp.frozen; have lp := Bp.lt
      obtain ⟨cq0, cq1⟩ := cells2 Bq
      have fq := Bq.frozen; have lq := Bq.lt
      go_upto_region 7 with fail
      clear ca0 ca1 fa la
      clear cb0 cb1 fb lb
      clear cr0 cr1 fr lr
      clear co0 co1 fo lo
      clear cm0 cm1 fm lm
      clear cp0 cp1 fp lp
      clear cq0 cq1 fq lq
      replace Ba : Blk ((w3.setCell ⟨gp, 0, none⟩ (.bool x0)).setCell ⟨gp, 1, none⟩ (.bool x1)) (w.heap.size) 24 #[uv a.v, uv a.m] := ((Ba.far (by first | (simp; done) | (simp; omega) | (simp [*]; done) | (simp only [ne_eq]; constructor <;> omega)) _).far (by first | (simp; done) | (simp; omega) | (simp [*]; done) | (simp only [ne_eq]; constructor <;> omega)) _)
      replace Bb : Blk ((w3.setCell ⟨gp, 0, none⟩ (.bool x0)).setCell ⟨gp, 1, none⟩ (.bool x1)) (w.heap.size + 1) 24 #[uv b.v, uv b.m] := ((Bb.far (by first | (simp; done) | (simp; omega) | (simp [*]; done) | (simp only [ne_eq]; constructor <;> omega)) _).far (by first | (simp; done) | (simp; omega) | (simp [*]; done) | (simp only [ne_eq]; constructor <;> omega)) _)
      replace Br : Blk ((w3.setCell ⟨gp, 0, none⟩ (.bool x0)).setCell ⟨gp, 1, none⟩ (.bool x1)) (w.heap.size + 1 + 1) 24 #[x, y] := ((Br.far (by first | (simp; done) | (simp; omega) | (simp [*]; done) | (simp only [ne_eq]; constructor <;> omega)) _).far (by first | (simp; done) | (simp; omega) | (simp [*]; done) | (simp only [ne_eq]; constructor <;> omega)) _)
      replace Bo : Blk ((w3.setCell ⟨gp, 0, none⟩ (.bool x0)).setCell ⟨gp, 1, none⟩ (.bool x1)) (w.heap.size + 1 + 1 + 1) 24 #[uv (F n).v, uv (F n).m] := ((Bo.far (by first | (simp; done) | (simp; omega) | (simp [*]; done) | (simp only [ne_eq]; constructor <;> omega)) _).far (by first | (simp; done) | (simp; omega) | (simp [*]; done) | (simp only [ne_eq]; constructor <;> omega)) _)
      replace Bm : Blk ((w3.setCell ⟨gp, 0, none⟩ (.bool x0)).setCell ⟨gp, 1, none⟩ (.bool x1)) (gm) 89 #[.bool false, .bool false] := ((Bm.far (by first | (simp; done) | (simp; omega) | (simp [*]; done) | (simp only [ne_eq]; constructor <;> omega)) _).far (by first | (simp; done) | (simp; omega) | (simp [*]; done) | (simp only [ne_eq]; constructor <;> omega)) _)
      replace Bp : Blk ((w3.setCell ⟨gp, 0, none⟩ (.bool x0)).setCell ⟨gp, 1, none⟩ (.bool x1)) (gp) 89 #[.bool x0, .bool x1] := ((Bp.set_ 0 _).set_ 1 _)
      replace Bq : Blk ((w3.setCell ⟨gp, 0, none⟩ (.bool x0)).setCell ⟨gp, 1, none⟩ (.bool x1)) (gq) 89 #[.bool false, .bool false] := ((Bq.far (by first | (simp; done) | (simp; omega) | (simp [*]; done) | (simp only [ne_eq]; constructor <;> omega)) _).far (by first | (simp; done) | (simp; omega) | (simp [*]; done) | (simp only [ne_eq]; constructor <;> omega)) _)
      replace hB : Below w.heap.size w ((w3.setCell ⟨gp, 0, none⟩ (.bool x0)).setCell ⟨gp, 1, none⟩ (.bool x1)) := (Bl_set (Bl_set hB (by first | omega | (simp; done) | (simp; omega)) _) (by first | omega | (simp; done) | (simp; omega)) _)
      replace Ba : Blk ((((w3.setCell ⟨gp, 0, none⟩ (.bool x0)).setCell ⟨gp, 1, none⟩ (.bool x1)).setCell ⟨gq, 0, none⟩ (.bool y0)).setCell ⟨gq, 1, none⟩ (.bool y1)) (w.heap.size) 24 #[uv a.v, uv a.m] := ((Ba.far (by first | (simp; done) | (simp; omega) | (simp [*]; done) | (simp only [ne_eq]; constructor <;> omega)) _).far (by first | (simp; done) | (simp; omega) | (simp [*]; done) | (simp only [ne_eq]; constructor <;> omega)) _)
      replace Bb : Blk ((((w3.setCell ⟨gp, 0, none⟩ (.bool x0)).setCell ⟨gp, 1, none⟩ (.bool x1)).setCell ⟨gq, 0, none⟩ (.bool y0)).setCell ⟨gq, 1, none⟩ (.bool y1)) (w.heap.size + 1) 24 #[uv b.v, uv b.m] := ((Bb.far (by first | (simp; done) | (simp; omega) | (simp [*]; done) | (simp only [ne_eq]; constructor <;> omega)) _).far (by first | (simp; done) | (simp; omega) | (simp [*]; done) | (simp only [ne_eq]; constructor <;> omega)) _)
      replace Br : Blk ((((w3.setCell ⟨gp, 0, none⟩ (.bool x0)).setCell ⟨gp, 1, none⟩ (.bool x1)).setCell ⟨gq, 0, none⟩ (.bool y0)).setCell ⟨gq, 1, none⟩ (.bool y1)) (w.heap.size + 1 + 1) 24 #[x, y] := ((Br.far (by first | (simp; done) | (simp; omega) | (simp [*]; done) | (simp only [ne_eq]; constructor <;> omega)) _).far (by first | (simp; done) | (simp; omega) | (simp [*]; done) | (simp only [ne_eq]; constructor <;> omega)) _)
      replace Bo : Blk ((((w3.setCell ⟨gp, 0, none⟩ (.bool x0)).setCell ⟨gp, 1, none⟩ (.bool x1)).setCell ⟨gq, 0, none⟩ (.bool y0)).setCell ⟨gq, 1, none⟩ (.bool y1)) (w.heap.size + 1 + 1 + 1) 24 #[uv (F n).v, uv (F n).m] := ((Bo.far (by first | (simp; done) | (simp; omega) | (simp [*]; done) | (simp only [ne_eq]; constructor <;> omega)) _).far (by first | (simp; done) | (simp; omega) | (simp [*]; done) | (simp only [ne_eq]; constructor <;> omega)) _)
      replace Bm : Blk ((((w3.setCell ⟨gp, 0, none⟩ (.bool x0)).setCell ⟨gp, 1, none⟩ (.bool x1)).setCell ⟨gq, 0, none⟩ (.bool y0)).setCell ⟨gq, 1, none⟩ (.bool y1)) (gm) 89 #[.bool false, .bool false] := ((Bm.far (by first | (simp; done) | (simp; omega) | (simp [*]; done) | (simp only [ne_eq]; constructor <;> omega)) _).far (by first | (simp; done) | (simp; omega) | (simp [*]; done) | (simp only [ne_eq]; constructor <;> omega)) _)
      replace Bp : Blk ((((w3.setCell ⟨gp, 0, none⟩ (.bool x0)).setCell ⟨gp, 1, none⟩ (.bool x1)).setCell ⟨gq, 0, none⟩ (.bool y0)).setCell ⟨gq, 1, none⟩ (.bool y1)) (gp) 89 #[.bool x0, .bool x1] := ((Bp.far (by first | (simp; done) | (simp; omega) | (simp [*]; done) | (simp only [ne_eq]; constructor <;> omega)) _).far (by first | (simp; done) | (simp; omega) | (simp [*]; done) | (simp only [ne_eq]; constructor <;> omega)) _)
      replace Bq : Blk ((((w3.setCell ⟨gp, 0, none⟩ (.bool x0)).setCell ⟨gp, 1, none⟩ (.bool x1)).setCell ⟨gq, 0, none⟩ (.bool y0)).setCell ⟨gq, 1, none⟩ (.bool y1)) (gq) 89 #[.bool y0, .bool y1] := ((Bq.set_ 0 _).set_ 1 _)
      replace hB : Below w.heap.size w ((((w3.setCell ⟨gp, 0, none⟩ (.bool x0)).setCell ⟨gp, 1, none⟩ (.bool x1)).setCell ⟨gq, 0, none⟩ (.bool y0)).setCell ⟨gq, 1, none⟩ (.bool y1)) := (Bl_set (Bl_set hB (by first | omega | (simp; done) | (simp; omega)) _) (by first | omega | (simp; done) | (simp; omega)) _)
      generalize ((((w3.setCell ⟨gp, 0, none⟩ (.bool x0)).setCell ⟨gp, 1, none⟩ (.bool x1)).setCell ⟨gq, 0, none⟩ (.bool y0)).setCell ⟨gq, 1, none⟩ (.bool y1)) = w4 at *
      obtain ⟨ca0, ca1⟩ := cells2 Ba
      have fa := Ba.frozen; have la := Ba.lt
      obtain ⟨cb0, cb1⟩ := cells2 Bb
      have fb := Bb.frozen; have lb := Bb.lt
      obtain ⟨cr0, cr1⟩ := cells2 Br
      have fr := Br.frozen; have lr := Br.lt
      obtain ⟨co0, co1⟩ := cells2 Bo
      have fo := Bo.frozen; have lo := Bo.lt
      obtain ⟨cm0, cm1⟩ := cells2 Bm
      have fm := Bm.frozen; have lm := Bm.lt
      obtain ⟨cp0, cp1⟩ := cells2 Bp
      have fp := Bp.frozen; have lp := Bp.lt
      obtain ⟨cq0, cq1⟩ := cells2 Bq
      have fq := Bq.frozen; have lq := Bq.lt
      clear ca0 ca1 fa la
      clear cb0 cb1 fb lb
      clear cr0 cr1 fr lr
      clear co0 co1 fo lo
      clear cm0 cm1 fm lm
      clear cp0 cp1 fp lp
      clear cq0 cq1 fq lq
      replace Bm : Blk w4 (gm) 89 #[.bool (V 0).1, .bool (V 0).2] := by rw [g0]; exact Bm
      clear g0
      obtain ⟨ca0, ca1⟩ := cells2 Ba
      have fa := Ba.frozen; have la := Ba.lt
      obtain ⟨cb0, cb1⟩ := cells2 Bb
      have fb := Bb.frozen; have lb := Bb.lt
      obtain ⟨cr0, cr1⟩ := cells2 Br
      have fr := Br.frozen; have lr := Br.lt
      obtain ⟨co0, co1⟩ := cells2 Bo
      have fo := Bo.frozen; have lo := Bo.lt
      obtain ⟨cm0, cm1⟩ := cells2 Bm
      have fm := Bm.frozen; have lm := Bm.lt
      obtain ⟨cp0, cp1⟩ := cells2 Bp
      have fp := Bp.frozen; have lp := Bp.lt
      obtain ⟨cq0, cq1⟩ := cells2 Bq
      have fq := Bq.frozen; have lq := Bq.lt
      go_wp2_with fail
      clear ca0 ca1 fa la
      clear cb0 cb1 fb lb
      clear cr0 cr1 fr lr
      clear co0 co1 fo lo
      clear cm0 cm1 fm lm
      clear cp0 cp1 fp lp
      clear cq0 cq1 fq lq
      go_loopg [12] 2 (fun m i wr => Below w.heap.size w wr ∧ Blk wr (w.heap.size) 24 #[uv a.v, uv a.m] ∧ Blk wr (w.heap.size + 1) 24 #[uv b.v, uv b.m] ∧ Blk wr (w.heap.size + 1 + 1) 24 #[x, y] ∧ Blk wr (w.heap.size + 1 + 1 + 1) 24 #[uv (F n).v, uv (F n).m] ∧ Blk wr (gp) 89 #[.bool x0, .bool x1] ∧ Blk wr (gq) 89 #[.bool y0, .bool y1] ∧ ((m = 2 ∧ i = .int .i64 0 ∧ Blk wr (gm) 89 #[.bool (V 0).1, .bool (V 0).2]) ∨ (m = 1 ∧ i = .int .i64 1 ∧ Blk wr (gm) 89 #[.bool (V 2).1, .bool (V 2).2]) ∨ (m = 0 ∧ i = .int .i64 2 ∧ Blk wr (gm) 89 #[.bool (V 4).1, .bool (V 4).2])))
      case atStart => exact ⟨hB, Ba, Bb, Br, Bo, Bp, Bq, .inl ⟨rfl, rfl, Bm⟩⟩
      case round =>
        rename Nat => gh0
        clear hB Ba Bb Br Bo Bp Bq Bm
        obtain ⟨hB, Ba, Bb, Br, Bo, Bp, Bq, ⟨hm, rfl, Bm⟩ | ⟨hm, rfl, Bm⟩ | ⟨hm, rfl, Bm⟩⟩ := hrel
        · obtain ⟨wl0, rfl⟩ : ∃ z : World, z = wr := ⟨_, rfl⟩
          obtain ⟨ca0, ca1⟩ := cells2 Ba
          have fa := Ba.frozen; have la := Ba.lt
          obtain ⟨cb0, cb1⟩ := cells2 Bb
          have fb := Bb.frozen; have lb := Bb.lt
          obtain ⟨cr0, cr1⟩ := cells2 Br
          have fr := Br.frozen; have lr := Br.lt
          obtain ⟨co0, co1⟩ := cells2 Bo
          have fo := Bo.frozen; have lo := Bo.lt
          obtain ⟨cm0, cm1⟩ := cells2 Bm
          have fm := Bm.frozen; have lm := Bm.lt
          obtain ⟨cp0, cp1⟩ := cells2 Bp
          have fp := Bp.frozen; have lp := Bp.lt
          obtain ⟨cq0, cq1⟩ := cells2 Bq
          have fq := Bq.frozen; have lq := Bq.lt
          go_wp2_with fail
          clear ca0 ca1 fa la
          clear cb0 cb1 fb lb
          clear cr0 cr1 fr lr
          clear co0 co1 fo lo
          clear cm0 cm1 fm lm
          clear cp0 cp1 fp lp
          clear cq0 cq1 fq lq
          go_loopg [13] 2 (fun m i wr => Below w.heap.size w wr ∧ Blk wr (w.heap.size) 24 #[uv a.v, uv a.m] ∧ Blk wr (w.heap.size + 1) 24 #[uv b.v, uv b.m] ∧ Blk wr (w.heap.size + 1 + 1) 24 #[x, y] ∧ Blk wr (w.heap.size + 1 + 1 + 1) 24 #[uv (F n).v, uv (F n).m] ∧ Blk wr (gp) 89 #[.bool x0, .bool x1] ∧ Blk wr (gq) 89 #[.bool y0, .bool y1] ∧ ((m = 2 ∧ i = .int .i64 0 ∧ Blk wr (gm) 89 #[.bool (V 0).1, .bool (V 0).2]) ∨ (m = 1 ∧ i = .int .i64 1 ∧ Blk wr (gm) 89 #[.bool (V 1).1, .bool (V 1).2]) ∨ (m = 0 ∧ i = .int .i64 2 ∧ Blk wr (gm) 89 #[.bool (V 2).1, .bool (V 2).2])))
          case atStart => exact ⟨hB, Ba, Bb, Br, Bo, Bp, Bq, .inl ⟨rfl, rfl, Bm⟩⟩
          case round =>
            rename Nat => gh1
            clear hB Ba Bb Br Bo Bp Bq Bm
            obtain ⟨hB, Ba, Bb, Br, Bo, Bp, Bq, ⟨hm, rfl, Bm⟩ | ⟨hm, rfl, Bm⟩ | ⟨hm, rfl, Bm⟩⟩ := hrel
            · obtain ⟨wl1, rfl⟩ : ∃ z : World, z = wr := ⟨_, rfl⟩
              obtain ⟨ca0, ca1⟩ := cells2 Ba
              have fa := Ba.frozen; have la := Ba.lt
              obtain ⟨cb0, cb1⟩ := cells2 Bb
              have fb := Bb.frozen; have lb := Bb.lt
              obtain ⟨cr0, cr1⟩ := cells2 Br
              have fr := Br.frozen; have lr := Br.lt
              obtain ⟨co0, co1⟩ := cells2 Bo
              have fo := Bo.frozen; have lo := Bo.lt
              obtain ⟨cm0, cm1⟩ := cells2 Bm
              have fm := Bm.frozen; have lm := Bm.lt
              obtain ⟨cp0, cp1⟩ := cells2 Bp
              have fp := Bp.frozen; have lp := Bp.lt
              obtain ⟨cq0, cq1⟩ := cells2 Bq
              have fq := Bq.frozen; have lq := Bq.lt
              cases x0
              · go_upto_region 12 with fail
                have eG := H0.out; simp [PlainTnum.sel, PlainTnum.put, PlainTnum.eachOp] at eG
                clear ca0 ca1 fa la
                clear cb0 cb1 fb lb
                clear cr0 cr1 fr lr
                clear co0 co1 fo lo
                clear cm0 cm1 fm lm
                clear cp0 cp1 fp lp
                clear cq0 cq1 fq lq
                replace Bm : Blk wl1 (gm) 89 #[.bool (V 1).1, .bool (V 1).2] := by rw [eG]; exact Bm
                clear eG
                go_wp2_with fail
                go_roundg 1
                case measure => omega
                case rel => exact ⟨hB, Ba, Bb, Br, Bo, Bp, Bq, .inr (.inl ⟨rfl, by go_num, Bm⟩)⟩
              · cases y0
                · go_upto_region 12 with fail
                  have eG := H0.out; simp [PlainTnum.sel, PlainTnum.put, PlainTnum.eachOp] at eG
                  clear ca0 ca1 fa la
                  clear cb0 cb1 fb lb
                  clear cr0 cr1 fr lr
                  clear co0 co1 fo lo
                  clear cm0 cm1 fm lm
                  clear cp0 cp1 fp lp
                  clear cq0 cq1 fq lq
                  replace Bm : Blk wl1 (gm) 89 #[.bool (V 1).1, .bool (V 1).2] := by rw [eG]; exact Bm
                  clear eG
                  go_wp2_with fail
                  go_roundg 1
                  case measure => omega
                  case rel => exact ⟨hB, Ba, Bb, Br, Bo, Bp, Bq, .inr (.inl ⟨rfl, by go_num, Bm⟩)⟩
                · go_upto_region 12 with fail
                  clear ca0 ca1 fa la
                  clear cb0 cb1 fb lb
                  clear cr0 cr1 fr lr
                  clear co0 co1 fo lo
                  clear cm0 cm1 fm lm
                  clear cp0 cp1 fp lp
                  clear cq0 cq1 fq lq
                  replace Ba : Blk (wl1.setCell ⟨gm, 0, none⟩ (.bool true)) (w.heap.size) 24 #[uv a.v, uv a.m] := (Ba.far (by first | (simp; done) | (simp; omega) | (simp [*]; done) | (simp only [ne_eq]; constructor <;> omega)) _)
                  replace Bb : Blk (wl1.setCell ⟨gm, 0, none⟩ (.bool true)) (w.heap.size + 1) 24 #[uv b.v, uv b.m] := (Bb.far (by first | (simp; done) | (simp; omega) | (simp [*]; done) | (simp only [ne_eq]; constructor <;> omega)) _)
                  replace Br : Blk (wl1.setCell ⟨gm, 0, none⟩ (.bool true)) (w.heap.size + 1 + 1) 24 #[x, y] := (Br.far (by first | (simp; done) | (simp; omega) | (simp [*]; done) | (simp only [ne_eq]; constructor <;> omega)) _)
                  replace Bo : Blk (wl1.setCell ⟨gm, 0, none⟩ (.bool true)) (w.heap.size + 1 + 1 + 1) 24 #[uv (F n).v, uv (F n).m] := (Bo.far (by first | (simp; done) | (simp; omega) | (simp [*]; done) | (simp only [ne_eq]; constructor <;> omega)) _)
                  replace Bm : Blk (wl1.setCell ⟨gm, 0, none⟩ (.bool true)) (gm) 89 #[.bool true, .bool (V 0).2] := Bm.set_ 0 _
                  replace Bp : Blk (wl1.setCell ⟨gm, 0, none⟩ (.bool true)) (gp) 89 #[.bool true, .bool x1] := (Bp.far (by first | (simp; done) | (simp; omega) | (simp [*]; done) | (simp only [ne_eq]; constructor <;> omega)) _)
                  replace Bq : Blk (wl1.setCell ⟨gm, 0, none⟩ (.bool true)) (gq) 89 #[.bool true, .bool y1] := (Bq.far (by first | (simp; done) | (simp; omega) | (simp [*]; done) | (simp only [ne_eq]; constructor <;> omega)) _)
                  replace hB : Below w.heap.size w (wl1.setCell ⟨gm, 0, none⟩ (.bool true)) := (Bl_set hB (by first | omega | (simp; done) | (simp; omega)) _)
                  generalize (wl1.setCell ⟨gm, 0, none⟩ (.bool true)) = w5 at *
                  obtain ⟨ca0, ca1⟩ := cells2 Ba
                  have fa := Ba.frozen; have la := Ba.lt
                  obtain ⟨cb0, cb1⟩ := cells2 Bb
                  have fb := Bb.frozen; have lb := Bb.lt
                  obtain ⟨cr0, cr1⟩ := cells2 Br
                  have fr := Br.frozen; have lr := Br.lt
                  obtain ⟨co0, co1⟩ := cells2 Bo
                  have fo := Bo.frozen; have lo := Bo.lt
                  obtain ⟨cm0, cm1⟩ := cells2 Bm
                  have fm := Bm.frozen; have lm := Bm.lt
                  obtain ⟨cp0, cp1⟩ := cells2 Bp
                  have fp := Bp.frozen; have lp := Bp.lt
                  obtain ⟨cq0, cq1⟩ := cells2 Bq
                  have fq := Bq.frozen; have lq := Bq.lt
                  have eG := H0.out; simp [PlainTnum.sel, PlainTnum.put, PlainTnum.eachOp] at eG
                  clear ca0 ca1 fa la
                  clear cb0 cb1 fb lb
                  clear cr0 cr1 fr lr
                  clear co0 co1 fo lo
                  clear cm0 cm1 fm lm
                  clear cp0 cp1 fp lp
                  clear cq0 cq1 fq lq
                  replace Bm : Blk w5 (gm) 89 #[.bool (V 1).1, .bool (V 1).2] := by rw [eG]; exact Bm
                  clear eG
                  go_wp2_with fail
                  go_roundg 1
                  case measure => omega
                  case rel => exact ⟨hB, Ba, Bb, Br, Bo, Bp, Bq, .inr (.inl ⟨rfl, by go_num, Bm⟩)⟩
            · obtain ⟨wl1, rfl⟩ : ∃ z : World, z = wr := ⟨_, rfl⟩
              obtain ⟨ca0, ca1⟩ := cells2 Ba
              have fa := Ba.frozen; have la := Ba.lt
              obtain ⟨cb0, cb1⟩ := cells2 Bb
              have fb := Bb.frozen; have lb := Bb.lt
              obtain ⟨cr0, cr1⟩ := cells2 Br
              have fr := Br.frozen; have lr := Br.lt
              obtain ⟨co0, co1⟩ := cells2 Bo
              have fo := Bo.frozen; have lo := Bo.lt
              obtain ⟨cm0, cm1⟩ := cells2 Bm
              have fm := Bm.frozen; have lm := Bm.lt
              obtain ⟨cp0, cp1⟩ := cells2 Bp
              have fp := Bp.frozen; have lp := Bp.lt
              obtain ⟨cq0, cq1⟩ := cells2 Bq
              have fq := Bq.frozen; have lq := Bq.lt
              cases x0
              · go_upto_region 12 with fail
                have eG := H1.out; simp [PlainTnum.sel, PlainTnum.put, PlainTnum.eachOp] at eG
                clear ca0 ca1 fa la
                clear cb0 cb1 fb lb
                clear cr0 cr1 fr lr
                clear co0 co1 fo lo
                clear cm0 cm1 fm lm
                clear cp0 cp1 fp lp
                clear cq0 cq1 fq lq
                replace Bm : Blk wl1 (gm) 89 #[.bool (V 2).1, .bool (V 2).2] := by rw [eG]; exact Bm
                clear eG
                go_wp2_with fail
                go_roundg 0
                case measure => omega
                case rel => exact ⟨hB, Ba, Bb, Br, Bo, Bp, Bq, .inr (.inr ⟨rfl, by go_num, Bm⟩)⟩
              · cases y1
                · go_upto_region 12 with fail
                  have eG := H1.out; simp [PlainTnum.sel, PlainTnum.put, PlainTnum.eachOp] at eG
                  clear ca0 ca1 fa la
                  clear cb0 cb1 fb lb
                  clear cr0 cr1 fr lr
                  clear co0 co1 fo lo
                  clear cm0 cm1 fm lm
                  clear cp0 cp1 fp lp
                  clear cq0 cq1 fq lq
                  replace Bm : Blk wl1 (gm) 89 #[.bool (V 2).1, .bool (V 2).2] := by rw [eG]; exact Bm
                  clear eG
                  go_wp2_with fail
                  go_roundg 0
                  case measure => omega
                  case rel => exact ⟨hB, Ba, Bb, Br, Bo, Bp, Bq, .inr (.inr ⟨rfl, by go_num, Bm⟩)⟩
                · go_upto_region 12 with fail
                  clear ca0 ca1 fa la
                  clear cb0 cb1 fb lb
                  clear cr0 cr1 fr lr
                  clear co0 co1 fo lo
                  clear cm0 cm1 fm lm
                  clear cp0 cp1 fp lp
                  clear cq0 cq1 fq lq
                  replace Ba : Blk (wl1.setCell ⟨gm, 1, none⟩ (.bool true)) (w.heap.size) 24 #[uv a.v, uv a.m] := (Ba.far (by first | (simp; done) | (simp; omega) | (simp [*]; done) | (simp only [ne_eq]; constructor <;> omega)) _)
                  replace Bb : Blk (wl1.setCell ⟨gm, 1, none⟩ (.bool true)) (w.heap.size + 1) 24 #[uv b.v, uv b.m] := (Bb.far (by first | (simp; done) | (simp; omega) | (simp [*]; done) | (simp only [ne_eq]; constructor <;> omega)) _)
                  replace Br : Blk (wl1.setCell ⟨gm, 1, none⟩ (.bool true)) (w.heap.size + 1 + 1) 24 #[x, y] := (Br.far (by first | (simp; done) | (simp; omega) | (simp [*]; done) | (simp only [ne_eq]; constructor <;> omega)) _)
                  replace Bo : Blk (wl1.setCell ⟨gm, 1, none⟩ (.bool true)) (w.heap.size + 1 + 1 + 1) 24 #[uv (F n).v, uv (F n).m] := (Bo.far (by first | (simp; done) | (simp; omega) | (simp [*]; done) | (simp only [ne_eq]; constructor <;> omega)) _)
                  replace Bm : Blk (wl1.setCell ⟨gm, 1, none⟩ (.bool true)) (gm) 89 #[.bool (V 1).1, .bool true] := Bm.set_ 1 _
                  replace Bp : Blk (wl1.setCell ⟨gm, 1, none⟩ (.bool true)) (gp) 89 #[.bool true, .bool x1] := (Bp.far (by first | (simp; done) | (simp; omega) | (simp [*]; done) | (simp only [ne_eq]; constructor <;> omega)) _)
                  replace Bq : Blk (wl1.setCell ⟨gm, 1, none⟩ (.bool true)) (gq) 89 #[.bool y0, .bool true] := (Bq.far (by first | (simp; done) | (simp; omega) | (simp [*]; done) | (simp only [ne_eq]; constructor <;> omega)) _)
                  replace hB : Below w.heap.size w (wl1.setCell ⟨gm, 1, none⟩ (.bool true)) := (Bl_set hB (by first | omega | (simp; done) | (simp; omega)) _)
                  generalize (wl1.setCell ⟨gm, 1, none⟩ (.bool true)) = w5 at *
                  obtain ⟨ca0, ca1⟩ := cells2 Ba
                  have fa := Ba.frozen; have la := Ba.lt
                  obtain ⟨cb0, cb1⟩ := cells2 Bb
                  have fb := Bb.frozen; have lb := Bb.lt
                  obtain ⟨cr0, cr1⟩ := cells2 Br
                  have fr := Br.frozen; have lr := Br.lt
                  obtain ⟨co0, co1⟩ := cells2 Bo
                  have fo := Bo.frozen; have lo := Bo.lt
                  obtain ⟨cm0, cm1⟩ := cells2 Bm
                  have fm := Bm.frozen; have lm := Bm.lt
                  obtain ⟨cp0, cp1⟩ := cells2 Bp
                  have fp := Bp.frozen; have lp := Bp.lt
                  obtain ⟨cq0, cq1⟩ := cells2 Bq
                  have fq := Bq.frozen; have lq := Bq.lt
                  have eG := H1.out; simp [PlainTnum.sel, PlainTnum.put, PlainTnum.eachOp] at eG
                  clear ca0 ca1 fa la
                  clear cb0 cb1 fb lb
                  clear cr0 cr1 fr lr
                  clear co0 co1 fo lo
                  clear cm0 cm1 fm lm
                  clear cp0 cp1 fp lp
                  clear cq0 cq1 fq lq
                  replace Bm : Blk w5 (gm) 89 #[.bool (V 2).1, .bool (V 2).2] := by rw [eG]; exact Bm
                  clear eG
                  go_wp2_with fail
                  go_roundg 0
                  case measure => omega
                  case rel => exact ⟨hB, Ba, Bb, Br, Bo, Bp, Bq, .inr (.inr ⟨rfl, by go_num, Bm⟩)⟩
            · obtain ⟨wl1, rfl⟩ : ∃ z : World, z = wr := ⟨_, rfl⟩
              obtain ⟨ca0, ca1⟩ := cells2 Ba
              have fa := Ba.frozen; have la := Ba.lt
              obtain ⟨cb0, cb1⟩ := cells2 Bb
              have fb := Bb.frozen; have lb := Bb.lt
              obtain ⟨cr0, cr1⟩ := cells2 Br
              have fr := Br.frozen; have lr := Br.lt
              obtain ⟨co0, co1⟩ := cells2 Bo
              have fo := Bo.frozen; have lo := Bo.lt
              obtain ⟨cm0, cm1⟩ := cells2 Bm
              have fm := Bm.frozen; have lm := Bm.lt
              obtain ⟨cp0, cp1⟩ := cells2 Bp
              have fp := Bp.frozen; have lp := Bp.lt
              obtain ⟨cq0, cq1⟩ := cells2 Bq
              have fq := Bq.frozen; have lq := Bq.lt
              go_wp2_with fail
              go_roundg 1
              case measure => omega
              case rel => exact ⟨hB, Ba, Bb, Br, Bo, Bp, Bq, .inr (.inl ⟨rfl, by go_num, Bm⟩)⟩
        · obtain ⟨wl0, rfl⟩ : ∃ z : World, z = wr := ⟨_, rfl⟩
          obtain ⟨ca0, ca1⟩ := cells2 Ba
          have fa := Ba.frozen; have la := Ba.lt
          obtain ⟨cb0, cb1⟩ := cells2 Bb
          have fb := Bb.frozen; have lb := Bb.lt
          obtain ⟨cr0, cr1⟩ := cells2 Br
          have fr := Br.frozen; have lr := Br.lt
          obtain ⟨co0, co1⟩ := cells2 Bo
          have fo := Bo.frozen; have lo := Bo.lt
          obtain ⟨cm0, cm1⟩ := cells2 Bm
          have fm := Bm.frozen; have lm := Bm.lt
          obtain ⟨cp0, cp1⟩ := cells2 Bp
          have fp := Bp.frozen; have lp := Bp.lt
          obtain ⟨cq0, cq1⟩ := cells2 Bq
          have fq := Bq.frozen; have lq := Bq.lt
          go_wp2_with fail
          clear ca0 ca1 fa la
          clear cb0 cb1 fb lb
          clear cr0 cr1 fr lr
          clear co0 co1 fo lo
          clear cm0 cm1 fm lm
          clear cp0 cp1 fp lp
          clear cq0 cq1 fq lq
          go_loopg [13] 2 (fun m i wr => Below w.heap.size w wr ∧ Blk wr (w.heap.size) 24 #[uv a.v, uv a.m] ∧ Blk wr (w.heap.size + 1) 24 #[uv b.v, uv b.m] ∧ Blk wr (w.heap.size + 1 + 1) 24 #[x, y] ∧ Blk wr (w.heap.size + 1 + 1 + 1) 24 #[uv (F n).v, uv (F n).m] ∧ Blk wr (gp) 89 #[.bool x0, .bool x1] ∧ Blk wr (gq) 89 #[.bool y0, .bool y1] ∧ ((m = 2 ∧ i = .int .i64 0 ∧ Blk wr (gm) 89 #[.bool (V 2).1, .bool (V 2).2]) ∨ (m = 1 ∧ i = .int .i64 1 ∧ Blk wr (gm) 89 #[.bool (V 3).1, .bool (V 3).2]) ∨ (m = 0 ∧ i = .int .i64 2 ∧ Blk wr (gm) 89 #[.bool (V 4).1, .bool (V 4).2])))
          case atStart => exact ⟨hB, Ba, Bb, Br, Bo, Bp, Bq, .inl ⟨rfl, rfl, Bm⟩⟩
          case round =>
            rename Nat => gh1
            clear hB Ba Bb Br Bo Bp Bq Bm
            obtain ⟨hB, Ba, Bb, Br, Bo, Bp, Bq, ⟨hm, rfl, Bm⟩ | ⟨hm, rfl, Bm⟩ | ⟨hm, rfl, Bm⟩⟩ := hrel
            · obtain ⟨wl1, rfl⟩ : ∃ z : World, z = wr := ⟨_, rfl⟩
              obtain ⟨ca0, ca1⟩ := cells2 Ba
              have fa := Ba.frozen; have la := Ba.lt
              obtain ⟨cb0, cb1⟩ := cells2 Bb
              have fb := Bb.frozen; have lb := Bb.lt
              obtain ⟨cr0, cr1⟩ := cells2 Br
              have fr := Br.frozen; have lr := Br.lt
              obtain ⟨co0, co1⟩ := cells2 Bo
              have fo := Bo.frozen; have lo := Bo.lt
              obtain ⟨cm0, cm1⟩ := cells2 Bm
              have fm := Bm.frozen; have lm := Bm.lt
              obtain ⟨cp0, cp1⟩ := cells2 Bp
              have fp := Bp.frozen; have lp := Bp.lt
              obtain ⟨cq0, cq1⟩ := cells2 Bq
              have fq := Bq.frozen; have lq := Bq.lt
              cases x1
              · go_upto_region 12 with fail
                have eG := H2.out; simp [PlainTnum.sel, PlainTnum.put, PlainTnum.eachOp] at eG
                clear ca0 ca1 fa la
                clear cb0 cb1 fb lb
                clear cr0 cr1 fr lr
                clear co0 co1 fo lo
                clear cm0 cm1 fm lm
                clear cp0 cp1 fp lp
                clear cq0 cq1 fq lq
                replace Bm : Blk wl1 (gm) 89 #[.bool (V 3).1, .bool (V 3).2] := by rw [eG]; exact Bm
                clear eG
                go_wp2_with fail
                go_roundg 1
                case measure => omega
                case rel => exact ⟨hB, Ba, Bb, Br, Bo, Bp, Bq, .inr (.inl ⟨rfl, by go_num, Bm⟩)⟩
              · cases y0
                · go_upto_region 12 with fail
                  have eG := H2.out; simp [PlainTnum.sel, PlainTnum.put, PlainTnum.eachOp] at eG
                  clear ca0 ca1 fa la
                  clear cb0 cb1 fb lb
                  clear cr0 cr1 fr lr
                  clear co0 co1 fo lo
                  clear cm0 cm1 fm lm
                  clear cp0 cp1 fp lp
                  clear cq0 cq1 fq lq
                  replace Bm : Blk wl1 (gm) 89 #[.bool (V 3).1, .bool (V 3).2] := by rw [eG]; exact Bm
                  clear eG
                  go_wp2_with fail
                  go_roundg 1
                  case measure => omega
                  case rel => exact ⟨hB, Ba, Bb, Br, Bo, Bp, Bq, .inr (.inl ⟨rfl, by go_num, Bm⟩)⟩
                · go_upto_region 12 with fail
                  clear ca0 ca1 fa la
                  clear cb0 cb1 fb lb
                  clear cr0 cr1 fr lr
                  clear co0 co1 fo lo
                  clear cm0 cm1 fm lm
                  clear cp0 cp1 fp lp
                  clear cq0 cq1 fq lq
                  replace Ba : Blk (wl1.setCell ⟨gm, 1, none⟩ (.bool true)) (w.heap.size) 24 #[uv a.v, uv a.m] := (Ba.far (by first | (simp; done) | (simp; omega) | (simp [*]; done) | (simp only [ne_eq]; constructor <;> omega)) _)
                  replace Bb : Blk (wl1.setCell ⟨gm, 1, none⟩ (.bool true)) (w.heap.size + 1) 24 #[uv b.v, uv b.m] := (Bb.far (by first | (simp; done) | (simp; omega) | (simp [*]; done) | (simp only [ne_eq]; constructor <;> omega)) _)
                  replace Br : Blk (wl1.setCell ⟨gm, 1, none⟩ (.bool true)) (w.heap.size + 1 + 1) 24 #[x, y] := (Br.far (by first | (simp; done) | (simp; omega) | (simp [*]; done) | (simp only [ne_eq]; constructor <;> omega)) _)
                  replace Bo : Blk (wl1.setCell ⟨gm, 1, none⟩ (.bool true)) (w.heap.size + 1 + 1 + 1) 24 #[uv (F n).v, uv (F n).m] := (Bo.far (by first | (simp; done) | (simp; omega) | (simp [*]; done) | (simp only [ne_eq]; constructor <;> omega)) _)
                  replace Bm : Blk (wl1.setCell ⟨gm, 1, none⟩ (.bool true)) (gm) 89 #[.bool (V 2).1, .bool true] := Bm.set_ 1 _
                  replace Bp : Blk (wl1.setCell ⟨gm, 1, none⟩ (.bool true)) (gp) 89 #[.bool x0, .bool true] := (Bp.far (by first | (simp; done) | (simp; omega) | (simp [*]; done) | (simp only [ne_eq]; constructor <;> omega)) _)
                  replace Bq : Blk (wl1.setCell ⟨gm, 1, none⟩ (.bool true)) (gq) 89 #[.bool true, .bool y1] := (Bq.far (by first | (simp; done) | (simp; omega) | (simp [*]; done) | (simp only [ne_eq]; constructor <;> omega)) _)
                  replace hB : Below w.heap.size w (wl1.setCell ⟨gm, 1, none⟩ (.bool true)) := (Bl_set hB (by first | omega | (simp; done) | (simp; omega)) _)
                  generalize (wl1.setCell ⟨gm, 1, none⟩ (.bool true)) = w5 at *
                  obtain ⟨ca0, ca1⟩ := cells2 Ba
                  have fa := Ba.frozen; have la := Ba.lt
                  obtain ⟨cb0, cb1⟩ := cells2 Bb
                  have fb := Bb.frozen; have lb := Bb.lt
                  obtain ⟨cr0, cr1⟩ := cells2 Br
                  have fr := Br.frozen; have lr := Br.lt
                  obtain ⟨co0, co1⟩ := cells2 Bo
                  have fo := Bo.frozen; have lo := Bo.lt
                  obtain ⟨cm0, cm1⟩ := cells2 Bm
                  have fm := Bm.frozen; have lm := Bm.lt
                  obtain ⟨cp0, cp1⟩ := cells2 Bp
                  have fp := Bp.frozen; have lp := Bp.lt
                  obtain ⟨cq0, cq1⟩ := cells2 Bq
                  have fq := Bq.frozen; have lq := Bq.lt
                  have eG := H2.out; simp [PlainTnum.sel, PlainTnum.put, PlainTnum.eachOp] at eG
                  clear ca0 ca1 fa la
                  clear cb0 cb1 fb lb
                  clear cr0 cr1 fr lr
                  clear co0 co1 fo lo
                  clear cm0 cm1 fm lm
                  clear cp0 cp1 fp lp
                  clear cq0 cq1 fq lq
                  replace Bm : Blk w5 (gm) 89 #[.bool (V 3).1, .bool (V 3).2] := by rw [eG]; exact Bm
                  clear eG
                  go_wp2_with fail
                  go_roundg 1
                  case measure => omega
                  case rel => exact ⟨hB, Ba, Bb, Br, Bo, Bp, Bq, .inr (.inl ⟨rfl, by go_num, Bm⟩)⟩
            · obtain ⟨wl1, rfl⟩ : ∃ z : World, z = wr := ⟨_, rfl⟩
              obtain ⟨ca0, ca1⟩ := cells2 Ba
              have fa := Ba.frozen; have la := Ba.lt
              obtain ⟨cb0, cb1⟩ := cells2 Bb
              have fb := Bb.frozen; have lb := Bb.lt
              obtain ⟨cr0, cr1⟩ := cells2 Br
              have fr := Br.frozen; have lr := Br.lt
              obtain ⟨co0, co1⟩ := cells2 Bo
              have fo := Bo.frozen; have lo := Bo.lt
              obtain ⟨cm0, cm1⟩ := cells2 Bm
              have fm := Bm.frozen; have lm := Bm.lt
              obtain ⟨cp0, cp1⟩ := cells2 Bp
              have fp := Bp.frozen; have lp := Bp.lt
              obtain ⟨cq0, cq1⟩ := cells2 Bq
              have fq := Bq.frozen; have lq := Bq.lt
              cases x1
              · go_upto_region 12 with fail
                have eG := H3.out; simp [PlainTnum.sel, PlainTnum.put, PlainTnum.eachOp] at eG
                clear ca0 ca1 fa la
                clear cb0 cb1 fb lb
                clear cr0 cr1 fr lr
                clear co0 co1 fo lo
                clear cm0 cm1 fm lm
                clear cp0 cp1 fp lp
                clear cq0 cq1 fq lq
                replace Bm : Blk wl1 (gm) 89 #[.bool (V 4).1, .bool (V 4).2] := by rw [eG]; exact Bm
                clear eG
                go_wp2_with fail
                go_roundg 0
                case measure => omega
                case rel => exact ⟨hB, Ba, Bb, Br, Bo, Bp, Bq, .inr (.inr ⟨rfl, by go_num, Bm⟩)⟩
              · cases y1
                · go_upto_region 12 with fail
                  have eG := H3.out; simp [PlainTnum.sel, PlainTnum.put, PlainTnum.eachOp] at eG
                  clear ca0 ca1 fa la
                  clear cb0 cb1 fb lb
                  clear cr0 cr1 fr lr
                  clear co0 co1 fo lo
                  clear cm0 cm1 fm lm
                  clear cp0 cp1 fp lp
                  clear cq0 cq1 fq lq
                  replace Bm : Blk wl1 (gm) 89 #[.bool (V 4).1, .bool (V 4).2] := by rw [eG]; exact Bm
                  clear eG
                  go_wp2_with fail
                  go_roundg 0
                  case measure => omega
                  case rel => exact ⟨hB, Ba, Bb, Br, Bo, Bp, Bq, .inr (.inr ⟨rfl, by go_num, Bm⟩)⟩
                · go_upto_region 12 with fail
                  clear ca0 ca1 fa la
                  clear cb0 cb1 fb lb
                  clear cr0 cr1 fr lr
                  clear co0 co1 fo lo
                  clear cm0 cm1 fm lm
                  clear cp0 cp1 fp lp
                  clear cq0 cq1 fq lq
                  replace Ba : Blk (wl1.setCell ⟨gm, 0, none⟩ (.bool true)) (w.heap.size) 24 #[uv a.v, uv a.m] := (Ba.far (by first | (simp; done) | (simp; omega) | (simp [*]; done) | (simp only [ne_eq]; constructor <;> omega)) _)
                  replace Bb : Blk (wl1.setCell ⟨gm, 0, none⟩ (.bool true)) (w.heap.size + 1) 24 #[uv b.v, uv b.m] := (Bb.far (by first | (simp; done) | (simp; omega) | (simp [*]; done) | (simp only [ne_eq]; constructor <;> omega)) _)
                  replace Br : Blk (wl1.setCell ⟨gm, 0, none⟩ (.bool true)) (w.heap.size + 1 + 1) 24 #[x, y] := (Br.far (by first | (simp; done) | (simp; omega) | (simp [*]; done) | (simp only [ne_eq]; constructor <;> omega)) _)
                  replace Bo : Blk (wl1.setCell ⟨gm, 0, none⟩ (.bool true)) (w.heap.size + 1 + 1 + 1) 24 #[uv (F n).v, uv (F n).m] := (Bo.far (by first | (simp; done) | (simp; omega) | (simp [*]; done) | (simp only [ne_eq]; constructor <;> omega)) _)
                  replace Bm : Blk (wl1.setCell ⟨gm, 0, none⟩ (.bool true)) (gm) 89 #[.bool true, .bool (V 3).2] := Bm.set_ 0 _
                  replace Bp : Blk (wl1.setCell ⟨gm, 0, none⟩ (.bool true)) (gp) 89 #[.bool x0, .bool true] := (Bp.far (by first | (simp; done) | (simp; omega) | (simp [*]; done) | (simp only [ne_eq]; constructor <;> omega)) _)
                  replace Bq : Blk (wl1.setCell ⟨gm, 0, none⟩ (.bool true)) (gq) 89 #[.bool y0, .bool true] := (Bq.far (by first | (simp; done) | (simp; omega) | (simp [*]; done) | (simp only [ne_eq]; constructor <;> omega)) _)
                  replace hB : Below w.heap.size w (wl1.setCell ⟨gm, 0, none⟩ (.bool true)) := (Bl_set hB (by first | omega | (simp; done) | (simp; omega)) _)
                  generalize (wl1.setCell ⟨gm, 0, none⟩ (.bool true)) = w5 at *
                  obtain ⟨ca0, ca1⟩ := cells2 Ba
                  have fa := Ba.frozen; have la := Ba.lt
                  obtain ⟨cb0, cb1⟩ := cells2 Bb
                  have fb := Bb.frozen; have lb := Bb.lt
                  obtain ⟨cr0, cr1⟩ := cells2 Br
                  have fr := Br.frozen; have lr := Br.lt
                  obtain ⟨co0, co1⟩ := cells2 Bo
                  have fo := Bo.frozen; have lo := Bo.lt
                  obtain ⟨cm0, cm1⟩ := cells2 Bm
                  have fm := Bm.frozen; have lm := Bm.lt
                  obtain ⟨cp0, cp1⟩ := cells2 Bp
                  have fp := Bp.frozen; have lp := Bp.lt
                  obtain ⟨cq0, cq1⟩ := cells2 Bq
                  have fq := Bq.frozen; have lq := Bq.lt
                  have eG := H3.out; simp [PlainTnum.sel, PlainTnum.put, PlainTnum.eachOp] at eG
                  clear ca0 ca1 fa la
                  clear cb0 cb1 fb lb
                  clear cr0 cr1 fr lr
                  clear co0 co1 fo lo
                  clear cm0 cm1 fm lm
                  clear cp0 cp1 fp lp
                  clear cq0 cq1 fq lq
                  replace Bm : Blk w5 (gm) 89 #[.bool (V 4).1, .bool (V 4).2] := by rw [eG]; exact Bm
                  clear eG
                  go_wp2_with fail
                  go_roundg 0
                  case measure => omega
                  case rel => exact ⟨hB, Ba, Bb, Br, Bo, Bp, Bq, .inr (.inr ⟨rfl, by go_num, Bm⟩)⟩
            · obtain ⟨wl1, rfl⟩ : ∃ z : World, z = wr := ⟨_, rfl⟩
              obtain ⟨ca0, ca1⟩ := cells2 Ba
              have fa := Ba.frozen; have la := Ba.lt
              obtain ⟨cb0, cb1⟩ := cells2 Bb
              have fb := Bb.frozen; have lb := Bb.lt
              obtain ⟨cr0, cr1⟩ := cells2 Br
              have fr := Br.frozen; have lr := Br.lt
              obtain ⟨co0, co1⟩ := cells2 Bo
              have fo := Bo.frozen; have lo := Bo.lt
              obtain ⟨cm0, cm1⟩ := cells2 Bm
              have fm := Bm.frozen; have lm := Bm.lt
              obtain ⟨cp0, cp1⟩ := cells2 Bp
              have fp := Bp.frozen; have lp := Bp.lt
              obtain ⟨cq0, cq1⟩ := cells2 Bq
              have fq := Bq.frozen; have lq := Bq.lt
              go_wp2_with fail
              go_roundg 0
              case measure => omega
              case rel => exact ⟨hB, Ba, Bb, Br, Bo, Bp, Bq, .inr (.inr ⟨rfl, by go_num, Bm⟩)⟩
        · obtain ⟨wl0, rfl⟩ : ∃ z : World, z = wr := ⟨_, rfl⟩
          obtain ⟨ca0, ca1⟩ := cells2 Ba
          have fa := Ba.frozen; have la := Ba.lt
          obtain ⟨cb0, cb1⟩ := cells2 Bb
          have fb := Bb.frozen; have lb := Bb.lt
          obtain ⟨cr0, cr1⟩ := cells2 Br
          have fr := Br.frozen; have lr := Br.lt
          obtain ⟨co0, co1⟩ := cells2 Bo
          have fo := Bo.frozen; have lo := Bo.lt
          obtain ⟨cm0, cm1⟩ := cells2 Bm
          have fm := Bm.frozen; have lm := Bm.lt
          obtain ⟨cp0, cp1⟩ := cells2 Bp
          have fp := Bp.frozen; have lp := Bp.lt
          obtain ⟨cq0, cq1⟩ := cells2 Bq
          have fq := Bq.frozen; have lq := Bq.lt
          go_wp2_with fail
          refine (k_s _).mono ?_
          rintro e w5 ⟨rfl, hb⟩
          clear ca0 ca1 fa la
          clear cb0 cb1 fb lb
          clear cr0 cr1 fr lr
          clear co0 co1 fo lo
          clear cm0 cm1 fm lm
          clear cp0 cp1 fp lp
          clear cq0 cq1 fq lq
          replace Ba := (Ba).next hb
          replace Bb := (Bb).next hb
          replace Br := (Br).next hb
          replace Bo := (Bo).next hb
          replace Bm := (Bm).next hb
          replace Bp := (Bp).next hb
          replace Bq := (Bq).next hb
          replace hB : Below w.heap.size w w5 := by repeat (first | exact hB | (refine Bl_set ?_ (by first | omega | (simp; omega)) _) | apply Bl_alloc | (refine Bl_trans ?_ hb))
          clear hb
          obtain ⟨ca0, ca1⟩ := cells2 Ba
          have fa := Ba.frozen; have la := Ba.lt
          obtain ⟨cb0, cb1⟩ := cells2 Bb
          have fb := Bb.frozen; have lb := Bb.lt
          obtain ⟨cr0, cr1⟩ := cells2 Br
          have fr := Br.frozen; have lr := Br.lt
          obtain ⟨co0, co1⟩ := cells2 Bo
          have fo := Bo.frozen; have lo := Bo.lt
          obtain ⟨cm0, cm1⟩ := cells2 Bm
          have fm := Bm.frozen; have lm := Bm.lt
          obtain ⟨cp0, cp1⟩ := cells2 Bp
          have fp := Bp.frozen; have lp := Bp.lt
          obtain ⟨cq0, cq1⟩ := cells2 Bq
          have fq := Bq.frozen; have lq := Bq.lt
          go_upto_region 4 with fail
          clear ca0 ca1 fa la
          clear cb0 cb1 fb lb
          clear cr0 cr1 fr lr
          clear co0 co1 fo lo
          clear cm0 cm1 fm lm
          clear cp0 cp1 fp lp
          clear cq0 cq1 fq lq
          replace Ba : Blk ((w5.setCell ⟨w.heap.size + 1 + 1 + 1, 0, none⟩ (uv (F (n + 1)).v)).setCell ⟨w.heap.size + 1 + 1 + 1, 1, none⟩ (uv (F (n + 1)).m)) (w.heap.size) 24 #[uv a.v, uv a.m] := ((Ba.far (by first | (simp; done) | (simp; omega) | (simp [*]; done) | (simp only [ne_eq]; constructor <;> omega)) _).far (by first | (simp; done) | (simp; omega) | (simp [*]; done) | (simp only [ne_eq]; constructor <;> omega)) _)
          replace Bb : Blk ((w5.setCell ⟨w.heap.size + 1 + 1 + 1, 0, none⟩ (uv (F (n + 1)).v)).setCell ⟨w.heap.size + 1 + 1 + 1, 1, none⟩ (uv (F (n + 1)).m)) (w.heap.size + 1) 24 #[uv b.v, uv b.m] := ((Bb.far (by first | (simp; done) | (simp; omega) | (simp [*]; done) | (simp only [ne_eq]; constructor <;> omega)) _).far (by first | (simp; done) | (simp; omega) | (simp [*]; done) | (simp only [ne_eq]; constructor <;> omega)) _)
          replace Br : Blk ((w5.setCell ⟨w.heap.size + 1 + 1 + 1, 0, none⟩ (uv (F (n + 1)).v)).setCell ⟨w.heap.size + 1 + 1 + 1, 1, none⟩ (uv (F (n + 1)).m)) (w.heap.size + 1 + 1) 24 #[x, y] := ((Br.far (by first | (simp; done) | (simp; omega) | (simp [*]; done) | (simp only [ne_eq]; constructor <;> omega)) _).far (by first | (simp; done) | (simp; omega) | (simp [*]; done) | (simp only [ne_eq]; constructor <;> omega)) _)
          replace Bo : Blk ((w5.setCell ⟨w.heap.size + 1 + 1 + 1, 0, none⟩ (uv (F (n + 1)).v)).setCell ⟨w.heap.size + 1 + 1 + 1, 1, none⟩ (uv (F (n + 1)).m)) (w.heap.size + 1 + 1 + 1) 24 #[uv (F (n + 1)).v, uv (F (n + 1)).m] := ((Bo.set_ 0 _).set_ 1 _)
          replace Bm : Blk ((w5.setCell ⟨w.heap.size + 1 + 1 + 1, 0, none⟩ (uv (F (n + 1)).v)).setCell ⟨w.heap.size + 1 + 1 + 1, 1, none⟩ (uv (F (n + 1)).m)) (gm) 89 #[.bool (V 4).1, .bool (V 4).2] := ((Bm.far (by first | (simp; done) | (simp; omega) | (simp [*]; done) | (simp only [ne_eq]; constructor <;> omega)) _).far (by first | (simp; done) | (simp; omega) | (simp [*]; done) | (simp only [ne_eq]; constructor <;> omega)) _)
          replace Bp : Blk ((w5.setCell ⟨w.heap.size + 1 + 1 + 1, 0, none⟩ (uv (F (n + 1)).v)).setCell ⟨w.heap.size + 1 + 1 + 1, 1, none⟩ (uv (F (n + 1)).m)) (gp) 89 #[.bool x0, .bool x1] := ((Bp.far (by first | (simp; done) | (simp; omega) | (simp [*]; done) | (simp only [ne_eq]; constructor <;> omega)) _).far (by first | (simp; done) | (simp; omega) | (simp [*]; done) | (simp only [ne_eq]; constructor <;> omega)) _)
          replace Bq : Blk ((w5.setCell ⟨w.heap.size + 1 + 1 + 1, 0, none⟩ (uv (F (n + 1)).v)).setCell ⟨w.heap.size + 1 + 1 + 1, 1, none⟩ (uv (F (n + 1)).m)) (gq) 89 #[.bool y0, .bool y1] := ((Bq.far (by first | (simp; done) | (simp; omega) | (simp [*]; done) | (simp only [ne_eq]; constructor <;> omega)) _).far (by first | (simp; done) | (simp; omega) | (simp [*]; done) | (simp only [ne_eq]; constructor <;> omega)) _)
          replace hB : Below w.heap.size w ((w5.setCell ⟨w.heap.size + 1 + 1 + 1, 0, none⟩ (uv (F (n + 1)).v)).setCell ⟨w.heap.size + 1 + 1 + 1, 1, none⟩ (uv (F (n + 1)).m)) := (Bl_set (Bl_set hB (by first | omega | (simp; done) | (simp; omega)) _) (by first | omega | (simp; done) | (simp; omega)) _)
          generalize ((w5.setCell ⟨w.heap.size + 1 + 1 + 1, 0, none⟩ (uv (F (n + 1)).v)).setCell ⟨w.heap.size + 1 + 1 + 1, 1, none⟩ (uv (F (n + 1)).m)) = w6 at *
          obtain ⟨ca0, ca1⟩ := cells2 Ba
          have fa := Ba.frozen; have la := Ba.lt
          obtain ⟨cb0, cb1⟩ := cells2 Bb
          have fb := Bb.frozen; have lb := Bb.lt
          obtain ⟨cr0, cr1⟩ := cells2 Br
          have fr := Br.frozen; have lr := Br.lt
          obtain ⟨co0, co1⟩ := cells2 Bo
          have fo := Bo.frozen; have lo := Bo.lt
          obtain ⟨cm0, cm1⟩ := cells2 Bm
          have fm := Bm.frozen; have lm := Bm.lt
          obtain ⟨cp0, cp1⟩ := cells2 Bp
          have fp := Bp.frozen; have lp := Bp.lt
          obtain ⟨cq0, cq1⟩ := cells2 Bq
          have fq := Bq.frozen; have lq := Bq.lt
          go_wp2_with fail
          go_roundg (63 - n)
          case measure => omega
          case rel => exact ⟨n + 1, by omega, by omega, by go_num, hB, Ba, Bb, ⟨_, _, Br⟩, Bo⟩
end Go.Proofs.Ytmghpoagpiljhaa
