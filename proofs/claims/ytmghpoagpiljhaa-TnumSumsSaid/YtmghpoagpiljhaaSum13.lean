/- The loops in one another of the reference of layer 13: Sum, Each. -/
import Derived.Test.YtmghpoagpiljhaaMeet13
set_option linter.unusedSimpArgs false
namespace Go.Proofs.Ytmghpoagpiljhaa
namespace PlainTnum
/-- What may be, way by way: of the eight ways of three bits those before the k-th one. -/
def stF (minus : Bool) (x y c : May) : Nat → May × May
  | 0 => ((false, false), (false, false))
  | k + 1 => inner minus x y c (k.testBit 2) (k.testBit 1) (k.testBit 0) (stF minus x y c k)
def eachSt (what : Nat) (x y : May) : Nat → May
  | 0 => (false, false)
  | k + 1 => if sel x (k.testBit 1) && sel y (k.testBit 0) then put (eachSt what x y k) (eachOp what (k.testBit 1) (k.testBit 0)) else eachSt what x y k
theorem eachSt_4 (what : Nat) (hw : what = 0 ∨ what = 1 ∨ what = 2) (a b : N) (n : Nat) : eachSt what (bitsOf a n) (bitsOf b n) 4 = eachF what a b n := by
  unfold eachF
  generalize bitsOf a n = X
  generalize bitsOf b n = Y
  obtain ⟨x0, x1⟩ := X; obtain ⟨y0, y1⟩ := Y
  rcases hw with rfl | rfl | rfl <;> revert x0 x1 y0 y1 <;> decide
end PlainTnum
open Go.RowKit
open PlainTnum (N May)
set_option maxRecDepth 100000 in
set_option maxHeartbeats 4000000 in
theorem rsum_false (a b : N) (w : World) : Calls Try.prog 39 #[nv a, nv b, .bool false] w fun e w' => e = .returned (nv (PlainTnum.refSum false a b)) ∧ Below w.heap.size w w' := by
  obtain ⟨F, e_F⟩ : ∃ z' : Nat → N, z' = PlainTnum.build (PlainTnum.sumF false a b) := ⟨_, rfl⟩
  obtain ⟨K, e_K⟩ : ∃ z' : Nat → May, z' = PlainTnum.carryOf false a b := ⟨_, rfl⟩
  have h0 : F 0 = ⟨0#64, 0#64⟩ := by rw [e_F]; rfl
  have k0 : K 0 = (true, false) := by rw [e_K]; rfl
  have hs : ∀ n, F (n + 1) = PlainTnum.setN (F n) n (PlainTnum.stF false (PlainTnum.bitsOf a n) (PlainTnum.bitsOf b n) (K n) 8).1 ∧ K (n + 1) = (PlainTnum.stF false (PlainTnum.bitsOf a n) (PlainTnum.bitsOf b n) (K n) 8).2 := fun n => by rw [e_F, e_K]; exact ⟨rfl, rfl⟩
  rw [show PlainTnum.refSum false a b = F 64 by rw [e_F]; rfl]
  clear e_F e_K
  go_enter Try.func39, Try.ntmps39
  go_wp2_with fail
  obtain ⟨ga, hga⟩ : ∃ g, g = w.heap.size := ⟨_, rfl⟩
  obtain ⟨gb, hgb⟩ : ∃ g, g = w.heap.size + 1 := ⟨_, rfl⟩
  obtain ⟨gr, hgr⟩ : ∃ g, g = w.heap.size + 1 + 1 := ⟨_, rfl⟩
  obtain ⟨go, hgo⟩ : ∃ g, g = w.heap.size + 1 + 1 + 1 := ⟨_, rfl⟩
  obtain ⟨gc, hgc⟩ : ∃ g, g = w.heap.size + 1 + 1 + 1 + 1 := ⟨_, rfl⟩
  have Ba : Blk (((((w.alloc (.cells #[uv a.v, uv a.m] 24)).alloc (.cells #[uv b.v, uv b.m] 24)).alloc (.cells #[.int .u64 0, .int .u64 0] 24)).alloc (.cells #[.int .u64 0, .int .u64 0] 24)).alloc (.cells #[.bool true, .bool false] 89)) (w.heap.size) 24 #[uv a.v, uv a.m] := (((((Blk.new w 24 #[uv a.v, uv a.m])).alloc _).alloc _).alloc _).alloc _
  have Bb : Blk (((((w.alloc (.cells #[uv a.v, uv a.m] 24)).alloc (.cells #[uv b.v, uv b.m] 24)).alloc (.cells #[.int .u64 0, .int .u64 0] 24)).alloc (.cells #[.int .u64 0, .int .u64 0] 24)).alloc (.cells #[.bool true, .bool false] 89)) (w.heap.size + 1) 24 #[uv b.v, uv b.m] := ((((by simpa using Blk.new (w.alloc (.cells #[uv a.v, uv a.m] 24)) 24 #[uv b.v, uv b.m] : Blk _ (w.heap.size + 1) 24 #[uv b.v, uv b.m])).alloc _).alloc _).alloc _
  have Br : Blk (((((w.alloc (.cells #[uv a.v, uv a.m] 24)).alloc (.cells #[uv b.v, uv b.m] 24)).alloc (.cells #[.int .u64 0, .int .u64 0] 24)).alloc (.cells #[.int .u64 0, .int .u64 0] 24)).alloc (.cells #[.bool true, .bool false] 89)) (w.heap.size + 1 + 1) 24 #[.int .u64 0, .int .u64 0] := (((by simpa using Blk.new ((w.alloc (.cells #[uv a.v, uv a.m] 24)).alloc (.cells #[uv b.v, uv b.m] 24)) 24 #[.int .u64 0, .int .u64 0] : Blk _ (w.heap.size + 1 + 1) 24 #[.int .u64 0, .int .u64 0])).alloc _).alloc _
  have Bo : Blk (((((w.alloc (.cells #[uv a.v, uv a.m] 24)).alloc (.cells #[uv b.v, uv b.m] 24)).alloc (.cells #[.int .u64 0, .int .u64 0] 24)).alloc (.cells #[.int .u64 0, .int .u64 0] 24)).alloc (.cells #[.bool true, .bool false] 89)) (w.heap.size + 1 + 1 + 1) 24 #[.int .u64 0, .int .u64 0] := ((by simpa using Blk.new (((w.alloc (.cells #[uv a.v, uv a.m] 24)).alloc (.cells #[uv b.v, uv b.m] 24)).alloc (.cells #[.int .u64 0, .int .u64 0] 24)) 24 #[.int .u64 0, .int .u64 0] : Blk _ (w.heap.size + 1 + 1 + 1) 24 #[.int .u64 0, .int .u64 0])).alloc _
  have Bc : Blk (((((w.alloc (.cells #[uv a.v, uv a.m] 24)).alloc (.cells #[uv b.v, uv b.m] 24)).alloc (.cells #[.int .u64 0, .int .u64 0] 24)).alloc (.cells #[.int .u64 0, .int .u64 0] 24)).alloc (.cells #[.bool true, .bool false] 89)) (w.heap.size + 1 + 1 + 1 + 1) 89 #[.bool true, .bool false] := (by simpa using Blk.new ((((w.alloc (.cells #[uv a.v, uv a.m] 24)).alloc (.cells #[uv b.v, uv b.m] 24)).alloc (.cells #[.int .u64 0, .int .u64 0] 24)).alloc (.cells #[.int .u64 0, .int .u64 0] 24)) 89 #[.bool true, .bool false] : Blk _ (w.heap.size + 1 + 1 + 1 + 1) 89 #[.bool true, .bool false])
  have hB : Below w.heap.size w (((((w.alloc (.cells #[uv a.v, uv a.m] 24)).alloc (.cells #[uv b.v, uv b.m] 24)).alloc (.cells #[.int .u64 0, .int .u64 0] 24)).alloc (.cells #[.int .u64 0, .int .u64 0] 24)).alloc (.cells #[.bool true, .bool false] 89)) := (Bl_alloc (Bl_alloc (Bl_alloc (Bl_alloc (Bl_alloc (Bl_refl w) _) _) _) _) _)
  clear hga
  clear ga
  clear hgb
  clear gb
  clear hgr
  clear gr
  clear hgo
  clear go
  clear hgc
  clear gc
  generalize (((((w.alloc (.cells #[uv a.v, uv a.m] 24)).alloc (.cells #[uv b.v, uv b.m] 24)).alloc (.cells #[.int .u64 0, .int .u64 0] 24)).alloc (.cells #[.int .u64 0, .int .u64 0] 24)).alloc (.cells #[.bool true, .bool false] 89)) = w1 at *
  obtain ⟨ca0, ca1⟩ := cells2 Ba
  have fa := Ba.frozen; have la := Ba.lt
  obtain ⟨cb0, cb1⟩ := cells2 Bb
  have fb := Bb.frozen; have lb := Bb.lt
  obtain ⟨cr0, cr1⟩ := cells2 Br
  have fr := Br.frozen; have lr := Br.lt
  obtain ⟨co0, co1⟩ := cells2 Bo
  have fo := Bo.frozen; have lo := Bo.lt
  obtain ⟨cc0, cc1⟩ := cells2 Bc
  have fc := Bc.frozen; have lc := Bc.lt
  clear ca0 ca1 fa la
  clear cb0 cb1 fb lb
  clear cr0 cr1 fr lr
  clear co0 co1 fo lo
  clear cc0 cc1 fc lc
  go_loopg [9] 64 (fun m i wr => ∃ n : Nat, n ≤ 64 ∧ m + n = 64 ∧ i = .int .i64 (n : Int) ∧ Below w.heap.size w wr ∧ Blk wr (w.heap.size) 24 #[uv a.v, uv a.m] ∧ Blk wr (w.heap.size + 1) 24 #[uv b.v, uv b.m] ∧ (∃ x y, Blk wr (w.heap.size + 1 + 1) 24 #[x, y]) ∧ Blk wr (w.heap.size + 1 + 1 + 1) 24 #[uv (F n).v, uv (F n).m] ∧ Blk wr (w.heap.size + 1 + 1 + 1 + 1) 89 #[.bool (K n).1, .bool (K n).2])
  case atStart => exact ⟨0, by omega, by omega, rfl, hB, Ba, Bb, ⟨_, _, Br⟩, by rw [h0]; exact Bo, by rw [k0]; exact Bc⟩
  case round =>
    clear hB Ba Bb Br Bo Bc
    obtain ⟨n, hn, hgk, rfl, hB, Ba, Bb, ⟨x, y, Br⟩, Bo, Bc⟩ := hrel
    obtain ⟨wo, rfl⟩ : ∃ z : World, z = wr := ⟨_, rfl⟩
    cases q : decide ((n : Int) < 64)
    · obtain ⟨ca0, ca1⟩ := cells2 Ba
      have fa := Ba.frozen; have la := Ba.lt
      obtain ⟨cb0, cb1⟩ := cells2 Bb
      have fb := Bb.frozen; have lb := Bb.lt
      obtain ⟨cr0, cr1⟩ := cells2 Br
      have fr := Br.frozen; have lr := Br.lt
      obtain ⟨co0, co1⟩ := cells2 Bo
      have fo := Bo.frozen; have lo := Bo.lt
      obtain ⟨cc0, cc1⟩ := cells2 Bc
      have fc := Bc.frozen; have lc := Bc.lt
      have eF : F n = F 64 := by have := of_decide_eq_false q; rw [show n = 64 by omega]
      clear hs h0 k0
      go_wp2
      exact bodyPost_ret (v := nv (F 64)) (by simp [results, Try.results39, go_sem, cr0, cr1, co0, co1, lr, lo]) rfl ⟨rfl, by repeat (first | (with_reducible exact hB) | (with_reducible refine Bl_set ?_ (by first | omega | (simp; done) | (simp; omega)) _) | with_reducible apply Bl_alloc)⟩
    · have hlt : (n : Int) < 64 := of_decide_eq_true q
      have k_x := bits_n a (n : Int) n rfl (by omega); have k_y := bits_n b (n : Int) n rfl (by omega)
      have hs1 := hs n; clear hs h0 k0
      generalize PlainTnum.bitsOf a n = X at k_x hs1; generalize PlainTnum.bitsOf b n = Y at k_y hs1; generalize K n = C at Bc hs1; obtain ⟨x0, x1⟩ := X; obtain ⟨y0, y1⟩ := Y; obtain ⟨c0, c1⟩ := C
      obtain ⟨V, e_V⟩ : ∃ z' : Nat → May × May, z' = PlainTnum.stF false (x0, x1) (y0, y1) (c0, c1) := ⟨_, rfl⟩
      rw [← e_V] at hs1
      have g0 : V 0 = ((false, false), (false, false)) := by rw [e_V]; rfl
      have H0 := Lib.hid (show V 1 = PlainTnum.inner false (x0, x1) (y0, y1) (c0, c1) false false false (V 0) by rw [e_V]; rfl)
      have H1 := Lib.hid (show V 2 = PlainTnum.inner false (x0, x1) (y0, y1) (c0, c1) false false true (V 1) by rw [e_V]; rfl)
      have H2 := Lib.hid (show V 3 = PlainTnum.inner false (x0, x1) (y0, y1) (c0, c1) false true false (V 2) by rw [e_V]; rfl)
      have H3 := Lib.hid (show V 4 = PlainTnum.inner false (x0, x1) (y0, y1) (c0, c1) false true true (V 3) by rw [e_V]; rfl)
      have H4 := Lib.hid (show V 5 = PlainTnum.inner false (x0, x1) (y0, y1) (c0, c1) true false false (V 4) by rw [e_V]; rfl)
      have H5 := Lib.hid (show V 6 = PlainTnum.inner false (x0, x1) (y0, y1) (c0, c1) true false true (V 5) by rw [e_V]; rfl)
      have H6 := Lib.hid (show V 7 = PlainTnum.inner false (x0, x1) (y0, y1) (c0, c1) true true false (V 6) by rw [e_V]; rfl)
      have H7 := Lib.hid (show V 8 = PlainTnum.inner false (x0, x1) (y0, y1) (c0, c1) true true true (V 7) by rw [e_V]; rfl)
      have k_s := set_n (F n) n (by omega) (V 8).1; rw [← hs1.1] at k_s; have HK := Lib.hid hs1.2; clear hs1 e_V
      obtain ⟨ca0, ca1⟩ := cells2 Ba
      have fa := Ba.frozen; have la := Ba.lt
      obtain ⟨cb0, cb1⟩ := cells2 Bb
      have fb := Bb.frozen; have lb := Bb.lt
      obtain ⟨cr0, cr1⟩ := cells2 Br
      have fr := Br.frozen; have lr := Br.lt
      obtain ⟨co0, co1⟩ := cells2 Bo
      have fo := Bo.frozen; have lo := Bo.lt
      obtain ⟨cc0, cc1⟩ := cells2 Bc
      have fc := Bc.frozen; have lc := Bc.lt
      go_upto_region 7 with fail
      clear ca0 ca1 fa la
      clear cb0 cb1 fb lb
      clear cr0 cr1 fr lr
      clear co0 co1 fo lo
      clear cc0 cc1 fc lc
      have hnam := Nat.ne_of_lt Ba.lt; have hnae : w.heap.size ≠ wo.heap.size + 1 := by have := Ba.lt; omega
      have hnbm := Nat.ne_of_lt Bb.lt; have hnbe : w.heap.size + 1 ≠ wo.heap.size + 1 := by have := Bb.lt; omega
      have hnrm := Nat.ne_of_lt Br.lt; have hnre : w.heap.size + 1 + 1 ≠ wo.heap.size + 1 := by have := Br.lt; omega
      have hnom := Nat.ne_of_lt Bo.lt; have hnoe : w.heap.size + 1 + 1 + 1 ≠ wo.heap.size + 1 := by have := Bo.lt; omega
      have hncm := Nat.ne_of_lt Bc.lt; have hnce : w.heap.size + 1 + 1 + 1 + 1 ≠ wo.heap.size + 1 := by have := Bc.lt; omega
      have hdme : wo.heap.size ≠ wo.heap.size + 1 := by omega
      have hgm := hB.size; have hge : w.heap.size ≤ wo.heap.size + 1 := by omega
      replace Ba : Blk ((wo.alloc (.cells #[.bool false, .bool false] 89)).alloc (.cells #[.bool false, .bool false] 89)) (w.heap.size) 24 #[uv a.v, uv a.m] := (Ba.alloc _).alloc _
      replace Bb : Blk ((wo.alloc (.cells #[.bool false, .bool false] 89)).alloc (.cells #[.bool false, .bool false] 89)) (w.heap.size + 1) 24 #[uv b.v, uv b.m] := (Bb.alloc _).alloc _
      replace Br : Blk ((wo.alloc (.cells #[.bool false, .bool false] 89)).alloc (.cells #[.bool false, .bool false] 89)) (w.heap.size + 1 + 1) 24 #[x, y] := (Br.alloc _).alloc _
      replace Bo : Blk ((wo.alloc (.cells #[.bool false, .bool false] 89)).alloc (.cells #[.bool false, .bool false] 89)) (w.heap.size + 1 + 1 + 1) 24 #[uv (F n).v, uv (F n).m] := (Bo.alloc _).alloc _
      replace Bc : Blk ((wo.alloc (.cells #[.bool false, .bool false] 89)).alloc (.cells #[.bool false, .bool false] 89)) (w.heap.size + 1 + 1 + 1 + 1) 89 #[.bool c0, .bool c1] := (Bc.alloc _).alloc _
      have Bm : Blk ((wo.alloc (.cells #[.bool false, .bool false] 89)).alloc (.cells #[.bool false, .bool false] 89)) (wo.heap.size) 89 #[.bool false, .bool false] := (Blk.new wo _ _).alloc _
      have Be : Blk ((wo.alloc (.cells #[.bool false, .bool false] 89)).alloc (.cells #[.bool false, .bool false] 89)) (wo.heap.size + 1) 89 #[.bool false, .bool false] := by simpa using Blk.new (wo.alloc (.cells #[.bool false, .bool false] 89)) 89 #[.bool false, .bool false]
      replace hB : Below w.heap.size w ((wo.alloc (.cells #[.bool false, .bool false] 89)).alloc (.cells #[.bool false, .bool false] 89)) := Bl_alloc (Bl_alloc hB _) _
      generalize ((wo.alloc (.cells #[.bool false, .bool false] 89)).alloc (.cells #[.bool false, .bool false] 89)) = w2 at *
      generalize wo.heap.size + 1 = ge at *
      generalize wo.heap.size = gm at *
      obtain ⟨ca0, ca1⟩ := cells2 Ba
      have fa := Ba.frozen; have la := Ba.lt
      obtain ⟨cb0, cb1⟩ := cells2 Bb
      have fb := Bb.frozen; have lb := Bb.lt
      obtain ⟨cr0, cr1⟩ := cells2 Br
      have fr := Br.frozen; have lr := Br.lt
      obtain ⟨co0, co1⟩ := cells2 Bo
      have fo := Bo.frozen; have lo := Bo.lt
      obtain ⟨cc0, cc1⟩ := cells2 Bc
      have fc := Bc.frozen; have lc := Bc.lt
      obtain ⟨cm0, cm1⟩ := cells2 Bm
      have fm := Bm.frozen; have lm := Bm.lt
      obtain ⟨ce0, ce1⟩ := cells2 Be
      have fe := Be.frozen; have le := Be.lt
      go_wp2_with fail
      clear ca0 ca1; obtain ⟨ca0, ca1⟩ := lcells2 Ba
      clear cb0 cb1; obtain ⟨cb0, cb1⟩ := lcells2 Bb
      clear cr0 cr1; obtain ⟨cr0, cr1⟩ := lcells2 Br
      clear co0 co1; obtain ⟨co0, co1⟩ := lcells2 Bo
      clear cc0 cc1; obtain ⟨cc0, cc1⟩ := lcells2 Bc
      clear cm0 cm1; obtain ⟨cm0, cm1⟩ := lcells2 Bm
      clear ce0 ce1; obtain ⟨ce0, ce1⟩ := lcells2 Be
      refine wp_region_mix 8 (fun _ => #[.bool false, .bool false]) (by kernel_rfl) (by kernel_rfl) (fun o t ho ht => by
        simp at ho
        rcases ho with rfl | rfl | rfl | rfl | rfl | rfl | rfl | rfl <;> first | (cases ht; done) | (obtain rfl := Option.some.inj ht; exact fun ρ w => new_mb ht ρ w)) ?_
      simp only [List.take_succ_cons, List.take_zero, List.drop_succ_cons, List.drop_zero]
      repeat ((with_reducible refine wpMix_step (fun K hK => ?_)); go_simp; first | ((with_reducible refine hK _ ?_); clear hK K) | (rw [if_neg (by decide)]; (with_reducible refine hK _ ?_); clear hK K) | (apply Exists.intro; refine ⟨fun g => ?_, hK _ ?_⟩; ((with_reducible refine Calls.mono (k_x g.w) ?_); exact fun _ _ h => h); clear hK K) | (apply Exists.intro; refine ⟨fun g => ?_, hK _ ?_⟩; ((with_reducible refine Calls.mono (k_y g.w) ?_); exact fun _ _ h => h); clear hK K))
      refine wpMix_nil ?_
      intro G w3 hgr hblk hdist
      have hb : Below w2.heap.size w2 w3 := hgr
      replace Ba := Ba.next hb
      replace Bb := Bb.next hb
      replace Br := Br.next hb
      replace Bo := Bo.next hb
      replace Bc := Bc.next hb
      replace Bm := Bm.next hb
      replace Be := Be.next hb
      obtain ⟨Bp, hlp⟩ := hblk 6 _ rfl
      obtain ⟨Bq, hlq⟩ := hblk 7 _ rfl
      have hdpq := hdist 6 7 _ _ rfl rfl (by decide)
      have hgp : w.heap.size ≤ G 6 := Nat.le_trans hB.size hlp
      have hnap : w.heap.size ≠ G 6 := Nat.ne_of_lt (Nat.lt_of_lt_of_le la hlp)
      have hnbp : w.heap.size + 1 ≠ G 6 := Nat.ne_of_lt (Nat.lt_of_lt_of_le lb hlp)
      have hnrp : w.heap.size + 1 + 1 ≠ G 6 := Nat.ne_of_lt (Nat.lt_of_lt_of_le lr hlp)
      have hnop : w.heap.size + 1 + 1 + 1 ≠ G 6 := Nat.ne_of_lt (Nat.lt_of_lt_of_le lo hlp)
      have hncp : w.heap.size + 1 + 1 + 1 + 1 ≠ G 6 := Nat.ne_of_lt (Nat.lt_of_lt_of_le lc hlp)
      have hnmp : gm ≠ G 6 := Nat.ne_of_lt (Nat.lt_of_lt_of_le lm hlp)
      have hnep : ge ≠ G 6 := Nat.ne_of_lt (Nat.lt_of_lt_of_le le hlp)
      clear hlp
      have hgq : w.heap.size ≤ G 7 := Nat.le_trans hB.size hlq
      have hnaq : w.heap.size ≠ G 7 := Nat.ne_of_lt (Nat.lt_of_lt_of_le la hlq)
      have hnbq : w.heap.size + 1 ≠ G 7 := Nat.ne_of_lt (Nat.lt_of_lt_of_le lb hlq)
      have hnrq : w.heap.size + 1 + 1 ≠ G 7 := Nat.ne_of_lt (Nat.lt_of_lt_of_le lr hlq)
      have hnoq : w.heap.size + 1 + 1 + 1 ≠ G 7 := Nat.ne_of_lt (Nat.lt_of_lt_of_le lo hlq)
      have hncq : w.heap.size + 1 + 1 + 1 + 1 ≠ G 7 := Nat.ne_of_lt (Nat.lt_of_lt_of_le lc hlq)
      have hnmq : gm ≠ G 7 := Nat.ne_of_lt (Nat.lt_of_lt_of_le lm hlq)
      have hneq : ge ≠ G 7 := Nat.ne_of_lt (Nat.lt_of_lt_of_le le hlq)
      clear hlq
      clear ca0 ca1 fa la
      clear cb0 cb1 fb lb
      clear cr0 cr1 fr lr
      clear co0 co1 fo lo
      clear cc0 cc1 fc lc
      clear cm0 cm1 fm lm
      clear ce0 ce1 fe le
      replace hB : Below w.heap.size w w3 := Bl_trans hB hb
      simp only [putAll, isAlloc, Act.put]
      generalize G 6 = gp at *
      generalize G 7 = gq at *
      clear hb hgr hblk hdist
      obtain ⟨ca0, ca1⟩ := cells2 Ba
      have fa := Ba.frozen; have la := Ba.lt
      obtain ⟨cb0, cb1⟩ := cells2 Bb
      have fb := Bb.frozen; have lb := Bb.lt
      obtain ⟨cr0, cr1⟩ := cells2 Br
      have fr := Br.frozen; have lr := Br.lt
      obtain ⟨co0, co1⟩ := cells2 Bo
      have fo := Bo.frozen; have lo := Bo.lt
      obtain ⟨cc0, cc1⟩ := cells2 Bc
      have fc := Bc.frozen; have lc := Bc.lt
      obtain ⟨cm0, cm1⟩ := cells2 Bm
      have fm := Bm.frozen; have lm := Bm.lt
      obtain ⟨ce0, ce1⟩ := cells2 Be
      have fe := Be.frozen; have le := Be.lt
      obtain ⟨cp0, cp1⟩ := cells2 Bp
      have fp := Bp.frozen; have lp := Bp.lt
      obtain ⟨cq0, cq1⟩ := cells2 Bq
      have fq := Bq.frozen; have lq := Bq.lt
      go_upto_region 8 with fail
      clear ca0 ca1 fa la
      clear cb0 cb1 fb lb
      clear cr0 cr1 fr lr
      clear co0 co1 fo lo
      clear cc0 cc1 fc lc
      clear cm0 cm1 fm lm
      clear ce0 ce1 fe le
      clear cp0 cp1 fp lp
      clear cq0 cq1 fq lq
      replace Ba : Blk ((w3.setCell ⟨gp, 0, none⟩ (.bool x0)).setCell ⟨gp, 1, none⟩ (.bool x1)) (w.heap.size) 24 #[uv a.v, uv a.m] := ((Ba.far (by first | (simp; done) | (simp; omega) | (simp [*]; done) | (simp only [ne_eq]; constructor <;> omega)) _).far (by first | (simp; done) | (simp; omega) | (simp [*]; done) | (simp only [ne_eq]; constructor <;> omega)) _)
      replace Bb : Blk ((w3.setCell ⟨gp, 0, none⟩ (.bool x0)).setCell ⟨gp, 1, none⟩ (.bool x1)) (w.heap.size + 1) 24 #[uv b.v, uv b.m] := ((Bb.far (by first | (simp; done) | (simp; omega) | (simp [*]; done) | (simp only [ne_eq]; constructor <;> omega)) _).far (by first | (simp; done) | (simp; omega) | (simp [*]; done) | (simp only [ne_eq]; constructor <;> omega)) _)
      replace Br : Blk ((w3.setCell ⟨gp, 0, none⟩ (.bool x0)).setCell ⟨gp, 1, none⟩ (.bool x1)) (w.heap.size + 1 + 1) 24 #[x, y] := ((Br.far (by first | (simp; done) | (simp; omega) | (simp [*]; done) | (simp only [ne_eq]; constructor <;> omega)) _).far (by first | (simp; done) | (simp; omega) | (simp [*]; done) | (simp only [ne_eq]; constructor <;> omega)) _)
      replace Bo : Blk ((w3.setCell ⟨gp, 0, none⟩ (.bool x0)).setCell ⟨gp, 1, none⟩ (.bool x1)) (w.heap.size + 1 + 1 + 1) 24 #[uv (F n).v, uv (F n).m] := ((Bo.far (by first | (simp; done) | (simp; omega) | (simp [*]; done) | (simp only [ne_eq]; constructor <;> omega)) _).far (by first | (simp; done) | (simp; omega) | (simp [*]; done) | (simp only [ne_eq]; constructor <;> omega)) _)
      replace Bc : Blk ((w3.setCell ⟨gp, 0, none⟩ (.bool x0)).setCell ⟨gp, 1, none⟩ (.bool x1)) (w.heap.size + 1 + 1 + 1 + 1) 89 #[.bool c0, .bool c1] := ((Bc.far (by first | (simp; done) | (simp; omega) | (simp [*]; done) | (simp only [ne_eq]; constructor <;> omega)) _).far (by first | (simp; done) | (simp; omega) | (simp [*]; done) | (simp only [ne_eq]; constructor <;> omega)) _)
      replace Bm : Blk ((w3.setCell ⟨gp, 0, none⟩ (.bool x0)).setCell ⟨gp, 1, none⟩ (.bool x1)) (gm) 89 #[.bool false, .bool false] := ((Bm.far (by first | (simp; done) | (simp; omega) | (simp [*]; done) | (simp only [ne_eq]; constructor <;> omega)) _).far (by first | (simp; done) | (simp; omega) | (simp [*]; done) | (simp only [ne_eq]; constructor <;> omega)) _)
      replace Be : Blk ((w3.setCell ⟨gp, 0, none⟩ (.bool x0)).setCell ⟨gp, 1, none⟩ (.bool x1)) (ge) 89 #[.bool false, .bool false] := ((Be.far (by first | (simp; done) | (simp; omega) | (simp [*]; done) | (simp only [ne_eq]; constructor <;> omega)) _).far (by first | (simp; done) | (simp; omega) | (simp [*]; done) | (simp only [ne_eq]; constructor <;> omega)) _)
      replace Bp : Blk ((w3.setCell ⟨gp, 0, none⟩ (.bool x0)).setCell ⟨gp, 1, none⟩ (.bool x1)) (gp) 89 #[.bool x0, .bool x1] := ((Bp.set_ 0 _).set_ 1 _)
      replace Bq : Blk ((w3.setCell ⟨gp, 0, none⟩ (.bool x0)).setCell ⟨gp, 1, none⟩ (.bool x1)) (gq) 89 #[.bool false, .bool false] := ((Bq.far (by first | (simp; done) | (simp; omega) | (simp [*]; done) | (simp only [ne_eq]; constructor <;> omega)) _).far (by first | (simp; done) | (simp; omega) | (simp [*]; done) | (simp only [ne_eq]; constructor <;> omega)) _)
      replace hB : Below w.heap.size w ((w3.setCell ⟨gp, 0, none⟩ (.bool x0)).setCell ⟨gp, 1, none⟩ (.bool x1)) := (Bl_set (Bl_set hB (by first | omega | (simp; done) | (simp; omega)) _) (by first | omega | (simp; done) | (simp; omega)) _)
      replace Ba : Blk ((((w3.setCell ⟨gp, 0, none⟩ (.bool x0)).setCell ⟨gp, 1, none⟩ (.bool x1)).setCell ⟨gq, 0, none⟩ (.bool y0)).setCell ⟨gq, 1, none⟩ (.bool y1)) (w.heap.size) 24 #[uv a.v, uv a.m] := ((Ba.far (by first | (simp; done) | (simp; omega) | (simp [*]; done) | (simp only [ne_eq]; constructor <;> omega)) _).far (by first | (simp; done) | (simp; omega) | (simp [*]; done) | (simp only [ne_eq]; constructor <;> omega)) _)
      replace Bb : Blk ((((w3.setCell ⟨gp, 0, none⟩ (.bool x0)).setCell ⟨gp, 1, none⟩ (.bool x1)).setCell ⟨gq, 0, none⟩ (.bool y0)).setCell ⟨gq, 1, none⟩ (.bool y1)) (w.heap.size + 1) 24 #[uv b.v, uv b.m] := ((Bb.far (by first | (simp; done) | (simp; omega) | (simp [*]; done) | (simp only [ne_eq]; constructor <;> omega)) _).far (by first | (simp; done) | (simp; omega) | (simp [*]; done) | (simp only [ne_eq]; constructor <;> omega)) _)
      replace Br : Blk ((((w3.setCell ⟨gp, 0, none⟩ (.bool x0)).setCell ⟨gp, 1, none⟩ (.bool x1)).setCell ⟨gq, 0, none⟩ (.bool y0)).setCell ⟨gq, 1, none⟩ (.bool y1)) (w.heap.size + 1 + 1) 24 #[x, y] := ((Br.far (by first | (simp; done) | (simp; omega) | (simp [*]; done) | (simp only [ne_eq]; constructor <;> omega)) _).far (by first | (simp; done) | (simp; omega) | (simp [*]; done) | (simp only [ne_eq]; constructor <;> omega)) _)
      replace Bo : Blk ((((w3.setCell ⟨gp, 0, none⟩ (.bool x0)).setCell ⟨gp, 1, none⟩ (.bool x1)).setCell ⟨gq, 0, none⟩ (.bool y0)).setCell ⟨gq, 1, none⟩ (.bool y1)) (w.heap.size + 1 + 1 + 1) 24 #[uv (F n).v, uv (F n).m] := ((Bo.far (by first | (simp; done) | (simp; omega) | (simp [*]; done) | (simp only [ne_eq]; constructor <;> omega)) _).far (by first | (simp; done) | (simp; omega) | (simp [*]; done) | (simp only [ne_eq]; constructor <;> omega)) _)
      replace Bc : Blk ((((w3.setCell ⟨gp, 0, none⟩ (.bool x0)).setCell ⟨gp, 1, none⟩ (.bool x1)).setCell ⟨gq, 0, none⟩ (.bool y0)).setCell ⟨gq, 1, none⟩ (.bool y1)) (w.heap.size + 1 + 1 + 1 + 1) 89 #[.bool c0, .bool c1] := ((Bc.far (by first | (simp; done) | (simp; omega) | (simp [*]; done) | (simp only [ne_eq]; constructor <;> omega)) _).far (by first | (simp; done) | (simp; omega) | (simp [*]; done) | (simp only [ne_eq]; constructor <;> omega)) _)
      replace Bm : Blk ((((w3.setCell ⟨gp, 0, none⟩ (.bool x0)).setCell ⟨gp, 1, none⟩ (.bool x1)).setCell ⟨gq, 0, none⟩ (.bool y0)).setCell ⟨gq, 1, none⟩ (.bool y1)) (gm) 89 #[.bool false, .bool false] := ((Bm.far (by first | (simp; done) | (simp; omega) | (simp [*]; done) | (simp only [ne_eq]; constructor <;> omega)) _).far (by first | (simp; done) | (simp; omega) | (simp [*]; done) | (simp only [ne_eq]; constructor <;> omega)) _)
      replace Be : Blk ((((w3.setCell ⟨gp, 0, none⟩ (.bool x0)).setCell ⟨gp, 1, none⟩ (.bool x1)).setCell ⟨gq, 0, none⟩ (.bool y0)).setCell ⟨gq, 1, none⟩ (.bool y1)) (ge) 89 #[.bool false, .bool false] := ((Be.far (by first | (simp; done) | (simp; omega) | (simp [*]; done) | (simp only [ne_eq]; constructor <;> omega)) _).far (by first | (simp; done) | (simp; omega) | (simp [*]; done) | (simp only [ne_eq]; constructor <;> omega)) _)
      replace Bp : Blk ((((w3.setCell ⟨gp, 0, none⟩ (.bool x0)).setCell ⟨gp, 1, none⟩ (.bool x1)).setCell ⟨gq, 0, none⟩ (.bool y0)).setCell ⟨gq, 1, none⟩ (.bool y1)) (gp) 89 #[.bool x0, .bool x1] := ((Bp.far (by first | (simp; done) | (simp; omega) | (simp [*]; done) | (simp only [ne_eq]; constructor <;> omega)) _).far (by first | (simp; done) | (simp; omega) | (simp [*]; done) | (simp only [ne_eq]; constructor <;> omega)) _)
      replace Bq : Blk ((((w3.setCell ⟨gp, 0, none⟩ (.bool x0)).setCell ⟨gp, 1, none⟩ (.bool x1)).setCell ⟨gq, 0, none⟩ (.bool y0)).setCell ⟨gq, 1, none⟩ (.bool y1)) (gq) 89 #[.bool y0, .bool y1] := ((Bq.set_ 0 _).set_ 1 _)
      replace hB : Below w.heap.size w ((((w3.setCell ⟨gp, 0, none⟩ (.bool x0)).setCell ⟨gp, 1, none⟩ (.bool x1)).setCell ⟨gq, 0, none⟩ (.bool y0)).setCell ⟨gq, 1, none⟩ (.bool y1)) := (Bl_set (Bl_set hB (by first | omega | (simp; done) | (simp; omega)) _) (by first | omega | (simp; done) | (simp; omega)) _)
      generalize ((((w3.setCell ⟨gp, 0, none⟩ (.bool x0)).setCell ⟨gp, 1, none⟩ (.bool x1)).setCell ⟨gq, 0, none⟩ (.bool y0)).setCell ⟨gq, 1, none⟩ (.bool y1)) = w4 at *
      obtain ⟨ca0, ca1⟩ := cells2 Ba
      have fa := Ba.frozen; have la := Ba.lt
      obtain ⟨cb0, cb1⟩ := cells2 Bb
      have fb := Bb.frozen; have lb := Bb.lt
      obtain ⟨cr0, cr1⟩ := cells2 Br
      have fr := Br.frozen; have lr := Br.lt
      obtain ⟨co0, co1⟩ := cells2 Bo
      have fo := Bo.frozen; have lo := Bo.lt
      obtain ⟨cc0, cc1⟩ := cells2 Bc
      have fc := Bc.frozen; have lc := Bc.lt
      obtain ⟨cm0, cm1⟩ := cells2 Bm
      have fm := Bm.frozen; have lm := Bm.lt
      obtain ⟨ce0, ce1⟩ := cells2 Be
      have fe := Be.frozen; have le := Be.lt
      obtain ⟨cp0, cp1⟩ := cells2 Bp
      have fp := Bp.frozen; have lp := Bp.lt
      obtain ⟨cq0, cq1⟩ := cells2 Bq
      have fq := Bq.frozen; have lq := Bq.lt
      clear ca0 ca1 fa la
      clear cb0 cb1 fb lb
      clear cr0 cr1 fr lr
      clear co0 co1 fo lo
      clear cc0 cc1 fc lc
      clear cm0 cm1 fm lm
      clear ce0 ce1 fe le
      clear cp0 cp1 fp lp
      clear cq0 cq1 fq lq
      replace Bm : Blk w4 (gm) 89 #[.bool (V 0).1.1, .bool (V 0).1.2] := by rw [g0]; exact Bm
      replace Be : Blk w4 (ge) 89 #[.bool (V 0).2.1, .bool (V 0).2.2] := by rw [g0]; exact Be
      clear g0
      obtain ⟨ca0, ca1⟩ := cells2 Ba
      have fa := Ba.frozen; have la := Ba.lt
      obtain ⟨cb0, cb1⟩ := cells2 Bb
      have fb := Bb.frozen; have lb := Bb.lt
      obtain ⟨cr0, cr1⟩ := cells2 Br
      have fr := Br.frozen; have lr := Br.lt
      obtain ⟨co0, co1⟩ := cells2 Bo
      have fo := Bo.frozen; have lo := Bo.lt
      obtain ⟨cc0, cc1⟩ := cells2 Bc
      have fc := Bc.frozen; have lc := Bc.lt
      obtain ⟨cm0, cm1⟩ := cells2 Bm
      have fm := Bm.frozen; have lm := Bm.lt
      obtain ⟨ce0, ce1⟩ := cells2 Be
      have fe := Be.frozen; have le := Be.lt
      obtain ⟨cp0, cp1⟩ := cells2 Bp
      have fp := Bp.frozen; have lp := Bp.lt
      obtain ⟨cq0, cq1⟩ := cells2 Bq
      have fq := Bq.frozen; have lq := Bq.lt
      go_wp2_with fail
      clear ca0 ca1 fa la
      clear cb0 cb1 fb lb
      clear cr0 cr1 fr lr
      clear co0 co1 fo lo
      clear cc0 cc1 fc lc
      clear cm0 cm1 fm lm
      clear ce0 ce1 fe le
      clear cp0 cp1 fp lp
      clear cq0 cq1 fq lq
      go_loopg [14] 2 (fun m i wr => Below w.heap.size w wr ∧ Blk wr (w.heap.size) 24 #[uv a.v, uv a.m] ∧ Blk wr (w.heap.size + 1) 24 #[uv b.v, uv b.m] ∧ Blk wr (w.heap.size + 1 + 1) 24 #[x, y] ∧ Blk wr (w.heap.size + 1 + 1 + 1) 24 #[uv (F n).v, uv (F n).m] ∧ Blk wr (w.heap.size + 1 + 1 + 1 + 1) 89 #[.bool c0, .bool c1] ∧ Blk wr (gp) 89 #[.bool x0, .bool x1] ∧ Blk wr (gq) 89 #[.bool y0, .bool y1] ∧ ((m = 2 ∧ i = .int .i64 0 ∧ Blk wr (gm) 89 #[.bool (V 0).1.1, .bool (V 0).1.2] ∧ Blk wr (ge) 89 #[.bool (V 0).2.1, .bool (V 0).2.2]) ∨ (m = 1 ∧ i = .int .i64 1 ∧ Blk wr (gm) 89 #[.bool (V 4).1.1, .bool (V 4).1.2] ∧ Blk wr (ge) 89 #[.bool (V 4).2.1, .bool (V 4).2.2]) ∨ (m = 0 ∧ i = .int .i64 2 ∧ Blk wr (gm) 89 #[.bool (V 8).1.1, .bool (V 8).1.2] ∧ Blk wr (ge) 89 #[.bool (V 8).2.1, .bool (V 8).2.2])))
      case atStart => exact ⟨hB, Ba, Bb, Br, Bo, Bc, Bp, Bq, .inl ⟨rfl, rfl, Bm, Be⟩⟩
      case round =>
        rename Nat => gh0
        clear hB Ba Bb Br Bo Bc Bp Bq Bm Be
        obtain ⟨hB, Ba, Bb, Br, Bo, Bc, Bp, Bq, ⟨hm, rfl, Bm, Be⟩ | ⟨hm, rfl, Bm, Be⟩ | ⟨hm, rfl, Bm, Be⟩⟩ := hrel
        · obtain ⟨wl0, rfl⟩ : ∃ z : World, z = wr := ⟨_, rfl⟩
          obtain ⟨ca0, ca1⟩ := cells2 Ba
          have fa := Ba.frozen; have la := Ba.lt
          obtain ⟨cb0, cb1⟩ := cells2 Bb
          have fb := Bb.frozen; have lb := Bb.lt
          obtain ⟨cr0, cr1⟩ := cells2 Br
          have fr := Br.frozen; have lr := Br.lt
          obtain ⟨co0, co1⟩ := cells2 Bo
          have fo := Bo.frozen; have lo := Bo.lt
          obtain ⟨cc0, cc1⟩ := cells2 Bc
          have fc := Bc.frozen; have lc := Bc.lt
          obtain ⟨cm0, cm1⟩ := cells2 Bm
          have fm := Bm.frozen; have lm := Bm.lt
          obtain ⟨ce0, ce1⟩ := cells2 Be
          have fe := Be.frozen; have le := Be.lt
          obtain ⟨cp0, cp1⟩ := cells2 Bp
          have fp := Bp.frozen; have lp := Bp.lt
          obtain ⟨cq0, cq1⟩ := cells2 Bq
          have fq := Bq.frozen; have lq := Bq.lt
          go_wp2_with fail
          clear ca0 ca1 fa la
          clear cb0 cb1 fb lb
          clear cr0 cr1 fr lr
          clear co0 co1 fo lo
          clear cc0 cc1 fc lc
          clear cm0 cm1 fm lm
          clear ce0 ce1 fe le
          clear cp0 cp1 fp lp
          clear cq0 cq1 fq lq
          go_loopg [15] 2 (fun m i wr => Below w.heap.size w wr ∧ Blk wr (w.heap.size) 24 #[uv a.v, uv a.m] ∧ Blk wr (w.heap.size + 1) 24 #[uv b.v, uv b.m] ∧ Blk wr (w.heap.size + 1 + 1) 24 #[x, y] ∧ Blk wr (w.heap.size + 1 + 1 + 1) 24 #[uv (F n).v, uv (F n).m] ∧ Blk wr (w.heap.size + 1 + 1 + 1 + 1) 89 #[.bool c0, .bool c1] ∧ Blk wr (gp) 89 #[.bool x0, .bool x1] ∧ Blk wr (gq) 89 #[.bool y0, .bool y1] ∧ ((m = 2 ∧ i = .int .i64 0 ∧ Blk wr (gm) 89 #[.bool (V 0).1.1, .bool (V 0).1.2] ∧ Blk wr (ge) 89 #[.bool (V 0).2.1, .bool (V 0).2.2]) ∨ (m = 1 ∧ i = .int .i64 1 ∧ Blk wr (gm) 89 #[.bool (V 2).1.1, .bool (V 2).1.2] ∧ Blk wr (ge) 89 #[.bool (V 2).2.1, .bool (V 2).2.2]) ∨ (m = 0 ∧ i = .int .i64 2 ∧ Blk wr (gm) 89 #[.bool (V 4).1.1, .bool (V 4).1.2] ∧ Blk wr (ge) 89 #[.bool (V 4).2.1, .bool (V 4).2.2])))
          case atStart => exact ⟨hB, Ba, Bb, Br, Bo, Bc, Bp, Bq, .inl ⟨rfl, rfl, Bm, Be⟩⟩
          case round =>
            rename Nat => gh1
            clear hB Ba Bb Br Bo Bc Bp Bq Bm Be
            obtain ⟨hB, Ba, Bb, Br, Bo, Bc, Bp, Bq, ⟨hm, rfl, Bm, Be⟩ | ⟨hm, rfl, Bm, Be⟩ | ⟨hm, rfl, Bm, Be⟩⟩ := hrel
            · obtain ⟨wl1, rfl⟩ : ∃ z : World, z = wr := ⟨_, rfl⟩
              obtain ⟨ca0, ca1⟩ := cells2 Ba
              have fa := Ba.frozen; have la := Ba.lt
              obtain ⟨cb0, cb1⟩ := cells2 Bb
              have fb := Bb.frozen; have lb := Bb.lt
              obtain ⟨cr0, cr1⟩ := cells2 Br
              have fr := Br.frozen; have lr := Br.lt
              obtain ⟨co0, co1⟩ := cells2 Bo
              have fo := Bo.frozen; have lo := Bo.lt
              obtain ⟨cc0, cc1⟩ := cells2 Bc
              have fc := Bc.frozen; have lc := Bc.lt
              obtain ⟨cm0, cm1⟩ := cells2 Bm
              have fm := Bm.frozen; have lm := Bm.lt
              obtain ⟨ce0, ce1⟩ := cells2 Be
              have fe := Be.frozen; have le := Be.lt
              obtain ⟨cp0, cp1⟩ := cells2 Bp
              have fp := Bp.frozen; have lp := Bp.lt
              obtain ⟨cq0, cq1⟩ := cells2 Bq
              have fq := Bq.frozen; have lq := Bq.lt
              go_wp2_with fail
              clear ca0 ca1 fa la
              clear cb0 cb1 fb lb
              clear cr0 cr1 fr lr
              clear co0 co1 fo lo
              clear cc0 cc1 fc lc
              clear cm0 cm1 fm lm
              clear ce0 ce1 fe le
              clear cp0 cp1 fp lp
              clear cq0 cq1 fq lq
              go_loopg [16] 2 (fun m i wr => Below w.heap.size w wr ∧ Blk wr (w.heap.size) 24 #[uv a.v, uv a.m] ∧ Blk wr (w.heap.size + 1) 24 #[uv b.v, uv b.m] ∧ Blk wr (w.heap.size + 1 + 1) 24 #[x, y] ∧ Blk wr (w.heap.size + 1 + 1 + 1) 24 #[uv (F n).v, uv (F n).m] ∧ Blk wr (w.heap.size + 1 + 1 + 1 + 1) 89 #[.bool c0, .bool c1] ∧ Blk wr (gp) 89 #[.bool x0, .bool x1] ∧ Blk wr (gq) 89 #[.bool y0, .bool y1] ∧ ((m = 2 ∧ i = .int .i64 0 ∧ Blk wr (gm) 89 #[.bool (V 0).1.1, .bool (V 0).1.2] ∧ Blk wr (ge) 89 #[.bool (V 0).2.1, .bool (V 0).2.2]) ∨ (m = 1 ∧ i = .int .i64 1 ∧ Blk wr (gm) 89 #[.bool (V 1).1.1, .bool (V 1).1.2] ∧ Blk wr (ge) 89 #[.bool (V 1).2.1, .bool (V 1).2.2]) ∨ (m = 0 ∧ i = .int .i64 2 ∧ Blk wr (gm) 89 #[.bool (V 2).1.1, .bool (V 2).1.2] ∧ Blk wr (ge) 89 #[.bool (V 2).2.1, .bool (V 2).2.2])))
              case atStart => exact ⟨hB, Ba, Bb, Br, Bo, Bc, Bp, Bq, .inl ⟨rfl, rfl, Bm, Be⟩⟩
              case round =>
                rename Nat => gh2
                clear hB Ba Bb Br Bo Bc Bp Bq Bm Be
                obtain ⟨hB, Ba, Bb, Br, Bo, Bc, Bp, Bq, ⟨hm, rfl, Bm, Be⟩ | ⟨hm, rfl, Bm, Be⟩ | ⟨hm, rfl, Bm, Be⟩⟩ := hrel
                · obtain ⟨wl2, rfl⟩ : ∃ z : World, z = wr := ⟨_, rfl⟩
                  obtain ⟨ca0, ca1⟩ := cells2 Ba
                  have fa := Ba.frozen; have la := Ba.lt
                  obtain ⟨cb0, cb1⟩ := cells2 Bb
                  have fb := Bb.frozen; have lb := Bb.lt
                  obtain ⟨cr0, cr1⟩ := cells2 Br
                  have fr := Br.frozen; have lr := Br.lt
                  obtain ⟨co0, co1⟩ := cells2 Bo
                  have fo := Bo.frozen; have lo := Bo.lt
                  obtain ⟨cc0, cc1⟩ := cells2 Bc
                  have fc := Bc.frozen; have lc := Bc.lt
                  obtain ⟨cm0, cm1⟩ := cells2 Bm
                  have fm := Bm.frozen; have lm := Bm.lt
                  obtain ⟨ce0, ce1⟩ := cells2 Be
                  have fe := Be.frozen; have le := Be.lt
                  obtain ⟨cp0, cp1⟩ := cells2 Bp
                  have fp := Bp.frozen; have lp := Bp.lt
                  obtain ⟨cq0, cq1⟩ := cells2 Bq
                  have fq := Bq.frozen; have lq := Bq.lt
                  cases x0
                  · go_upto_region 16 with fail
                    have eG := H0.out; simp only [PlainTnum.inner, PlainTnum.sel, PlainTnum.put, PlainTnum.bitSum, Bool.true_and, Bool.and_true, Bool.false_and, Bool.and_false, Bool.xor_false, Bool.false_xor, Bool.true_xor, Bool.xor_true, Bool.not_true, Bool.not_false, Bool.or_true, Bool.true_or, Bool.or_false, Bool.false_or, Bool.false_eq_true, if_true, if_false, ↓reduceIte] at eG
                    clear ca0 ca1 fa la
                    clear cb0 cb1 fb lb
                    clear cr0 cr1 fr lr
                    clear co0 co1 fo lo
                    clear cc0 cc1 fc lc
                    clear cm0 cm1 fm lm
                    clear ce0 ce1 fe le
                    clear cp0 cp1 fp lp
                    clear cq0 cq1 fq lq
                    replace Bm : Blk wl2 (gm) 89 #[.bool (V 1).1.1, .bool (V 1).1.2] := by rw [eG]; exact Bm
                    replace Be : Blk wl2 (ge) 89 #[.bool (V 1).2.1, .bool (V 1).2.2] := by rw [eG]; exact Be
                    clear eG
                    go_wp2_with fail
                    go_roundg 1
                    case measure => omega
                    case rel => exact ⟨hB, Ba, Bb, Br, Bo, Bc, Bp, Bq, .inr (.inl ⟨rfl, by go_num, Bm, Be⟩)⟩
                  · cases y0
                    · go_upto_region 16 with fail
                      have eG := H0.out; simp only [PlainTnum.inner, PlainTnum.sel, PlainTnum.put, PlainTnum.bitSum, Bool.true_and, Bool.and_true, Bool.false_and, Bool.and_false, Bool.xor_false, Bool.false_xor, Bool.true_xor, Bool.xor_true, Bool.not_true, Bool.not_false, Bool.or_true, Bool.true_or, Bool.or_false, Bool.false_or, Bool.false_eq_true, if_true, if_false, ↓reduceIte] at eG
                      clear ca0 ca1 fa la
                      clear cb0 cb1 fb lb
                      clear cr0 cr1 fr lr
                      clear co0 co1 fo lo
                      clear cc0 cc1 fc lc
                      clear cm0 cm1 fm lm
                      clear ce0 ce1 fe le
                      clear cp0 cp1 fp lp
                      clear cq0 cq1 fq lq
                      replace Bm : Blk wl2 (gm) 89 #[.bool (V 1).1.1, .bool (V 1).1.2] := by rw [eG]; exact Bm
                      replace Be : Blk wl2 (ge) 89 #[.bool (V 1).2.1, .bool (V 1).2.2] := by rw [eG]; exact Be
                      clear eG
                      go_wp2_with fail
                      go_roundg 1
                      case measure => omega
                      case rel => exact ⟨hB, Ba, Bb, Br, Bo, Bc, Bp, Bq, .inr (.inl ⟨rfl, by go_num, Bm, Be⟩)⟩
                    · cases c0
                      · go_upto_region 16 with fail
                        have eG := H0.out; simp only [PlainTnum.inner, PlainTnum.sel, PlainTnum.put, PlainTnum.bitSum, Bool.true_and, Bool.and_true, Bool.false_and, Bool.and_false, Bool.xor_false, Bool.false_xor, Bool.true_xor, Bool.xor_true, Bool.not_true, Bool.not_false, Bool.or_true, Bool.true_or, Bool.or_false, Bool.false_or, Bool.false_eq_true, if_true, if_false, ↓reduceIte] at eG
                        clear ca0 ca1 fa la
                        clear cb0 cb1 fb lb
                        clear cr0 cr1 fr lr
                        clear co0 co1 fo lo
                        clear cc0 cc1 fc lc
                        clear cm0 cm1 fm lm
                        clear ce0 ce1 fe le
                        clear cp0 cp1 fp lp
                        clear cq0 cq1 fq lq
                        replace Bm : Blk wl2 (gm) 89 #[.bool (V 1).1.1, .bool (V 1).1.2] := by rw [eG]; exact Bm
                        replace Be : Blk wl2 (ge) 89 #[.bool (V 1).2.1, .bool (V 1).2.2] := by rw [eG]; exact Be
                        clear eG
                        go_wp2_with fail
                        go_roundg 1
                        case measure => omega
                        case rel => exact ⟨hB, Ba, Bb, Br, Bo, Bc, Bp, Bq, .inr (.inl ⟨rfl, by go_num, Bm, Be⟩)⟩
                      · go_upto_region 16 with fail
                        clear ca0 ca1 fa la
                        clear cb0 cb1 fb lb
                        clear cr0 cr1 fr lr
                        clear co0 co1 fo lo
                        clear cc0 cc1 fc lc
                        clear cm0 cm1 fm lm
                        clear ce0 ce1 fe le
                        clear cp0 cp1 fp lp
                        clear cq0 cq1 fq lq
                        replace Ba : Blk (wl2.setCell ⟨gm, 0, none⟩ (.bool true)) (w.heap.size) 24 #[uv a.v, uv a.m] := (Ba.far (by first | (simp; done) | (simp; omega) | (simp [*]; done) | (simp only [ne_eq]; constructor <;> omega)) _)
                        replace Bb : Blk (wl2.setCell ⟨gm, 0, none⟩ (.bool true)) (w.heap.size + 1) 24 #[uv b.v, uv b.m] := (Bb.far (by first | (simp; done) | (simp; omega) | (simp [*]; done) | (simp only [ne_eq]; constructor <;> omega)) _)
                        replace Br : Blk (wl2.setCell ⟨gm, 0, none⟩ (.bool true)) (w.heap.size + 1 + 1) 24 #[x, y] := (Br.far (by first | (simp; done) | (simp; omega) | (simp [*]; done) | (simp only [ne_eq]; constructor <;> omega)) _)
                        replace Bo : Blk (wl2.setCell ⟨gm, 0, none⟩ (.bool true)) (w.heap.size + 1 + 1 + 1) 24 #[uv (F n).v, uv (F n).m] := (Bo.far (by first | (simp; done) | (simp; omega) | (simp [*]; done) | (simp only [ne_eq]; constructor <;> omega)) _)
                        replace Bc : Blk (wl2.setCell ⟨gm, 0, none⟩ (.bool true)) (w.heap.size + 1 + 1 + 1 + 1) 89 #[.bool true, .bool c1] := (Bc.far (by first | (simp; done) | (simp; omega) | (simp [*]; done) | (simp only [ne_eq]; constructor <;> omega)) _)
                        replace Bm : Blk (wl2.setCell ⟨gm, 0, none⟩ (.bool true)) (gm) 89 #[.bool true, .bool (V 0).1.2] := Bm.set_ 0 _
                        replace Be : Blk (wl2.setCell ⟨gm, 0, none⟩ (.bool true)) (ge) 89 #[.bool (V 0).2.1, .bool (V 0).2.2] := (Be.far (by first | (simp; done) | (simp; omega) | (simp [*]; done) | (simp only [ne_eq]; constructor <;> omega)) _)
                        replace Bp : Blk (wl2.setCell ⟨gm, 0, none⟩ (.bool true)) (gp) 89 #[.bool true, .bool x1] := (Bp.far (by first | (simp; done) | (simp; omega) | (simp [*]; done) | (simp only [ne_eq]; constructor <;> omega)) _)
                        replace Bq : Blk (wl2.setCell ⟨gm, 0, none⟩ (.bool true)) (gq) 89 #[.bool true, .bool y1] := (Bq.far (by first | (simp; done) | (simp; omega) | (simp [*]; done) | (simp only [ne_eq]; constructor <;> omega)) _)
                        replace hB : Below w.heap.size w (wl2.setCell ⟨gm, 0, none⟩ (.bool true)) := (Bl_set hB (by first | omega | (simp; done) | (simp; omega)) _)
                        replace Ba : Blk ((wl2.setCell ⟨gm, 0, none⟩ (.bool true)).setCell ⟨ge, 0, none⟩ (.bool true)) (w.heap.size) 24 #[uv a.v, uv a.m] := (Ba.far (by first | (simp; done) | (simp; omega) | (simp [*]; done) | (simp only [ne_eq]; constructor <;> omega)) _)
                        replace Bb : Blk ((wl2.setCell ⟨gm, 0, none⟩ (.bool true)).setCell ⟨ge, 0, none⟩ (.bool true)) (w.heap.size + 1) 24 #[uv b.v, uv b.m] := (Bb.far (by first | (simp; done) | (simp; omega) | (simp [*]; done) | (simp only [ne_eq]; constructor <;> omega)) _)
                        replace Br : Blk ((wl2.setCell ⟨gm, 0, none⟩ (.bool true)).setCell ⟨ge, 0, none⟩ (.bool true)) (w.heap.size + 1 + 1) 24 #[x, y] := (Br.far (by first | (simp; done) | (simp; omega) | (simp [*]; done) | (simp only [ne_eq]; constructor <;> omega)) _)
                        replace Bo : Blk ((wl2.setCell ⟨gm, 0, none⟩ (.bool true)).setCell ⟨ge, 0, none⟩ (.bool true)) (w.heap.size + 1 + 1 + 1) 24 #[uv (F n).v, uv (F n).m] := (Bo.far (by first | (simp; done) | (simp; omega) | (simp [*]; done) | (simp only [ne_eq]; constructor <;> omega)) _)
                        replace Bc : Blk ((wl2.setCell ⟨gm, 0, none⟩ (.bool true)).setCell ⟨ge, 0, none⟩ (.bool true)) (w.heap.size + 1 + 1 + 1 + 1) 89 #[.bool true, .bool c1] := (Bc.far (by first | (simp; done) | (simp; omega) | (simp [*]; done) | (simp only [ne_eq]; constructor <;> omega)) _)
                        replace Bm : Blk ((wl2.setCell ⟨gm, 0, none⟩ (.bool true)).setCell ⟨ge, 0, none⟩ (.bool true)) (gm) 89 #[.bool true, .bool (V 0).1.2] := (Bm.far (by first | (simp; done) | (simp; omega) | (simp [*]; done) | (simp only [ne_eq]; constructor <;> omega)) _)
                        replace Be : Blk ((wl2.setCell ⟨gm, 0, none⟩ (.bool true)).setCell ⟨ge, 0, none⟩ (.bool true)) (ge) 89 #[.bool true, .bool (V 0).2.2] := Be.set_ 0 _
                        replace Bp : Blk ((wl2.setCell ⟨gm, 0, none⟩ (.bool true)).setCell ⟨ge, 0, none⟩ (.bool true)) (gp) 89 #[.bool true, .bool x1] := (Bp.far (by first | (simp; done) | (simp; omega) | (simp [*]; done) | (simp only [ne_eq]; constructor <;> omega)) _)
                        replace Bq : Blk ((wl2.setCell ⟨gm, 0, none⟩ (.bool true)).setCell ⟨ge, 0, none⟩ (.bool true)) (gq) 89 #[.bool true, .bool y1] := (Bq.far (by first | (simp; done) | (simp; omega) | (simp [*]; done) | (simp only [ne_eq]; constructor <;> omega)) _)
                        replace hB : Below w.heap.size w ((wl2.setCell ⟨gm, 0, none⟩ (.bool true)).setCell ⟨ge, 0, none⟩ (.bool true)) := (Bl_set hB (by first | omega | (simp; done) | (simp; omega)) _)
                        generalize ((wl2.setCell ⟨gm, 0, none⟩ (.bool true)).setCell ⟨ge, 0, none⟩ (.bool true)) = w5 at *
                        obtain ⟨ca0, ca1⟩ := cells2 Ba
                        have fa := Ba.frozen; have la := Ba.lt
                        obtain ⟨cb0, cb1⟩ := cells2 Bb
                        have fb := Bb.frozen; have lb := Bb.lt
                        obtain ⟨cr0, cr1⟩ := cells2 Br
                        have fr := Br.frozen; have lr := Br.lt
                        obtain ⟨co0, co1⟩ := cells2 Bo
                        have fo := Bo.frozen; have lo := Bo.lt
                        obtain ⟨cc0, cc1⟩ := cells2 Bc
                        have fc := Bc.frozen; have lc := Bc.lt
                        obtain ⟨cm0, cm1⟩ := cells2 Bm
                        have fm := Bm.frozen; have lm := Bm.lt
                        obtain ⟨ce0, ce1⟩ := cells2 Be
                        have fe := Be.frozen; have le := Be.lt
                        obtain ⟨cp0, cp1⟩ := cells2 Bp
                        have fp := Bp.frozen; have lp := Bp.lt
                        obtain ⟨cq0, cq1⟩ := cells2 Bq
                        have fq := Bq.frozen; have lq := Bq.lt
                        have eG := H0.out; simp only [PlainTnum.inner, PlainTnum.sel, PlainTnum.put, PlainTnum.bitSum, Bool.true_and, Bool.and_true, Bool.false_and, Bool.and_false, Bool.xor_false, Bool.false_xor, Bool.true_xor, Bool.xor_true, Bool.not_true, Bool.not_false, Bool.or_true, Bool.true_or, Bool.or_false, Bool.false_or, Bool.false_eq_true, if_true, if_false, ↓reduceIte] at eG
                        clear ca0 ca1 fa la
                        clear cb0 cb1 fb lb
                        clear cr0 cr1 fr lr
                        clear co0 co1 fo lo
                        clear cc0 cc1 fc lc
                        clear cm0 cm1 fm lm
                        clear ce0 ce1 fe le
                        clear cp0 cp1 fp lp
                        clear cq0 cq1 fq lq
                        replace Bm : Blk w5 (gm) 89 #[.bool (V 1).1.1, .bool (V 1).1.2] := by rw [eG]; exact Bm
                        replace Be : Blk w5 (ge) 89 #[.bool (V 1).2.1, .bool (V 1).2.2] := by rw [eG]; exact Be
                        clear eG
                        go_wp2_with fail
                        go_roundg 1
                        case measure => omega
                        case rel => exact ⟨hB, Ba, Bb, Br, Bo, Bc, Bp, Bq, .inr (.inl ⟨rfl, by go_num, Bm, Be⟩)⟩
                · obtain ⟨wl2, rfl⟩ : ∃ z : World, z = wr := ⟨_, rfl⟩
                  obtain ⟨ca0, ca1⟩ := cells2 Ba
                  have fa := Ba.frozen; have la := Ba.lt
                  obtain ⟨cb0, cb1⟩ := cells2 Bb
                  have fb := Bb.frozen; have lb := Bb.lt
                  obtain ⟨cr0, cr1⟩ := cells2 Br
                  have fr := Br.frozen; have lr := Br.lt
                  obtain ⟨co0, co1⟩ := cells2 Bo
                  have fo := Bo.frozen; have lo := Bo.lt
                  obtain ⟨cc0, cc1⟩ := cells2 Bc
                  have fc := Bc.frozen; have lc := Bc.lt
                  obtain ⟨cm0, cm1⟩ := cells2 Bm
                  have fm := Bm.frozen; have lm := Bm.lt
                  obtain ⟨ce0, ce1⟩ := cells2 Be
                  have fe := Be.frozen; have le := Be.lt
                  obtain ⟨cp0, cp1⟩ := cells2 Bp
                  have fp := Bp.frozen; have lp := Bp.lt
                  obtain ⟨cq0, cq1⟩ := cells2 Bq
                  have fq := Bq.frozen; have lq := Bq.lt
                  cases x0
                  · go_upto_region 16 with fail
                    have eG := H1.out; simp only [PlainTnum.inner, PlainTnum.sel, PlainTnum.put, PlainTnum.bitSum, Bool.true_and, Bool.and_true, Bool.false_and, Bool.and_false, Bool.xor_false, Bool.false_xor, Bool.true_xor, Bool.xor_true, Bool.not_true, Bool.not_false, Bool.or_true, Bool.true_or, Bool.or_false, Bool.false_or, Bool.false_eq_true, if_true, if_false, ↓reduceIte] at eG
                    clear ca0 ca1 fa la
                    clear cb0 cb1 fb lb
                    clear cr0 cr1 fr lr
                    clear co0 co1 fo lo
                    clear cc0 cc1 fc lc
                    clear cm0 cm1 fm lm
                    clear ce0 ce1 fe le
                    clear cp0 cp1 fp lp
                    clear cq0 cq1 fq lq
                    replace Bm : Blk wl2 (gm) 89 #[.bool (V 2).1.1, .bool (V 2).1.2] := by rw [eG]; exact Bm
                    replace Be : Blk wl2 (ge) 89 #[.bool (V 2).2.1, .bool (V 2).2.2] := by rw [eG]; exact Be
                    clear eG
                    go_wp2_with fail
                    go_roundg 0
                    case measure => omega
                    case rel => exact ⟨hB, Ba, Bb, Br, Bo, Bc, Bp, Bq, .inr (.inr ⟨rfl, by go_num, Bm, Be⟩)⟩
                  · cases y0
                    · go_upto_region 16 with fail
                      have eG := H1.out; simp only [PlainTnum.inner, PlainTnum.sel, PlainTnum.put, PlainTnum.bitSum, Bool.true_and, Bool.and_true, Bool.false_and, Bool.and_false, Bool.xor_false, Bool.false_xor, Bool.true_xor, Bool.xor_true, Bool.not_true, Bool.not_false, Bool.or_true, Bool.true_or, Bool.or_false, Bool.false_or, Bool.false_eq_true, if_true, if_false, ↓reduceIte] at eG
                      clear ca0 ca1 fa la
                      clear cb0 cb1 fb lb
                      clear cr0 cr1 fr lr
                      clear co0 co1 fo lo
                      clear cc0 cc1 fc lc
                      clear cm0 cm1 fm lm
                      clear ce0 ce1 fe le
                      clear cp0 cp1 fp lp
                      clear cq0 cq1 fq lq
                      replace Bm : Blk wl2 (gm) 89 #[.bool (V 2).1.1, .bool (V 2).1.2] := by rw [eG]; exact Bm
                      replace Be : Blk wl2 (ge) 89 #[.bool (V 2).2.1, .bool (V 2).2.2] := by rw [eG]; exact Be
                      clear eG
                      go_wp2_with fail
                      go_roundg 0
                      case measure => omega
                      case rel => exact ⟨hB, Ba, Bb, Br, Bo, Bc, Bp, Bq, .inr (.inr ⟨rfl, by go_num, Bm, Be⟩)⟩
                    · cases c1
                      · go_upto_region 16 with fail
                        have eG := H1.out; simp only [PlainTnum.inner, PlainTnum.sel, PlainTnum.put, PlainTnum.bitSum, Bool.true_and, Bool.and_true, Bool.false_and, Bool.and_false, Bool.xor_false, Bool.false_xor, Bool.true_xor, Bool.xor_true, Bool.not_true, Bool.not_false, Bool.or_true, Bool.true_or, Bool.or_false, Bool.false_or, Bool.false_eq_true, if_true, if_false, ↓reduceIte] at eG
                        clear ca0 ca1 fa la
                        clear cb0 cb1 fb lb
                        clear cr0 cr1 fr lr
                        clear co0 co1 fo lo
                        clear cc0 cc1 fc lc
                        clear cm0 cm1 fm lm
                        clear ce0 ce1 fe le
                        clear cp0 cp1 fp lp
                        clear cq0 cq1 fq lq
                        replace Bm : Blk wl2 (gm) 89 #[.bool (V 2).1.1, .bool (V 2).1.2] := by rw [eG]; exact Bm
                        replace Be : Blk wl2 (ge) 89 #[.bool (V 2).2.1, .bool (V 2).2.2] := by rw [eG]; exact Be
                        clear eG
                        go_wp2_with fail
                        go_roundg 0
                        case measure => omega
                        case rel => exact ⟨hB, Ba, Bb, Br, Bo, Bc, Bp, Bq, .inr (.inr ⟨rfl, by go_num, Bm, Be⟩)⟩
                      · go_upto_region 16 with fail
                        clear ca0 ca1 fa la
                        clear cb0 cb1 fb lb
                        clear cr0 cr1 fr lr
                        clear co0 co1 fo lo
                        clear cc0 cc1 fc lc
                        clear cm0 cm1 fm lm
                        clear ce0 ce1 fe le
                        clear cp0 cp1 fp lp
                        clear cq0 cq1 fq lq
                        replace Ba : Blk (wl2.setCell ⟨gm, 1, none⟩ (.bool true)) (w.heap.size) 24 #[uv a.v, uv a.m] := (Ba.far (by first | (simp; done) | (simp; omega) | (simp [*]; done) | (simp only [ne_eq]; constructor <;> omega)) _)
                        replace Bb : Blk (wl2.setCell ⟨gm, 1, none⟩ (.bool true)) (w.heap.size + 1) 24 #[uv b.v, uv b.m] := (Bb.far (by first | (simp; done) | (simp; omega) | (simp [*]; done) | (simp only [ne_eq]; constructor <;> omega)) _)
                        replace Br : Blk (wl2.setCell ⟨gm, 1, none⟩ (.bool true)) (w.heap.size + 1 + 1) 24 #[x, y] := (Br.far (by first | (simp; done) | (simp; omega) | (simp [*]; done) | (simp only [ne_eq]; constructor <;> omega)) _)
                        replace Bo : Blk (wl2.setCell ⟨gm, 1, none⟩ (.bool true)) (w.heap.size + 1 + 1 + 1) 24 #[uv (F n).v, uv (F n).m] := (Bo.far (by first | (simp; done) | (simp; omega) | (simp [*]; done) | (simp only [ne_eq]; constructor <;> omega)) _)
                        replace Bc : Blk (wl2.setCell ⟨gm, 1, none⟩ (.bool true)) (w.heap.size + 1 + 1 + 1 + 1) 89 #[.bool c0, .bool true] := (Bc.far (by first | (simp; done) | (simp; omega) | (simp [*]; done) | (simp only [ne_eq]; constructor <;> omega)) _)
                        replace Bm : Blk (wl2.setCell ⟨gm, 1, none⟩ (.bool true)) (gm) 89 #[.bool (V 1).1.1, .bool true] := Bm.set_ 1 _
                        replace Be : Blk (wl2.setCell ⟨gm, 1, none⟩ (.bool true)) (ge) 89 #[.bool (V 1).2.1, .bool (V 1).2.2] := (Be.far (by first | (simp; done) | (simp; omega) | (simp [*]; done) | (simp only [ne_eq]; constructor <;> omega)) _)
                        replace Bp : Blk (wl2.setCell ⟨gm, 1, none⟩ (.bool true)) (gp) 89 #[.bool true, .bool x1] := (Bp.far (by first | (simp; done) | (simp; omega) | (simp [*]; done) | (simp only [ne_eq]; constructor <;> omega)) _)
                        replace Bq : Blk (wl2.setCell ⟨gm, 1, none⟩ (.bool true)) (gq) 89 #[.bool true, .bool y1] := (Bq.far (by first | (simp; done) | (simp; omega) | (simp [*]; done) | (simp only [ne_eq]; constructor <;> omega)) _)
                        replace hB : Below w.heap.size w (wl2.setCell ⟨gm, 1, none⟩ (.bool true)) := (Bl_set hB (by first | omega | (simp; done) | (simp; omega)) _)
                        replace Ba : Blk ((wl2.setCell ⟨gm, 1, none⟩ (.bool true)).setCell ⟨ge, 0, none⟩ (.bool true)) (w.heap.size) 24 #[uv a.v, uv a.m] := (Ba.far (by first | (simp; done) | (simp; omega) | (simp [*]; done) | (simp only [ne_eq]; constructor <;> omega)) _)
                        replace Bb : Blk ((wl2.setCell ⟨gm, 1, none⟩ (.bool true)).setCell ⟨ge, 0, none⟩ (.bool true)) (w.heap.size + 1) 24 #[uv b.v, uv b.m] := (Bb.far (by first | (simp; done) | (simp; omega) | (simp [*]; done) | (simp only [ne_eq]; constructor <;> omega)) _)
                        replace Br : Blk ((wl2.setCell ⟨gm, 1, none⟩ (.bool true)).setCell ⟨ge, 0, none⟩ (.bool true)) (w.heap.size + 1 + 1) 24 #[x, y] := (Br.far (by first | (simp; done) | (simp; omega) | (simp [*]; done) | (simp only [ne_eq]; constructor <;> omega)) _)
                        replace Bo : Blk ((wl2.setCell ⟨gm, 1, none⟩ (.bool true)).setCell ⟨ge, 0, none⟩ (.bool true)) (w.heap.size + 1 + 1 + 1) 24 #[uv (F n).v, uv (F n).m] := (Bo.far (by first | (simp; done) | (simp; omega) | (simp [*]; done) | (simp only [ne_eq]; constructor <;> omega)) _)
                        replace Bc : Blk ((wl2.setCell ⟨gm, 1, none⟩ (.bool true)).setCell ⟨ge, 0, none⟩ (.bool true)) (w.heap.size + 1 + 1 + 1 + 1) 89 #[.bool c0, .bool true] := (Bc.far (by first | (simp; done) | (simp; omega) | (simp [*]; done) | (simp only [ne_eq]; constructor <;> omega)) _)
                        replace Bm : Blk ((wl2.setCell ⟨gm, 1, none⟩ (.bool true)).setCell ⟨ge, 0, none⟩ (.bool true)) (gm) 89 #[.bool (V 1).1.1, .bool true] := (Bm.far (by first | (simp; done) | (simp; omega) | (simp [*]; done) | (simp only [ne_eq]; constructor <;> omega)) _)
                        replace Be : Blk ((wl2.setCell ⟨gm, 1, none⟩ (.bool true)).setCell ⟨ge, 0, none⟩ (.bool true)) (ge) 89 #[.bool true, .bool (V 1).2.2] := Be.set_ 0 _
                        replace Bp : Blk ((wl2.setCell ⟨gm, 1, none⟩ (.bool true)).setCell ⟨ge, 0, none⟩ (.bool true)) (gp) 89 #[.bool true, .bool x1] := (Bp.far (by first | (simp; done) | (simp; omega) | (simp [*]; done) | (simp only [ne_eq]; constructor <;> omega)) _)
                        replace Bq : Blk ((wl2.setCell ⟨gm, 1, none⟩ (.bool true)).setCell ⟨ge, 0, none⟩ (.bool true)) (gq) 89 #[.bool true, .bool y1] := (Bq.far (by first | (simp; done) | (simp; omega) | (simp [*]; done) | (simp only [ne_eq]; constructor <;> omega)) _)
                        replace hB : Below w.heap.size w ((wl2.setCell ⟨gm, 1, none⟩ (.bool true)).setCell ⟨ge, 0, none⟩ (.bool true)) := (Bl_set hB (by first | omega | (simp; done) | (simp; omega)) _)
                        generalize ((wl2.setCell ⟨gm, 1, none⟩ (.bool true)).setCell ⟨ge, 0, none⟩ (.bool true)) = w5 at *
                        obtain ⟨ca0, ca1⟩ := cells2 Ba
                        have fa := Ba.frozen; have la := Ba.lt
                        obtain ⟨cb0, cb1⟩ := cells2 Bb
                        have fb := Bb.frozen; have lb := Bb.lt
                        obtain ⟨cr0, cr1⟩ := cells2 Br
                        have fr := Br.frozen; have lr := Br.lt
                        obtain ⟨co0, co1⟩ := cells2 Bo
                        have fo := Bo.frozen; have lo := Bo.lt
                        obtain ⟨cc0, cc1⟩ := cells2 Bc
                        have fc := Bc.frozen; have lc := Bc.lt
                        obtain ⟨cm0, cm1⟩ := cells2 Bm
                        have fm := Bm.frozen; have lm := Bm.lt
                        obtain ⟨ce0, ce1⟩ := cells2 Be
                        have fe := Be.frozen; have le := Be.lt
                        obtain ⟨cp0, cp1⟩ := cells2 Bp
                        have fp := Bp.frozen; have lp := Bp.lt
                        obtain ⟨cq0, cq1⟩ := cells2 Bq
                        have fq := Bq.frozen; have lq := Bq.lt
                        have eG := H1.out; simp only [PlainTnum.inner, PlainTnum.sel, PlainTnum.put, PlainTnum.bitSum, Bool.true_and, Bool.and_true, Bool.false_and, Bool.and_false, Bool.xor_false, Bool.false_xor, Bool.true_xor, Bool.xor_true, Bool.not_true, Bool.not_false, Bool.or_true, Bool.true_or, Bool.or_false, Bool.false_or, Bool.false_eq_true, if_true, if_false, ↓reduceIte] at eG
                        clear ca0 ca1 fa la
                        clear cb0 cb1 fb lb
                        clear cr0 cr1 fr lr
                        clear co0 co1 fo lo
                        clear cc0 cc1 fc lc
                        clear cm0 cm1 fm lm
                        clear ce0 ce1 fe le
                        clear cp0 cp1 fp lp
                        clear cq0 cq1 fq lq
                        replace Bm : Blk w5 (gm) 89 #[.bool (V 2).1.1, .bool (V 2).1.2] := by rw [eG]; exact Bm
                        replace Be : Blk w5 (ge) 89 #[.bool (V 2).2.1, .bool (V 2).2.2] := by rw [eG]; exact Be
                        clear eG
                        go_wp2_with fail
                        go_roundg 0
                        case measure => omega
                        case rel => exact ⟨hB, Ba, Bb, Br, Bo, Bc, Bp, Bq, .inr (.inr ⟨rfl, by go_num, Bm, Be⟩)⟩
                · obtain ⟨wl2, rfl⟩ : ∃ z : World, z = wr := ⟨_, rfl⟩
                  obtain ⟨ca0, ca1⟩ := cells2 Ba
                  have fa := Ba.frozen; have la := Ba.lt
                  obtain ⟨cb0, cb1⟩ := cells2 Bb
                  have fb := Bb.frozen; have lb := Bb.lt
                  obtain ⟨cr0, cr1⟩ := cells2 Br
                  have fr := Br.frozen; have lr := Br.lt
                  obtain ⟨co0, co1⟩ := cells2 Bo
                  have fo := Bo.frozen; have lo := Bo.lt
                  obtain ⟨cc0, cc1⟩ := cells2 Bc
                  have fc := Bc.frozen; have lc := Bc.lt
                  obtain ⟨cm0, cm1⟩ := cells2 Bm
                  have fm := Bm.frozen; have lm := Bm.lt
                  obtain ⟨ce0, ce1⟩ := cells2 Be
                  have fe := Be.frozen; have le := Be.lt
                  obtain ⟨cp0, cp1⟩ := cells2 Bp
                  have fp := Bp.frozen; have lp := Bp.lt
                  obtain ⟨cq0, cq1⟩ := cells2 Bq
                  have fq := Bq.frozen; have lq := Bq.lt
                  go_wp2_with fail
                  go_roundg 1
                  case measure => omega
                  case rel => exact ⟨hB, Ba, Bb, Br, Bo, Bc, Bp, Bq, .inr (.inl ⟨rfl, by go_num, Bm, Be⟩)⟩
            · obtain ⟨wl1, rfl⟩ : ∃ z : World, z = wr := ⟨_, rfl⟩
              obtain ⟨ca0, ca1⟩ := cells2 Ba
              have fa := Ba.frozen; have la := Ba.lt
              obtain ⟨cb0, cb1⟩ := cells2 Bb
              have fb := Bb.frozen; have lb := Bb.lt
              obtain ⟨cr0, cr1⟩ := cells2 Br
              have fr := Br.frozen; have lr := Br.lt
              obtain ⟨co0, co1⟩ := cells2 Bo
              have fo := Bo.frozen; have lo := Bo.lt
              obtain ⟨cc0, cc1⟩ := cells2 Bc
              have fc := Bc.frozen; have lc := Bc.lt
              obtain ⟨cm0, cm1⟩ := cells2 Bm
              have fm := Bm.frozen; have lm := Bm.lt
              obtain ⟨ce0, ce1⟩ := cells2 Be
              have fe := Be.frozen; have le := Be.lt
              obtain ⟨cp0, cp1⟩ := cells2 Bp
              have fp := Bp.frozen; have lp := Bp.lt
              obtain ⟨cq0, cq1⟩ := cells2 Bq
              have fq := Bq.frozen; have lq := Bq.lt
              go_wp2_with fail
              clear ca0 ca1 fa la
              clear cb0 cb1 fb lb
              clear cr0 cr1 fr lr
              clear co0 co1 fo lo
              clear cc0 cc1 fc lc
              clear cm0 cm1 fm lm
              clear ce0 ce1 fe le
              clear cp0 cp1 fp lp
              clear cq0 cq1 fq lq
              go_loopg [16] 2 (fun m i wr => Below w.heap.size w wr ∧ Blk wr (w.heap.size) 24 #[uv a.v, uv a.m] ∧ Blk wr (w.heap.size + 1) 24 #[uv b.v, uv b.m] ∧ Blk wr (w.heap.size + 1 + 1) 24 #[x, y] ∧ Blk wr (w.heap.size + 1 + 1 + 1) 24 #[uv (F n).v, uv (F n).m] ∧ Blk wr (w.heap.size + 1 + 1 + 1 + 1) 89 #[.bool c0, .bool c1] ∧ Blk wr (gp) 89 #[.bool x0, .bool x1] ∧ Blk wr (gq) 89 #[.bool y0, .bool y1] ∧ ((m = 2 ∧ i = .int .i64 0 ∧ Blk wr (gm) 89 #[.bool (V 2).1.1, .bool (V 2).1.2] ∧ Blk wr (ge) 89 #[.bool (V 2).2.1, .bool (V 2).2.2]) ∨ (m = 1 ∧ i = .int .i64 1 ∧ Blk wr (gm) 89 #[.bool (V 3).1.1, .bool (V 3).1.2] ∧ Blk wr (ge) 89 #[.bool (V 3).2.1, .bool (V 3).2.2]) ∨ (m = 0 ∧ i = .int .i64 2 ∧ Blk wr (gm) 89 #[.bool (V 4).1.1, .bool (V 4).1.2] ∧ Blk wr (ge) 89 #[.bool (V 4).2.1, .bool (V 4).2.2])))
              case atStart => exact ⟨hB, Ba, Bb, Br, Bo, Bc, Bp, Bq, .inl ⟨rfl, rfl, Bm, Be⟩⟩
              case round =>
                rename Nat => gh2
                clear hB Ba Bb Br Bo Bc Bp Bq Bm Be
                obtain ⟨hB, Ba, Bb, Br, Bo, Bc, Bp, Bq, ⟨hm, rfl, Bm, Be⟩ | ⟨hm, rfl, Bm, Be⟩ | ⟨hm, rfl, Bm, Be⟩⟩ := hrel
                · obtain ⟨wl2, rfl⟩ : ∃ z : World, z = wr := ⟨_, rfl⟩
                  obtain ⟨ca0, ca1⟩ := cells2 Ba
                  have fa := Ba.frozen; have la := Ba.lt
                  obtain ⟨cb0, cb1⟩ := cells2 Bb
                  have fb := Bb.frozen; have lb := Bb.lt
                  obtain ⟨cr0, cr1⟩ := cells2 Br
                  have fr := Br.frozen; have lr := Br.lt
                  obtain ⟨co0, co1⟩ := cells2 Bo
                  have fo := Bo.frozen; have lo := Bo.lt
                  obtain ⟨cc0, cc1⟩ := cells2 Bc
                  have fc := Bc.frozen; have lc := Bc.lt
                  obtain ⟨cm0, cm1⟩ := cells2 Bm
                  have fm := Bm.frozen; have lm := Bm.lt
                  obtain ⟨ce0, ce1⟩ := cells2 Be
                  have fe := Be.frozen; have le := Be.lt
                  obtain ⟨cp0, cp1⟩ := cells2 Bp
                  have fp := Bp.frozen; have lp := Bp.lt
                  obtain ⟨cq0, cq1⟩ := cells2 Bq
                  have fq := Bq.frozen; have lq := Bq.lt
                  cases x0
                  · go_upto_region 16 with fail
                    have eG := H2.out; simp only [PlainTnum.inner, PlainTnum.sel, PlainTnum.put, PlainTnum.bitSum, Bool.true_and, Bool.and_true, Bool.false_and, Bool.and_false, Bool.xor_false, Bool.false_xor, Bool.true_xor, Bool.xor_true, Bool.not_true, Bool.not_false, Bool.or_true, Bool.true_or, Bool.or_false, Bool.false_or, Bool.false_eq_true, if_true, if_false, ↓reduceIte] at eG
                    clear ca0 ca1 fa la
                    clear cb0 cb1 fb lb
                    clear cr0 cr1 fr lr
                    clear co0 co1 fo lo
                    clear cc0 cc1 fc lc
                    clear cm0 cm1 fm lm
                    clear ce0 ce1 fe le
                    clear cp0 cp1 fp lp
                    clear cq0 cq1 fq lq
                    replace Bm : Blk wl2 (gm) 89 #[.bool (V 3).1.1, .bool (V 3).1.2] := by rw [eG]; exact Bm
                    replace Be : Blk wl2 (ge) 89 #[.bool (V 3).2.1, .bool (V 3).2.2] := by rw [eG]; exact Be
                    clear eG
                    go_wp2_with fail
                    go_roundg 1
                    case measure => omega
                    case rel => exact ⟨hB, Ba, Bb, Br, Bo, Bc, Bp, Bq, .inr (.inl ⟨rfl, by go_num, Bm, Be⟩)⟩
                  · cases y1
                    · go_upto_region 16 with fail
                      have eG := H2.out; simp only [PlainTnum.inner, PlainTnum.sel, PlainTnum.put, PlainTnum.bitSum, Bool.true_and, Bool.and_true, Bool.false_and, Bool.and_false, Bool.xor_false, Bool.false_xor, Bool.true_xor, Bool.xor_true, Bool.not_true, Bool.not_false, Bool.or_true, Bool.true_or, Bool.or_false, Bool.false_or, Bool.false_eq_true, if_true, if_false, ↓reduceIte] at eG
                      clear ca0 ca1 fa la
                      clear cb0 cb1 fb lb
                      clear cr0 cr1 fr lr
                      clear co0 co1 fo lo
                      clear cc0 cc1 fc lc
                      clear cm0 cm1 fm lm
                      clear ce0 ce1 fe le
                      clear cp0 cp1 fp lp
                      clear cq0 cq1 fq lq
                      replace Bm : Blk wl2 (gm) 89 #[.bool (V 3).1.1, .bool (V 3).1.2] := by rw [eG]; exact Bm
                      replace Be : Blk wl2 (ge) 89 #[.bool (V 3).2.1, .bool (V 3).2.2] := by rw [eG]; exact Be
                      clear eG
                      go_wp2_with fail
                      go_roundg 1
                      case measure => omega
                      case rel => exact ⟨hB, Ba, Bb, Br, Bo, Bc, Bp, Bq, .inr (.inl ⟨rfl, by go_num, Bm, Be⟩)⟩
                    · cases c0
                      · go_upto_region 16 with fail
                        have eG := H2.out; simp only [PlainTnum.inner, PlainTnum.sel, PlainTnum.put, PlainTnum.bitSum, Bool.true_and, Bool.and_true, Bool.false_and, Bool.and_false, Bool.xor_false, Bool.false_xor, Bool.true_xor, Bool.xor_true, Bool.not_true, Bool.not_false, Bool.or_true, Bool.true_or, Bool.or_false, Bool.false_or, Bool.false_eq_true, if_true, if_false, ↓reduceIte] at eG
                        clear ca0 ca1 fa la
                        clear cb0 cb1 fb lb
                        clear cr0 cr1 fr lr
                        clear co0 co1 fo lo
                        clear cc0 cc1 fc lc
                        clear cm0 cm1 fm lm
                        clear ce0 ce1 fe le
                        clear cp0 cp1 fp lp
                        clear cq0 cq1 fq lq
                        replace Bm : Blk wl2 (gm) 89 #[.bool (V 3).1.1, .bool (V 3).1.2] := by rw [eG]; exact Bm
                        replace Be : Blk wl2 (ge) 89 #[.bool (V 3).2.1, .bool (V 3).2.2] := by rw [eG]; exact Be
                        clear eG
                        go_wp2_with fail
                        go_roundg 1
                        case measure => omega
                        case rel => exact ⟨hB, Ba, Bb, Br, Bo, Bc, Bp, Bq, .inr (.inl ⟨rfl, by go_num, Bm, Be⟩)⟩
                      · go_upto_region 16 with fail
                        clear ca0 ca1 fa la
                        clear cb0 cb1 fb lb
                        clear cr0 cr1 fr lr
                        clear co0 co1 fo lo
                        clear cc0 cc1 fc lc
                        clear cm0 cm1 fm lm
                        clear ce0 ce1 fe le
                        clear cp0 cp1 fp lp
                        clear cq0 cq1 fq lq
                        replace Ba : Blk (wl2.setCell ⟨gm, 1, none⟩ (.bool true)) (w.heap.size) 24 #[uv a.v, uv a.m] := (Ba.far (by first | (simp; done) | (simp; omega) | (simp [*]; done) | (simp only [ne_eq]; constructor <;> omega)) _)
                        replace Bb : Blk (wl2.setCell ⟨gm, 1, none⟩ (.bool true)) (w.heap.size + 1) 24 #[uv b.v, uv b.m] := (Bb.far (by first | (simp; done) | (simp; omega) | (simp [*]; done) | (simp only [ne_eq]; constructor <;> omega)) _)
                        replace Br : Blk (wl2.setCell ⟨gm, 1, none⟩ (.bool true)) (w.heap.size + 1 + 1) 24 #[x, y] := (Br.far (by first | (simp; done) | (simp; omega) | (simp [*]; done) | (simp only [ne_eq]; constructor <;> omega)) _)
                        replace Bo : Blk (wl2.setCell ⟨gm, 1, none⟩ (.bool true)) (w.heap.size + 1 + 1 + 1) 24 #[uv (F n).v, uv (F n).m] := (Bo.far (by first | (simp; done) | (simp; omega) | (simp [*]; done) | (simp only [ne_eq]; constructor <;> omega)) _)
                        replace Bc : Blk (wl2.setCell ⟨gm, 1, none⟩ (.bool true)) (w.heap.size + 1 + 1 + 1 + 1) 89 #[.bool true, .bool c1] := (Bc.far (by first | (simp; done) | (simp; omega) | (simp [*]; done) | (simp only [ne_eq]; constructor <;> omega)) _)
                        replace Bm : Blk (wl2.setCell ⟨gm, 1, none⟩ (.bool true)) (gm) 89 #[.bool (V 2).1.1, .bool true] := Bm.set_ 1 _
                        replace Be : Blk (wl2.setCell ⟨gm, 1, none⟩ (.bool true)) (ge) 89 #[.bool (V 2).2.1, .bool (V 2).2.2] := (Be.far (by first | (simp; done) | (simp; omega) | (simp [*]; done) | (simp only [ne_eq]; constructor <;> omega)) _)
                        replace Bp : Blk (wl2.setCell ⟨gm, 1, none⟩ (.bool true)) (gp) 89 #[.bool true, .bool x1] := (Bp.far (by first | (simp; done) | (simp; omega) | (simp [*]; done) | (simp only [ne_eq]; constructor <;> omega)) _)
                        replace Bq : Blk (wl2.setCell ⟨gm, 1, none⟩ (.bool true)) (gq) 89 #[.bool y0, .bool true] := (Bq.far (by first | (simp; done) | (simp; omega) | (simp [*]; done) | (simp only [ne_eq]; constructor <;> omega)) _)
                        replace hB : Below w.heap.size w (wl2.setCell ⟨gm, 1, none⟩ (.bool true)) := (Bl_set hB (by first | omega | (simp; done) | (simp; omega)) _)
                        replace Ba : Blk ((wl2.setCell ⟨gm, 1, none⟩ (.bool true)).setCell ⟨ge, 0, none⟩ (.bool true)) (w.heap.size) 24 #[uv a.v, uv a.m] := (Ba.far (by first | (simp; done) | (simp; omega) | (simp [*]; done) | (simp only [ne_eq]; constructor <;> omega)) _)
                        replace Bb : Blk ((wl2.setCell ⟨gm, 1, none⟩ (.bool true)).setCell ⟨ge, 0, none⟩ (.bool true)) (w.heap.size + 1) 24 #[uv b.v, uv b.m] := (Bb.far (by first | (simp; done) | (simp; omega) | (simp [*]; done) | (simp only [ne_eq]; constructor <;> omega)) _)
                        replace Br : Blk ((wl2.setCell ⟨gm, 1, none⟩ (.bool true)).setCell ⟨ge, 0, none⟩ (.bool true)) (w.heap.size + 1 + 1) 24 #[x, y] := (Br.far (by first | (simp; done) | (simp; omega) | (simp [*]; done) | (simp only [ne_eq]; constructor <;> omega)) _)
                        replace Bo : Blk ((wl2.setCell ⟨gm, 1, none⟩ (.bool true)).setCell ⟨ge, 0, none⟩ (.bool true)) (w.heap.size + 1 + 1 + 1) 24 #[uv (F n).v, uv (F n).m] := (Bo.far (by first | (simp; done) | (simp; omega) | (simp [*]; done) | (simp only [ne_eq]; constructor <;> omega)) _)
                        replace Bc : Blk ((wl2.setCell ⟨gm, 1, none⟩ (.bool true)).setCell ⟨ge, 0, none⟩ (.bool true)) (w.heap.size + 1 + 1 + 1 + 1) 89 #[.bool true, .bool c1] := (Bc.far (by first | (simp; done) | (simp; omega) | (simp [*]; done) | (simp only [ne_eq]; constructor <;> omega)) _)
                        replace Bm : Blk ((wl2.setCell ⟨gm, 1, none⟩ (.bool true)).setCell ⟨ge, 0, none⟩ (.bool true)) (gm) 89 #[.bool (V 2).1.1, .bool true] := (Bm.far (by first | (simp; done) | (simp; omega) | (simp [*]; done) | (simp only [ne_eq]; constructor <;> omega)) _)
                        replace Be : Blk ((wl2.setCell ⟨gm, 1, none⟩ (.bool true)).setCell ⟨ge, 0, none⟩ (.bool true)) (ge) 89 #[.bool true, .bool (V 2).2.2] := Be.set_ 0 _
                        replace Bp : Blk ((wl2.setCell ⟨gm, 1, none⟩ (.bool true)).setCell ⟨ge, 0, none⟩ (.bool true)) (gp) 89 #[.bool true, .bool x1] := (Bp.far (by first | (simp; done) | (simp; omega) | (simp [*]; done) | (simp only [ne_eq]; constructor <;> omega)) _)
                        replace Bq : Blk ((wl2.setCell ⟨gm, 1, none⟩ (.bool true)).setCell ⟨ge, 0, none⟩ (.bool true)) (gq) 89 #[.bool y0, .bool true] := (Bq.far (by first | (simp; done) | (simp; omega) | (simp [*]; done) | (simp only [ne_eq]; constructor <;> omega)) _)
                        replace hB : Below w.heap.size w ((wl2.setCell ⟨gm, 1, none⟩ (.bool true)).setCell ⟨ge, 0, none⟩ (.bool true)) := (Bl_set hB (by first | omega | (simp; done) | (simp; omega)) _)
                        generalize ((wl2.setCell ⟨gm, 1, none⟩ (.bool true)).setCell ⟨ge, 0, none⟩ (.bool true)) = w5 at *
                        obtain ⟨ca0, ca1⟩ := cells2 Ba
                        have fa := Ba.frozen; have la := Ba.lt
                        obtain ⟨cb0, cb1⟩ := cells2 Bb
                        have fb := Bb.frozen; have lb := Bb.lt
                        obtain ⟨cr0, cr1⟩ := cells2 Br
                        have fr := Br.frozen; have lr := Br.lt
                        obtain ⟨co0, co1⟩ := cells2 Bo
                        have fo := Bo.frozen; have lo := Bo.lt
                        obtain ⟨cc0, cc1⟩ := cells2 Bc
                        have fc := Bc.frozen; have lc := Bc.lt
                        obtain ⟨cm0, cm1⟩ := cells2 Bm
                        have fm := Bm.frozen; have lm := Bm.lt
                        obtain ⟨ce0, ce1⟩ := cells2 Be
                        have fe := Be.frozen; have le := Be.lt
                        obtain ⟨cp0, cp1⟩ := cells2 Bp
                        have fp := Bp.frozen; have lp := Bp.lt
                        obtain ⟨cq0, cq1⟩ := cells2 Bq
                        have fq := Bq.frozen; have lq := Bq.lt
                        have eG := H2.out; simp only [PlainTnum.inner, PlainTnum.sel, PlainTnum.put, PlainTnum.bitSum, Bool.true_and, Bool.and_true, Bool.false_and, Bool.and_false, Bool.xor_false, Bool.false_xor, Bool.true_xor, Bool.xor_true, Bool.not_true, Bool.not_false, Bool.or_true, Bool.true_or, Bool.or_false, Bool.false_or, Bool.false_eq_true, if_true, if_false, ↓reduceIte] at eG
                        clear ca0 ca1 fa la
                        clear cb0 cb1 fb lb
                        clear cr0 cr1 fr lr
                        clear co0 co1 fo lo
                        clear cc0 cc1 fc lc
                        clear cm0 cm1 fm lm
                        clear ce0 ce1 fe le
                        clear cp0 cp1 fp lp
                        clear cq0 cq1 fq lq
                        replace Bm : Blk w5 (gm) 89 #[.bool (V 3).1.1, .bool (V 3).1.2] := by rw [eG]; exact Bm
                        replace Be : Blk w5 (ge) 89 #[.bool (V 3).2.1, .bool (V 3).2.2] := by rw [eG]; exact Be
                        clear eG
                        go_wp2_with fail
                        go_roundg 1
                        case measure => omega
                        case rel => exact ⟨hB, Ba, Bb, Br, Bo, Bc, Bp, Bq, .inr (.inl ⟨rfl, by go_num, Bm, Be⟩)⟩
                · obtain ⟨wl2, rfl⟩ : ∃ z : World, z = wr := ⟨_, rfl⟩
                  obtain ⟨ca0, ca1⟩ := cells2 Ba
                  have fa := Ba.frozen; have la := Ba.lt
                  obtain ⟨cb0, cb1⟩ := cells2 Bb
                  have fb := Bb.frozen; have lb := Bb.lt
                  obtain ⟨cr0, cr1⟩ := cells2 Br
                  have fr := Br.frozen; have lr := Br.lt
                  obtain ⟨co0, co1⟩ := cells2 Bo
                  have fo := Bo.frozen; have lo := Bo.lt
                  obtain ⟨cc0, cc1⟩ := cells2 Bc
                  have fc := Bc.frozen; have lc := Bc.lt
                  obtain ⟨cm0, cm1⟩ := cells2 Bm
                  have fm := Bm.frozen; have lm := Bm.lt
                  obtain ⟨ce0, ce1⟩ := cells2 Be
                  have fe := Be.frozen; have le := Be.lt
                  obtain ⟨cp0, cp1⟩ := cells2 Bp
                  have fp := Bp.frozen; have lp := Bp.lt
                  obtain ⟨cq0, cq1⟩ := cells2 Bq
                  have fq := Bq.frozen; have lq := Bq.lt
                  cases x0
                  · go_upto_region 16 with fail
                    have eG := H3.out; simp only [PlainTnum.inner, PlainTnum.sel, PlainTnum.put, PlainTnum.bitSum, Bool.true_and, Bool.and_true, Bool.false_and, Bool.and_false, Bool.xor_false, Bool.false_xor, Bool.true_xor, Bool.xor_true, Bool.not_true, Bool.not_false, Bool.or_true, Bool.true_or, Bool.or_false, Bool.false_or, Bool.false_eq_true, if_true, if_false, ↓reduceIte] at eG
                    clear ca0 ca1 fa la
                    clear cb0 cb1 fb lb
                    clear cr0 cr1 fr lr
                    clear co0 co1 fo lo
                    clear cc0 cc1 fc lc
                    clear cm0 cm1 fm lm
                    clear ce0 ce1 fe le
                    clear cp0 cp1 fp lp
                    clear cq0 cq1 fq lq
                    replace Bm : Blk wl2 (gm) 89 #[.bool (V 4).1.1, .bool (V 4).1.2] := by rw [eG]; exact Bm
                    replace Be : Blk wl2 (ge) 89 #[.bool (V 4).2.1, .bool (V 4).2.2] := by rw [eG]; exact Be
                    clear eG
                    go_wp2_with fail
                    go_roundg 0
                    case measure => omega
                    case rel => exact ⟨hB, Ba, Bb, Br, Bo, Bc, Bp, Bq, .inr (.inr ⟨rfl, by go_num, Bm, Be⟩)⟩
                  · cases y1
                    · go_upto_region 16 with fail
                      have eG := H3.out; simp only [PlainTnum.inner, PlainTnum.sel, PlainTnum.put, PlainTnum.bitSum, Bool.true_and, Bool.and_true, Bool.false_and, Bool.and_false, Bool.xor_false, Bool.false_xor, Bool.true_xor, Bool.xor_true, Bool.not_true, Bool.not_false, Bool.or_true, Bool.true_or, Bool.or_false, Bool.false_or, Bool.false_eq_true, if_true, if_false, ↓reduceIte] at eG
                      clear ca0 ca1 fa la
                      clear cb0 cb1 fb lb
                      clear cr0 cr1 fr lr
                      clear co0 co1 fo lo
                      clear cc0 cc1 fc lc
                      clear cm0 cm1 fm lm
                      clear ce0 ce1 fe le
                      clear cp0 cp1 fp lp
                      clear cq0 cq1 fq lq
                      replace Bm : Blk wl2 (gm) 89 #[.bool (V 4).1.1, .bool (V 4).1.2] := by rw [eG]; exact Bm
                      replace Be : Blk wl2 (ge) 89 #[.bool (V 4).2.1, .bool (V 4).2.2] := by rw [eG]; exact Be
                      clear eG
                      go_wp2_with fail
                      go_roundg 0
                      case measure => omega
                      case rel => exact ⟨hB, Ba, Bb, Br, Bo, Bc, Bp, Bq, .inr (.inr ⟨rfl, by go_num, Bm, Be⟩)⟩
                    · cases c1
                      · go_upto_region 16 with fail
                        have eG := H3.out; simp only [PlainTnum.inner, PlainTnum.sel, PlainTnum.put, PlainTnum.bitSum, Bool.true_and, Bool.and_true, Bool.false_and, Bool.and_false, Bool.xor_false, Bool.false_xor, Bool.true_xor, Bool.xor_true, Bool.not_true, Bool.not_false, Bool.or_true, Bool.true_or, Bool.or_false, Bool.false_or, Bool.false_eq_true, if_true, if_false, ↓reduceIte] at eG
                        clear ca0 ca1 fa la
                        clear cb0 cb1 fb lb
                        clear cr0 cr1 fr lr
                        clear co0 co1 fo lo
                        clear cc0 cc1 fc lc
                        clear cm0 cm1 fm lm
                        clear ce0 ce1 fe le
                        clear cp0 cp1 fp lp
                        clear cq0 cq1 fq lq
                        replace Bm : Blk wl2 (gm) 89 #[.bool (V 4).1.1, .bool (V 4).1.2] := by rw [eG]; exact Bm
                        replace Be : Blk wl2 (ge) 89 #[.bool (V 4).2.1, .bool (V 4).2.2] := by rw [eG]; exact Be
                        clear eG
                        go_wp2_with fail
                        go_roundg 0
                        case measure => omega
                        case rel => exact ⟨hB, Ba, Bb, Br, Bo, Bc, Bp, Bq, .inr (.inr ⟨rfl, by go_num, Bm, Be⟩)⟩
                      · go_upto_region 16 with fail
                        clear ca0 ca1 fa la
                        clear cb0 cb1 fb lb
                        clear cr0 cr1 fr lr
                        clear co0 co1 fo lo
                        clear cc0 cc1 fc lc
                        clear cm0 cm1 fm lm
                        clear ce0 ce1 fe le
                        clear cp0 cp1 fp lp
                        clear cq0 cq1 fq lq
                        replace Ba : Blk (wl2.setCell ⟨gm, 0, none⟩ (.bool true)) (w.heap.size) 24 #[uv a.v, uv a.m] := (Ba.far (by first | (simp; done) | (simp; omega) | (simp [*]; done) | (simp only [ne_eq]; constructor <;> omega)) _)
                        replace Bb : Blk (wl2.setCell ⟨gm, 0, none⟩ (.bool true)) (w.heap.size + 1) 24 #[uv b.v, uv b.m] := (Bb.far (by first | (simp; done) | (simp; omega) | (simp [*]; done) | (simp only [ne_eq]; constructor <;> omega)) _)
                        replace Br : Blk (wl2.setCell ⟨gm, 0, none⟩ (.bool true)) (w.heap.size + 1 + 1) 24 #[x, y] := (Br.far (by first | (simp; done) | (simp; omega) | (simp [*]; done) | (simp only [ne_eq]; constructor <;> omega)) _)
                        replace Bo : Blk (wl2.setCell ⟨gm, 0, none⟩ (.bool true)) (w.heap.size + 1 + 1 + 1) 24 #[uv (F n).v, uv (F n).m] := (Bo.far (by first | (simp; done) | (simp; omega) | (simp [*]; done) | (simp only [ne_eq]; constructor <;> omega)) _)
                        replace Bc : Blk (wl2.setCell ⟨gm, 0, none⟩ (.bool true)) (w.heap.size + 1 + 1 + 1 + 1) 89 #[.bool c0, .bool true] := (Bc.far (by first | (simp; done) | (simp; omega) | (simp [*]; done) | (simp only [ne_eq]; constructor <;> omega)) _)
                        replace Bm : Blk (wl2.setCell ⟨gm, 0, none⟩ (.bool true)) (gm) 89 #[.bool true, .bool (V 3).1.2] := Bm.set_ 0 _
                        replace Be : Blk (wl2.setCell ⟨gm, 0, none⟩ (.bool true)) (ge) 89 #[.bool (V 3).2.1, .bool (V 3).2.2] := (Be.far (by first | (simp; done) | (simp; omega) | (simp [*]; done) | (simp only [ne_eq]; constructor <;> omega)) _)
                        replace Bp : Blk (wl2.setCell ⟨gm, 0, none⟩ (.bool true)) (gp) 89 #[.bool true, .bool x1] := (Bp.far (by first | (simp; done) | (simp; omega) | (simp [*]; done) | (simp only [ne_eq]; constructor <;> omega)) _)
                        replace Bq : Blk (wl2.setCell ⟨gm, 0, none⟩ (.bool true)) (gq) 89 #[.bool y0, .bool true] := (Bq.far (by first | (simp; done) | (simp; omega) | (simp [*]; done) | (simp only [ne_eq]; constructor <;> omega)) _)
                        replace hB : Below w.heap.size w (wl2.setCell ⟨gm, 0, none⟩ (.bool true)) := (Bl_set hB (by first | omega | (simp; done) | (simp; omega)) _)
                        replace Ba : Blk ((wl2.setCell ⟨gm, 0, none⟩ (.bool true)).setCell ⟨ge, 1, none⟩ (.bool true)) (w.heap.size) 24 #[uv a.v, uv a.m] := (Ba.far (by first | (simp; done) | (simp; omega) | (simp [*]; done) | (simp only [ne_eq]; constructor <;> omega)) _)
                        replace Bb : Blk ((wl2.setCell ⟨gm, 0, none⟩ (.bool true)).setCell ⟨ge, 1, none⟩ (.bool true)) (w.heap.size + 1) 24 #[uv b.v, uv b.m] := (Bb.far (by first | (simp; done) | (simp; omega) | (simp [*]; done) | (simp only [ne_eq]; constructor <;> omega)) _)
                        replace Br : Blk ((wl2.setCell ⟨gm, 0, none⟩ (.bool true)).setCell ⟨ge, 1, none⟩ (.bool true)) (w.heap.size + 1 + 1) 24 #[x, y] := (Br.far (by first | (simp; done) | (simp; omega) | (simp [*]; done) | (simp only [ne_eq]; constructor <;> omega)) _)
                        replace Bo : Blk ((wl2.setCell ⟨gm, 0, none⟩ (.bool true)).setCell ⟨ge, 1, none⟩ (.bool true)) (w.heap.size + 1 + 1 + 1) 24 #[uv (F n).v, uv (F n).m] := (Bo.far (by first | (simp; done) | (simp; omega) | (simp [*]; done) | (simp only [ne_eq]; constructor <;> omega)) _)
                        replace Bc : Blk ((wl2.setCell ⟨gm, 0, none⟩ (.bool true)).setCell ⟨ge, 1, none⟩ (.bool true)) (w.heap.size + 1 + 1 + 1 + 1) 89 #[.bool c0, .bool true] := (Bc.far (by first | (simp; done) | (simp; omega) | (simp [*]; done) | (simp only [ne_eq]; constructor <;> omega)) _)
                        replace Bm : Blk ((wl2.setCell ⟨gm, 0, none⟩ (.bool true)).setCell ⟨ge, 1, none⟩ (.bool true)) (gm) 89 #[.bool true, .bool (V 3).1.2] := (Bm.far (by first | (simp; done) | (simp; omega) | (simp [*]; done) | (simp only [ne_eq]; constructor <;> omega)) _)
                        replace Be : Blk ((wl2.setCell ⟨gm, 0, none⟩ (.bool true)).setCell ⟨ge, 1, none⟩ (.bool true)) (ge) 89 #[.bool (V 3).2.1, .bool true] := Be.set_ 1 _
                        replace Bp : Blk ((wl2.setCell ⟨gm, 0, none⟩ (.bool true)).setCell ⟨ge, 1, none⟩ (.bool true)) (gp) 89 #[.bool true, .bool x1] := (Bp.far (by first | (simp; done) | (simp; omega) | (simp [*]; done) | (simp only [ne_eq]; constructor <;> omega)) _)
                        replace Bq : Blk ((wl2.setCell ⟨gm, 0, none⟩ (.bool true)).setCell ⟨ge, 1, none⟩ (.bool true)) (gq) 89 #[.bool y0, .bool true] := (Bq.far (by first | (simp; done) | (simp; omega) | (simp [*]; done) | (simp only [ne_eq]; constructor <;> omega)) _)
                        replace hB : Below w.heap.size w ((wl2.setCell ⟨gm, 0, none⟩ (.bool true)).setCell ⟨ge, 1, none⟩ (.bool true)) := (Bl_set hB (by first | omega | (simp; done) | (simp; omega)) _)
                        generalize ((wl2.setCell ⟨gm, 0, none⟩ (.bool true)).setCell ⟨ge, 1, none⟩ (.bool true)) = w5 at *
                        obtain ⟨ca0, ca1⟩ := cells2 Ba
                        have fa := Ba.frozen; have la := Ba.lt
                        obtain ⟨cb0, cb1⟩ := cells2 Bb
                        have fb := Bb.frozen; have lb := Bb.lt
                        obtain ⟨cr0, cr1⟩ := cells2 Br
                        have fr := Br.frozen; have lr := Br.lt
                        obtain ⟨co0, co1⟩ := cells2 Bo
                        have fo := Bo.frozen; have lo := Bo.lt
                        obtain ⟨cc0, cc1⟩ := cells2 Bc
                        have fc := Bc.frozen; have lc := Bc.lt
                        obtain ⟨cm0, cm1⟩ := cells2 Bm
                        have fm := Bm.frozen; have lm := Bm.lt
                        obtain ⟨ce0, ce1⟩ := cells2 Be
                        have fe := Be.frozen; have le := Be.lt
                        obtain ⟨cp0, cp1⟩ := cells2 Bp
                        have fp := Bp.frozen; have lp := Bp.lt
                        obtain ⟨cq0, cq1⟩ := cells2 Bq
                        have fq := Bq.frozen; have lq := Bq.lt
                        have eG := H3.out; simp only [PlainTnum.inner, PlainTnum.sel, PlainTnum.put, PlainTnum.bitSum, Bool.true_and, Bool.and_true, Bool.false_and, Bool.and_false, Bool.xor_false, Bool.false_xor, Bool.true_xor, Bool.xor_true, Bool.not_true, Bool.not_false, Bool.or_true, Bool.true_or, Bool.or_false, Bool.false_or, Bool.false_eq_true, if_true, if_false, ↓reduceIte] at eG
                        clear ca0 ca1 fa la
                        clear cb0 cb1 fb lb
                        clear cr0 cr1 fr lr
                        clear co0 co1 fo lo
                        clear cc0 cc1 fc lc
                        clear cm0 cm1 fm lm
                        clear ce0 ce1 fe le
                        clear cp0 cp1 fp lp
                        clear cq0 cq1 fq lq
                        replace Bm : Blk w5 (gm) 89 #[.bool (V 4).1.1, .bool (V 4).1.2] := by rw [eG]; exact Bm
                        replace Be : Blk w5 (ge) 89 #[.bool (V 4).2.1, .bool (V 4).2.2] := by rw [eG]; exact Be
                        clear eG
                        go_wp2_with fail
                        go_roundg 0
                        case measure => omega
                        case rel => exact ⟨hB, Ba, Bb, Br, Bo, Bc, Bp, Bq, .inr (.inr ⟨rfl, by go_num, Bm, Be⟩)⟩
                · obtain ⟨wl2, rfl⟩ : ∃ z : World, z = wr := ⟨_, rfl⟩
                  obtain ⟨ca0, ca1⟩ := cells2 Ba
                  have fa := Ba.frozen; have la := Ba.lt
                  obtain ⟨cb0, cb1⟩ := cells2 Bb
                  have fb := Bb.frozen; have lb := Bb.lt
                  obtain ⟨cr0, cr1⟩ := cells2 Br
                  have fr := Br.frozen; have lr := Br.lt
                  obtain ⟨co0, co1⟩ := cells2 Bo
                  have fo := Bo.frozen; have lo := Bo.lt
                  obtain ⟨cc0, cc1⟩ := cells2 Bc
                  have fc := Bc.frozen; have lc := Bc.lt
                  obtain ⟨cm0, cm1⟩ := cells2 Bm
                  have fm := Bm.frozen; have lm := Bm.lt
                  obtain ⟨ce0, ce1⟩ := cells2 Be
                  have fe := Be.frozen; have le := Be.lt
                  obtain ⟨cp0, cp1⟩ := cells2 Bp
                  have fp := Bp.frozen; have lp := Bp.lt
                  obtain ⟨cq0, cq1⟩ := cells2 Bq
                  have fq := Bq.frozen; have lq := Bq.lt
                  go_wp2_with fail
                  go_roundg 0
                  case measure => omega
                  case rel => exact ⟨hB, Ba, Bb, Br, Bo, Bc, Bp, Bq, .inr (.inr ⟨rfl, by go_num, Bm, Be⟩)⟩
            · obtain ⟨wl1, rfl⟩ : ∃ z : World, z = wr := ⟨_, rfl⟩
              obtain ⟨ca0, ca1⟩ := cells2 Ba
              have fa := Ba.frozen; have la := Ba.lt
              obtain ⟨cb0, cb1⟩ := cells2 Bb
              have fb := Bb.frozen; have lb := Bb.lt
              obtain ⟨cr0, cr1⟩ := cells2 Br
              have fr := Br.frozen; have lr := Br.lt
              obtain ⟨co0, co1⟩ := cells2 Bo
              have fo := Bo.frozen; have lo := Bo.lt
              obtain ⟨cc0, cc1⟩ := cells2 Bc
              have fc := Bc.frozen; have lc := Bc.lt
              obtain ⟨cm0, cm1⟩ := cells2 Bm
              have fm := Bm.frozen; have lm := Bm.lt
              obtain ⟨ce0, ce1⟩ := cells2 Be
              have fe := Be.frozen; have le := Be.lt
              obtain ⟨cp0, cp1⟩ := cells2 Bp
              have fp := Bp.frozen; have lp := Bp.lt
              obtain ⟨cq0, cq1⟩ := cells2 Bq
              have fq := Bq.frozen; have lq := Bq.lt
              go_wp2_with fail
              go_roundg 1
              case measure => omega
              case rel => exact ⟨hB, Ba, Bb, Br, Bo, Bc, Bp, Bq, .inr (.inl ⟨rfl, by go_num, Bm, Be⟩)⟩
        · obtain ⟨wl0, rfl⟩ : ∃ z : World, z = wr := ⟨_, rfl⟩
          obtain ⟨ca0, ca1⟩ := cells2 Ba
          have fa := Ba.frozen; have la := Ba.lt
          obtain ⟨cb0, cb1⟩ := cells2 Bb
          have fb := Bb.frozen; have lb := Bb.lt
          obtain ⟨cr0, cr1⟩ := cells2 Br
          have fr := Br.frozen; have lr := Br.lt
          obtain ⟨co0, co1⟩ := cells2 Bo
          have fo := Bo.frozen; have lo := Bo.lt
          obtain ⟨cc0, cc1⟩ := cells2 Bc
          have fc := Bc.frozen; have lc := Bc.lt
          obtain ⟨cm0, cm1⟩ := cells2 Bm
          have fm := Bm.frozen; have lm := Bm.lt
          obtain ⟨ce0, ce1⟩ := cells2 Be
          have fe := Be.frozen; have le := Be.lt
          obtain ⟨cp0, cp1⟩ := cells2 Bp
          have fp := Bp.frozen; have lp := Bp.lt
          obtain ⟨cq0, cq1⟩ := cells2 Bq
          have fq := Bq.frozen; have lq := Bq.lt
          go_wp2_with fail
          clear ca0 ca1 fa la
          clear cb0 cb1 fb lb
          clear cr0 cr1 fr lr
          clear co0 co1 fo lo
          clear cc0 cc1 fc lc
          clear cm0 cm1 fm lm
          clear ce0 ce1 fe le
          clear cp0 cp1 fp lp
          clear cq0 cq1 fq lq
          go_loopg [15] 2 (fun m i wr => Below w.heap.size w wr ∧ Blk wr (w.heap.size) 24 #[uv a.v, uv a.m] ∧ Blk wr (w.heap.size + 1) 24 #[uv b.v, uv b.m] ∧ Blk wr (w.heap.size + 1 + 1) 24 #[x, y] ∧ Blk wr (w.heap.size + 1 + 1 + 1) 24 #[uv (F n).v, uv (F n).m] ∧ Blk wr (w.heap.size + 1 + 1 + 1 + 1) 89 #[.bool c0, .bool c1] ∧ Blk wr (gp) 89 #[.bool x0, .bool x1] ∧ Blk wr (gq) 89 #[.bool y0, .bool y1] ∧ ((m = 2 ∧ i = .int .i64 0 ∧ Blk wr (gm) 89 #[.bool (V 4).1.1, .bool (V 4).1.2] ∧ Blk wr (ge) 89 #[.bool (V 4).2.1, .bool (V 4).2.2]) ∨ (m = 1 ∧ i = .int .i64 1 ∧ Blk wr (gm) 89 #[.bool (V 6).1.1, .bool (V 6).1.2] ∧ Blk wr (ge) 89 #[.bool (V 6).2.1, .bool (V 6).2.2]) ∨ (m = 0 ∧ i = .int .i64 2 ∧ Blk wr (gm) 89 #[.bool (V 8).1.1, .bool (V 8).1.2] ∧ Blk wr (ge) 89 #[.bool (V 8).2.1, .bool (V 8).2.2])))
          case atStart => exact ⟨hB, Ba, Bb, Br, Bo, Bc, Bp, Bq, .inl ⟨rfl, rfl, Bm, Be⟩⟩
          case round =>
            rename Nat => gh1
            clear hB Ba Bb Br Bo Bc Bp Bq Bm Be
            obtain ⟨hB, Ba, Bb, Br, Bo, Bc, Bp, Bq, ⟨hm, rfl, Bm, Be⟩ | ⟨hm, rfl, Bm, Be⟩ | ⟨hm, rfl, Bm, Be⟩⟩ := hrel
            · obtain ⟨wl1, rfl⟩ : ∃ z : World, z = wr := ⟨_, rfl⟩
              obtain ⟨ca0, ca1⟩ := cells2 Ba
              have fa := Ba.frozen; have la := Ba.lt
              obtain ⟨cb0, cb1⟩ := cells2 Bb
              have fb := Bb.frozen; have lb := Bb.lt
              obtain ⟨cr0, cr1⟩ := cells2 Br
              have fr := Br.frozen; have lr := Br.lt
              obtain ⟨co0, co1⟩ := cells2 Bo
              have fo := Bo.frozen; have lo := Bo.lt
              obtain ⟨cc0, cc1⟩ := cells2 Bc
              have fc := Bc.frozen; have lc := Bc.lt
              obtain ⟨cm0, cm1⟩ := cells2 Bm
              have fm := Bm.frozen; have lm := Bm.lt
              obtain ⟨ce0, ce1⟩ := cells2 Be
              have fe := Be.frozen; have le := Be.lt
              obtain ⟨cp0, cp1⟩ := cells2 Bp
              have fp := Bp.frozen; have lp := Bp.lt
              obtain ⟨cq0, cq1⟩ := cells2 Bq
              have fq := Bq.frozen; have lq := Bq.lt
              go_wp2_with fail
              clear ca0 ca1 fa la
              clear cb0 cb1 fb lb
              clear cr0 cr1 fr lr
              clear co0 co1 fo lo
              clear cc0 cc1 fc lc
              clear cm0 cm1 fm lm
              clear ce0 ce1 fe le
              clear cp0 cp1 fp lp
              clear cq0 cq1 fq lq
              go_loopg [16] 2 (fun m i wr => Below w.heap.size w wr ∧ Blk wr (w.heap.size) 24 #[uv a.v, uv a.m] ∧ Blk wr (w.heap.size + 1) 24 #[uv b.v, uv b.m] ∧ Blk wr (w.heap.size + 1 + 1) 24 #[x, y] ∧ Blk wr (w.heap.size + 1 + 1 + 1) 24 #[uv (F n).v, uv (F n).m] ∧ Blk wr (w.heap.size + 1 + 1 + 1 + 1) 89 #[.bool c0, .bool c1] ∧ Blk wr (gp) 89 #[.bool x0, .bool x1] ∧ Blk wr (gq) 89 #[.bool y0, .bool y1] ∧ ((m = 2 ∧ i = .int .i64 0 ∧ Blk wr (gm) 89 #[.bool (V 4).1.1, .bool (V 4).1.2] ∧ Blk wr (ge) 89 #[.bool (V 4).2.1, .bool (V 4).2.2]) ∨ (m = 1 ∧ i = .int .i64 1 ∧ Blk wr (gm) 89 #[.bool (V 5).1.1, .bool (V 5).1.2] ∧ Blk wr (ge) 89 #[.bool (V 5).2.1, .bool (V 5).2.2]) ∨ (m = 0 ∧ i = .int .i64 2 ∧ Blk wr (gm) 89 #[.bool (V 6).1.1, .bool (V 6).1.2] ∧ Blk wr (ge) 89 #[.bool (V 6).2.1, .bool (V 6).2.2])))
              case atStart => exact ⟨hB, Ba, Bb, Br, Bo, Bc, Bp, Bq, .inl ⟨rfl, rfl, Bm, Be⟩⟩
              case round =>
                rename Nat => gh2
                clear hB Ba Bb Br Bo Bc Bp Bq Bm Be
                obtain ⟨hB, Ba, Bb, Br, Bo, Bc, Bp, Bq, ⟨hm, rfl, Bm, Be⟩ | ⟨hm, rfl, Bm, Be⟩ | ⟨hm, rfl, Bm, Be⟩⟩ := hrel
                · obtain ⟨wl2, rfl⟩ : ∃ z : World, z = wr := ⟨_, rfl⟩
                  obtain ⟨ca0, ca1⟩ := cells2 Ba
                  have fa := Ba.frozen; have la := Ba.lt
                  obtain ⟨cb0, cb1⟩ := cells2 Bb
                  have fb := Bb.frozen; have lb := Bb.lt
                  obtain ⟨cr0, cr1⟩ := cells2 Br
                  have fr := Br.frozen; have lr := Br.lt
                  obtain ⟨co0, co1⟩ := cells2 Bo
                  have fo := Bo.frozen; have lo := Bo.lt
                  obtain ⟨cc0, cc1⟩ := cells2 Bc
                  have fc := Bc.frozen; have lc := Bc.lt
                  obtain ⟨cm0, cm1⟩ := cells2 Bm
                  have fm := Bm.frozen; have lm := Bm.lt
                  obtain ⟨ce0, ce1⟩ := cells2 Be
                  have fe := Be.frozen; have le := Be.lt
                  obtain ⟨cp0, cp1⟩ := cells2 Bp
                  have fp := Bp.frozen; have lp := Bp.lt
                  obtain ⟨cq0, cq1⟩ := cells2 Bq
                  have fq := Bq.frozen; have lq := Bq.lt
                  cases x1
                  · go_upto_region 16 with fail
                    have eG := H4.out; simp only [PlainTnum.inner, PlainTnum.sel, PlainTnum.put, PlainTnum.bitSum, Bool.true_and, Bool.and_true, Bool.false_and, Bool.and_false, Bool.xor_false, Bool.false_xor, Bool.true_xor, Bool.xor_true, Bool.not_true, Bool.not_false, Bool.or_true, Bool.true_or, Bool.or_false, Bool.false_or, Bool.false_eq_true, if_true, if_false, ↓reduceIte] at eG
                    clear ca0 ca1 fa la
                    clear cb0 cb1 fb lb
                    clear cr0 cr1 fr lr
                    clear co0 co1 fo lo
                    clear cc0 cc1 fc lc
                    clear cm0 cm1 fm lm
                    clear ce0 ce1 fe le
                    clear cp0 cp1 fp lp
                    clear cq0 cq1 fq lq
                    replace Bm : Blk wl2 (gm) 89 #[.bool (V 5).1.1, .bool (V 5).1.2] := by rw [eG]; exact Bm
                    replace Be : Blk wl2 (ge) 89 #[.bool (V 5).2.1, .bool (V 5).2.2] := by rw [eG]; exact Be
                    clear eG
                    go_wp2_with fail
                    go_roundg 1
                    case measure => omega
                    case rel => exact ⟨hB, Ba, Bb, Br, Bo, Bc, Bp, Bq, .inr (.inl ⟨rfl, by go_num, Bm, Be⟩)⟩
                  · cases y0
                    · go_upto_region 16 with fail
                      have eG := H4.out; simp only [PlainTnum.inner, PlainTnum.sel, PlainTnum.put, PlainTnum.bitSum, Bool.true_and, Bool.and_true, Bool.false_and, Bool.and_false, Bool.xor_false, Bool.false_xor, Bool.true_xor, Bool.xor_true, Bool.not_true, Bool.not_false, Bool.or_true, Bool.true_or, Bool.or_false, Bool.false_or, Bool.false_eq_true, if_true, if_false, ↓reduceIte] at eG
                      clear ca0 ca1 fa la
                      clear cb0 cb1 fb lb
                      clear cr0 cr1 fr lr
                      clear co0 co1 fo lo
                      clear cc0 cc1 fc lc
                      clear cm0 cm1 fm lm
                      clear ce0 ce1 fe le
                      clear cp0 cp1 fp lp
                      clear cq0 cq1 fq lq
                      replace Bm : Blk wl2 (gm) 89 #[.bool (V 5).1.1, .bool (V 5).1.2] := by rw [eG]; exact Bm
                      replace Be : Blk wl2 (ge) 89 #[.bool (V 5).2.1, .bool (V 5).2.2] := by rw [eG]; exact Be
                      clear eG
                      go_wp2_with fail
                      go_roundg 1
                      case measure => omega
                      case rel => exact ⟨hB, Ba, Bb, Br, Bo, Bc, Bp, Bq, .inr (.inl ⟨rfl, by go_num, Bm, Be⟩)⟩
                    · cases c0
                      · go_upto_region 16 with fail
                        have eG := H4.out; simp only [PlainTnum.inner, PlainTnum.sel, PlainTnum.put, PlainTnum.bitSum, Bool.true_and, Bool.and_true, Bool.false_and, Bool.and_false, Bool.xor_false, Bool.false_xor, Bool.true_xor, Bool.xor_true, Bool.not_true, Bool.not_false, Bool.or_true, Bool.true_or, Bool.or_false, Bool.false_or, Bool.false_eq_true, if_true, if_false, ↓reduceIte] at eG
                        clear ca0 ca1 fa la
                        clear cb0 cb1 fb lb
                        clear cr0 cr1 fr lr
                        clear co0 co1 fo lo
                        clear cc0 cc1 fc lc
                        clear cm0 cm1 fm lm
                        clear ce0 ce1 fe le
                        clear cp0 cp1 fp lp
                        clear cq0 cq1 fq lq
                        replace Bm : Blk wl2 (gm) 89 #[.bool (V 5).1.1, .bool (V 5).1.2] := by rw [eG]; exact Bm
                        replace Be : Blk wl2 (ge) 89 #[.bool (V 5).2.1, .bool (V 5).2.2] := by rw [eG]; exact Be
                        clear eG
                        go_wp2_with fail
                        go_roundg 1
                        case measure => omega
                        case rel => exact ⟨hB, Ba, Bb, Br, Bo, Bc, Bp, Bq, .inr (.inl ⟨rfl, by go_num, Bm, Be⟩)⟩
                      · go_upto_region 16 with fail
                        clear ca0 ca1 fa la
                        clear cb0 cb1 fb lb
                        clear cr0 cr1 fr lr
                        clear co0 co1 fo lo
                        clear cc0 cc1 fc lc
                        clear cm0 cm1 fm lm
                        clear ce0 ce1 fe le
                        clear cp0 cp1 fp lp
                        clear cq0 cq1 fq lq
                        replace Ba : Blk (wl2.setCell ⟨gm, 1, none⟩ (.bool true)) (w.heap.size) 24 #[uv a.v, uv a.m] := (Ba.far (by first | (simp; done) | (simp; omega) | (simp [*]; done) | (simp only [ne_eq]; constructor <;> omega)) _)
                        replace Bb : Blk (wl2.setCell ⟨gm, 1, none⟩ (.bool true)) (w.heap.size + 1) 24 #[uv b.v, uv b.m] := (Bb.far (by first | (simp; done) | (simp; omega) | (simp [*]; done) | (simp only [ne_eq]; constructor <;> omega)) _)
                        replace Br : Blk (wl2.setCell ⟨gm, 1, none⟩ (.bool true)) (w.heap.size + 1 + 1) 24 #[x, y] := (Br.far (by first | (simp; done) | (simp; omega) | (simp [*]; done) | (simp only [ne_eq]; constructor <;> omega)) _)
                        replace Bo : Blk (wl2.setCell ⟨gm, 1, none⟩ (.bool true)) (w.heap.size + 1 + 1 + 1) 24 #[uv (F n).v, uv (F n).m] := (Bo.far (by first | (simp; done) | (simp; omega) | (simp [*]; done) | (simp only [ne_eq]; constructor <;> omega)) _)
                        replace Bc : Blk (wl2.setCell ⟨gm, 1, none⟩ (.bool true)) (w.heap.size + 1 + 1 + 1 + 1) 89 #[.bool true, .bool c1] := (Bc.far (by first | (simp; done) | (simp; omega) | (simp [*]; done) | (simp only [ne_eq]; constructor <;> omega)) _)
                        replace Bm : Blk (wl2.setCell ⟨gm, 1, none⟩ (.bool true)) (gm) 89 #[.bool (V 4).1.1, .bool true] := Bm.set_ 1 _
                        replace Be : Blk (wl2.setCell ⟨gm, 1, none⟩ (.bool true)) (ge) 89 #[.bool (V 4).2.1, .bool (V 4).2.2] := (Be.far (by first | (simp; done) | (simp; omega) | (simp [*]; done) | (simp only [ne_eq]; constructor <;> omega)) _)
                        replace Bp : Blk (wl2.setCell ⟨gm, 1, none⟩ (.bool true)) (gp) 89 #[.bool x0, .bool true] := (Bp.far (by first | (simp; done) | (simp; omega) | (simp [*]; done) | (simp only [ne_eq]; constructor <;> omega)) _)
                        replace Bq : Blk (wl2.setCell ⟨gm, 1, none⟩ (.bool true)) (gq) 89 #[.bool true, .bool y1] := (Bq.far (by first | (simp; done) | (simp; omega) | (simp [*]; done) | (simp only [ne_eq]; constructor <;> omega)) _)
                        replace hB : Below w.heap.size w (wl2.setCell ⟨gm, 1, none⟩ (.bool true)) := (Bl_set hB (by first | omega | (simp; done) | (simp; omega)) _)
                        replace Ba : Blk ((wl2.setCell ⟨gm, 1, none⟩ (.bool true)).setCell ⟨ge, 0, none⟩ (.bool true)) (w.heap.size) 24 #[uv a.v, uv a.m] := (Ba.far (by first | (simp; done) | (simp; omega) | (simp [*]; done) | (simp only [ne_eq]; constructor <;> omega)) _)
                        replace Bb : Blk ((wl2.setCell ⟨gm, 1, none⟩ (.bool true)).setCell ⟨ge, 0, none⟩ (.bool true)) (w.heap.size + 1) 24 #[uv b.v, uv b.m] := (Bb.far (by first | (simp; done) | (simp; omega) | (simp [*]; done) | (simp only [ne_eq]; constructor <;> omega)) _)
                        replace Br : Blk ((wl2.setCell ⟨gm, 1, none⟩ (.bool true)).setCell ⟨ge, 0, none⟩ (.bool true)) (w.heap.size + 1 + 1) 24 #[x, y] := (Br.far (by first | (simp; done) | (simp; omega) | (simp [*]; done) | (simp only [ne_eq]; constructor <;> omega)) _)
                        replace Bo : Blk ((wl2.setCell ⟨gm, 1, none⟩ (.bool true)).setCell ⟨ge, 0, none⟩ (.bool true)) (w.heap.size + 1 + 1 + 1) 24 #[uv (F n).v, uv (F n).m] := (Bo.far (by first | (simp; done) | (simp; omega) | (simp [*]; done) | (simp only [ne_eq]; constructor <;> omega)) _)
                        replace Bc : Blk ((wl2.setCell ⟨gm, 1, none⟩ (.bool true)).setCell ⟨ge, 0, none⟩ (.bool true)) (w.heap.size + 1 + 1 + 1 + 1) 89 #[.bool true, .bool c1] := (Bc.far (by first | (simp; done) | (simp; omega) | (simp [*]; done) | (simp only [ne_eq]; constructor <;> omega)) _)
                        replace Bm : Blk ((wl2.setCell ⟨gm, 1, none⟩ (.bool true)).setCell ⟨ge, 0, none⟩ (.bool true)) (gm) 89 #[.bool (V 4).1.1, .bool true] := (Bm.far (by first | (simp; done) | (simp; omega) | (simp [*]; done) | (simp only [ne_eq]; constructor <;> omega)) _)
                        replace Be : Blk ((wl2.setCell ⟨gm, 1, none⟩ (.bool true)).setCell ⟨ge, 0, none⟩ (.bool true)) (ge) 89 #[.bool true, .bool (V 4).2.2] := Be.set_ 0 _
                        replace Bp : Blk ((wl2.setCell ⟨gm, 1, none⟩ (.bool true)).setCell ⟨ge, 0, none⟩ (.bool true)) (gp) 89 #[.bool x0, .bool true] := (Bp.far (by first | (simp; done) | (simp; omega) | (simp [*]; done) | (simp only [ne_eq]; constructor <;> omega)) _)
                        replace Bq : Blk ((wl2.setCell ⟨gm, 1, none⟩ (.bool true)).setCell ⟨ge, 0, none⟩ (.bool true)) (gq) 89 #[.bool true, .bool y1] := (Bq.far (by first | (simp; done) | (simp; omega) | (simp [*]; done) | (simp only [ne_eq]; constructor <;> omega)) _)
                        replace hB : Below w.heap.size w ((wl2.setCell ⟨gm, 1, none⟩ (.bool true)).setCell ⟨ge, 0, none⟩ (.bool true)) := (Bl_set hB (by first | omega | (simp; done) | (simp; omega)) _)
                        generalize ((wl2.setCell ⟨gm, 1, none⟩ (.bool true)).setCell ⟨ge, 0, none⟩ (.bool true)) = w5 at *
                        obtain ⟨ca0, ca1⟩ := cells2 Ba
                        have fa := Ba.frozen; have la := Ba.lt
                        obtain ⟨cb0, cb1⟩ := cells2 Bb
                        have fb := Bb.frozen; have lb := Bb.lt
                        obtain ⟨cr0, cr1⟩ := cells2 Br
                        have fr := Br.frozen; have lr := Br.lt
                        obtain ⟨co0, co1⟩ := cells2 Bo
                        have fo := Bo.frozen; have lo := Bo.lt
                        obtain ⟨cc0, cc1⟩ := cells2 Bc
                        have fc := Bc.frozen; have lc := Bc.lt
                        obtain ⟨cm0, cm1⟩ := cells2 Bm
                        have fm := Bm.frozen; have lm := Bm.lt
                        obtain ⟨ce0, ce1⟩ := cells2 Be
                        have fe := Be.frozen; have le := Be.lt
                        obtain ⟨cp0, cp1⟩ := cells2 Bp
                        have fp := Bp.frozen; have lp := Bp.lt
                        obtain ⟨cq0, cq1⟩ := cells2 Bq
                        have fq := Bq.frozen; have lq := Bq.lt
                        have eG := H4.out; simp only [PlainTnum.inner, PlainTnum.sel, PlainTnum.put, PlainTnum.bitSum, Bool.true_and, Bool.and_true, Bool.false_and, Bool.and_false, Bool.xor_false, Bool.false_xor, Bool.true_xor, Bool.xor_true, Bool.not_true, Bool.not_false, Bool.or_true, Bool.true_or, Bool.or_false, Bool.false_or, Bool.false_eq_true, if_true, if_false, ↓reduceIte] at eG
                        clear ca0 ca1 fa la
                        clear cb0 cb1 fb lb
                        clear cr0 cr1 fr lr
                        clear co0 co1 fo lo
                        clear cc0 cc1 fc lc
                        clear cm0 cm1 fm lm
                        clear ce0 ce1 fe le
                        clear cp0 cp1 fp lp
                        clear cq0 cq1 fq lq
                        replace Bm : Blk w5 (gm) 89 #[.bool (V 5).1.1, .bool (V 5).1.2] := by rw [eG]; exact Bm
                        replace Be : Blk w5 (ge) 89 #[.bool (V 5).2.1, .bool (V 5).2.2] := by rw [eG]; exact Be
                        clear eG
                        go_wp2_with fail
                        go_roundg 1
                        case measure => omega
                        case rel => exact ⟨hB, Ba, Bb, Br, Bo, Bc, Bp, Bq, .inr (.inl ⟨rfl, by go_num, Bm, Be⟩)⟩
                · obtain ⟨wl2, rfl⟩ : ∃ z : World, z = wr := ⟨_, rfl⟩
                  obtain ⟨ca0, ca1⟩ := cells2 Ba
                  have fa := Ba.frozen; have la := Ba.lt
                  obtain ⟨cb0, cb1⟩ := cells2 Bb
                  have fb := Bb.frozen; have lb := Bb.lt
                  obtain ⟨cr0, cr1⟩ := cells2 Br
                  have fr := Br.frozen; have lr := Br.lt
                  obtain ⟨co0, co1⟩ := cells2 Bo
                  have fo := Bo.frozen; have lo := Bo.lt
                  obtain ⟨cc0, cc1⟩ := cells2 Bc
                  have fc := Bc.frozen; have lc := Bc.lt
                  obtain ⟨cm0, cm1⟩ := cells2 Bm
                  have fm := Bm.frozen; have lm := Bm.lt
                  obtain ⟨ce0, ce1⟩ := cells2 Be
                  have fe := Be.frozen; have le := Be.lt
                  obtain ⟨cp0, cp1⟩ := cells2 Bp
                  have fp := Bp.frozen; have lp := Bp.lt
                  obtain ⟨cq0, cq1⟩ := cells2 Bq
                  have fq := Bq.frozen; have lq := Bq.lt
                  cases x1
                  · go_upto_region 16 with fail
                    have eG := H5.out; simp only [PlainTnum.inner, PlainTnum.sel, PlainTnum.put, PlainTnum.bitSum, Bool.true_and, Bool.and_true, Bool.false_and, Bool.and_false, Bool.xor_false, Bool.false_xor, Bool.true_xor, Bool.xor_true, Bool.not_true, Bool.not_false, Bool.or_true, Bool.true_or, Bool.or_false, Bool.false_or, Bool.false_eq_true, if_true, if_false, ↓reduceIte] at eG
                    clear ca0 ca1 fa la
                    clear cb0 cb1 fb lb
                    clear cr0 cr1 fr lr
                    clear co0 co1 fo lo
                    clear cc0 cc1 fc lc
                    clear cm0 cm1 fm lm
                    clear ce0 ce1 fe le
                    clear cp0 cp1 fp lp
                    clear cq0 cq1 fq lq
                    replace Bm : Blk wl2 (gm) 89 #[.bool (V 6).1.1, .bool (V 6).1.2] := by rw [eG]; exact Bm
                    replace Be : Blk wl2 (ge) 89 #[.bool (V 6).2.1, .bool (V 6).2.2] := by rw [eG]; exact Be
                    clear eG
                    go_wp2_with fail
                    go_roundg 0
                    case measure => omega
                    case rel => exact ⟨hB, Ba, Bb, Br, Bo, Bc, Bp, Bq, .inr (.inr ⟨rfl, by go_num, Bm, Be⟩)⟩
                  · cases y0
                    · go_upto_region 16 with fail
                      have eG := H5.out; simp only [PlainTnum.inner, PlainTnum.sel, PlainTnum.put, PlainTnum.bitSum, Bool.true_and, Bool.and_true, Bool.false_and, Bool.and_false, Bool.xor_false, Bool.false_xor, Bool.true_xor, Bool.xor_true, Bool.not_true, Bool.not_false, Bool.or_true, Bool.true_or, Bool.or_false, Bool.false_or, Bool.false_eq_true, if_true, if_false, ↓reduceIte] at eG
                      clear ca0 ca1 fa la
                      clear cb0 cb1 fb lb
                      clear cr0 cr1 fr lr
                      clear co0 co1 fo lo
                      clear cc0 cc1 fc lc
                      clear cm0 cm1 fm lm
                      clear ce0 ce1 fe le
                      clear cp0 cp1 fp lp
                      clear cq0 cq1 fq lq
                      replace Bm : Blk wl2 (gm) 89 #[.bool (V 6).1.1, .bool (V 6).1.2] := by rw [eG]; exact Bm
                      replace Be : Blk wl2 (ge) 89 #[.bool (V 6).2.1, .bool (V 6).2.2] := by rw [eG]; exact Be
                      clear eG
                      go_wp2_with fail
                      go_roundg 0
                      case measure => omega
                      case rel => exact ⟨hB, Ba, Bb, Br, Bo, Bc, Bp, Bq, .inr (.inr ⟨rfl, by go_num, Bm, Be⟩)⟩
                    · cases c1
                      · go_upto_region 16 with fail
                        have eG := H5.out; simp only [PlainTnum.inner, PlainTnum.sel, PlainTnum.put, PlainTnum.bitSum, Bool.true_and, Bool.and_true, Bool.false_and, Bool.and_false, Bool.xor_false, Bool.false_xor, Bool.true_xor, Bool.xor_true, Bool.not_true, Bool.not_false, Bool.or_true, Bool.true_or, Bool.or_false, Bool.false_or, Bool.false_eq_true, if_true, if_false, ↓reduceIte] at eG
                        clear ca0 ca1 fa la
                        clear cb0 cb1 fb lb
                        clear cr0 cr1 fr lr
                        clear co0 co1 fo lo
                        clear cc0 cc1 fc lc
                        clear cm0 cm1 fm lm
                        clear ce0 ce1 fe le
                        clear cp0 cp1 fp lp
                        clear cq0 cq1 fq lq
                        replace Bm : Blk wl2 (gm) 89 #[.bool (V 6).1.1, .bool (V 6).1.2] := by rw [eG]; exact Bm
                        replace Be : Blk wl2 (ge) 89 #[.bool (V 6).2.1, .bool (V 6).2.2] := by rw [eG]; exact Be
                        clear eG
                        go_wp2_with fail
                        go_roundg 0
                        case measure => omega
                        case rel => exact ⟨hB, Ba, Bb, Br, Bo, Bc, Bp, Bq, .inr (.inr ⟨rfl, by go_num, Bm, Be⟩)⟩
                      · go_upto_region 16 with fail
                        clear ca0 ca1 fa la
                        clear cb0 cb1 fb lb
                        clear cr0 cr1 fr lr
                        clear co0 co1 fo lo
                        clear cc0 cc1 fc lc
                        clear cm0 cm1 fm lm
                        clear ce0 ce1 fe le
                        clear cp0 cp1 fp lp
                        clear cq0 cq1 fq lq
                        replace Ba : Blk (wl2.setCell ⟨gm, 0, none⟩ (.bool true)) (w.heap.size) 24 #[uv a.v, uv a.m] := (Ba.far (by first | (simp; done) | (simp; omega) | (simp [*]; done) | (simp only [ne_eq]; constructor <;> omega)) _)
                        replace Bb : Blk (wl2.setCell ⟨gm, 0, none⟩ (.bool true)) (w.heap.size + 1) 24 #[uv b.v, uv b.m] := (Bb.far (by first | (simp; done) | (simp; omega) | (simp [*]; done) | (simp only [ne_eq]; constructor <;> omega)) _)
                        replace Br : Blk (wl2.setCell ⟨gm, 0, none⟩ (.bool true)) (w.heap.size + 1 + 1) 24 #[x, y] := (Br.far (by first | (simp; done) | (simp; omega) | (simp [*]; done) | (simp only [ne_eq]; constructor <;> omega)) _)
                        replace Bo : Blk (wl2.setCell ⟨gm, 0, none⟩ (.bool true)) (w.heap.size + 1 + 1 + 1) 24 #[uv (F n).v, uv (F n).m] := (Bo.far (by first | (simp; done) | (simp; omega) | (simp [*]; done) | (simp only [ne_eq]; constructor <;> omega)) _)
                        replace Bc : Blk (wl2.setCell ⟨gm, 0, none⟩ (.bool true)) (w.heap.size + 1 + 1 + 1 + 1) 89 #[.bool c0, .bool true] := (Bc.far (by first | (simp; done) | (simp; omega) | (simp [*]; done) | (simp only [ne_eq]; constructor <;> omega)) _)
                        replace Bm : Blk (wl2.setCell ⟨gm, 0, none⟩ (.bool true)) (gm) 89 #[.bool true, .bool (V 5).1.2] := Bm.set_ 0 _
                        replace Be : Blk (wl2.setCell ⟨gm, 0, none⟩ (.bool true)) (ge) 89 #[.bool (V 5).2.1, .bool (V 5).2.2] := (Be.far (by first | (simp; done) | (simp; omega) | (simp [*]; done) | (simp only [ne_eq]; constructor <;> omega)) _)
                        replace Bp : Blk (wl2.setCell ⟨gm, 0, none⟩ (.bool true)) (gp) 89 #[.bool x0, .bool true] := (Bp.far (by first | (simp; done) | (simp; omega) | (simp [*]; done) | (simp only [ne_eq]; constructor <;> omega)) _)
                        replace Bq : Blk (wl2.setCell ⟨gm, 0, none⟩ (.bool true)) (gq) 89 #[.bool true, .bool y1] := (Bq.far (by first | (simp; done) | (simp; omega) | (simp [*]; done) | (simp only [ne_eq]; constructor <;> omega)) _)
                        replace hB : Below w.heap.size w (wl2.setCell ⟨gm, 0, none⟩ (.bool true)) := (Bl_set hB (by first | omega | (simp; done) | (simp; omega)) _)
                        replace Ba : Blk ((wl2.setCell ⟨gm, 0, none⟩ (.bool true)).setCell ⟨ge, 1, none⟩ (.bool true)) (w.heap.size) 24 #[uv a.v, uv a.m] := (Ba.far (by first | (simp; done) | (simp; omega) | (simp [*]; done) | (simp only [ne_eq]; constructor <;> omega)) _)
                        replace Bb : Blk ((wl2.setCell ⟨gm, 0, none⟩ (.bool true)).setCell ⟨ge, 1, none⟩ (.bool true)) (w.heap.size + 1) 24 #[uv b.v, uv b.m] := (Bb.far (by first | (simp; done) | (simp; omega) | (simp [*]; done) | (simp only [ne_eq]; constructor <;> omega)) _)
                        replace Br : Blk ((wl2.setCell ⟨gm, 0, none⟩ (.bool true)).setCell ⟨ge, 1, none⟩ (.bool true)) (w.heap.size + 1 + 1) 24 #[x, y] := (Br.far (by first | (simp; done) | (simp; omega) | (simp [*]; done) | (simp only [ne_eq]; constructor <;> omega)) _)
                        replace Bo : Blk ((wl2.setCell ⟨gm, 0, none⟩ (.bool true)).setCell ⟨ge, 1, none⟩ (.bool true)) (w.heap.size + 1 + 1 + 1) 24 #[uv (F n).v, uv (F n).m] := (Bo.far (by first | (simp; done) | (simp; omega) | (simp [*]; done) | (simp only [ne_eq]; constructor <;> omega)) _)
                        replace Bc : Blk ((wl2.setCell ⟨gm, 0, none⟩ (.bool true)).setCell ⟨ge, 1, none⟩ (.bool true)) (w.heap.size + 1 + 1 + 1 + 1) 89 #[.bool c0, .bool true] := (Bc.far (by first | (simp; done) | (simp; omega) | (simp [*]; done) | (simp only [ne_eq]; constructor <;> omega)) _)
                        replace Bm : Blk ((wl2.setCell ⟨gm, 0, none⟩ (.bool true)).setCell ⟨ge, 1, none⟩ (.bool true)) (gm) 89 #[.bool true, .bool (V 5).1.2] := (Bm.far (by first | (simp; done) | (simp; omega) | (simp [*]; done) | (simp only [ne_eq]; constructor <;> omega)) _)
                        replace Be : Blk ((wl2.setCell ⟨gm, 0, none⟩ (.bool true)).setCell ⟨ge, 1, none⟩ (.bool true)) (ge) 89 #[.bool (V 5).2.1, .bool true] := Be.set_ 1 _
                        replace Bp : Blk ((wl2.setCell ⟨gm, 0, none⟩ (.bool true)).setCell ⟨ge, 1, none⟩ (.bool true)) (gp) 89 #[.bool x0, .bool true] := (Bp.far (by first | (simp; done) | (simp; omega) | (simp [*]; done) | (simp only [ne_eq]; constructor <;> omega)) _)
                        replace Bq : Blk ((wl2.setCell ⟨gm, 0, none⟩ (.bool true)).setCell ⟨ge, 1, none⟩ (.bool true)) (gq) 89 #[.bool true, .bool y1] := (Bq.far (by first | (simp; done) | (simp; omega) | (simp [*]; done) | (simp only [ne_eq]; constructor <;> omega)) _)
                        replace hB : Below w.heap.size w ((wl2.setCell ⟨gm, 0, none⟩ (.bool true)).setCell ⟨ge, 1, none⟩ (.bool true)) := (Bl_set hB (by first | omega | (simp; done) | (simp; omega)) _)
                        generalize ((wl2.setCell ⟨gm, 0, none⟩ (.bool true)).setCell ⟨ge, 1, none⟩ (.bool true)) = w5 at *
                        obtain ⟨ca0, ca1⟩ := cells2 Ba
                        have fa := Ba.frozen; have la := Ba.lt
                        obtain ⟨cb0, cb1⟩ := cells2 Bb
                        have fb := Bb.frozen; have lb := Bb.lt
                        obtain ⟨cr0, cr1⟩ := cells2 Br
                        have fr := Br.frozen; have lr := Br.lt
                        obtain ⟨co0, co1⟩ := cells2 Bo
                        have fo := Bo.frozen; have lo := Bo.lt
                        obtain ⟨cc0, cc1⟩ := cells2 Bc
                        have fc := Bc.frozen; have lc := Bc.lt
                        obtain ⟨cm0, cm1⟩ := cells2 Bm
                        have fm := Bm.frozen; have lm := Bm.lt
                        obtain ⟨ce0, ce1⟩ := cells2 Be
                        have fe := Be.frozen; have le := Be.lt
                        obtain ⟨cp0, cp1⟩ := cells2 Bp
                        have fp := Bp.frozen; have lp := Bp.lt
                        obtain ⟨cq0, cq1⟩ := cells2 Bq
                        have fq := Bq.frozen; have lq := Bq.lt
                        have eG := H5.out; simp only [PlainTnum.inner, PlainTnum.sel, PlainTnum.put, PlainTnum.bitSum, Bool.true_and, Bool.and_true, Bool.false_and, Bool.and_false, Bool.xor_false, Bool.false_xor, Bool.true_xor, Bool.xor_true, Bool.not_true, Bool.not_false, Bool.or_true, Bool.true_or, Bool.or_false, Bool.false_or, Bool.false_eq_true, if_true, if_false, ↓reduceIte] at eG
                        clear ca0 ca1 fa la
                        clear cb0 cb1 fb lb
                        clear cr0 cr1 fr lr
                        clear co0 co1 fo lo
                        clear cc0 cc1 fc lc
                        clear cm0 cm1 fm lm
                        clear ce0 ce1 fe le
                        clear cp0 cp1 fp lp
                        clear cq0 cq1 fq lq
                        replace Bm : Blk w5 (gm) 89 #[.bool (V 6).1.1, .bool (V 6).1.2] := by rw [eG]; exact Bm
                        replace Be : Blk w5 (ge) 89 #[.bool (V 6).2.1, .bool (V 6).2.2] := by rw [eG]; exact Be
                        clear eG
                        go_wp2_with fail
                        go_roundg 0
                        case measure => omega
                        case rel => exact ⟨hB, Ba, Bb, Br, Bo, Bc, Bp, Bq, .inr (.inr ⟨rfl, by go_num, Bm, Be⟩)⟩
                · obtain ⟨wl2, rfl⟩ : ∃ z : World, z = wr := ⟨_, rfl⟩
                  obtain ⟨ca0, ca1⟩ := cells2 Ba
                  have fa := Ba.frozen; have la := Ba.lt
                  obtain ⟨cb0, cb1⟩ := cells2 Bb
                  have fb := Bb.frozen; have lb := Bb.lt
                  obtain ⟨cr0, cr1⟩ := cells2 Br
                  have fr := Br.frozen; have lr := Br.lt
                  obtain ⟨co0, co1⟩ := cells2 Bo
                  have fo := Bo.frozen; have lo := Bo.lt
                  obtain ⟨cc0, cc1⟩ := cells2 Bc
                  have fc := Bc.frozen; have lc := Bc.lt
                  obtain ⟨cm0, cm1⟩ := cells2 Bm
                  have fm := Bm.frozen; have lm := Bm.lt
                  obtain ⟨ce0, ce1⟩ := cells2 Be
                  have fe := Be.frozen; have le := Be.lt
                  obtain ⟨cp0, cp1⟩ := cells2 Bp
                  have fp := Bp.frozen; have lp := Bp.lt
                  obtain ⟨cq0, cq1⟩ := cells2 Bq
                  have fq := Bq.frozen; have lq := Bq.lt
                  go_wp2_with fail
                  go_roundg 1
                  case measure => omega
                  case rel => exact ⟨hB, Ba, Bb, Br, Bo, Bc, Bp, Bq, .inr (.inl ⟨rfl, by go_num, Bm, Be⟩)⟩
            · obtain ⟨wl1, rfl⟩ : ∃ z : World, z = wr := ⟨_, rfl⟩
              obtain ⟨ca0, ca1⟩ := cells2 Ba
              have fa := Ba.frozen; have la := Ba.lt
              obtain ⟨cb0, cb1⟩ := cells2 Bb
              have fb := Bb.frozen; have lb := Bb.lt
              obtain ⟨cr0, cr1⟩ := cells2 Br
              have fr := Br.frozen; have lr := Br.lt
              obtain ⟨co0, co1⟩ := cells2 Bo
              have fo := Bo.frozen; have lo := Bo.lt
              obtain ⟨cc0, cc1⟩ := cells2 Bc
              have fc := Bc.frozen; have lc := Bc.lt
              obtain ⟨cm0, cm1⟩ := cells2 Bm
              have fm := Bm.frozen; have lm := Bm.lt
              obtain ⟨ce0, ce1⟩ := cells2 Be
              have fe := Be.frozen; have le := Be.lt
              obtain ⟨cp0, cp1⟩ := cells2 Bp
              have fp := Bp.frozen; have lp := Bp.lt
              obtain ⟨cq0, cq1⟩ := cells2 Bq
              have fq := Bq.frozen; have lq := Bq.lt
              go_wp2_with fail
              clear ca0 ca1 fa la
              clear cb0 cb1 fb lb
              clear cr0 cr1 fr lr
              clear co0 co1 fo lo
              clear cc0 cc1 fc lc
              clear cm0 cm1 fm lm
              clear ce0 ce1 fe le
              clear cp0 cp1 fp lp
              clear cq0 cq1 fq lq
              go_loopg [16] 2 (fun m i wr => Below w.heap.size w wr ∧ Blk wr (w.heap.size) 24 #[uv a.v, uv a.m] ∧ Blk wr (w.heap.size + 1) 24 #[uv b.v, uv b.m] ∧ Blk wr (w.heap.size + 1 + 1) 24 #[x, y] ∧ Blk wr (w.heap.size + 1 + 1 + 1) 24 #[uv (F n).v, uv (F n).m] ∧ Blk wr (w.heap.size + 1 + 1 + 1 + 1) 89 #[.bool c0, .bool c1] ∧ Blk wr (gp) 89 #[.bool x0, .bool x1] ∧ Blk wr (gq) 89 #[.bool y0, .bool y1] ∧ ((m = 2 ∧ i = .int .i64 0 ∧ Blk wr (gm) 89 #[.bool (V 6).1.1, .bool (V 6).1.2] ∧ Blk wr (ge) 89 #[.bool (V 6).2.1, .bool (V 6).2.2]) ∨ (m = 1 ∧ i = .int .i64 1 ∧ Blk wr (gm) 89 #[.bool (V 7).1.1, .bool (V 7).1.2] ∧ Blk wr (ge) 89 #[.bool (V 7).2.1, .bool (V 7).2.2]) ∨ (m = 0 ∧ i = .int .i64 2 ∧ Blk wr (gm) 89 #[.bool (V 8).1.1, .bool (V 8).1.2] ∧ Blk wr (ge) 89 #[.bool (V 8).2.1, .bool (V 8).2.2])))
              case atStart => exact ⟨hB, Ba, Bb, Br, Bo, Bc, Bp, Bq, .inl ⟨rfl, rfl, Bm, Be⟩⟩
              case round =>
                rename Nat => gh2
                clear hB Ba Bb Br Bo Bc Bp Bq Bm Be
                obtain ⟨hB, Ba, Bb, Br, Bo, Bc, Bp, Bq, ⟨hm, rfl, Bm, Be⟩ | ⟨hm, rfl, Bm, Be⟩ | ⟨hm, rfl, Bm, Be⟩⟩ := hrel
                · obtain ⟨wl2, rfl⟩ : ∃ z : World, z = wr := ⟨_, rfl⟩
                  obtain ⟨ca0, ca1⟩ := cells2 Ba
                  have fa := Ba.frozen; have la := Ba.lt
                  obtain ⟨cb0, cb1⟩ := cells2 Bb
                  have fb := Bb.frozen; have lb := Bb.lt
                  obtain ⟨cr0, cr1⟩ := cells2 Br
                  have fr := Br.frozen; have lr := Br.lt
                  obtain ⟨co0, co1⟩ := cells2 Bo
                  have fo := Bo.frozen; have lo := Bo.lt
                  obtain ⟨cc0, cc1⟩ := cells2 Bc
                  have fc := Bc.frozen; have lc := Bc.lt
                  obtain ⟨cm0, cm1⟩ := cells2 Bm
                  have fm := Bm.frozen; have lm := Bm.lt
                  obtain ⟨ce0, ce1⟩ := cells2 Be
                  have fe := Be.frozen; have le := Be.lt
                  obtain ⟨cp0, cp1⟩ := cells2 Bp
                  have fp := Bp.frozen; have lp := Bp.lt
                  obtain ⟨cq0, cq1⟩ := cells2 Bq
                  have fq := Bq.frozen; have lq := Bq.lt
                  cases x1
                  · go_upto_region 16 with fail
                    have eG := H6.out; simp only [PlainTnum.inner, PlainTnum.sel, PlainTnum.put, PlainTnum.bitSum, Bool.true_and, Bool.and_true, Bool.false_and, Bool.and_false, Bool.xor_false, Bool.false_xor, Bool.true_xor, Bool.xor_true, Bool.not_true, Bool.not_false, Bool.or_true, Bool.true_or, Bool.or_false, Bool.false_or, Bool.false_eq_true, if_true, if_false, ↓reduceIte] at eG
                    clear ca0 ca1 fa la
                    clear cb0 cb1 fb lb
                    clear cr0 cr1 fr lr
                    clear co0 co1 fo lo
                    clear cc0 cc1 fc lc
                    clear cm0 cm1 fm lm
                    clear ce0 ce1 fe le
                    clear cp0 cp1 fp lp
                    clear cq0 cq1 fq lq
                    replace Bm : Blk wl2 (gm) 89 #[.bool (V 7).1.1, .bool (V 7).1.2] := by rw [eG]; exact Bm
                    replace Be : Blk wl2 (ge) 89 #[.bool (V 7).2.1, .bool (V 7).2.2] := by rw [eG]; exact Be
                    clear eG
                    go_wp2_with fail
                    go_roundg 1
                    case measure => omega
                    case rel => exact ⟨hB, Ba, Bb, Br, Bo, Bc, Bp, Bq, .inr (.inl ⟨rfl, by go_num, Bm, Be⟩)⟩
                  · cases y1
                    · go_upto_region 16 with fail
                      have eG := H6.out; simp only [PlainTnum.inner, PlainTnum.sel, PlainTnum.put, PlainTnum.bitSum, Bool.true_and, Bool.and_true, Bool.false_and, Bool.and_false, Bool.xor_false, Bool.false_xor, Bool.true_xor, Bool.xor_true, Bool.not_true, Bool.not_false, Bool.or_true, Bool.true_or, Bool.or_false, Bool.false_or, Bool.false_eq_true, if_true, if_false, ↓reduceIte] at eG
                      clear ca0 ca1 fa la
                      clear cb0 cb1 fb lb
                      clear cr0 cr1 fr lr
                      clear co0 co1 fo lo
                      clear cc0 cc1 fc lc
                      clear cm0 cm1 fm lm
                      clear ce0 ce1 fe le
                      clear cp0 cp1 fp lp
                      clear cq0 cq1 fq lq
                      replace Bm : Blk wl2 (gm) 89 #[.bool (V 7).1.1, .bool (V 7).1.2] := by rw [eG]; exact Bm
                      replace Be : Blk wl2 (ge) 89 #[.bool (V 7).2.1, .bool (V 7).2.2] := by rw [eG]; exact Be
                      clear eG
                      go_wp2_with fail
                      go_roundg 1
                      case measure => omega
                      case rel => exact ⟨hB, Ba, Bb, Br, Bo, Bc, Bp, Bq, .inr (.inl ⟨rfl, by go_num, Bm, Be⟩)⟩
                    · cases c0
                      · go_upto_region 16 with fail
                        have eG := H6.out; simp only [PlainTnum.inner, PlainTnum.sel, PlainTnum.put, PlainTnum.bitSum, Bool.true_and, Bool.and_true, Bool.false_and, Bool.and_false, Bool.xor_false, Bool.false_xor, Bool.true_xor, Bool.xor_true, Bool.not_true, Bool.not_false, Bool.or_true, Bool.true_or, Bool.or_false, Bool.false_or, Bool.false_eq_true, if_true, if_false, ↓reduceIte] at eG
                        clear ca0 ca1 fa la
                        clear cb0 cb1 fb lb
                        clear cr0 cr1 fr lr
                        clear co0 co1 fo lo
                        clear cc0 cc1 fc lc
                        clear cm0 cm1 fm lm
                        clear ce0 ce1 fe le
                        clear cp0 cp1 fp lp
                        clear cq0 cq1 fq lq
                        replace Bm : Blk wl2 (gm) 89 #[.bool (V 7).1.1, .bool (V 7).1.2] := by rw [eG]; exact Bm
                        replace Be : Blk wl2 (ge) 89 #[.bool (V 7).2.1, .bool (V 7).2.2] := by rw [eG]; exact Be
                        clear eG
                        go_wp2_with fail
                        go_roundg 1
                        case measure => omega
                        case rel => exact ⟨hB, Ba, Bb, Br, Bo, Bc, Bp, Bq, .inr (.inl ⟨rfl, by go_num, Bm, Be⟩)⟩
                      · go_upto_region 16 with fail
                        clear ca0 ca1 fa la
                        clear cb0 cb1 fb lb
                        clear cr0 cr1 fr lr
                        clear co0 co1 fo lo
                        clear cc0 cc1 fc lc
                        clear cm0 cm1 fm lm
                        clear ce0 ce1 fe le
                        clear cp0 cp1 fp lp
                        clear cq0 cq1 fq lq
                        replace Ba : Blk (wl2.setCell ⟨gm, 0, none⟩ (.bool true)) (w.heap.size) 24 #[uv a.v, uv a.m] := (Ba.far (by first | (simp; done) | (simp; omega) | (simp [*]; done) | (simp only [ne_eq]; constructor <;> omega)) _)
                        replace Bb : Blk (wl2.setCell ⟨gm, 0, none⟩ (.bool true)) (w.heap.size + 1) 24 #[uv b.v, uv b.m] := (Bb.far (by first | (simp; done) | (simp; omega) | (simp [*]; done) | (simp only [ne_eq]; constructor <;> omega)) _)
                        replace Br : Blk (wl2.setCell ⟨gm, 0, none⟩ (.bool true)) (w.heap.size + 1 + 1) 24 #[x, y] := (Br.far (by first | (simp; done) | (simp; omega) | (simp [*]; done) | (simp only [ne_eq]; constructor <;> omega)) _)
                        replace Bo : Blk (wl2.setCell ⟨gm, 0, none⟩ (.bool true)) (w.heap.size + 1 + 1 + 1) 24 #[uv (F n).v, uv (F n).m] := (Bo.far (by first | (simp; done) | (simp; omega) | (simp [*]; done) | (simp only [ne_eq]; constructor <;> omega)) _)
                        replace Bc : Blk (wl2.setCell ⟨gm, 0, none⟩ (.bool true)) (w.heap.size + 1 + 1 + 1 + 1) 89 #[.bool true, .bool c1] := (Bc.far (by first | (simp; done) | (simp; omega) | (simp [*]; done) | (simp only [ne_eq]; constructor <;> omega)) _)
                        replace Bm : Blk (wl2.setCell ⟨gm, 0, none⟩ (.bool true)) (gm) 89 #[.bool true, .bool (V 6).1.2] := Bm.set_ 0 _
                        replace Be : Blk (wl2.setCell ⟨gm, 0, none⟩ (.bool true)) (ge) 89 #[.bool (V 6).2.1, .bool (V 6).2.2] := (Be.far (by first | (simp; done) | (simp; omega) | (simp [*]; done) | (simp only [ne_eq]; constructor <;> omega)) _)
                        replace Bp : Blk (wl2.setCell ⟨gm, 0, none⟩ (.bool true)) (gp) 89 #[.bool x0, .bool true] := (Bp.far (by first | (simp; done) | (simp; omega) | (simp [*]; done) | (simp only [ne_eq]; constructor <;> omega)) _)
                        replace Bq : Blk (wl2.setCell ⟨gm, 0, none⟩ (.bool true)) (gq) 89 #[.bool y0, .bool true] := (Bq.far (by first | (simp; done) | (simp; omega) | (simp [*]; done) | (simp only [ne_eq]; constructor <;> omega)) _)
                        replace hB : Below w.heap.size w (wl2.setCell ⟨gm, 0, none⟩ (.bool true)) := (Bl_set hB (by first | omega | (simp; done) | (simp; omega)) _)
                        replace Ba : Blk ((wl2.setCell ⟨gm, 0, none⟩ (.bool true)).setCell ⟨ge, 1, none⟩ (.bool true)) (w.heap.size) 24 #[uv a.v, uv a.m] := (Ba.far (by first | (simp; done) | (simp; omega) | (simp [*]; done) | (simp only [ne_eq]; constructor <;> omega)) _)
                        replace Bb : Blk ((wl2.setCell ⟨gm, 0, none⟩ (.bool true)).setCell ⟨ge, 1, none⟩ (.bool true)) (w.heap.size + 1) 24 #[uv b.v, uv b.m] := (Bb.far (by first | (simp; done) | (simp; omega) | (simp [*]; done) | (simp only [ne_eq]; constructor <;> omega)) _)
                        replace Br : Blk ((wl2.setCell ⟨gm, 0, none⟩ (.bool true)).setCell ⟨ge, 1, none⟩ (.bool true)) (w.heap.size + 1 + 1) 24 #[x, y] := (Br.far (by first | (simp; done) | (simp; omega) | (simp [*]; done) | (simp only [ne_eq]; constructor <;> omega)) _)
                        replace Bo : Blk ((wl2.setCell ⟨gm, 0, none⟩ (.bool true)).setCell ⟨ge, 1, none⟩ (.bool true)) (w.heap.size + 1 + 1 + 1) 24 #[uv (F n).v, uv (F n).m] := (Bo.far (by first | (simp; done) | (simp; omega) | (simp [*]; done) | (simp only [ne_eq]; constructor <;> omega)) _)
                        replace Bc : Blk ((wl2.setCell ⟨gm, 0, none⟩ (.bool true)).setCell ⟨ge, 1, none⟩ (.bool true)) (w.heap.size + 1 + 1 + 1 + 1) 89 #[.bool true, .bool c1] := (Bc.far (by first | (simp; done) | (simp; omega) | (simp [*]; done) | (simp only [ne_eq]; constructor <;> omega)) _)
                        replace Bm : Blk ((wl2.setCell ⟨gm, 0, none⟩ (.bool true)).setCell ⟨ge, 1, none⟩ (.bool true)) (gm) 89 #[.bool true, .bool (V 6).1.2] := (Bm.far (by first | (simp; done) | (simp; omega) | (simp [*]; done) | (simp only [ne_eq]; constructor <;> omega)) _)
                        replace Be : Blk ((wl2.setCell ⟨gm, 0, none⟩ (.bool true)).setCell ⟨ge, 1, none⟩ (.bool true)) (ge) 89 #[.bool (V 6).2.1, .bool true] := Be.set_ 1 _
                        replace Bp : Blk ((wl2.setCell ⟨gm, 0, none⟩ (.bool true)).setCell ⟨ge, 1, none⟩ (.bool true)) (gp) 89 #[.bool x0, .bool true] := (Bp.far (by first | (simp; done) | (simp; omega) | (simp [*]; done) | (simp only [ne_eq]; constructor <;> omega)) _)
                        replace Bq : Blk ((wl2.setCell ⟨gm, 0, none⟩ (.bool true)).setCell ⟨ge, 1, none⟩ (.bool true)) (gq) 89 #[.bool y0, .bool true] := (Bq.far (by first | (simp; done) | (simp; omega) | (simp [*]; done) | (simp only [ne_eq]; constructor <;> omega)) _)
                        replace hB : Below w.heap.size w ((wl2.setCell ⟨gm, 0, none⟩ (.bool true)).setCell ⟨ge, 1, none⟩ (.bool true)) := (Bl_set hB (by first | omega | (simp; done) | (simp; omega)) _)
                        generalize ((wl2.setCell ⟨gm, 0, none⟩ (.bool true)).setCell ⟨ge, 1, none⟩ (.bool true)) = w5 at *
                        obtain ⟨ca0, ca1⟩ := cells2 Ba
                        have fa := Ba.frozen; have la := Ba.lt
                        obtain ⟨cb0, cb1⟩ := cells2 Bb
                        have fb := Bb.frozen; have lb := Bb.lt
                        obtain ⟨cr0, cr1⟩ := cells2 Br
                        have fr := Br.frozen; have lr := Br.lt
                        obtain ⟨co0, co1⟩ := cells2 Bo
                        have fo := Bo.frozen; have lo := Bo.lt
                        obtain ⟨cc0, cc1⟩ := cells2 Bc
                        have fc := Bc.frozen; have lc := Bc.lt
                        obtain ⟨cm0, cm1⟩ := cells2 Bm
                        have fm := Bm.frozen; have lm := Bm.lt
                        obtain ⟨ce0, ce1⟩ := cells2 Be
                        have fe := Be.frozen; have le := Be.lt
                        obtain ⟨cp0, cp1⟩ := cells2 Bp
                        have fp := Bp.frozen; have lp := Bp.lt
                        obtain ⟨cq0, cq1⟩ := cells2 Bq
                        have fq := Bq.frozen; have lq := Bq.lt
                        have eG := H6.out; simp only [PlainTnum.inner, PlainTnum.sel, PlainTnum.put, PlainTnum.bitSum, Bool.true_and, Bool.and_true, Bool.false_and, Bool.and_false, Bool.xor_false, Bool.false_xor, Bool.true_xor, Bool.xor_true, Bool.not_true, Bool.not_false, Bool.or_true, Bool.true_or, Bool.or_false, Bool.false_or, Bool.false_eq_true, if_true, if_false, ↓reduceIte] at eG
                        clear ca0 ca1 fa la
                        clear cb0 cb1 fb lb
                        clear cr0 cr1 fr lr
                        clear co0 co1 fo lo
                        clear cc0 cc1 fc lc
                        clear cm0 cm1 fm lm
                        clear ce0 ce1 fe le
                        clear cp0 cp1 fp lp
                        clear cq0 cq1 fq lq
                        replace Bm : Blk w5 (gm) 89 #[.bool (V 7).1.1, .bool (V 7).1.2] := by rw [eG]; exact Bm
                        replace Be : Blk w5 (ge) 89 #[.bool (V 7).2.1, .bool (V 7).2.2] := by rw [eG]; exact Be
                        clear eG
                        go_wp2_with fail
                        go_roundg 1
                        case measure => omega
                        case rel => exact ⟨hB, Ba, Bb, Br, Bo, Bc, Bp, Bq, .inr (.inl ⟨rfl, by go_num, Bm, Be⟩)⟩
                · obtain ⟨wl2, rfl⟩ : ∃ z : World, z = wr := ⟨_, rfl⟩
                  obtain ⟨ca0, ca1⟩ := cells2 Ba
                  have fa := Ba.frozen; have la := Ba.lt
                  obtain ⟨cb0, cb1⟩ := cells2 Bb
                  have fb := Bb.frozen; have lb := Bb.lt
                  obtain ⟨cr0, cr1⟩ := cells2 Br
                  have fr := Br.frozen; have lr := Br.lt
                  obtain ⟨co0, co1⟩ := cells2 Bo
                  have fo := Bo.frozen; have lo := Bo.lt
                  obtain ⟨cc0, cc1⟩ := cells2 Bc
                  have fc := Bc.frozen; have lc := Bc.lt
                  obtain ⟨cm0, cm1⟩ := cells2 Bm
                  have fm := Bm.frozen; have lm := Bm.lt
                  obtain ⟨ce0, ce1⟩ := cells2 Be
                  have fe := Be.frozen; have le := Be.lt
                  obtain ⟨cp0, cp1⟩ := cells2 Bp
                  have fp := Bp.frozen; have lp := Bp.lt
                  obtain ⟨cq0, cq1⟩ := cells2 Bq
                  have fq := Bq.frozen; have lq := Bq.lt
                  cases x1
                  · go_upto_region 16 with fail
                    have eG := H7.out; simp only [PlainTnum.inner, PlainTnum.sel, PlainTnum.put, PlainTnum.bitSum, Bool.true_and, Bool.and_true, Bool.false_and, Bool.and_false, Bool.xor_false, Bool.false_xor, Bool.true_xor, Bool.xor_true, Bool.not_true, Bool.not_false, Bool.or_true, Bool.true_or, Bool.or_false, Bool.false_or, Bool.false_eq_true, if_true, if_false, ↓reduceIte] at eG
                    clear ca0 ca1 fa la
                    clear cb0 cb1 fb lb
                    clear cr0 cr1 fr lr
                    clear co0 co1 fo lo
                    clear cc0 cc1 fc lc
                    clear cm0 cm1 fm lm
                    clear ce0 ce1 fe le
                    clear cp0 cp1 fp lp
                    clear cq0 cq1 fq lq
                    replace Bm : Blk wl2 (gm) 89 #[.bool (V 8).1.1, .bool (V 8).1.2] := by rw [eG]; exact Bm
                    replace Be : Blk wl2 (ge) 89 #[.bool (V 8).2.1, .bool (V 8).2.2] := by rw [eG]; exact Be
                    clear eG
                    go_wp2_with fail
                    go_roundg 0
                    case measure => omega
                    case rel => exact ⟨hB, Ba, Bb, Br, Bo, Bc, Bp, Bq, .inr (.inr ⟨rfl, by go_num, Bm, Be⟩)⟩
                  · cases y1
                    · go_upto_region 16 with fail
                      have eG := H7.out; simp only [PlainTnum.inner, PlainTnum.sel, PlainTnum.put, PlainTnum.bitSum, Bool.true_and, Bool.and_true, Bool.false_and, Bool.and_false, Bool.xor_false, Bool.false_xor, Bool.true_xor, Bool.xor_true, Bool.not_true, Bool.not_false, Bool.or_true, Bool.true_or, Bool.or_false, Bool.false_or, Bool.false_eq_true, if_true, if_false, ↓reduceIte] at eG
                      clear ca0 ca1 fa la
                      clear cb0 cb1 fb lb
                      clear cr0 cr1 fr lr
                      clear co0 co1 fo lo
                      clear cc0 cc1 fc lc
                      clear cm0 cm1 fm lm
                      clear ce0 ce1 fe le
                      clear cp0 cp1 fp lp
                      clear cq0 cq1 fq lq
                      replace Bm : Blk wl2 (gm) 89 #[.bool (V 8).1.1, .bool (V 8).1.2] := by rw [eG]; exact Bm
                      replace Be : Blk wl2 (ge) 89 #[.bool (V 8).2.1, .bool (V 8).2.2] := by rw [eG]; exact Be
                      clear eG
                      go_wp2_with fail
                      go_roundg 0
                      case measure => omega
                      case rel => exact ⟨hB, Ba, Bb, Br, Bo, Bc, Bp, Bq, .inr (.inr ⟨rfl, by go_num, Bm, Be⟩)⟩
                    · cases c1
                      · go_upto_region 16 with fail
                        have eG := H7.out; simp only [PlainTnum.inner, PlainTnum.sel, PlainTnum.put, PlainTnum.bitSum, Bool.true_and, Bool.and_true, Bool.false_and, Bool.and_false, Bool.xor_false, Bool.false_xor, Bool.true_xor, Bool.xor_true, Bool.not_true, Bool.not_false, Bool.or_true, Bool.true_or, Bool.or_false, Bool.false_or, Bool.false_eq_true, if_true, if_false, ↓reduceIte] at eG
                        clear ca0 ca1 fa la
                        clear cb0 cb1 fb lb
                        clear cr0 cr1 fr lr
                        clear co0 co1 fo lo
                        clear cc0 cc1 fc lc
                        clear cm0 cm1 fm lm
                        clear ce0 ce1 fe le
                        clear cp0 cp1 fp lp
                        clear cq0 cq1 fq lq
                        replace Bm : Blk wl2 (gm) 89 #[.bool (V 8).1.1, .bool (V 8).1.2] := by rw [eG]; exact Bm
                        replace Be : Blk wl2 (ge) 89 #[.bool (V 8).2.1, .bool (V 8).2.2] := by rw [eG]; exact Be
                        clear eG
                        go_wp2_with fail
                        go_roundg 0
                        case measure => omega
                        case rel => exact ⟨hB, Ba, Bb, Br, Bo, Bc, Bp, Bq, .inr (.inr ⟨rfl, by go_num, Bm, Be⟩)⟩
                      · go_upto_region 16 with fail
                        clear ca0 ca1 fa la
                        clear cb0 cb1 fb lb
                        clear cr0 cr1 fr lr
                        clear co0 co1 fo lo
                        clear cc0 cc1 fc lc
                        clear cm0 cm1 fm lm
                        clear ce0 ce1 fe le
                        clear cp0 cp1 fp lp
                        clear cq0 cq1 fq lq
                        replace Ba : Blk (wl2.setCell ⟨gm, 1, none⟩ (.bool true)) (w.heap.size) 24 #[uv a.v, uv a.m] := (Ba.far (by first | (simp; done) | (simp; omega) | (simp [*]; done) | (simp only [ne_eq]; constructor <;> omega)) _)
                        replace Bb : Blk (wl2.setCell ⟨gm, 1, none⟩ (.bool true)) (w.heap.size + 1) 24 #[uv b.v, uv b.m] := (Bb.far (by first | (simp; done) | (simp; omega) | (simp [*]; done) | (simp only [ne_eq]; constructor <;> omega)) _)
                        replace Br : Blk (wl2.setCell ⟨gm, 1, none⟩ (.bool true)) (w.heap.size + 1 + 1) 24 #[x, y] := (Br.far (by first | (simp; done) | (simp; omega) | (simp [*]; done) | (simp only [ne_eq]; constructor <;> omega)) _)
                        replace Bo : Blk (wl2.setCell ⟨gm, 1, none⟩ (.bool true)) (w.heap.size + 1 + 1 + 1) 24 #[uv (F n).v, uv (F n).m] := (Bo.far (by first | (simp; done) | (simp; omega) | (simp [*]; done) | (simp only [ne_eq]; constructor <;> omega)) _)
                        replace Bc : Blk (wl2.setCell ⟨gm, 1, none⟩ (.bool true)) (w.heap.size + 1 + 1 + 1 + 1) 89 #[.bool c0, .bool true] := (Bc.far (by first | (simp; done) | (simp; omega) | (simp [*]; done) | (simp only [ne_eq]; constructor <;> omega)) _)
                        replace Bm : Blk (wl2.setCell ⟨gm, 1, none⟩ (.bool true)) (gm) 89 #[.bool (V 7).1.1, .bool true] := Bm.set_ 1 _
                        replace Be : Blk (wl2.setCell ⟨gm, 1, none⟩ (.bool true)) (ge) 89 #[.bool (V 7).2.1, .bool (V 7).2.2] := (Be.far (by first | (simp; done) | (simp; omega) | (simp [*]; done) | (simp only [ne_eq]; constructor <;> omega)) _)
                        replace Bp : Blk (wl2.setCell ⟨gm, 1, none⟩ (.bool true)) (gp) 89 #[.bool x0, .bool true] := (Bp.far (by first | (simp; done) | (simp; omega) | (simp [*]; done) | (simp only [ne_eq]; constructor <;> omega)) _)
                        replace Bq : Blk (wl2.setCell ⟨gm, 1, none⟩ (.bool true)) (gq) 89 #[.bool y0, .bool true] := (Bq.far (by first | (simp; done) | (simp; omega) | (simp [*]; done) | (simp only [ne_eq]; constructor <;> omega)) _)
                        replace hB : Below w.heap.size w (wl2.setCell ⟨gm, 1, none⟩ (.bool true)) := (Bl_set hB (by first | omega | (simp; done) | (simp; omega)) _)
                        replace Ba : Blk ((wl2.setCell ⟨gm, 1, none⟩ (.bool true)).setCell ⟨ge, 1, none⟩ (.bool true)) (w.heap.size) 24 #[uv a.v, uv a.m] := (Ba.far (by first | (simp; done) | (simp; omega) | (simp [*]; done) | (simp only [ne_eq]; constructor <;> omega)) _)
                        replace Bb : Blk ((wl2.setCell ⟨gm, 1, none⟩ (.bool true)).setCell ⟨ge, 1, none⟩ (.bool true)) (w.heap.size + 1) 24 #[uv b.v, uv b.m] := (Bb.far (by first | (simp; done) | (simp; omega) | (simp [*]; done) | (simp only [ne_eq]; constructor <;> omega)) _)
                        replace Br : Blk ((wl2.setCell ⟨gm, 1, none⟩ (.bool true)).setCell ⟨ge, 1, none⟩ (.bool true)) (w.heap.size + 1 + 1) 24 #[x, y] := (Br.far (by first | (simp; done) | (simp; omega) | (simp [*]; done) | (simp only [ne_eq]; constructor <;> omega)) _)
                        replace Bo : Blk ((wl2.setCell ⟨gm, 1, none⟩ (.bool true)).setCell ⟨ge, 1, none⟩ (.bool true)) (w.heap.size + 1 + 1 + 1) 24 #[uv (F n).v, uv (F n).m] := (Bo.far (by first | (simp; done) | (simp; omega) | (simp [*]; done) | (simp only [ne_eq]; constructor <;> omega)) _)
                        replace Bc : Blk ((wl2.setCell ⟨gm, 1, none⟩ (.bool true)).setCell ⟨ge, 1, none⟩ (.bool true)) (w.heap.size + 1 + 1 + 1 + 1) 89 #[.bool c0, .bool true] := (Bc.far (by first | (simp; done) | (simp; omega) | (simp [*]; done) | (simp only [ne_eq]; constructor <;> omega)) _)
                        replace Bm : Blk ((wl2.setCell ⟨gm, 1, none⟩ (.bool true)).setCell ⟨ge, 1, none⟩ (.bool true)) (gm) 89 #[.bool (V 7).1.1, .bool true] := (Bm.far (by first | (simp; done) | (simp; omega) | (simp [*]; done) | (simp only [ne_eq]; constructor <;> omega)) _)
                        replace Be : Blk ((wl2.setCell ⟨gm, 1, none⟩ (.bool true)).setCell ⟨ge, 1, none⟩ (.bool true)) (ge) 89 #[.bool (V 7).2.1, .bool true] := Be.set_ 1 _
                        replace Bp : Blk ((wl2.setCell ⟨gm, 1, none⟩ (.bool true)).setCell ⟨ge, 1, none⟩ (.bool true)) (gp) 89 #[.bool x0, .bool true] := (Bp.far (by first | (simp; done) | (simp; omega) | (simp [*]; done) | (simp only [ne_eq]; constructor <;> omega)) _)
                        replace Bq : Blk ((wl2.setCell ⟨gm, 1, none⟩ (.bool true)).setCell ⟨ge, 1, none⟩ (.bool true)) (gq) 89 #[.bool y0, .bool true] := (Bq.far (by first | (simp; done) | (simp; omega) | (simp [*]; done) | (simp only [ne_eq]; constructor <;> omega)) _)
                        replace hB : Below w.heap.size w ((wl2.setCell ⟨gm, 1, none⟩ (.bool true)).setCell ⟨ge, 1, none⟩ (.bool true)) := (Bl_set hB (by first | omega | (simp; done) | (simp; omega)) _)
                        generalize ((wl2.setCell ⟨gm, 1, none⟩ (.bool true)).setCell ⟨ge, 1, none⟩ (.bool true)) = w5 at *
                        obtain ⟨ca0, ca1⟩ := cells2 Ba
                        have fa := Ba.frozen; have la := Ba.lt
                        obtain ⟨cb0, cb1⟩ := cells2 Bb
                        have fb := Bb.frozen; have lb := Bb.lt
                        obtain ⟨cr0, cr1⟩ := cells2 Br
                        have fr := Br.frozen; have lr := Br.lt
                        obtain ⟨co0, co1⟩ := cells2 Bo
                        have fo := Bo.frozen; have lo := Bo.lt
                        obtain ⟨cc0, cc1⟩ := cells2 Bc
                        have fc := Bc.frozen; have lc := Bc.lt
                        obtain ⟨cm0, cm1⟩ := cells2 Bm
                        have fm := Bm.frozen; have lm := Bm.lt
                        obtain ⟨ce0, ce1⟩ := cells2 Be
                        have fe := Be.frozen; have le := Be.lt
                        obtain ⟨cp0, cp1⟩ := cells2 Bp
                        have fp := Bp.frozen; have lp := Bp.lt
                        obtain ⟨cq0, cq1⟩ := cells2 Bq
                        have fq := Bq.frozen; have lq := Bq.lt
                        have eG := H7.out; simp only [PlainTnum.inner, PlainTnum.sel, PlainTnum.put, PlainTnum.bitSum, Bool.true_and, Bool.and_true, Bool.false_and, Bool.and_false, Bool.xor_false, Bool.false_xor, Bool.true_xor, Bool.xor_true, Bool.not_true, Bool.not_false, Bool.or_true, Bool.true_or, Bool.or_false, Bool.false_or, Bool.false_eq_true, if_true, if_false, ↓reduceIte] at eG
                        clear ca0 ca1 fa la
                        clear cb0 cb1 fb lb
                        clear cr0 cr1 fr lr
                        clear co0 co1 fo lo
                        clear cc0 cc1 fc lc
                        clear cm0 cm1 fm lm
                        clear ce0 ce1 fe le
                        clear cp0 cp1 fp lp
                        clear cq0 cq1 fq lq
                        replace Bm : Blk w5 (gm) 89 #[.bool (V 8).1.1, .bool (V 8).1.2] := by rw [eG]; exact Bm
                        replace Be : Blk w5 (ge) 89 #[.bool (V 8).2.1, .bool (V 8).2.2] := by rw [eG]; exact Be
                        clear eG
                        go_wp2_with fail
                        go_roundg 0
                        case measure => omega
                        case rel => exact ⟨hB, Ba, Bb, Br, Bo, Bc, Bp, Bq, .inr (.inr ⟨rfl, by go_num, Bm, Be⟩)⟩
                · obtain ⟨wl2, rfl⟩ : ∃ z : World, z = wr := ⟨_, rfl⟩
                  obtain ⟨ca0, ca1⟩ := cells2 Ba
                  have fa := Ba.frozen; have la := Ba.lt
                  obtain ⟨cb0, cb1⟩ := cells2 Bb
                  have fb := Bb.frozen; have lb := Bb.lt
                  obtain ⟨cr0, cr1⟩ := cells2 Br
                  have fr := Br.frozen; have lr := Br.lt
                  obtain ⟨co0, co1⟩ := cells2 Bo
                  have fo := Bo.frozen; have lo := Bo.lt
                  obtain ⟨cc0, cc1⟩ := cells2 Bc
                  have fc := Bc.frozen; have lc := Bc.lt
                  obtain ⟨cm0, cm1⟩ := cells2 Bm
                  have fm := Bm.frozen; have lm := Bm.lt
                  obtain ⟨ce0, ce1⟩ := cells2 Be
                  have fe := Be.frozen; have le := Be.lt
                  obtain ⟨cp0, cp1⟩ := cells2 Bp
                  have fp := Bp.frozen; have lp := Bp.lt
                  obtain ⟨cq0, cq1⟩ := cells2 Bq
                  have fq := Bq.frozen; have lq := Bq.lt
                  go_wp2_with fail
                  go_roundg 0
                  case measure => omega
                  case rel => exact ⟨hB, Ba, Bb, Br, Bo, Bc, Bp, Bq, .inr (.inr ⟨rfl, by go_num, Bm, Be⟩)⟩
            · obtain ⟨wl1, rfl⟩ : ∃ z : World, z = wr := ⟨_, rfl⟩
              obtain ⟨ca0, ca1⟩ := cells2 Ba
              have fa := Ba.frozen; have la := Ba.lt
              obtain ⟨cb0, cb1⟩ := cells2 Bb
              have fb := Bb.frozen; have lb := Bb.lt
              obtain ⟨cr0, cr1⟩ := cells2 Br
              have fr := Br.frozen; have lr := Br.lt
              obtain ⟨co0, co1⟩ := cells2 Bo
              have fo := Bo.frozen; have lo := Bo.lt
              obtain ⟨cc0, cc1⟩ := cells2 Bc
              have fc := Bc.frozen; have lc := Bc.lt
              obtain ⟨cm0, cm1⟩ := cells2 Bm
              have fm := Bm.frozen; have lm := Bm.lt
              obtain ⟨ce0, ce1⟩ := cells2 Be
              have fe := Be.frozen; have le := Be.lt
              obtain ⟨cp0, cp1⟩ := cells2 Bp
              have fp := Bp.frozen; have lp := Bp.lt
              obtain ⟨cq0, cq1⟩ := cells2 Bq
              have fq := Bq.frozen; have lq := Bq.lt
              go_wp2_with fail
              go_roundg 0
              case measure => omega
              case rel => exact ⟨hB, Ba, Bb, Br, Bo, Bc, Bp, Bq, .inr (.inr ⟨rfl, by go_num, Bm, Be⟩)⟩
        · obtain ⟨wl0, rfl⟩ : ∃ z : World, z = wr := ⟨_, rfl⟩
          obtain ⟨ca0, ca1⟩ := cells2 Ba
          have fa := Ba.frozen; have la := Ba.lt
          obtain ⟨cb0, cb1⟩ := cells2 Bb
          have fb := Bb.frozen; have lb := Bb.lt
          obtain ⟨cr0, cr1⟩ := cells2 Br
          have fr := Br.frozen; have lr := Br.lt
          obtain ⟨co0, co1⟩ := cells2 Bo
          have fo := Bo.frozen; have lo := Bo.lt
          obtain ⟨cc0, cc1⟩ := cells2 Bc
          have fc := Bc.frozen; have lc := Bc.lt
          obtain ⟨cm0, cm1⟩ := cells2 Bm
          have fm := Bm.frozen; have lm := Bm.lt
          obtain ⟨ce0, ce1⟩ := cells2 Be
          have fe := Be.frozen; have le := Be.lt
          obtain ⟨cp0, cp1⟩ := cells2 Bp
          have fp := Bp.frozen; have lp := Bp.lt
          obtain ⟨cq0, cq1⟩ := cells2 Bq
          have fq := Bq.frozen; have lq := Bq.lt
          go_wp2_with fail
          refine (k_s _).mono ?_
          rintro e w5 ⟨rfl, hb⟩
          clear ca0 ca1 fa la
          clear cb0 cb1 fb lb
          clear cr0 cr1 fr lr
          clear co0 co1 fo lo
          clear cc0 cc1 fc lc
          clear cm0 cm1 fm lm
          clear ce0 ce1 fe le
          clear cp0 cp1 fp lp
          clear cq0 cq1 fq lq
          replace Ba := (Ba).next hb
          replace Bb := (Bb).next hb
          replace Br := (Br).next hb
          replace Bo := (Bo).next hb
          replace Bc := (Bc).next hb
          replace Bm := (Bm).next hb
          replace Be := (Be).next hb
          replace Bp := (Bp).next hb
          replace Bq := (Bq).next hb
          replace hB : Below w.heap.size w w5 := by repeat (first | exact hB | (refine Bl_set ?_ (by first | omega | (simp; omega)) _) | apply Bl_alloc | (refine Bl_trans ?_ hb))
          clear hb
          obtain ⟨ca0, ca1⟩ := cells2 Ba
          have fa := Ba.frozen; have la := Ba.lt
          obtain ⟨cb0, cb1⟩ := cells2 Bb
          have fb := Bb.frozen; have lb := Bb.lt
          obtain ⟨cr0, cr1⟩ := cells2 Br
          have fr := Br.frozen; have lr := Br.lt
          obtain ⟨co0, co1⟩ := cells2 Bo
          have fo := Bo.frozen; have lo := Bo.lt
          obtain ⟨cc0, cc1⟩ := cells2 Bc
          have fc := Bc.frozen; have lc := Bc.lt
          obtain ⟨cm0, cm1⟩ := cells2 Bm
          have fm := Bm.frozen; have lm := Bm.lt
          obtain ⟨ce0, ce1⟩ := cells2 Be
          have fe := Be.frozen; have le := Be.lt
          obtain ⟨cp0, cp1⟩ := cells2 Bp
          have fp := Bp.frozen; have lp := Bp.lt
          obtain ⟨cq0, cq1⟩ := cells2 Bq
          have fq := Bq.frozen; have lq := Bq.lt
          go_upto_region 5 with fail
          clear ca0 ca1 fa la
          clear cb0 cb1 fb lb
          clear cr0 cr1 fr lr
          clear co0 co1 fo lo
          clear cc0 cc1 fc lc
          clear cm0 cm1 fm lm
          clear ce0 ce1 fe le
          clear cp0 cp1 fp lp
          clear cq0 cq1 fq lq
          replace Ba : Blk ((w5.setCell ⟨w.heap.size + 1 + 1 + 1, 0, none⟩ (uv (F (n + 1)).v)).setCell ⟨w.heap.size + 1 + 1 + 1, 1, none⟩ (uv (F (n + 1)).m)) (w.heap.size) 24 #[uv a.v, uv a.m] := ((Ba.far (by first | (simp; done) | (simp; omega) | (simp [*]; done) | (simp only [ne_eq]; constructor <;> omega)) _).far (by first | (simp; done) | (simp; omega) | (simp [*]; done) | (simp only [ne_eq]; constructor <;> omega)) _)
          replace Bb : Blk ((w5.setCell ⟨w.heap.size + 1 + 1 + 1, 0, none⟩ (uv (F (n + 1)).v)).setCell ⟨w.heap.size + 1 + 1 + 1, 1, none⟩ (uv (F (n + 1)).m)) (w.heap.size + 1) 24 #[uv b.v, uv b.m] := ((Bb.far (by first | (simp; done) | (simp; omega) | (simp [*]; done) | (simp only [ne_eq]; constructor <;> omega)) _).far (by first | (simp; done) | (simp; omega) | (simp [*]; done) | (simp only [ne_eq]; constructor <;> omega)) _)
          replace Br : Blk ((w5.setCell ⟨w.heap.size + 1 + 1 + 1, 0, none⟩ (uv (F (n + 1)).v)).setCell ⟨w.heap.size + 1 + 1 + 1, 1, none⟩ (uv (F (n + 1)).m)) (w.heap.size + 1 + 1) 24 #[x, y] := ((Br.far (by first | (simp; done) | (simp; omega) | (simp [*]; done) | (simp only [ne_eq]; constructor <;> omega)) _).far (by first | (simp; done) | (simp; omega) | (simp [*]; done) | (simp only [ne_eq]; constructor <;> omega)) _)
          replace Bo : Blk ((w5.setCell ⟨w.heap.size + 1 + 1 + 1, 0, none⟩ (uv (F (n + 1)).v)).setCell ⟨w.heap.size + 1 + 1 + 1, 1, none⟩ (uv (F (n + 1)).m)) (w.heap.size + 1 + 1 + 1) 24 #[uv (F (n + 1)).v, uv (F (n + 1)).m] := ((Bo.set_ 0 _).set_ 1 _)
          replace Bc : Blk ((w5.setCell ⟨w.heap.size + 1 + 1 + 1, 0, none⟩ (uv (F (n + 1)).v)).setCell ⟨w.heap.size + 1 + 1 + 1, 1, none⟩ (uv (F (n + 1)).m)) (w.heap.size + 1 + 1 + 1 + 1) 89 #[.bool c0, .bool c1] := ((Bc.far (by first | (simp; done) | (simp; omega) | (simp [*]; done) | (simp only [ne_eq]; constructor <;> omega)) _).far (by first | (simp; done) | (simp; omega) | (simp [*]; done) | (simp only [ne_eq]; constructor <;> omega)) _)
          replace Bm : Blk ((w5.setCell ⟨w.heap.size + 1 + 1 + 1, 0, none⟩ (uv (F (n + 1)).v)).setCell ⟨w.heap.size + 1 + 1 + 1, 1, none⟩ (uv (F (n + 1)).m)) (gm) 89 #[.bool (V 8).1.1, .bool (V 8).1.2] := ((Bm.far (by first | (simp; done) | (simp; omega) | (simp [*]; done) | (simp only [ne_eq]; constructor <;> omega)) _).far (by first | (simp; done) | (simp; omega) | (simp [*]; done) | (simp only [ne_eq]; constructor <;> omega)) _)
          replace Be : Blk ((w5.setCell ⟨w.heap.size + 1 + 1 + 1, 0, none⟩ (uv (F (n + 1)).v)).setCell ⟨w.heap.size + 1 + 1 + 1, 1, none⟩ (uv (F (n + 1)).m)) (ge) 89 #[.bool (V 8).2.1, .bool (V 8).2.2] := ((Be.far (by first | (simp; done) | (simp; omega) | (simp [*]; done) | (simp only [ne_eq]; constructor <;> omega)) _).far (by first | (simp; done) | (simp; omega) | (simp [*]; done) | (simp only [ne_eq]; constructor <;> omega)) _)
          replace Bp : Blk ((w5.setCell ⟨w.heap.size + 1 + 1 + 1, 0, none⟩ (uv (F (n + 1)).v)).setCell ⟨w.heap.size + 1 + 1 + 1, 1, none⟩ (uv (F (n + 1)).m)) (gp) 89 #[.bool x0, .bool x1] := ((Bp.far (by first | (simp; done) | (simp; omega) | (simp [*]; done) | (simp only [ne_eq]; constructor <;> omega)) _).far (by first | (simp; done) | (simp; omega) | (simp [*]; done) | (simp only [ne_eq]; constructor <;> omega)) _)
          replace Bq : Blk ((w5.setCell ⟨w.heap.size + 1 + 1 + 1, 0, none⟩ (uv (F (n + 1)).v)).setCell ⟨w.heap.size + 1 + 1 + 1, 1, none⟩ (uv (F (n + 1)).m)) (gq) 89 #[.bool y0, .bool y1] := ((Bq.far (by first | (simp; done) | (simp; omega) | (simp [*]; done) | (simp only [ne_eq]; constructor <;> omega)) _).far (by first | (simp; done) | (simp; omega) | (simp [*]; done) | (simp only [ne_eq]; constructor <;> omega)) _)
          replace hB : Below w.heap.size w ((w5.setCell ⟨w.heap.size + 1 + 1 + 1, 0, none⟩ (uv (F (n + 1)).v)).setCell ⟨w.heap.size + 1 + 1 + 1, 1, none⟩ (uv (F (n + 1)).m)) := (Bl_set (Bl_set hB (by first | omega | (simp; done) | (simp; omega)) _) (by first | omega | (simp; done) | (simp; omega)) _)
          replace Ba : Blk ((((w5.setCell ⟨w.heap.size + 1 + 1 + 1, 0, none⟩ (uv (F (n + 1)).v)).setCell ⟨w.heap.size + 1 + 1 + 1, 1, none⟩ (uv (F (n + 1)).m)).setCell ⟨w.heap.size + 1 + 1 + 1 + 1, 0, none⟩ (.bool (V 8).2.1)).setCell ⟨w.heap.size + 1 + 1 + 1 + 1, 1, none⟩ (.bool (V 8).2.2)) (w.heap.size) 24 #[uv a.v, uv a.m] := ((Ba.far (by first | (simp; done) | (simp; omega) | (simp [*]; done) | (simp only [ne_eq]; constructor <;> omega)) _).far (by first | (simp; done) | (simp; omega) | (simp [*]; done) | (simp only [ne_eq]; constructor <;> omega)) _)
          replace Bb : Blk ((((w5.setCell ⟨w.heap.size + 1 + 1 + 1, 0, none⟩ (uv (F (n + 1)).v)).setCell ⟨w.heap.size + 1 + 1 + 1, 1, none⟩ (uv (F (n + 1)).m)).setCell ⟨w.heap.size + 1 + 1 + 1 + 1, 0, none⟩ (.bool (V 8).2.1)).setCell ⟨w.heap.size + 1 + 1 + 1 + 1, 1, none⟩ (.bool (V 8).2.2)) (w.heap.size + 1) 24 #[uv b.v, uv b.m] := ((Bb.far (by first | (simp; done) | (simp; omega) | (simp [*]; done) | (simp only [ne_eq]; constructor <;> omega)) _).far (by first | (simp; done) | (simp; omega) | (simp [*]; done) | (simp only [ne_eq]; constructor <;> omega)) _)
          replace Br : Blk ((((w5.setCell ⟨w.heap.size + 1 + 1 + 1, 0, none⟩ (uv (F (n + 1)).v)).setCell ⟨w.heap.size + 1 + 1 + 1, 1, none⟩ (uv (F (n + 1)).m)).setCell ⟨w.heap.size + 1 + 1 + 1 + 1, 0, none⟩ (.bool (V 8).2.1)).setCell ⟨w.heap.size + 1 + 1 + 1 + 1, 1, none⟩ (.bool (V 8).2.2)) (w.heap.size + 1 + 1) 24 #[x, y] := ((Br.far (by first | (simp; done) | (simp; omega) | (simp [*]; done) | (simp only [ne_eq]; constructor <;> omega)) _).far (by first | (simp; done) | (simp; omega) | (simp [*]; done) | (simp only [ne_eq]; constructor <;> omega)) _)
          replace Bo : Blk ((((w5.setCell ⟨w.heap.size + 1 + 1 + 1, 0, none⟩ (uv (F (n + 1)).v)).setCell ⟨w.heap.size + 1 + 1 + 1, 1, none⟩ (uv (F (n + 1)).m)).setCell ⟨w.heap.size + 1 + 1 + 1 + 1, 0, none⟩ (.bool (V 8).2.1)).setCell ⟨w.heap.size + 1 + 1 + 1 + 1, 1, none⟩ (.bool (V 8).2.2)) (w.heap.size + 1 + 1 + 1) 24 #[uv (F (n + 1)).v, uv (F (n + 1)).m] := ((Bo.far (by first | (simp; done) | (simp; omega) | (simp [*]; done) | (simp only [ne_eq]; constructor <;> omega)) _).far (by first | (simp; done) | (simp; omega) | (simp [*]; done) | (simp only [ne_eq]; constructor <;> omega)) _)
          replace Bc : Blk ((((w5.setCell ⟨w.heap.size + 1 + 1 + 1, 0, none⟩ (uv (F (n + 1)).v)).setCell ⟨w.heap.size + 1 + 1 + 1, 1, none⟩ (uv (F (n + 1)).m)).setCell ⟨w.heap.size + 1 + 1 + 1 + 1, 0, none⟩ (.bool (V 8).2.1)).setCell ⟨w.heap.size + 1 + 1 + 1 + 1, 1, none⟩ (.bool (V 8).2.2)) (w.heap.size + 1 + 1 + 1 + 1) 89 #[.bool (V 8).2.1, .bool (V 8).2.2] := ((Bc.set_ 0 _).set_ 1 _)
          replace Bm : Blk ((((w5.setCell ⟨w.heap.size + 1 + 1 + 1, 0, none⟩ (uv (F (n + 1)).v)).setCell ⟨w.heap.size + 1 + 1 + 1, 1, none⟩ (uv (F (n + 1)).m)).setCell ⟨w.heap.size + 1 + 1 + 1 + 1, 0, none⟩ (.bool (V 8).2.1)).setCell ⟨w.heap.size + 1 + 1 + 1 + 1, 1, none⟩ (.bool (V 8).2.2)) (gm) 89 #[.bool (V 8).1.1, .bool (V 8).1.2] := ((Bm.far (by first | (simp; done) | (simp; omega) | (simp [*]; done) | (simp only [ne_eq]; constructor <;> omega)) _).far (by first | (simp; done) | (simp; omega) | (simp [*]; done) | (simp only [ne_eq]; constructor <;> omega)) _)
          replace Be : Blk ((((w5.setCell ⟨w.heap.size + 1 + 1 + 1, 0, none⟩ (uv (F (n + 1)).v)).setCell ⟨w.heap.size + 1 + 1 + 1, 1, none⟩ (uv (F (n + 1)).m)).setCell ⟨w.heap.size + 1 + 1 + 1 + 1, 0, none⟩ (.bool (V 8).2.1)).setCell ⟨w.heap.size + 1 + 1 + 1 + 1, 1, none⟩ (.bool (V 8).2.2)) (ge) 89 #[.bool (V 8).2.1, .bool (V 8).2.2] := ((Be.far (by first | (simp; done) | (simp; omega) | (simp [*]; done) | (simp only [ne_eq]; constructor <;> omega)) _).far (by first | (simp; done) | (simp; omega) | (simp [*]; done) | (simp only [ne_eq]; constructor <;> omega)) _)
          replace Bp : Blk ((((w5.setCell ⟨w.heap.size + 1 + 1 + 1, 0, none⟩ (uv (F (n + 1)).v)).setCell ⟨w.heap.size + 1 + 1 + 1, 1, none⟩ (uv (F (n + 1)).m)).setCell ⟨w.heap.size + 1 + 1 + 1 + 1, 0, none⟩ (.bool (V 8).2.1)).setCell ⟨w.heap.size + 1 + 1 + 1 + 1, 1, none⟩ (.bool (V 8).2.2)) (gp) 89 #[.bool x0, .bool x1] := ((Bp.far (by first | (simp; done) | (simp; omega) | (simp [*]; done) | (simp only [ne_eq]; constructor <;> omega)) _).far (by first | (simp; done) | (simp; omega) | (simp [*]; done) | (simp only [ne_eq]; constructor <;> omega)) _)
          replace Bq : Blk ((((w5.setCell ⟨w.heap.size + 1 + 1 + 1, 0, none⟩ (uv (F (n + 1)).v)).setCell ⟨w.heap.size + 1 + 1 + 1, 1, none⟩ (uv (F (n + 1)).m)).setCell ⟨w.heap.size + 1 + 1 + 1 + 1, 0, none⟩ (.bool (V 8).2.1)).setCell ⟨w.heap.size + 1 + 1 + 1 + 1, 1, none⟩ (.bool (V 8).2.2)) (gq) 89 #[.bool y0, .bool y1] := ((Bq.far (by first | (simp; done) | (simp; omega) | (simp [*]; done) | (simp only [ne_eq]; constructor <;> omega)) _).far (by first | (simp; done) | (simp; omega) | (simp [*]; done) | (simp only [ne_eq]; constructor <;> omega)) _)
          replace hB : Below w.heap.size w ((((w5.setCell ⟨w.heap.size + 1 + 1 + 1, 0, none⟩ (uv (F (n + 1)).v)).setCell ⟨w.heap.size + 1 + 1 + 1, 1, none⟩ (uv (F (n + 1)).m)).setCell ⟨w.heap.size + 1 + 1 + 1 + 1, 0, none⟩ (.bool (V 8).2.1)).setCell ⟨w.heap.size + 1 + 1 + 1 + 1, 1, none⟩ (.bool (V 8).2.2)) := (Bl_set (Bl_set hB (by first | omega | (simp; done) | (simp; omega)) _) (by first | omega | (simp; done) | (simp; omega)) _)
          generalize ((((w5.setCell ⟨w.heap.size + 1 + 1 + 1, 0, none⟩ (uv (F (n + 1)).v)).setCell ⟨w.heap.size + 1 + 1 + 1, 1, none⟩ (uv (F (n + 1)).m)).setCell ⟨w.heap.size + 1 + 1 + 1 + 1, 0, none⟩ (.bool (V 8).2.1)).setCell ⟨w.heap.size + 1 + 1 + 1 + 1, 1, none⟩ (.bool (V 8).2.2)) = w6 at *
          obtain ⟨ca0, ca1⟩ := cells2 Ba
          have fa := Ba.frozen; have la := Ba.lt
          obtain ⟨cb0, cb1⟩ := cells2 Bb
          have fb := Bb.frozen; have lb := Bb.lt
          obtain ⟨cr0, cr1⟩ := cells2 Br
          have fr := Br.frozen; have lr := Br.lt
          obtain ⟨co0, co1⟩ := cells2 Bo
          have fo := Bo.frozen; have lo := Bo.lt
          obtain ⟨cc0, cc1⟩ := cells2 Bc
          have fc := Bc.frozen; have lc := Bc.lt
          obtain ⟨cm0, cm1⟩ := cells2 Bm
          have fm := Bm.frozen; have lm := Bm.lt
          obtain ⟨ce0, ce1⟩ := cells2 Be
          have fe := Be.frozen; have le := Be.lt
          obtain ⟨cp0, cp1⟩ := cells2 Bp
          have fp := Bp.frozen; have lp := Bp.lt
          obtain ⟨cq0, cq1⟩ := cells2 Bq
          have fq := Bq.frozen; have lq := Bq.lt
          go_wp2_with fail
          go_roundg (63 - n)
          case measure => omega
          case rel => exact ⟨n + 1, by omega, by omega, by go_num, hB, Ba, Bb, ⟨_, _, Br⟩, Bo, by rw [HK.out]; exact Bc⟩
end Go.Proofs.Ytmghpoagpiljhaa
