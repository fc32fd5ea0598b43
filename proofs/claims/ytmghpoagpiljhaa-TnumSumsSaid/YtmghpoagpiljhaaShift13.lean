/- The loops of the reference of layer 13: Shift, Low. -/
import Derived.Test.YtmghpoagpiljhaaRef13
set_option linter.unusedSimpArgs false
namespace Go.Proofs.Ytmghpoagpiljhaa
open Go.RowKit
open PlainTnum (N May)
theorem bits_n (a : N) (z : Int) (n : Nat) (h : z = (n : Int)) (hn : n < 64) (w : World) : Calls Try.prog 55 #[nv a, .int .i64 z] w fun e w' => e = .returned (mv (PlainTnum.bitsOf a n)) ∧ Below w.heap.size w w' := by
  have := bits_c a z (by omega) (by omega) w
  rwa [show z.toNat = n by omega] at this
theorem set_n (a : N) (n : Nat) (hn : n < 64) (m : May) (w : World) : Calls Try.prog 54 #[nv a, .int .i64 (n : Int), mv m] w fun e w' => e = .returned (nv (PlainTnum.setN a n m)) ∧ Below w.heap.size w w' := by
  have := set_c a (n : Int) (by omega) (by omega) m w
  rwa [show ((n : Int)).toNat = n by omega] at this
set_option maxRecDepth 100000 in
set_option maxHeartbeats 3200000 in
theorem shift_c (a : N) (k : Nat) (hk : k < 64) (l : Bool) (w : World) : Calls Try.prog 18 #[nv a, .int .i64 (k : Int), .bool l] w fun e w' => e = .returned (nv (PlainTnum.build (PlainTnum.shiftF a k l) 64)) ∧ Below w.heap.size w w' := by
  obtain ⟨F, e_F⟩ : ∃ z' : Nat → N, z' = PlainTnum.build (PlainTnum.shiftF a k l) := ⟨_, rfl⟩
  have h0 : F 0 = ⟨0#64, 0#64⟩ := by rw [e_F]; rfl
  have hs : ∀ n, F (n + 1) = PlainTnum.setN (F n) n (PlainTnum.shiftF a k l n) := fun n => by rw [e_F]; rfl
  rw [← e_F]
  clear e_F
  go_enter Try.func18, Try.ntmps18
  go_wp2_with fail
  obtain ⟨ga, hga⟩ : ∃ g, g = w.heap.size := ⟨_, rfl⟩
  obtain ⟨gr, hgr⟩ : ∃ g, g = w.heap.size + 1 := ⟨_, rfl⟩
  obtain ⟨go, hgo⟩ : ∃ g, g = w.heap.size + 1 + 1 := ⟨_, rfl⟩
  have Ba : Blk (((w.alloc (.cells #[uv a.v, uv a.m] 24)).alloc (.cells #[.int .u64 0, .int .u64 0] 24)).alloc (.cells #[.int .u64 0, .int .u64 0] 24)) (w.heap.size) 24 #[uv a.v, uv a.m] := (((Blk.new w 24 #[uv a.v, uv a.m])).alloc _).alloc _
  have Br : Blk (((w.alloc (.cells #[uv a.v, uv a.m] 24)).alloc (.cells #[.int .u64 0, .int .u64 0] 24)).alloc (.cells #[.int .u64 0, .int .u64 0] 24)) (w.heap.size + 1) 24 #[.int .u64 0, .int .u64 0] := ((by simpa using Blk.new (w.alloc (.cells #[uv a.v, uv a.m] 24)) 24 #[.int .u64 0, .int .u64 0] : Blk _ (w.heap.size + 1) 24 #[.int .u64 0, .int .u64 0])).alloc _
  have Bo : Blk (((w.alloc (.cells #[uv a.v, uv a.m] 24)).alloc (.cells #[.int .u64 0, .int .u64 0] 24)).alloc (.cells #[.int .u64 0, .int .u64 0] 24)) (w.heap.size + 1 + 1) 24 #[.int .u64 0, .int .u64 0] := (by simpa using Blk.new ((w.alloc (.cells #[uv a.v, uv a.m] 24)).alloc (.cells #[.int .u64 0, .int .u64 0] 24)) 24 #[.int .u64 0, .int .u64 0] : Blk _ (w.heap.size + 1 + 1) 24 #[.int .u64 0, .int .u64 0])
  have hB : Below w.heap.size w (((w.alloc (.cells #[uv a.v, uv a.m] 24)).alloc (.cells #[.int .u64 0, .int .u64 0] 24)).alloc (.cells #[.int .u64 0, .int .u64 0] 24)) := (Bl_alloc (Bl_alloc (Bl_alloc (Bl_refl w) _) _) _)
  clear hga
  clear ga
  clear hgr
  clear gr
  clear hgo
  clear go
  generalize (((w.alloc (.cells #[uv a.v, uv a.m] 24)).alloc (.cells #[.int .u64 0, .int .u64 0] 24)).alloc (.cells #[.int .u64 0, .int .u64 0] 24)) = w1 at *
  obtain ⟨ca0, ca1⟩ := cells2 Ba
  have fa := Ba.frozen; have la := Ba.lt
  obtain ⟨cr0, cr1⟩ := cells2 Br
  have fr := Br.frozen; have lr := Br.lt
  obtain ⟨co0, co1⟩ := cells2 Bo
  have fo := Bo.frozen; have lo := Bo.lt
  clear ca0 ca1 fa la
  clear cr0 cr1 fr lr
  clear co0 co1 fo lo
  go_loopg [8] 64 (fun m i wr => ∃ n : Nat, n ≤ 64 ∧ m + n = 64 ∧ i = .int .i64 (n : Int) ∧ Below w.heap.size w wr ∧ Blk wr (w.heap.size) 24 #[uv a.v, uv a.m] ∧ (∃ x y, Blk wr (w.heap.size + 1) 24 #[x, y]) ∧ Blk wr (w.heap.size + 1 + 1) 24 #[uv (F n).v, uv (F n).m])
  case atStart => exact ⟨0, by omega, by omega, rfl, hB, Ba, ⟨_, _, Br⟩, by rw [h0]; exact Bo⟩
  case round =>
    clear hB Ba Br Bo
    obtain ⟨n, hn, hgk, rfl, hB, Ba, ⟨x, y, Br⟩, Bo⟩ := hrel
    obtain ⟨ca0, ca1⟩ := cells2 Ba
    have fa := Ba.frozen; have la := Ba.lt
    obtain ⟨cr0, cr1⟩ := cells2 Br
    have fr := Br.frozen; have lr := Br.lt
    obtain ⟨co0, co1⟩ := cells2 Bo
    have fo := Bo.frozen; have lo := Bo.lt
    cases q : decide ((n : Int) < 64)
    · have eF : F n = F 64 := by have := of_decide_eq_false q; rw [show n = 64 by omega]
      clear hs h0
      go_wp2
      exact bodyPost_ret (v := nv (F 64)) (by simp [results, Try.results18, go_sem, cr0, cr1, co0, co1, lr, lo]) rfl ⟨rfl, by repeat (first | (with_reducible exact hB) | (with_reducible refine Bl_set ?_ (by first | omega | (simp; done) | (simp; omega)) _) | with_reducible apply Bl_alloc)⟩
    · have hlt : (n : Int) < 64 := of_decide_eq_true q
      obtain ⟨Z1, hZ1⟩ : ∃ z' : Int, z' = (n : Int) + (k : Int) := ⟨_, rfl⟩
      have w1 : IntKind.i64.wrap ((n : Int) + (k : Int)) = Z1 := by rw [hZ1]; exact IntWalk.i64_in _ (by omega)
      obtain ⟨Z2, hZ2⟩ : ∃ z' : Int, z' = (n : Int) - (k : Int) := ⟨_, rfl⟩
      have w2 : IntKind.i64.wrap ((n : Int) - (k : Int)) = Z2 := by rw [hZ2]; exact IntWalk.i64_in _ (by omega)
      cases l
      · have z0 : 0 ≤ Z1 := by omega
        cases q1 : decide (Z1 < 64)
        · have p1 : ¬ (Z1 < 64) := of_decide_eq_false q1
          have hs1 : F (n + 1) = F n := by rw [hs]; unfold PlainTnum.shiftF; rw [if_neg (by decide), if_neg (by omega)]; unfold PlainTnum.setN; simp
          clear hs
          clear hZ1 hZ2
          go_wp2_with fail
          go_roundg (63 - n)
          case measure => omega
          case rel => exact ⟨n + 1, by omega, by omega, by go_num, hB, Ba, ⟨_, _, Br⟩, by rw [hs1]; exact Bo⟩
        · have p1 : (Z1 < 64) := of_decide_eq_true q1
          have hs1 : F (n + 1) = PlainTnum.setN (F n) n (PlainTnum.bitsOf a (n + k)) := by rw [hs]; unfold PlainTnum.shiftF; rw [if_neg (by decide), if_pos (by omega)]
          have k_b := bits_n a Z1 ((n + k)) (by omega) (by omega)
          have k_s := set_n (F n) n (by omega) (PlainTnum.bitsOf a (n + k))
          rw [← hs1] at k_s; clear hs1 hs
          generalize PlainTnum.bitsOf a (n + k) = M at k_b k_s
          clear hZ1 hZ2
          go_wp2_with fail
          clear ca0 ca1; obtain ⟨ca0, ca1⟩ := lcells2 Ba
          clear cr0 cr1; obtain ⟨cr0, cr1⟩ := lcells2 Br
          clear co0 co1; obtain ⟨co0, co1⟩ := lcells2 Bo
          refine wp_region_mix 6 (fun _ => #[]) (by kernel_rfl) (by kernel_rfl) (no_alloc (by kernel_rfl)) ?_
          simp only [List.take_succ_cons, List.take_zero, List.drop_succ_cons, List.drop_zero]
          repeat (refine wpMix_step (fun K hK => ?_); go_simp; first | (refine hK _ ?_; clear hK K) | (apply Exists.intro; refine ⟨fun g => ?_, hK _ ?_⟩; ((with_reducible refine Calls.mono (k_b g.w) ?_); exact fun _ _ h => h); clear hK K) | (apply Exists.intro; refine ⟨fun g => ?_, hK _ ?_⟩; ((with_reducible refine Calls.mono (k_s g.w) ?_); exact fun _ _ h => h); clear hK K))
          refine wpMix_nil ?_
          intro G w2 hgr hblk hdist
          have hb : Below wr.heap.size wr w2 := hgr
          replace Ba := Ba.next hb
          replace Br := Br.next hb
          replace Bo := Bo.next hb
          clear ca0 ca1 fa la
          clear cr0 cr1 fr lr
          clear co0 co1 fo lo
          replace hB : Below w.heap.size w w2 := Bl_trans hB hb
          simp only [putAll, isAlloc]
          clear hb hgr hblk hdist
          obtain ⟨ca0, ca1⟩ := cells2 Ba
          have fa := Ba.frozen; have la := Ba.lt
          obtain ⟨cr0, cr1⟩ := cells2 Br
          have fr := Br.frozen; have lr := Br.lt
          obtain ⟨co0, co1⟩ := cells2 Bo
          have fo := Bo.frozen; have lo := Bo.lt
          go_upto_region 4 with fail
          clear ca0 ca1 fa la
          clear cr0 cr1 fr lr
          clear co0 co1 fo lo
          replace Ba : Blk ((w2.setCell ⟨w.heap.size + 1 + 1, 0, none⟩ (uv (F (n + 1)).v)).setCell ⟨w.heap.size + 1 + 1, 1, none⟩ (uv (F (n + 1)).m)) (w.heap.size) 24 #[uv a.v, uv a.m] := ((Ba.far (by first | (simp; done) | (simp; omega) | (simp [*]; done) | (simp only [ne_eq]; constructor <;> omega)) _).far (by first | (simp; done) | (simp; omega) | (simp [*]; done) | (simp only [ne_eq]; constructor <;> omega)) _)
          replace Br : Blk ((w2.setCell ⟨w.heap.size + 1 + 1, 0, none⟩ (uv (F (n + 1)).v)).setCell ⟨w.heap.size + 1 + 1, 1, none⟩ (uv (F (n + 1)).m)) (w.heap.size + 1) 24 #[x, y] := ((Br.far (by first | (simp; done) | (simp; omega) | (simp [*]; done) | (simp only [ne_eq]; constructor <;> omega)) _).far (by first | (simp; done) | (simp; omega) | (simp [*]; done) | (simp only [ne_eq]; constructor <;> omega)) _)
          replace Bo : Blk ((w2.setCell ⟨w.heap.size + 1 + 1, 0, none⟩ (uv (F (n + 1)).v)).setCell ⟨w.heap.size + 1 + 1, 1, none⟩ (uv (F (n + 1)).m)) (w.heap.size + 1 + 1) 24 #[uv (F (n + 1)).v, uv (F (n + 1)).m] := ((Bo.set_ 0 _).set_ 1 _)
          replace hB : Below w.heap.size w ((w2.setCell ⟨w.heap.size + 1 + 1, 0, none⟩ (uv (F (n + 1)).v)).setCell ⟨w.heap.size + 1 + 1, 1, none⟩ (uv (F (n + 1)).m)) := (Bl_set (Bl_set hB (by first | omega | (simp; done) | (simp; omega)) _) (by first | omega | (simp; done) | (simp; omega)) _)
          generalize ((w2.setCell ⟨w.heap.size + 1 + 1, 0, none⟩ (uv (F (n + 1)).v)).setCell ⟨w.heap.size + 1 + 1, 1, none⟩ (uv (F (n + 1)).m)) = w3 at *
          obtain ⟨ca0, ca1⟩ := cells2 Ba
          have fa := Ba.frozen; have la := Ba.lt
          obtain ⟨cr0, cr1⟩ := cells2 Br
          have fr := Br.frozen; have lr := Br.lt
          obtain ⟨co0, co1⟩ := cells2 Bo
          have fo := Bo.frozen; have lo := Bo.lt
          go_wp2_with fail
          go_roundg (63 - n)
          case measure => omega
          case rel => exact ⟨n + 1, by omega, by omega, by go_num, hB, Ba, ⟨_, _, Br⟩, by exact Bo⟩
      · have z1 : Z2 < 64 := by omega
        cases q1 : decide (0 ≤ Z2)
        · have p1 : ¬ (0 ≤ Z2) := of_decide_eq_false q1
          have hs1 : F (n + 1) = F n := by rw [hs]; unfold PlainTnum.shiftF; rw [if_pos rfl, if_pos (by omega)]; unfold PlainTnum.setN; simp
          clear hs
          clear hZ1 hZ2
          go_wp2_with fail
          go_roundg (63 - n)
          case measure => omega
          case rel => exact ⟨n + 1, by omega, by omega, by go_num, hB, Ba, ⟨_, _, Br⟩, by rw [hs1]; exact Bo⟩
        · have p1 : (0 ≤ Z2) := of_decide_eq_true q1
          have hs1 : F (n + 1) = PlainTnum.setN (F n) n (PlainTnum.bitsOf a (n - k)) := by rw [hs]; unfold PlainTnum.shiftF; rw [if_pos rfl, if_neg (by omega)]
          have k_b := bits_n a Z2 ((n - k)) (by omega) (by omega)
          have k_s := set_n (F n) n (by omega) (PlainTnum.bitsOf a (n - k))
          rw [← hs1] at k_s; clear hs1 hs
          generalize PlainTnum.bitsOf a (n - k) = M at k_b k_s
          clear hZ1 hZ2
          go_wp2_with fail
          clear ca0 ca1; obtain ⟨ca0, ca1⟩ := lcells2 Ba
          clear cr0 cr1; obtain ⟨cr0, cr1⟩ := lcells2 Br
          clear co0 co1; obtain ⟨co0, co1⟩ := lcells2 Bo
          refine wp_region_mix 6 (fun _ => #[]) (by kernel_rfl) (by kernel_rfl) (no_alloc (by kernel_rfl)) ?_
          simp only [List.take_succ_cons, List.take_zero, List.drop_succ_cons, List.drop_zero]
          repeat (refine wpMix_step (fun K hK => ?_); go_simp; first | (refine hK _ ?_; clear hK K) | (apply Exists.intro; refine ⟨fun g => ?_, hK _ ?_⟩; ((with_reducible refine Calls.mono (k_b g.w) ?_); exact fun _ _ h => h); clear hK K) | (apply Exists.intro; refine ⟨fun g => ?_, hK _ ?_⟩; ((with_reducible refine Calls.mono (k_s g.w) ?_); exact fun _ _ h => h); clear hK K))
          refine wpMix_nil ?_
          intro G w2 hgr hblk hdist
          have hb : Below wr.heap.size wr w2 := hgr
          replace Ba := Ba.next hb
          replace Br := Br.next hb
          replace Bo := Bo.next hb
          clear ca0 ca1 fa la
          clear cr0 cr1 fr lr
          clear co0 co1 fo lo
          replace hB : Below w.heap.size w w2 := Bl_trans hB hb
          simp only [putAll, isAlloc]
          clear hb hgr hblk hdist
          obtain ⟨ca0, ca1⟩ := cells2 Ba
          have fa := Ba.frozen; have la := Ba.lt
          obtain ⟨cr0, cr1⟩ := cells2 Br
          have fr := Br.frozen; have lr := Br.lt
          obtain ⟨co0, co1⟩ := cells2 Bo
          have fo := Bo.frozen; have lo := Bo.lt
          go_upto_region 4 with fail
          clear ca0 ca1 fa la
          clear cr0 cr1 fr lr
          clear co0 co1 fo lo
          replace Ba : Blk ((w2.setCell ⟨w.heap.size + 1 + 1, 0, none⟩ (uv (F (n + 1)).v)).setCell ⟨w.heap.size + 1 + 1, 1, none⟩ (uv (F (n + 1)).m)) (w.heap.size) 24 #[uv a.v, uv a.m] := ((Ba.far (by first | (simp; done) | (simp; omega) | (simp [*]; done) | (simp only [ne_eq]; constructor <;> omega)) _).far (by first | (simp; done) | (simp; omega) | (simp [*]; done) | (simp only [ne_eq]; constructor <;> omega)) _)
          replace Br : Blk ((w2.setCell ⟨w.heap.size + 1 + 1, 0, none⟩ (uv (F (n + 1)).v)).setCell ⟨w.heap.size + 1 + 1, 1, none⟩ (uv (F (n + 1)).m)) (w.heap.size + 1) 24 #[x, y] := ((Br.far (by first | (simp; done) | (simp; omega) | (simp [*]; done) | (simp only [ne_eq]; constructor <;> omega)) _).far (by first | (simp; done) | (simp; omega) | (simp [*]; done) | (simp only [ne_eq]; constructor <;> omega)) _)
          replace Bo : Blk ((w2.setCell ⟨w.heap.size + 1 + 1, 0, none⟩ (uv (F (n + 1)).v)).setCell ⟨w.heap.size + 1 + 1, 1, none⟩ (uv (F (n + 1)).m)) (w.heap.size + 1 + 1) 24 #[uv (F (n + 1)).v, uv (F (n + 1)).m] := ((Bo.set_ 0 _).set_ 1 _)
          replace hB : Below w.heap.size w ((w2.setCell ⟨w.heap.size + 1 + 1, 0, none⟩ (uv (F (n + 1)).v)).setCell ⟨w.heap.size + 1 + 1, 1, none⟩ (uv (F (n + 1)).m)) := (Bl_set (Bl_set hB (by first | omega | (simp; done) | (simp; omega)) _) (by first | omega | (simp; done) | (simp; omega)) _)
          generalize ((w2.setCell ⟨w.heap.size + 1 + 1, 0, none⟩ (uv (F (n + 1)).v)).setCell ⟨w.heap.size + 1 + 1, 1, none⟩ (uv (F (n + 1)).m)) = w3 at *
          obtain ⟨ca0, ca1⟩ := cells2 Ba
          have fa := Ba.frozen; have la := Ba.lt
          obtain ⟨cr0, cr1⟩ := cells2 Br
          have fr := Br.frozen; have lr := Br.lt
          obtain ⟨co0, co1⟩ := cells2 Bo
          have fo := Bo.frozen; have lo := Bo.lt
          go_wp2_with fail
          go_roundg (63 - n)
          case measure => omega
          case rel => exact ⟨n + 1, by omega, by omega, by go_num, hB, Ba, ⟨_, _, Br⟩, by exact Bo⟩
set_option maxRecDepth 100000 in
set_option maxHeartbeats 3200000 in
theorem rlow_c (a : N) (t : Nat) (ht : t ≤ 64) (w : World) : Calls Try.prog 21 #[nv a, .int .i64 (t : Int)] w fun e w' => e = .returned (nv (PlainTnum.build (PlainTnum.bitsOf a) t)) ∧ Below w.heap.size w w' := by
  obtain ⟨F, e_F⟩ : ∃ z' : Nat → N, z' = PlainTnum.build (PlainTnum.bitsOf a) := ⟨_, rfl⟩
  have h0 : F 0 = ⟨0#64, 0#64⟩ := by rw [e_F]; rfl
  have hs : ∀ n, F (n + 1) = PlainTnum.setN (F n) n (PlainTnum.bitsOf a n) := fun n => by rw [e_F]; rfl
  rw [← e_F]
  clear e_F
  go_enter Try.func21, Try.ntmps21
  go_wp2_with fail
  obtain ⟨ga, hga⟩ : ∃ g, g = w.heap.size := ⟨_, rfl⟩
  obtain ⟨gr, hgr⟩ : ∃ g, g = w.heap.size + 1 := ⟨_, rfl⟩
  obtain ⟨go, hgo⟩ : ∃ g, g = w.heap.size + 1 + 1 := ⟨_, rfl⟩
  have Ba : Blk (((w.alloc (.cells #[uv a.v, uv a.m] 24)).alloc (.cells #[.int .u64 0, .int .u64 0] 24)).alloc (.cells #[.int .u64 0, .int .u64 0] 24)) (w.heap.size) 24 #[uv a.v, uv a.m] := (((Blk.new w 24 #[uv a.v, uv a.m])).alloc _).alloc _
  have Br : Blk (((w.alloc (.cells #[uv a.v, uv a.m] 24)).alloc (.cells #[.int .u64 0, .int .u64 0] 24)).alloc (.cells #[.int .u64 0, .int .u64 0] 24)) (w.heap.size + 1) 24 #[.int .u64 0, .int .u64 0] := ((by simpa using Blk.new (w.alloc (.cells #[uv a.v, uv a.m] 24)) 24 #[.int .u64 0, .int .u64 0] : Blk _ (w.heap.size + 1) 24 #[.int .u64 0, .int .u64 0])).alloc _
  have Bo : Blk (((w.alloc (.cells #[uv a.v, uv a.m] 24)).alloc (.cells #[.int .u64 0, .int .u64 0] 24)).alloc (.cells #[.int .u64 0, .int .u64 0] 24)) (w.heap.size + 1 + 1) 24 #[.int .u64 0, .int .u64 0] := (by simpa using Blk.new ((w.alloc (.cells #[uv a.v, uv a.m] 24)).alloc (.cells #[.int .u64 0, .int .u64 0] 24)) 24 #[.int .u64 0, .int .u64 0] : Blk _ (w.heap.size + 1 + 1) 24 #[.int .u64 0, .int .u64 0])
  have hB : Below w.heap.size w (((w.alloc (.cells #[uv a.v, uv a.m] 24)).alloc (.cells #[.int .u64 0, .int .u64 0] 24)).alloc (.cells #[.int .u64 0, .int .u64 0] 24)) := (Bl_alloc (Bl_alloc (Bl_alloc (Bl_refl w) _) _) _)
  clear hga
  clear ga
  clear hgr
  clear gr
  clear hgo
  clear go
  generalize (((w.alloc (.cells #[uv a.v, uv a.m] 24)).alloc (.cells #[.int .u64 0, .int .u64 0] 24)).alloc (.cells #[.int .u64 0, .int .u64 0] 24)) = w1 at *
  obtain ⟨ca0, ca1⟩ := cells2 Ba
  have fa := Ba.frozen; have la := Ba.lt
  obtain ⟨cr0, cr1⟩ := cells2 Br
  have fr := Br.frozen; have lr := Br.lt
  obtain ⟨co0, co1⟩ := cells2 Bo
  have fo := Bo.frozen; have lo := Bo.lt
  clear ca0 ca1 fa la
  clear cr0 cr1 fr lr
  clear co0 co1 fo lo
  go_loopg [6] t (fun m i wr => ∃ n : Nat, n ≤ t ∧ m + n = t ∧ i = .int .i64 (n : Int) ∧ Below w.heap.size w wr ∧ Blk wr (w.heap.size) 24 #[uv a.v, uv a.m] ∧ (∃ x y, Blk wr (w.heap.size + 1) 24 #[x, y]) ∧ Blk wr (w.heap.size + 1 + 1) 24 #[uv (F n).v, uv (F n).m])
  case atStart => exact ⟨0, by omega, by omega, rfl, hB, Ba, ⟨_, _, Br⟩, by rw [h0]; exact Bo⟩
  case round =>
    clear hB Ba Br Bo
    obtain ⟨n, hn, hgk, rfl, hB, Ba, ⟨x, y, Br⟩, Bo⟩ := hrel
    obtain ⟨ca0, ca1⟩ := cells2 Ba
    have fa := Ba.frozen; have la := Ba.lt
    obtain ⟨cr0, cr1⟩ := cells2 Br
    have fr := Br.frozen; have lr := Br.lt
    obtain ⟨co0, co1⟩ := cells2 Bo
    have fo := Bo.frozen; have lo := Bo.lt
    cases q : decide ((n : Int) < (t : Int))
    · have qn : ¬ n < t := by have := of_decide_eq_false q; omega
      have eF : F n = F t := by have := of_decide_eq_false q; rw [show n = t by omega]
      clear hs h0
      go_wp2
      exact bodyPost_ret (v := nv (F t)) (by simp [results, Try.results21, go_sem, cr0, cr1, co0, co1, lr, lo]) rfl ⟨rfl, by repeat (first | (with_reducible exact hB) | (with_reducible refine Bl_set ?_ (by first | omega | (simp; done) | (simp; omega)) _) | with_reducible apply Bl_alloc)⟩
    · have hlt : (n : Int) < (t : Int) := of_decide_eq_true q
      have hltn : n < t := by omega
      have hs1 := hs n; have k_b := bits_n a (n : Int) n rfl (by omega); have k_s := set_n (F n) n (by omega) (PlainTnum.bitsOf a n); rw [← hs1] at k_s; clear hs1 hs; generalize PlainTnum.bitsOf a n = M at k_b k_s
      go_wp2_with fail
      clear ca0 ca1; obtain ⟨ca0, ca1⟩ := lcells2 Ba
      clear cr0 cr1; obtain ⟨cr0, cr1⟩ := lcells2 Br
      clear co0 co1; obtain ⟨co0, co1⟩ := lcells2 Bo
      refine wp_region_mix 6 (fun _ => #[]) (by kernel_rfl) (by kernel_rfl) (no_alloc (by kernel_rfl)) ?_
      simp only [List.take_succ_cons, List.take_zero, List.drop_succ_cons, List.drop_zero]
      repeat (refine wpMix_step (fun K hK => ?_); go_simp; first | (refine hK _ ?_; clear hK K) | (apply Exists.intro; refine ⟨fun g => ?_, hK _ ?_⟩; ((with_reducible refine Calls.mono (k_b g.w) ?_); exact fun _ _ h => h); clear hK K) | (apply Exists.intro; refine ⟨fun g => ?_, hK _ ?_⟩; ((with_reducible refine Calls.mono (k_s g.w) ?_); exact fun _ _ h => h); clear hK K))
      refine wpMix_nil ?_
      intro G w2 hgr hblk hdist
      have hb : Below wr.heap.size wr w2 := hgr
      replace Ba := Ba.next hb
      replace Br := Br.next hb
      replace Bo := Bo.next hb
      clear ca0 ca1 fa la
      clear cr0 cr1 fr lr
      clear co0 co1 fo lo
      replace hB : Below w.heap.size w w2 := Bl_trans hB hb
      simp only [putAll, isAlloc]
      clear hb hgr hblk hdist
      obtain ⟨ca0, ca1⟩ := cells2 Ba
      have fa := Ba.frozen; have la := Ba.lt
      obtain ⟨cr0, cr1⟩ := cells2 Br
      have fr := Br.frozen; have lr := Br.lt
      obtain ⟨co0, co1⟩ := cells2 Bo
      have fo := Bo.frozen; have lo := Bo.lt
      go_upto_region 4 with fail
      clear ca0 ca1 fa la
      clear cr0 cr1 fr lr
      clear co0 co1 fo lo
      replace Ba : Blk ((w2.setCell ⟨w.heap.size + 1 + 1, 0, none⟩ (uv (F (n + 1)).v)).setCell ⟨w.heap.size + 1 + 1, 1, none⟩ (uv (F (n + 1)).m)) (w.heap.size) 24 #[uv a.v, uv a.m] := ((Ba.far (by first | (simp; done) | (simp; omega) | (simp [*]; done) | (simp only [ne_eq]; constructor <;> omega)) _).far (by first | (simp; done) | (simp; omega) | (simp [*]; done) | (simp only [ne_eq]; constructor <;> omega)) _)
      replace Br : Blk ((w2.setCell ⟨w.heap.size + 1 + 1, 0, none⟩ (uv (F (n + 1)).v)).setCell ⟨w.heap.size + 1 + 1, 1, none⟩ (uv (F (n + 1)).m)) (w.heap.size + 1) 24 #[x, y] := ((Br.far (by first | (simp; done) | (simp; omega) | (simp [*]; done) | (simp only [ne_eq]; constructor <;> omega)) _).far (by first | (simp; done) | (simp; omega) | (simp [*]; done) | (simp only [ne_eq]; constructor <;> omega)) _)
      replace Bo : Blk ((w2.setCell ⟨w.heap.size + 1 + 1, 0, none⟩ (uv (F (n + 1)).v)).setCell ⟨w.heap.size + 1 + 1, 1, none⟩ (uv (F (n + 1)).m)) (w.heap.size + 1 + 1) 24 #[uv (F (n + 1)).v, uv (F (n + 1)).m] := ((Bo.set_ 0 _).set_ 1 _)
      replace hB : Below w.heap.size w ((w2.setCell ⟨w.heap.size + 1 + 1, 0, none⟩ (uv (F (n + 1)).v)).setCell ⟨w.heap.size + 1 + 1, 1, none⟩ (uv (F (n + 1)).m)) := (Bl_set (Bl_set hB (by first | omega | (simp; done) | (simp; omega)) _) (by first | omega | (simp; done) | (simp; omega)) _)
      generalize ((w2.setCell ⟨w.heap.size + 1 + 1, 0, none⟩ (uv (F (n + 1)).v)).setCell ⟨w.heap.size + 1 + 1, 1, none⟩ (uv (F (n + 1)).m)) = w3 at *
      obtain ⟨ca0, ca1⟩ := cells2 Ba
      have fa := Ba.frozen; have la := Ba.lt
      obtain ⟨cr0, cr1⟩ := cells2 Br
      have fr := Br.frozen; have lr := Br.lt
      obtain ⟨co0, co1⟩ := cells2 Bo
      have fo := Bo.frozen; have lo := Bo.lt
      go_wp2_with fail
      go_roundg (t - 1 - n)
      case measure => omega
      case rel => exact ⟨n + 1, by omega, by omega, by go_num, hB, Ba, ⟨_, _, Br⟩, Bo⟩
end Go.Proofs.Ytmghpoagpiljhaa
