/- The walk of tnum.Mul. -/
import Derived.Test.YtmghpoagpiljhaaDoorTw
import Derived.Deep.DeepCutAuto
import Derived.Deep.CutBlock
namespace Go.Proofs.YtmghpoagpiljhaaDoor
open Go.RowKit
open PlainTnum (N)
theorem byN_1 : byN 1 = 1 := by decide
theorem down1_c (a : N) (w : World) : Calls Tryd.prog 95 #[nv a, .int .i64 1] w fun e w' => e = .returned (nv (PlainTnum.down a 1)) ∧ Below w.heap.size w w' := by
  have := down_c a 1 w; rwa [byN_1] at this
theorem left1_c (a : N) (w : World) : Calls Tryd.prog 96 #[nv a, .int .i64 1] w fun e w' => e = .returned (nv (PlainTnum.left a 1)) ∧ Below w.heap.size w w' := by
  have := left_c a 1 w; rwa [byN_1] at this
theorem T_zero : T 0#64 = 0 := rfl
theorem add0_c (s : N) (m : W) (w : World) : Calls Tryd.prog 76 #[nv s, .agg #[.int .u64 0, uv m]] w fun e w' => e = .returned (nv (PlainTnum.add s ⟨0#64, m⟩)) ∧ Below w.heap.size w w' := by
  exact add_c s ⟨0#64, m⟩ w
/-- What holds at each round's head: the three nums, and what is told of them in the end. -/
structure MulRel (w0 : World) (g5 : Nat) (R : N) (n : Nat) (a b s : N) (wr : World) : Prop where
  is : Hid (PlainTnum.mulW a b s = R)
  n : (a.v ||| a.m).toNat ≤ n
  below : Below w0.heap.size w0 wr
  ba : Blk wr w0.heap.size 41 #[uv a.v, uv a.m]
  bb : Blk wr (w0.heap.size + 1) 41 #[uv b.v, uv b.m]
  bc : ∃ x y, Blk wr (w0.heap.size + 1 + 1) 41 #[x, y]
  bs : Blk wr g5 41 #[uv s.v, uv s.m]
  lt : w0.heap.size + 1 + 1 < g5
set_option maxRecDepth 20000 in
set_option maxHeartbeats 1600000 in
theorem mul_c (a b : N) (w : World) : Calls Tryd.prog 79 #[nv a, nv b] w fun e w' => e = .returned (nv (PlainTnum.mul a b)) ∧ Below w.heap.size w w' := by
  generalize hR0 : PlainTnum.mul a b = R
  have hR : Hid (PlainTnum.mulW a b (PlainTnum.const (a.v * b.v)) = R) := hR0
  clear hR0
  go_enter Tryd.func79, Tryd.ntmps79
  go_wp2_with fail
  refine (const_c _ _).mono ?_
  rintro e w1 ⟨rfl, hb1⟩
  go_wp2_with fail
  go_loopg [] (a.v ||| a.m).toNat (fun n wr => ∃ a b s, MulRel w w1.heap.size R n a b s wr)
  case atStart =>
    have h1 := hb1.size
    simp at h1
    refine ⟨a, b, _, hR, Nat.le_refl _, by repeat (first | exact Bl_refl _ | apply Bl_alloc | (refine Bl_trans ?_ (by assumption))), ?_, ?_, ⟨.int .u64 0, .int .u64 0, ?_⟩, Blk.new _ _ _, by omega⟩
    · exact Blk.alloc (Blk.next (((Blk.new _ _ _).alloc _).alloc _) hb1) _
    · exact Blk.alloc (Blk.next ((by simpa using Blk.new (w.alloc (Obj.cells #[uv a.v, uv a.m] 41)) _ _ : Blk _ (w.heap.size + 1) _ _).alloc _) hb1) _
    · exact Blk.alloc (Blk.next (by simpa using Blk.new ((w.alloc (Obj.cells #[uv a.v, uv a.m] 41)).alloc (Obj.cells #[uv b.v, uv b.m] 41)) _ _ : Blk _ (w.heap.size + 1 + 1) _ _) hb1) _
  case round =>
    obtain ⟨a, b, s, is, hn, hbel, ba, bb, ⟨x, y, bc⟩, bs, hlt⟩ := hrel
    have a0 : wr.cell? ⟨w.heap.size, 0, none⟩ = some (uv a.v) := ba.cell 0
    have a1 : wr.cell? ⟨w.heap.size, 1, none⟩ = some (uv a.m) := ba.cell 1
    have b0 : wr.cell? ⟨w.heap.size + 1, 0, none⟩ = some (uv b.v) := bb.cell 0
    have b1 : wr.cell? ⟨w.heap.size + 1, 1, none⟩ = some (uv b.m) := bb.cell 1
    have c0 : wr.cell? ⟨w.heap.size + 1 + 1, 0, none⟩ = some x := bc.cell 0
    have c1 : wr.cell? ⟨w.heap.size + 1 + 1, 1, none⟩ = some y := bc.cell 1
    have s0 : wr.cell? ⟨w1.heap.size, 0, none⟩ = some (uv s.v) := bs.cell 0
    have s1 : wr.cell? ⟨w1.heap.size, 1, none⟩ = some (uv s.m) := bs.cell 1
    have fa := ba.frozen
    have fb := bb.frozen
    have fc := bc.frozen
    have fs := bs.frozen
    have la := ba.lt
    have lb := bb.lt
    have lc := bc.lt
    have ls := bs.lt
    have hB := hbel.size
    cases hq : (T (a.v ||| a.m) != 0)
    · have hz : a.v ||| a.m = 0#64 := by rw [T_bne0] at hq; simpa using hq
      have he := is.out
      rw [PlainTnum.mulW_end hz] at he
      subst he
      clear hz is hn
      go_wp2
      exact bodyPost_ret (v := nv s) (by simp [results, Tryd.results79, go_sem, c0, c1]) rfl ⟨rfl, (by repeat (first | exact Bl_refl _ | assumption | apply Bl_alloc | apply Bl_drew | apply Bl_drewN | (refine Bl_set ?_ (by first | omega | (simp; done) | (simp; omega)) _) | (refine Bl_trans ?_ (by assumption))))⟩
    · have hz : ¬ a.v ||| a.m = 0#64 := by rw [T_bne0] at hq; simpa using hq
      have he : Hid (PlainTnum.mulW (PlainTnum.down a 1) (PlainTnum.left b 1) (PlainTnum.mulStep a b s) = R) := by
        have he := is.out
        rw [PlainTnum.mulW_step hz] at he
        exact he
      have hnn : Hid (((PlainTnum.down a 1).v ||| (PlainTnum.down a 1).m).toNat + 1 ≤ gk) := by
        rw [PlainTnum.down_or]
        have := PlainTnum.div_lt _ hz
        exact Nat.lt_of_lt_of_le this hn
      clear is hn hz
      go_upto_block 1 with (fail)
      go_cut [22, 32] (fun _ _ wx => ∃ s', Hid (PlainTnum.mulW (PlainTnum.down a 1) (PlainTnum.left b 1) s' = R) ∧ Below w.heap.size w wx ∧ Blk wx w.heap.size 41 #[uv a.v, uv a.m] ∧ Blk wx (w.heap.size + 1) 41 #[uv b.v, uv b.m] ∧ (∃ x y, Blk wx (w.heap.size + 1 + 1) 41 #[x, y]) ∧ Blk wx w1.heap.size 41 #[uv s'.v, uv s'.m])
      case first =>
        cases h1 : (T (a.v &&& 1#64) == 1)
        · cases h2 : (T (a.m &&& 1#64) == 1)
          · have hs : PlainTnum.mulStep a b s = s := by
              rw [T_beq1] at h1 h2
              unfold PlainTnum.mulStep
              rw [if_neg (by simpa using h1), if_neg (by simpa using h2)]
            rw [hs] at he
            clear hs
            go_wp2_with fail
            go_meet
            case rel => exact ⟨_, he, hbel, ba, bb, ⟨_, _, bc⟩, bs⟩
          · have hs : PlainTnum.mulStep a b s = PlainTnum.add s ⟨0#64, b.v ||| b.m⟩ := by
              rw [T_beq1] at h1 h2
              unfold PlainTnum.mulStep
              rw [if_neg (by simpa using h1), if_pos (by simpa using h2)]
            rw [hs] at he
            clear hs
            go_wp2_with fail
            refine (add0_c _ _ _).mono ?_
            rintro e w2 ⟨rfl, hb2⟩
            have bs2 := bs.next hb2
            have s02 : w2.cell? ⟨w1.heap.size, 0, none⟩ = some (uv s.v) := bs2.cell 0
            have s12 : w2.cell? ⟨w1.heap.size, 1, none⟩ = some (uv s.m) := bs2.cell 1
            have fs2 := bs2.frozen
            go_wp2_with fail
            go_meet
            case rel => exact ⟨_, he, (by repeat (first | exact Bl_refl _ | assumption | apply Bl_alloc | apply Bl_drew | apply Bl_drewN | (refine Bl_set ?_ (by first | omega | (simp; done) | (simp; omega)) _) | (refine Bl_trans ?_ (by assumption)))), (ba.next hb2).far2 (by simp; omega) _ _, (bb.next hb2).far2 (by simp; omega) _ _, ⟨_, _, (bc.next hb2).far2 (by simp; omega) _ _⟩, bs2.set2 _ _⟩
        · have hs : PlainTnum.mulStep a b s = PlainTnum.add s ⟨0#64, b.m⟩ := by
            rw [T_beq1] at h1
            unfold PlainTnum.mulStep
            rw [if_pos (by simpa using h1)]
          rw [hs] at he
          clear hs
          go_wp2_with fail
          refine (add0_c _ _ _).mono ?_
          rintro e w2 ⟨rfl, hb2⟩
          have bs2 := bs.next hb2
          have s02 : w2.cell? ⟨w1.heap.size, 0, none⟩ = some (uv s.v) := bs2.cell 0
          have s12 : w2.cell? ⟨w1.heap.size, 1, none⟩ = some (uv s.m) := bs2.cell 1
          have fs2 := bs2.frozen
          go_wp2_with fail
          go_meet
          case rel => exact ⟨_, he, (by repeat (first | exact Bl_refl _ | assumption | apply Bl_alloc | apply Bl_drew | apply Bl_drewN | (refine Bl_set ?_ (by first | omega | (simp; done) | (simp; omega)) _) | (refine Bl_trans ?_ (by assumption)))), (ba.next hb2).far2 (by simp; omega) _ _, (bb.next hb2).far2 (by simp; omega) _ _, ⟨_, _, (bc.next hb2).far2 (by simp; omega) _ _⟩, bs2.set2 _ _⟩
      case rest =>
        clear he hbel ba bb bc bs a0 a1 b0 b1 c0 c1 s0 s1 fa fb fc fs la lb lc ls hB
        obtain ⟨s', he, hbel, ba, bb, ⟨x', y', bc⟩, bs⟩ := hcut
        have a0 : wc.cell? ⟨w.heap.size, 0, none⟩ = some (uv a.v) := ba.cell 0
        have a1 : wc.cell? ⟨w.heap.size, 1, none⟩ = some (uv a.m) := ba.cell 1
        have b0 : wc.cell? ⟨w.heap.size + 1, 0, none⟩ = some (uv b.v) := bb.cell 0
        have b1 : wc.cell? ⟨w.heap.size + 1, 1, none⟩ = some (uv b.m) := bb.cell 1
        go_wp2_with fail
        go_region_with (first
              | (go_at_call 95; refine (down1_c _ _).mono ?_; rintro e w2 ⟨rfl, hb2⟩; have ba2 := ba.drew.next hb2; have bb2 := bb.drew.next hb2; have bc2 := bc.drew.next hb2; have bs2 := bs.drew.next hb2; have b02 : w2.cell? ⟨w.heap.size + 1, 0, none⟩ = some (uv b.v) := bb2.cell 0; have b12 : w2.cell? ⟨w.heap.size + 1, 1, none⟩ = some (uv b.m) := bb2.cell 1)
              | (go_at_call 96; refine (left1_c _ _).mono ?_; rintro e w3 ⟨rfl, hb3⟩; have ba3 := ba2.next hb3; have bb3 := bb2.next hb3; have bc3 := bc2.next hb3; have bs3 := bs2.next hb3; have a03 : w3.cell? ⟨w.heap.size, 0, none⟩ = some (uv a.v) := ba3.cell 0; have a13 : w3.cell? ⟨w.heap.size, 1, none⟩ = some (uv a.m) := ba3.cell 1; have b03 : w3.cell? ⟨w.heap.size + 1, 0, none⟩ = some (uv b.v) := bb3.cell 0; have b13 : w3.cell? ⟨w.heap.size + 1, 1, none⟩ = some (uv b.m) := bb3.cell 1; have fa3 := ba3.frozen; have fb3 := bb3.frozen))
        all_goals
          go_wp2_with fail
          go_roundg ((PlainTnum.down a 1).v ||| (PlainTnum.down a 1).m).toNat
          case measure => exact hnn.out
          case rel => exact ⟨_, _, s', he, Nat.le_refl _, (by repeat (first | exact Bl_refl _ | assumption | apply Bl_alloc | apply Bl_drew | apply Bl_drewN | (refine Bl_set ?_ (by first | omega | (simp; done) | (simp; omega)) _) | (refine Bl_trans ?_ (by assumption)))), (ba3.set2 _ _).far2 (by first | (simp; done) | (simp; omega)) _ _, (bb3.far2 (by first | (simp; done) | (simp; omega)) _ _).set2 _ _, ⟨_, _, (bc3.far2 (by first | (simp; done) | (simp; omega)) _ _).far2 (by first | (simp; done) | (simp; omega)) _ _⟩, (bs3.far2 (by first | (simp; done) | (simp; omega)) _ _).far2 (by first | (simp; done) | (simp; omega)) _ _, hlt⟩
end Go.Proofs.YtmghpoagpiljhaaDoor
