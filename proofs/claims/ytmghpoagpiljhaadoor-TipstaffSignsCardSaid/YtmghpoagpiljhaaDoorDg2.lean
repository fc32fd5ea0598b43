/- The walks of package digest: the words of a block. -/
import Derived.Test.YtmghpoagpiljhaaDoorDg
import Derived.Test.YtmghpoagpiljhaaDoorArr
import Derived.Deep.CutBlock
import Derived.Deep.DeepCutAuto
set_option linter.unusedSimpArgs false
set_option linter.unusedVariables false
namespace Go.Proofs.YtmghpoagpiljhaaDoor
open Go.RowKit
open PlainSha (into wordAt wd rr)
/-- The words of the first bytes. -/
def pw (l : List (BitVec 8)) : Nat → Nat → BitVec 32
  | 0 => fun _ => 0
  | i + 1 => upd3 (pw l i) (i / 4) (into (pw l i (i / 4)) (l.getD i 0))
theorem pw_4 (l : List (BitVec 8)) : ∀ (k j : Nat), pw l (4 * k) j = if j < k then wordAt l j else 0
  | 0, j => rfl
  | k + 1, j => by
      have ih := pw_4 l k
      rw [show 4 * (k + 1) = 4 * k + 1 + 1 + 1 + 1 by omega]
      simp only [pw, upd3]
      rw [show (4 * k + 1 + 1 + 1) / 4 = k by omega, show (4 * k + 1 + 1) / 4 = k by omega, show (4 * k + 1) / 4 = k by omega, show 4 * k / 4 = k by omega]
      simp only [if_pos, ih]
      by_cases h : j = k
      · subst h
        rw [if_pos rfl, if_pos (Nat.lt_succ_self _), if_neg (Nat.lt_irrefl _)]
        rfl
      · rw [if_neg h, if_neg h, if_neg h, if_neg h]
        by_cases h2 : j < k
        · rw [if_pos h2, if_pos (by omega)]
        · rw [if_neg h2, if_neg (by omega)]
/-- The words up to a place. -/
def qw (m : Nat → BitVec 32) (t : Nat) : Nat → BitVec 32 := fun j => if j < t then wd m j else 0
theorem qw_16 (l : List (BitVec 8)) : wvs 64 (pw l 64) = wvs 64 (qw (wordAt l) 16) := wvs_ext fun j _ => by
  rw [show 64 = 4 * 16 from rfl, pw_4]
  unfold qw
  by_cases h : j < 16
  · rw [if_pos h, if_pos h, PlainSha.wd_low _ _ h]
  · rw [if_neg h, if_neg h]
theorem qw_64 (m : Nat → BitVec 32) : wvs 64 (qw m 64) = wvs 64 (wd m) := wvs_ext fun j h => by
  unfold qw
  rw [if_pos h]
theorem qw_next (m : Nat → BitVec 32) (t : Nat) : wvs 64 (upd3 (qw m (t + 16)) (t + 16) (PlainSha.s1 (wd m (t + 14)) + wd m (t + 9) + PlainSha.s0 (wd m (t + 1)) + wd m t)) = wvs 64 (qw m (t + 17)) := wvs_ext fun j h => by
  unfold upd3 qw
  by_cases e : j = t + 16
  · subst e
    rw [if_pos rfl, if_pos (by omega), PlainSha.wd_next]
  · rw [if_neg e]
    by_cases h2 : j < t + 16
    · rw [if_pos h2, if_pos (by omega)]
    · rw [if_neg h2, if_neg (by omega)]
theorem zer64 : wvs 64 (fun _ => 0) = #[.int .u32 0, .int .u32 0, .int .u32 0, .int .u32 0, .int .u32 0, .int .u32 0, .int .u32 0, .int .u32 0, .int .u32 0, .int .u32 0, .int .u32 0, .int .u32 0, .int .u32 0, .int .u32 0, .int .u32 0, .int .u32 0, .int .u32 0, .int .u32 0, .int .u32 0, .int .u32 0, .int .u32 0, .int .u32 0, .int .u32 0, .int .u32 0, .int .u32 0, .int .u32 0, .int .u32 0, .int .u32 0, .int .u32 0, .int .u32 0, .int .u32 0, .int .u32 0, .int .u32 0, .int .u32 0, .int .u32 0, .int .u32 0, .int .u32 0, .int .u32 0, .int .u32 0, .int .u32 0, .int .u32 0, .int .u32 0, .int .u32 0, .int .u32 0, .int .u32 0, .int .u32 0, .int .u32 0, .int .u32 0, .int .u32 0, .int .u32 0, .int .u32 0, .int .u32 0, .int .u32 0, .int .u32 0, .int .u32 0, .int .u32 0, .int .u32 0, .int .u32 0, .int .u32 0, .int .u32 0, .int .u32 0, .int .u32 0, .int .u32 0, .int .u32 0] := rfl
theorem dg_sr1 {m j J : Nat} (h : m + j = J) (hj : j < J) : J - 1 - j < m := by omega
theorem dg_sr2 {j J : Nat} (hj : j < J) : J - 1 - j + (j + 1) = J := by omega
theorem dg_sr3 {j J : Nat} (h : j ≤ J) (h2 : ¬ j < J) : j = J := by omega
set_option maxRecDepth 100000 in
set_option maxHeartbeats 3200000 in
theorem words_c (l : List (BitVec 8)) (g off cap : Nat) (w : World) (hc : ∀ j, j < 64 → w.cell? ⟨g, off + j, none⟩ = some (bv (l.getD j 0))) : Calls Tryd.prog 47 #[.slice (some ⟨g, off, none⟩) 64 cap] w fun e w' => e = .returned (.agg (wvs 64 (wd (wordAt l)))) ∧ Below w.heap.size w w' := by
  have HC := Lib.hid hc; clear hc
  suffices H : ∀ w1 : World, Below w.heap.size w w1 → Calls Tryd.prog 47 #[.slice (some ⟨g, off, none⟩) 64 cap] w1 (fun e w' => e = .returned (.agg (wvs 64 (wd (wordAt l)))) ∧ Below w.heap.size w w') from H w (Bl_refl w)
  intro w1 hB
  go_enter Tryd.func47, Tryd.ntmps47
  go_upto_region 2 with fail
  rw [← zer64]
  have hdrv : w1.heap.size ≠ w1.heap.size + 1 := by omega
  have hgr := hB.size
  have hgv : w.heap.size ≤ w1.heap.size + 1 := by omega
  have Br : Blk ((w1.alloc (.cells (wvs 64 fun _ => 0) 88)).alloc (.cells (wvs 64 fun _ => 0) 88)) (w1.heap.size) 88 (wvs 64 fun _ => 0) := (Blk.new w1 _ _).alloc _
  have Bv : Blk ((w1.alloc (.cells (wvs 64 fun _ => 0) 88)).alloc (.cells (wvs 64 fun _ => 0) 88)) (w1.heap.size + 1) 88 (wvs 64 fun _ => 0) := by simpa using Blk.new (w1.alloc (.cells (wvs 64 fun _ => 0) 88)) 88 (wvs 64 fun _ => 0)
  replace hB : Below w.heap.size w ((w1.alloc (.cells (wvs 64 fun _ => 0) 88)).alloc (.cells (wvs 64 fun _ => 0) 88)) := Bl_alloc (Bl_alloc hB _) _
  generalize ((w1.alloc (.cells (wvs 64 fun _ => 0) 88)).alloc (.cells (wvs 64 fun _ => 0) 88)) = w2 at *
  generalize w1.heap.size + 1 = gv at *
  generalize w1.heap.size = gr at *
  have fr := Br.frozen; have lr := Br.lt
  have fv := Bv.frozen; have lv := Bv.lt
  go_wp2_with fail
  clear  fr lr
  clear  fv lv
  go_loopg [13] 64 (fun m' i wr => ∃ j : Nat, j ≤ 64 ∧ m' + j = 64 ∧ i = .int .i64 (j : Int) ∧ Below w.heap.size w wr ∧ Blk wr (gr) 88 (wvs 64 fun _ => 0) ∧ Blk wr (gv) 88 (wvs 64 (pw l j)))
  case atStart => exact ⟨0, Nat.zero_le _, rfl, rfl, hB, Br, Bv⟩
  case round =>
    clear hB Br Bv
    obtain ⟨j, hj, hgk, rfl, hB, Br, Bv⟩ := hrel
    obtain ⟨wo, rfl⟩ : ∃ z : World, z = wr := ⟨_, rfl⟩
    have fr := Br.frozen; have lr := Br.lt
    have fv := Bv.frozen; have lv := Bv.lt
    by_cases h : j < 64
    · have h1 : (j : Int) < 64 := by omega
      obtain ⟨c, hcc⟩ : ∃ c, c = l.getD j 0 := ⟨_, rfl⟩
      have cc : wo.cell? ⟨g, off + j, none⟩ = some (bv c) := by rw [hcc, ← HC.out j h]; exact hB.cell (World.block_lt_of_cell? w _ (HC.out j h))
      obtain ⟨k, hk⟩ : ∃ k, k = j / 4 := ⟨_, rfl⟩
      have hdv : (j : Int) / 4 = (k : Int) := by omega
      have hk64 : k < 64 := by omega
      obtain ⟨x, hx⟩ : ∃ x, x = pw l j k := ⟨_, rfl⟩
      have cx : wo.cell? ⟨gv, k, none⟩ = some (wv x) := by rw [Bv.cell, wvs_get _ hk64, hx]
      have HN := Lib.hid (show pw l (j + 1) = upd3 (pw l j) k (into x c) by rw [hcc, hx, hk]; rfl)
      have HJ := Lib.hid h; have HG := Lib.hid hgk; clear hcc hk hx hgk hj
      go_upto_region 6 with fail
      clear  fr lr
      clear  fv lv
      replace Bv : Blk (wo.setCell ⟨gv, k, none⟩ (wv (into x c))) (gv) 88 (wvs 64 (pw l (j + 1))) := by rw [HN.out, ← wvs_set _ hk64]; exact Bv.set_ k _
      replace Br : Blk (wo.setCell ⟨gv, k, none⟩ (wv (into x c))) (gr) 88 (wvs 64 fun _ => 0) := Br.far (by first | (simp; done) | (simp; omega) | (simp [*]; done) | (simp only [ne_eq]; constructor <;> omega)) _
      replace hB : Below w.heap.size w (wo.setCell ⟨gv, k, none⟩ (wv (into x c))) := Bl_set hB (by first | omega | (simp; done) | (simp; omega)) _
      clear cx cc HN; change Code.wp _ _ _ _ (wo.setCell ⟨gv, k, none⟩ (wv (into x c)))
      generalize (wo.setCell ⟨gv, k, none⟩ (wv (into x c))) = w9 at *
      go_wp2_with fail
      go_roundg (64 - 1 - j)
      case measure => exact dg_sr1 HG.out HJ.out
      case rel => exact ⟨j + 1, HJ.out, dg_sr2 HJ.out, by go_num, hB, Br, Bv⟩
    · obtain rfl := dg_sr3 hj h
      rw [qw_16] at Bv
      clear hj h hgk HC
      obtain ⟨m, hm⟩ : ∃ m, m = wordAt l := ⟨_, rfl⟩; rw [← hm] at Bv; have HM := Lib.hid hm; clear hm
      go_wp2_with fail
      clear  fr lr
      clear  fv lv
      go_loopg [6] 48 (fun m' i wr => ∃ t : Nat, t ≤ 48 ∧ m' + t = 48 ∧ i = .int .i64 ((t + 16 : Nat) : Int) ∧ Below w.heap.size w wr ∧ Blk wr (gr) 88 (wvs 64 fun _ => 0) ∧ Blk wr (gv) 88 (wvs 64 (qw m (t + 16))))
      case atStart => exact ⟨0, Nat.zero_le _, rfl, rfl, hB, Br, Bv⟩
      case round =>
        clear hB Br Bv
        obtain ⟨t, ht, hgk, rfl, hB, Br, Bv⟩ := hrel
        obtain ⟨wk, rfl⟩ : ∃ z : World, z = wr := ⟨_, rfl⟩
        have fr := Br.frozen; have lr := Br.lt
        have fv := Bv.frozen; have lv := Bv.lt
        by_cases h : t < 48
        · have h1 : (t : Int) < 48 := by omega
          have h2 : t + 16 < 64 := by omega
          have h3 : ((t + 16 : Nat) : Int) < 64 := by omega
          have HJ := Lib.hid h; have HG := Lib.hid hgk; clear hgk ht
          have h4 : (t : Int) + 16 < 64 := by omega
          have e0 : IntKind.i64.wrap (t : Int) = (t : Int) := IntWalk.i64_in _ (by constructor <;> omega)
          have h5 : 0 ≤ (t : Int) + 16 := by omega
          have h6 : ((t : Int) + 16).toNat = t + 16 := by omega
          obtain ⟨x1, hx1⟩ : ∃ x, x = wd m (t + 1) := ⟨_, rfl⟩
          obtain ⟨x14, hx14⟩ : ∃ x, x = wd m (t + 14) := ⟨_, rfl⟩
          obtain ⟨x9, hx9⟩ : ∃ x, x = wd m (t + 9) := ⟨_, rfl⟩
          obtain ⟨x0, hx0⟩ : ∃ x, x = wd m (t) := ⟨_, rfl⟩
          have HN := Lib.hid (show wvs 64 (upd3 (qw m (t + 16)) (t + 16) (PlainSha.s1 x14 + x9 + PlainSha.s0 x1 + x0)) = wvs 64 (qw m (t + 17)) by rw [hx14, hx9, hx1, hx0]; exact qw_next m t)
          have HX14 := Lib.hid hx14; have HX9 := Lib.hid hx9; have HX1 := Lib.hid hx1; have HX0 := Lib.hid hx0; clear hx14 hx9 hx1 hx0
          have e15 : IntKind.i64.wrap ((t : Int) + 16 - 15) = (t : Int) + 1 := by rw [IntWalk.i64_in _ (by constructor <;> omega)]; try omega
          have b15 : (t : Int) + 1 < 64 := (by omega); have p15 : 0 ≤ (t : Int) + 1 := (by omega); have n15 : t + 1 < 64 := (by omega); have q15 : ((t : Int) + 1).toNat = t + 1 := (by omega)
          have e2 : IntKind.i64.wrap ((t : Int) + 16 - 2) = (t : Int) + 14 := by rw [IntWalk.i64_in _ (by constructor <;> omega)]; try omega
          have b2 : (t : Int) + 14 < 64 := (by omega); have p2 : 0 ≤ (t : Int) + 14 := (by omega); have n2 : t + 14 < 64 := (by omega); have q2 : ((t : Int) + 14).toNat = t + 14 := (by omega)
          have e7 : IntKind.i64.wrap ((t : Int) + 16 - 7) = (t : Int) + 9 := by rw [IntWalk.i64_in _ (by constructor <;> omega)]; try omega
          have b7 : (t : Int) + 9 < 64 := (by omega); have p7 : 0 ≤ (t : Int) + 9 := (by omega); have n7 : t + 9 < 64 := (by omega); have q7 : ((t : Int) + 9).toNat = t + 9 := (by omega)
          have e16 : IntKind.i64.wrap ((t : Int) + 16 - 16) = (t : Int) := by rw [IntWalk.i64_in _ (by constructor <;> omega)]; try omega
          have b16 : (t : Int) < 64 := (by omega); have p16 : 0 ≤ (t : Int) := (by omega); have n16 : t + 0 < 64 := (by omega); have q16 : ((t : Int)).toNat = t + 0 := (by omega)
          go_upto_region 10 with fail
          have cx1 : ∀ g : Later wk, g.w.cell? ⟨gv, t + 1, none⟩ = some (wv x1) := fun g => g.cell (by rw [Bv.cell, wvs_get _ (by omega), HX1.out]; unfold qw; rw [if_pos (by omega)])
          have cx14 : ∀ g : Later wk, g.w.cell? ⟨gv, t + 14, none⟩ = some (wv x14) := fun g => g.cell (by rw [Bv.cell, wvs_get _ (by omega), HX14.out]; unfold qw; rw [if_pos (by omega)])
          go_wp2_with fail
          refine wp_region_mix 10 (fun _ => #[]) (by kernel_rfl) (by kernel_rfl) (no_alloc (by kernel_rfl)) ?_
          simp only [List.take_succ_cons, List.take_zero, List.drop_succ_cons, List.drop_zero]
          repeat (refine wpMix_step (fun K hK => ?_); go_simp; first | (refine hK _ ?_; clear hK K))
          refine wpMix_nil ?_
          intro G w3 hgr hblk hdist
          have hb : Below wk.heap.size wk w3 := hgr
          replace Br := Br.next hb
          replace Bv := Bv.next hb
          clear  fr lr
          clear  fv lv
          replace hB : Below w.heap.size w w3 := Bl_trans hB hb
          simp only [putAll, isAlloc]
          clear hb hgr hblk hdist
          have fr := Br.frozen; have lr := Br.lt
          have fv := Bv.frozen; have lv := Bv.lt
          clear cx1 cx14
          go_wp2_with fail
          refine (drot_c x1 7 (by decide) (by decide) _).mono ?_
          rintro e w' ⟨rfl, hw⟩; rw [hw]; clear hw w'
          go_wp2_with fail
          refine (drot_c x1 18 (by decide) (by decide) _).mono ?_
          rintro e w' ⟨rfl, hw⟩; rw [hw]; clear hw w'
          go_wp2_with fail
          refine (drot_c x14 17 (by decide) (by decide) _).mono ?_
          rintro e w' ⟨rfl, hw⟩; rw [hw]; clear hw w'
          go_wp2_with fail
          refine (drot_c x14 19 (by decide) (by decide) _).mono ?_
          rintro e w' ⟨rfl, hw⟩; rw [hw]; clear hw w'
          go_upto_region 13 with fail
          try rw [u3_shr3, u3_shr10, u3_xor, u3_xor]
          have cx9 : ∀ g : Later w3, g.w.cell? ⟨gv, t + 9, none⟩ = some (wv x9) := fun g => g.cell (by rw [Bv.cell, wvs_get _ (by omega), HX9.out]; unfold qw; rw [if_pos (by omega)])
          have cx0 : ∀ g : Later w3, g.w.cell? ⟨gv, t, none⟩ = some (wv x0) := fun g => g.cell (by rw [Bv.cell, wvs_get _ (by omega), HX0.out]; unfold qw; rw [if_pos (by omega)])
          go_wp2_with fail
          refine wp_region_mix 15 (fun _ => #[]) (by kernel_rfl) (by kernel_rfl) (no_alloc (by kernel_rfl)) ?_
          simp only [List.take_succ_cons, List.take_zero, List.drop_succ_cons, List.drop_zero]
          repeat (refine wpMix_step (fun K hK => ?_); go_simp; first | (refine hK _ ?_; clear hK K))
          refine wpMix_nil ?_
          intro G w4 hgr hblk hdist
          have hb : Below w3.heap.size w3 w4 := hgr
          replace Br := Br.next hb
          replace Bv := Bv.next hb
          clear  fr lr
          clear  fv lv
          replace hB : Below w.heap.size w w4 := Bl_trans hB hb
          simp only [putAll, isAlloc]
          clear hb hgr hblk hdist
          have fr := Br.frozen; have lr := Br.lt
          have fv := Bv.frozen; have lv := Bv.lt
          clear cx9 cx0
          have cn : w4.cell? ⟨gv, t + 16, none⟩ = some (wv 0) := by rw [Bv.cell, wvs_get _ h2]; unfold qw; rw [if_neg (by omega)]
          go_upto_region 9 with fail
          clear  fr lr
          clear  fv lv
          replace Bv : Blk (w4.setCell ⟨gv, t + 16, none⟩ (wv (PlainSha.s1 x14 + x9 + PlainSha.s0 x1 + x0))) (gv) 88 (wvs 64 (qw m (t + 17))) := by rw [← HN.out, ← wvs_set _ h2]; exact Bv.set_ (t + 16) _
          replace Br : Blk (w4.setCell ⟨gv, t + 16, none⟩ (wv (PlainSha.s1 x14 + x9 + PlainSha.s0 x1 + x0))) (gr) 88 (wvs 64 fun _ => 0) := Br.far (by first | (simp; done) | (simp; omega) | (simp [*]; done) | (simp only [ne_eq]; constructor <;> omega)) _
          replace hB : Below w.heap.size w (w4.setCell ⟨gv, t + 16, none⟩ (wv (PlainSha.s1 x14 + x9 + PlainSha.s0 x1 + x0))) := Bl_set hB (by first | omega | (simp; done) | (simp; omega)) _
          clear cn HN; change Code.wp _ _ _ _ (w4.setCell ⟨gv, t + 16, none⟩ (wv (PlainSha.s1 x14 + x9 + PlainSha.s0 x1 + x0)))
          generalize (w4.setCell ⟨gv, t + 16, none⟩ (wv (PlainSha.s1 x14 + x9 + PlainSha.s0 x1 + x0))) = w9 at *
          go_wp2_with fail
          go_roundg (48 - 1 - t)
          case measure => exact dg_sr1 HG.out HJ.out
          case rel => exact ⟨t + 1, HJ.out, dg_sr2 HJ.out, by go_num, hB, Br, Bv⟩
        · obtain rfl := dg_sr3 ht h
          have h2 : ¬ ((48 + 16 : Nat) : Int) < 64 := by omega
          rw [show 48 + 16 = 64 from rfl, qw_64] at Bv
          clear ht h hgk
          go_wp2_with (first | (refine wpList_load_whole rfl 88 (.tmp 3) rfl gv rfl 88 _ _ Bv Tryd.underlying88 rfl (by rw [wvs_size]; kernel_rfl) ?_) | (refine wpList_store_whole rfl 88 (.tmp 2) (.tmp 73) rfl gr (wvs 64 (wd m)) rfl rfl 88 _ Br (by rw [wvs_size]; kernel_rfl) (by rw [wvs_size, wvs_size]) (wvs_one _ _) ?_))
          intro w3 hS
          clear  fr lr
          clear  fv lv
          replace Br : Blk w3 (gr) 88 (wvs 64 (wd m)) := hS.blk
          replace Bv := hS.far (by first | (simp; done) | (simp; omega) | (simp [*]; done) | (simp only [ne_eq]; constructor <;> omega)) Bv
          replace hB := hS.bel hB (by first | omega | (simp; omega))
          clear hS
          have fr := Br.frozen; have lr := Br.lt
          have fv := Bv.frozen; have lv := Bv.lt
          go_wp2_with fail
          exact bodyPost_ret (v := .agg (wvs 64 (wd m))) (results_row1 Tryd.results47 _ _ gr 88 _ _ rfl Br Tryd.underlying88 rfl (by rw [wvs_size]; kernel_rfl)) rfl ⟨by rw [HM.out], hB⟩
end Go.Proofs.YtmghpoagpiljhaaDoor
