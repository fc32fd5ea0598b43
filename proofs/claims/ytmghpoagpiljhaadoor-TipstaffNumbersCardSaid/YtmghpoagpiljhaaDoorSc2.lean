/- The walks of package scalar, second part. -/
import Derived.Test.YtmghpoagpiljhaaDoorSc
import Derived.Test.YtmghpoagpiljhaaDoorMixL
import Derived.Deep.DeepCutAuto
set_option linter.unusedSimpArgs false
namespace Go.Proofs.YtmghpoagpiljhaaDoor
open Go.RowKit
open PlainTnum (N)
open PlainScalar (Rng)
set_option maxRecDepth 100000 in
set_option maxHeartbeats 1600000 in
theorem signs_c (a : Rng) (ga : Nat) (w : World) (Ba : Blk w ga 43 #[uv a.b.v, uv a.b.m, uv a.lo, uv a.hi, sv a.sl, sv a.sh]) : Calls Tryd.prog 86 #[.pointer (some ⟨ga, 0, none⟩)] w fun e w' => e = .returned (.tuple #[]) ∧ Blk w' ga 43 #[uv (PlainScalar.signs a).b.v, uv (PlainScalar.signs a).b.m, uv (PlainScalar.signs a).lo, uv (PlainScalar.signs a).hi, sv (PlainScalar.signs a).sl, sv (PlainScalar.signs a).sh] ∧ Below ga w w' := by
  go_enter Tryd.func86, Tryd.ntmps86
  have hB : Below ga w w := Below.refl _ _
  obtain ⟨ca0, ca1, ca2, ca3, ca4, ca5⟩ := cells6 Ba
  have fa := Ba.frozen; have la := Ba.lt
  go_wp2_with fail
  clear ca0 ca1 ca2 ca3 ca4 ca5; obtain ⟨ca0, ca1, ca2, ca3, ca4, ca5⟩ := lcells6 Ba
  refine wp_region_mix 11 (fun _ => #[]) (by kernel_rfl) (by kernel_rfl) (no_alloc (by kernel_rfl)) ?_
  simp only [List.take_succ_cons, List.take_zero, List.drop_succ_cons, List.drop_zero]
  repeat (refine wpMix_step (fun K hK => ?_); go_simp; first | (refine hK _ ?_; clear hK K))
  refine wpMix_nil ?_
  intro G w2 hgr hblk hdist
  have hb : Below w.heap.size w w2 := hgr
  replace Ba := Ba.next hb
  have hle := Nat.le_of_lt la
  clear ca0 ca1 ca2 ca3 ca4 ca5 fa la
  replace hB : Below ga w w2 := hB.trans (hb.mono hle)
  simp only [putAll, isAlloc]
  clear hb hgr hblk hdist
  obtain ⟨ca0, ca1, ca2, ca3, ca4, ca5⟩ := cells6 Ba
  have fa := Ba.frozen; have la := Ba.lt
  cases h1 : decide (S a.lo ≤ S a.hi)
  · cases h2 : decide (0 ≤ S a.sl)
    · cases h3 : decide (S a.sh < 0)
      · have e1 : PlainScalar.signs1 a = ⟨a.b, a.lo, a.hi, a.sl, a.sh⟩ := by unfold PlainScalar.signs1; rw [if_neg (show ¬ a.lo.toInt ≤ a.hi.toInt from of_decide_eq_false h1)]
        have hs : PlainScalar.signs a = ⟨a.b, a.lo, a.hi, a.sl, a.sh⟩ := by unfold PlainScalar.signs; rw [e1]; unfold PlainScalar.signs2; rw [if_neg (show ¬ (0 ≤ (a.sl).toInt ∨ (a.sh).toInt < 0) from fun h => h.elim (of_decide_eq_false h2) (of_decide_eq_false h3))]
        clear e1
        go_wp2
        go_end0
        exact ⟨rfl, by rw [hs]; exact Ba, hB⟩
      · go_wp2_with fail
        clear ca0 ca1 ca2 ca3 ca4 ca5; obtain ⟨ca0, ca1, ca2, ca3, ca4, ca5⟩ := lcells6 Ba
        refine wp_region_mixL 24 (fun k => k == 1 || k == 20 || k == 21) (fun _ => #[]) (by kernel_rfl) (by kernel_rfl) (fun d _ _ _ _ h => by cases d <;> exact h) (no_alloc (by kernel_rfl)) ?_
        simp only [List.take_succ_cons, List.take_zero, List.drop_succ_cons, List.drop_zero]
        repeat (refine wpMixL_step (fun K hK => ?_); go_simp; first | (refine hK _ ?_; clear hK K))
        refine wpMixL_nil ?_
        intro G w3 hgr hblk hdist
        have hb : Below w2.heap.size w2 w3 := hgr
        replace Ba := Ba.next hb
        have hle := Nat.le_of_lt la
        clear ca0 ca1 ca2 ca3 ca4 ca5 fa la
        replace hB : Below ga w w3 := hB.trans (hb.mono hle)
        simp only [putAll, isAlloc]
        clear hb hgr hblk hdist
        obtain ⟨ca0, ca1, ca2, ca3, ca4, ca5⟩ := cells6 Ba
        have fa := Ba.frozen; have la := Ba.lt
        have e1 : PlainScalar.signs1 a = ⟨a.b, a.lo, a.hi, a.sl, a.sh⟩ := by unfold PlainScalar.signs1; rw [if_neg (show ¬ a.lo.toInt ≤ a.hi.toInt from of_decide_eq_false h1)]
        have hs : PlainScalar.signs a = ⟨a.b, PlainScalar.maxU a.lo a.sl, PlainScalar.minU a.hi a.sh, a.sl, a.sh⟩ := by unfold PlainScalar.signs; rw [e1]; unfold PlainScalar.signs2; rw [if_pos (show 0 ≤ (a.sl).toInt ∨ (a.sh).toInt < 0 from Or.inr (of_decide_eq_true h3))]
        clear e1
        go_wp2
        go_end0
        exact ⟨rfl, by rw [hs]; exact (Ba.set_ 2 _).set_ 3 _, (hB.setCell (Nat.le_refl _) _).setCell (Nat.le_refl _) _⟩
    · go_wp2_with fail
      clear ca0 ca1 ca2 ca3 ca4 ca5; obtain ⟨ca0, ca1, ca2, ca3, ca4, ca5⟩ := lcells6 Ba
      refine wp_region_mixL 24 (fun k => k == 1 || k == 20 || k == 21) (fun _ => #[]) (by kernel_rfl) (by kernel_rfl) (fun d _ _ _ _ h => by cases d <;> exact h) (no_alloc (by kernel_rfl)) ?_
      simp only [List.take_succ_cons, List.take_zero, List.drop_succ_cons, List.drop_zero]
      repeat (refine wpMixL_step (fun K hK => ?_); go_simp; first | (refine hK _ ?_; clear hK K))
      refine wpMixL_nil ?_
      intro G w3 hgr hblk hdist
      have hb : Below w2.heap.size w2 w3 := hgr
      replace Ba := Ba.next hb
      have hle := Nat.le_of_lt la
      clear ca0 ca1 ca2 ca3 ca4 ca5 fa la
      replace hB : Below ga w w3 := hB.trans (hb.mono hle)
      simp only [putAll, isAlloc]
      clear hb hgr hblk hdist
      obtain ⟨ca0, ca1, ca2, ca3, ca4, ca5⟩ := cells6 Ba
      have fa := Ba.frozen; have la := Ba.lt
      have e1 : PlainScalar.signs1 a = ⟨a.b, a.lo, a.hi, a.sl, a.sh⟩ := by unfold PlainScalar.signs1; rw [if_neg (show ¬ a.lo.toInt ≤ a.hi.toInt from of_decide_eq_false h1)]
      have hs : PlainScalar.signs a = ⟨a.b, PlainScalar.maxU a.lo a.sl, PlainScalar.minU a.hi a.sh, a.sl, a.sh⟩ := by unfold PlainScalar.signs; rw [e1]; unfold PlainScalar.signs2; rw [if_pos (show 0 ≤ (a.sl).toInt ∨ (a.sh).toInt < 0 from Or.inl (of_decide_eq_true h2))]
      clear e1
      go_wp2
      go_end0
      exact ⟨rfl, by rw [hs]; exact (Ba.set_ 2 _).set_ 3 _, (hB.setCell (Nat.le_refl _) _).setCell (Nat.le_refl _) _⟩
  · go_wp2_with fail
    clear ca0 ca1 ca2 ca3 ca4 ca5; obtain ⟨ca0, ca1, ca2, ca3, ca4, ca5⟩ := lcells6 Ba
    refine wp_region_mixL 24 (fun k => k == 1 || k == 20 || k == 21) (fun _ => #[]) (by kernel_rfl) (by kernel_rfl) (fun d _ _ _ _ h => by cases d <;> exact h) (no_alloc (by kernel_rfl)) ?_
    simp only [List.take_succ_cons, List.take_zero, List.drop_succ_cons, List.drop_zero]
    repeat (refine wpMixL_step (fun K hK => ?_); go_simp; first | (refine hK _ ?_; clear hK K))
    refine wpMixL_nil ?_
    intro G w3 hgr hblk hdist
    have hb : Below w2.heap.size w2 w3 := hgr
    replace Ba := Ba.next hb
    have hle := Nat.le_of_lt la
    clear ca0 ca1 ca2 ca3 ca4 ca5 fa la
    replace hB : Below ga w w3 := hB.trans (hb.mono hle)
    simp only [putAll, isAlloc]
    clear hb hgr hblk hdist
    obtain ⟨ca0, ca1, ca2, ca3, ca4, ca5⟩ := cells6 Ba
    have fa := Ba.frozen; have la := Ba.lt
    go_upto_region 2 with fail
    clear ca0 ca1 ca2 ca3 ca4 ca5 fa la
    replace Ba : Blk (w3.setCell ⟨ga, 4, none⟩ (sv (PlainScalar.maxS a.sl a.lo))) (ga) 43 #[uv a.b.v, uv a.b.m, uv a.lo, uv a.hi, sv (PlainScalar.maxS a.sl a.lo), sv a.sh] := Ba.set_ 4 _
    replace hB : Below ga w (w3.setCell ⟨ga, 4, none⟩ (sv (PlainScalar.maxS a.sl a.lo))) := hB.setCell (Nat.le_refl _) _
    replace Ba : Blk ((w3.setCell ⟨ga, 4, none⟩ (sv (PlainScalar.maxS a.sl a.lo))).setCell ⟨ga, 5, none⟩ (sv (PlainScalar.minS a.sh a.hi))) (ga) 43 #[uv a.b.v, uv a.b.m, uv a.lo, uv a.hi, sv (PlainScalar.maxS a.sl a.lo), sv (PlainScalar.minS a.sh a.hi)] := Ba.set_ 5 _
    replace hB : Below ga w ((w3.setCell ⟨ga, 4, none⟩ (sv (PlainScalar.maxS a.sl a.lo))).setCell ⟨ga, 5, none⟩ (sv (PlainScalar.minS a.sh a.hi))) := hB.setCell (Nat.le_refl _) _
    generalize ((w3.setCell ⟨ga, 4, none⟩ (sv (PlainScalar.maxS a.sl a.lo))).setCell ⟨ga, 5, none⟩ (sv (PlainScalar.minS a.sh a.hi))) = w4 at *
    obtain ⟨ca0, ca1, ca2, ca3, ca4, ca5⟩ := cells6 Ba
    have fa := Ba.frozen; have la := Ba.lt
    cases h2 : decide (0 ≤ S (PlainScalar.maxS a.sl a.lo))
    · cases h3 : decide (S (PlainScalar.minS a.sh a.hi) < 0)
      · have e1 : PlainScalar.signs1 a = ⟨a.b, a.lo, a.hi, (PlainScalar.maxS a.sl a.lo), (PlainScalar.minS a.sh a.hi)⟩ := by unfold PlainScalar.signs1; rw [if_pos (show a.lo.toInt ≤ a.hi.toInt from of_decide_eq_true h1)]
        have hs : PlainScalar.signs a = ⟨a.b, a.lo, a.hi, (PlainScalar.maxS a.sl a.lo), (PlainScalar.minS a.sh a.hi)⟩ := by unfold PlainScalar.signs; rw [e1]; unfold PlainScalar.signs2; rw [if_neg (show ¬ (0 ≤ ((PlainScalar.maxS a.sl a.lo)).toInt ∨ ((PlainScalar.minS a.sh a.hi)).toInt < 0) from fun h => h.elim (of_decide_eq_false h2) (of_decide_eq_false h3))]
        clear e1
        go_wp2
        go_end0
        exact ⟨rfl, by rw [hs]; exact Ba, hB⟩
      · go_wp2_with fail
        clear ca0 ca1 ca2 ca3 ca4 ca5; obtain ⟨ca0, ca1, ca2, ca3, ca4, ca5⟩ := lcells6 Ba
        refine wp_region_mixL 24 (fun k => k == 1 || k == 20 || k == 21) (fun _ => #[]) (by kernel_rfl) (by kernel_rfl) (fun d _ _ _ _ h => by cases d <;> exact h) (no_alloc (by kernel_rfl)) ?_
        simp only [List.take_succ_cons, List.take_zero, List.drop_succ_cons, List.drop_zero]
        repeat (refine wpMixL_step (fun K hK => ?_); go_simp; first | (refine hK _ ?_; clear hK K))
        refine wpMixL_nil ?_
        intro G w5 hgr hblk hdist
        have hb : Below w4.heap.size w4 w5 := hgr
        replace Ba := Ba.next hb
        have hle := Nat.le_of_lt la
        clear ca0 ca1 ca2 ca3 ca4 ca5 fa la
        replace hB : Below ga w w5 := hB.trans (hb.mono hle)
        simp only [putAll, isAlloc]
        clear hb hgr hblk hdist
        obtain ⟨ca0, ca1, ca2, ca3, ca4, ca5⟩ := cells6 Ba
        have fa := Ba.frozen; have la := Ba.lt
        have e1 : PlainScalar.signs1 a = ⟨a.b, a.lo, a.hi, (PlainScalar.maxS a.sl a.lo), (PlainScalar.minS a.sh a.hi)⟩ := by unfold PlainScalar.signs1; rw [if_pos (show a.lo.toInt ≤ a.hi.toInt from of_decide_eq_true h1)]
        have hs : PlainScalar.signs a = ⟨a.b, PlainScalar.maxU a.lo (PlainScalar.maxS a.sl a.lo), PlainScalar.minU a.hi (PlainScalar.minS a.sh a.hi), (PlainScalar.maxS a.sl a.lo), (PlainScalar.minS a.sh a.hi)⟩ := by unfold PlainScalar.signs; rw [e1]; unfold PlainScalar.signs2; rw [if_pos (show 0 ≤ ((PlainScalar.maxS a.sl a.lo)).toInt ∨ ((PlainScalar.minS a.sh a.hi)).toInt < 0 from Or.inr (of_decide_eq_true h3))]
        clear e1
        go_wp2
        go_end0
        exact ⟨rfl, by rw [hs]; exact (Ba.set_ 2 _).set_ 3 _, (hB.setCell (Nat.le_refl _) _).setCell (Nat.le_refl _) _⟩
    · go_wp2_with fail
      clear ca0 ca1 ca2 ca3 ca4 ca5; obtain ⟨ca0, ca1, ca2, ca3, ca4, ca5⟩ := lcells6 Ba
      refine wp_region_mixL 24 (fun k => k == 1 || k == 20 || k == 21) (fun _ => #[]) (by kernel_rfl) (by kernel_rfl) (fun d _ _ _ _ h => by cases d <;> exact h) (no_alloc (by kernel_rfl)) ?_
      simp only [List.take_succ_cons, List.take_zero, List.drop_succ_cons, List.drop_zero]
      repeat (refine wpMixL_step (fun K hK => ?_); go_simp; first | (refine hK _ ?_; clear hK K))
      refine wpMixL_nil ?_
      intro G w5 hgr hblk hdist
      have hb : Below w4.heap.size w4 w5 := hgr
      replace Ba := Ba.next hb
      have hle := Nat.le_of_lt la
      clear ca0 ca1 ca2 ca3 ca4 ca5 fa la
      replace hB : Below ga w w5 := hB.trans (hb.mono hle)
      simp only [putAll, isAlloc]
      clear hb hgr hblk hdist
      obtain ⟨ca0, ca1, ca2, ca3, ca4, ca5⟩ := cells6 Ba
      have fa := Ba.frozen; have la := Ba.lt
      have e1 : PlainScalar.signs1 a = ⟨a.b, a.lo, a.hi, (PlainScalar.maxS a.sl a.lo), (PlainScalar.minS a.sh a.hi)⟩ := by unfold PlainScalar.signs1; rw [if_pos (show a.lo.toInt ≤ a.hi.toInt from of_decide_eq_true h1)]
      have hs : PlainScalar.signs a = ⟨a.b, PlainScalar.maxU a.lo (PlainScalar.maxS a.sl a.lo), PlainScalar.minU a.hi (PlainScalar.minS a.sh a.hi), (PlainScalar.maxS a.sl a.lo), (PlainScalar.minS a.sh a.hi)⟩ := by unfold PlainScalar.signs; rw [e1]; unfold PlainScalar.signs2; rw [if_pos (show 0 ≤ ((PlainScalar.maxS a.sl a.lo)).toInt ∨ ((PlainScalar.minS a.sh a.hi)).toInt < 0 from Or.inl (of_decide_eq_true h2))]
      clear e1
      go_wp2
      go_end0
      exact ⟨rfl, by rw [hs]; exact (Ba.set_ 2 _).set_ 3 _, (hB.setCell (Nat.le_refl _) _).setCell (Nat.le_refl _) _⟩
theorem T_ones : T (BitVec.allOnes 64) = 18446744073709551615 := rfl
@[go_sem] theorem u_andNot_ones (x : W) : bits .andNot .u64 (T x) 18446744073709551615 = T (x &&& ~~~BitVec.allOnes 64) := u_andNot x (BitVec.allOnes 64)
set_option maxRecDepth 20000 in
set_option maxHeartbeats 800000 in
theorem common_c (lo hi : W) (w : World) : Calls Tryd.prog 88 #[uv lo, uv hi] w fun e w' => e = .returned (nv (PlainScalar.common lo hi)) ∧ Below w.heap.size w w' := by
  have hn : ¬ ((PlainScalar.len (lo ^^^ hi) : Int) < 0) := by omega
  cases hq : ((PlainScalar.len (lo ^^^ hi) : Int) == 64)
  · have hm : PlainScalar.maskOf (PlainScalar.len (lo ^^^ hi)) = (1#64 <<< PlainScalar.len (lo ^^^ hi)) - 1#64 := by
      unfold PlainScalar.maskOf; rw [if_neg (by have h := hq; simp at h; omega)]
    have hc : PlainScalar.common lo hi = ⟨lo &&& ~~~((1#64 <<< PlainScalar.len (lo ^^^ hi)) - 1#64), (1#64 <<< PlainScalar.len (lo ^^^ hi)) - 1#64⟩ := by unfold PlainScalar.common; rw [hm]
    rw [hc]; clear hc hm
    go_enter Tryd.func88, Tryd.ntmps88
    go_wp2_with fail
    refine (len64_c _ _).mono ?_
    rintro e w1 ⟨rfl, rfl⟩
    go_wp2
    exact bodyPost_ret (v := nv ⟨lo &&& ~~~((1#64 <<< PlainScalar.len (lo ^^^ hi)) - 1#64), (1#64 <<< PlainScalar.len (lo ^^^ hi)) - 1#64⟩) (by simp [results, Tryd.results88, go_sem, Nat.min_eq_left (PlainScalar.len_le _)]) rfl ⟨rfl, (by repeat (first | (with_reducible exact Bl_refl _) | with_reducible apply Bl_alloc | with_reducible apply Bl_drew | with_reducible apply Bl_drewN | (with_reducible refine Bl_set ?_ (by first | omega | (simp; done) | (simp; omega)) _) | (with_reducible refine Bl_trans ?_ (by assumption))))⟩
  · have hm : PlainScalar.maskOf (PlainScalar.len (lo ^^^ hi)) = BitVec.allOnes 64 := by
      unfold PlainScalar.maskOf; rw [if_pos (by simp at hq; omega)]
    have hc : PlainScalar.common lo hi = ⟨lo &&& ~~~(BitVec.allOnes 64), BitVec.allOnes 64⟩ := by unfold PlainScalar.common; rw [hm]
    rw [hc]; clear hc hm
    go_enter Tryd.func88, Tryd.ntmps88
    go_wp2_with fail
    refine (len64_c _ _).mono ?_
    rintro e w1 ⟨rfl, rfl⟩
    go_wp2
    exact bodyPost_ret (v := nv ⟨lo &&& ~~~(BitVec.allOnes 64), BitVec.allOnes 64⟩) (by simp [results, Tryd.results88, go_sem]; rfl) rfl ⟨rfl, (by repeat (first | (with_reducible exact Bl_refl _) | with_reducible apply Bl_alloc | with_reducible apply Bl_drew | with_reducible apply Bl_drewN | (with_reducible refine Bl_set ?_ (by first | omega | (simp; done) | (simp; omega)) _) | (with_reducible refine Bl_trans ?_ (by assumption))))⟩
end Go.Proofs.YtmghpoagpiljhaaDoor
