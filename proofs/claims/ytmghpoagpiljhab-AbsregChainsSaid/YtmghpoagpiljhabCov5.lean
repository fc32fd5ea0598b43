/- The walk of absreg's Covers. -/
import Derived.Test.YtmghpoagpiljhabCov4
set_option linter.unusedSimpArgs false
set_option linter.unusedVariables false
namespace Go.Proofs.Ytmghpoagpiljhab
namespace PlainAbs
theorem covN_stay (M : Im) (f g : Nat → Rg) (j : Nat) (h : (covN M f g j).1 = false) : ∀ m, (covN M f g (j + m)).1 = false
  | 0 => h
  | m + 1 => by
    show (if (covN M f g (j + m)).1 = true then _ else _ : Bool × Im).1 = false
    rw [if_neg (by rw [covN_stay M f g j h m]; decide)]
theorem whatN_stay (s t : St) (j : Nat) (h : whatN s t j = false) : ∀ m, whatN s t (j + m) = false
  | 0 => h
  | m + 1 => by show (whatN s t (j + m) && _) = false; rw [whatN_stay s t j h m]; rfl
end PlainAbs
open Go.RowKit
open PlainTnum (N)
open PlainScalar (Rng)
open PlainAbs (Rg St zr zs upd Im)
theorem ld1 {m j J : Nat} (h : m + j = J) (hj : j < J) : J - 1 - j < m := by omega
theorem ld2 {j J : Nat} (hj : j < J) : J - 1 - j + (j + 1) = J := by omega
theorem ld3 {j J : Nat} (h1 : j ≤ J) (h2 : ¬ j < J) : j = J := by omega
theorem ld4 {j J : Nat} (hj : j < J) (hJ : J ≤ 64) : wrap64 ((j : Int) + 1) = ((j + 1 : Nat) : Int) := by rw [IntWalk.wrap64_in _ (by constructor <;> omega)]; omega
theorem ld5 {j J : Nat} (hj : j < J) : (j : Int) < (J : Int) := by omega
theorem below_blk {gx g : Nat} {w w' : World} {t : TypeId} {cs : Array Value} (h : Below gx w w') (hg : g < gx) (B : Blk w g t cs) : Blk w' g t cs := (h.block g hg).trans B
theorem size_rs (s : St) : (Try.prog.info? 30).map (·.size) = some (rsA s).size := by rw [rsA_size]; kernel_rfl
theorem size_ws (s : St) : (Try.prog.info? 31).map (·.size) = some (wsA s).size := by rw [wsA_size]; kernel_rfl
theorem size_ks (s : St) : (Try.prog.info? 32).map (·.size) = some (ksA s).size := by rw [ksA_size]; kernel_rfl
set_option maxRecDepth 100000 in
set_option maxHeartbeats 3200000 in
theorem cover_c (s t : St) (hid : ∀ k, k < 11 → okKey (s.r k).id ∧ okKey (t.r k).id) (hid2 : ∀ k, k < 8 → okKey (s.kept k).id ∧ okKey (t.kept k).id) (w : World) : Calls Try.prog 31 #[.agg (stv s), .agg (stv t)] w fun e w' => e = .returned (.bool (PlainAbs.covers s t)) ∧ Below w.heap.size w w' := by
  obtain ⟨R, hR⟩ : ∃ R, PlainAbs.covers s t = R := ⟨_, rfl⟩
  rw [hR]
  obtain ⟨F1, e1⟩ : ∃ F, F = PlainAbs.covN (fun _ => none) s.r t.r := ⟨_, rfl⟩
  obtain ⟨F2, e2⟩ : ∃ F, F = PlainAbs.covN (F1 11).2 s.kept t.kept := ⟨_, rfl⟩
  have X0 := Lib.hid (show F1 0 = (true, fun _ => none) by rw [e1]; rfl)
  have Y0 := Lib.hid (show F2 0 = (true, (F1 11).2) by rw [e2]; rfl)
  have X1 := Lib.hid (show ∀ j, (F1 j).1 = true → F1 (j + 1) = PlainAbs.cov (F1 j).2 (s.r j) (t.r j) from fun j h => by rw [e1] at h ⊢; show (if _ then _ else _) = _; rw [if_pos h])
  have Y1 := Lib.hid (show ∀ j, (F2 j).1 = true → F2 (j + 1) = PlainAbs.cov (F2 j).2 (s.kept j) (t.kept j) from fun j h => by rw [e2] at h ⊢; show (if _ then _ else _) = _; rw [if_pos h])
  have X2 := Lib.hid (show ∀ j, j < 11 → (F1 (j + 1)).1 = false → R = false from fun j hj h => by rw [← hR]; unfold PlainAbs.covers; rw [e1] at h; have h2 := PlainAbs.covN_stay _ _ _ _ h (11 - (j + 1)); rw [show j + 1 + (11 - (j + 1)) = 11 by omega] at h2; rw [h2]; rfl)
  have Y2 := Lib.hid (show ∀ j, j < 8 → (F2 (j + 1)).1 = false → R = false from fun j hj h => by rw [← hR]; unfold PlainAbs.covers; rw [e2, e1] at h; have h2 := PlainAbs.covN_stay _ _ _ _ h (8 - (j + 1)); rw [show j + 1 + (8 - (j + 1)) = 8 by omega] at h2; rw [h2]; simp)
  have Z2 := Lib.hid (show ∀ j, j < 64 → PlainAbs.whatN s t (j + 1) = false → R = false from fun j hj h => by rw [← hR]; unfold PlainAbs.covers; have h2 := PlainAbs.whatN_stay _ _ _ h (64 - (j + 1)); rw [show j + 1 + (64 - (j + 1)) = 64 by omega] at h2; rw [h2]; simp)
  have Z3 := Lib.hid (show (F1 11).1 = true → (F2 8).1 = true → PlainAbs.whatN s t 64 = true → R = true from fun h1 h2 h3 => by rw [← hR]; unfold PlainAbs.covers; rw [e2, e1] at h2; rw [e1] at h1; rw [h1, h2, h3]; rfl)
  have HI := Lib.hid hid; have HI2 := Lib.hid hid2; clear e2 e1 hR hid hid2
  go_enter Try.func31, Try.ntmps31
  go_upto_region 1 with fail
  obtain ⟨gs, hgs⟩ : ∃ g, g = w.heap.size := ⟨_, rfl⟩
  obtain ⟨gt, hgt⟩ : ∃ g, g = w.heap.size + 1 := ⟨_, rfl⟩
  have Bs : Blk ((w.alloc (.cells (stv s) 34)).alloc (.cells (stv t) 34)) (w.heap.size) 34 (stv s) := ((Blk.new w 34 (stv s))).alloc _
  have Bt : Blk ((w.alloc (.cells (stv s) 34)).alloc (.cells (stv t) 34)) (w.heap.size + 1) 34 (stv t) := (by simpa using Blk.new (w.alloc (.cells (stv s) 34)) 34 (stv t) : Blk _ (w.heap.size + 1) 34 (stv t))
  have hB : Below w.heap.size w ((w.alloc (.cells (stv s) 34)).alloc (.cells (stv t) 34)) := (Bl_alloc (Bl_alloc (Bl_refl w) _) _)
  clear hgs
  clear gs
  clear hgt
  clear gt
  generalize ((w.alloc (.cells (stv s) 34)).alloc (.cells (stv t) 34)) = w1 at *
  have fs := Bs.frozen; have ls := Bs.lt
  have ft := Bt.frozen; have lt := Bt.lt
  go_upto_region 2 with fail
  clear  fs ls
  clear  ft lt
  have Bx := Blk.new w1 110 #[.map none]
  have hgx := hB.size
  have hnsx := Nat.ne_of_lt Bs.lt; have hltsx := Bs.lt
  have hntx := Nat.ne_of_lt Bt.lt; have hlttx := Bt.lt
  replace Bs : Blk (w1.alloc (.cells #[.map none] 110)) (w.heap.size) 34 (stv s) := Bs.alloc _
  replace Bt : Blk (w1.alloc (.cells #[.map none] 110)) (w.heap.size + 1) 34 (stv t) := Bt.alloc _
  replace hB : Below w.heap.size w (w1.alloc (.cells #[.map none] 110)) := Bl_alloc hB _
  generalize (w1.alloc (.cells #[.map none] 110)) = w2 at *
  generalize w1.heap.size = gx at *
  have fs := Bs.frozen; have ls := Bs.lt
  have ft := Bt.frozen; have lt := Bt.lt
  have cx0 : w2.cell? ⟨gx, 0, none⟩ = some (.map none) := Bx.cell 0
  have fx := Bx.frozen; have lx := Bx.lt
  clear  fs ls
  clear  ft lt
  clear cx0 fx lx
  have hI : Ids w2 gx 0 (fun _ => none) := .inl ⟨Bx, rfl⟩
  have SX := Lib.hid hltsx; have TX := Lib.hid hlttx; have GX := Lib.hid hgx; clear Bx hnsx hntx hltsx hlttx hgx
  have fs := Bs.frozen; have ls := Bs.lt
  have ft := Bt.frozen; have lt := Bt.lt
  go_wp2_with (refine wpList_load_part rfl 30 (.tmp 14) rfl (w.heap.size) 0 rfl 34 (stv s) (rsA s) _ Bs Try.underlying30 rfl (size_rs s) part_get ?_)
  clear  fs ls
  clear  ft lt
  go_loopg [16] 11 (fun m' i wr => ∃ j : Nat, j ≤ 11 ∧ m' + j = 11 ∧ i = .int .i64 (j : Int) ∧ Below w.heap.size w wr ∧ Blk wr (w.heap.size) 34 (stv s) ∧ Blk wr (w.heap.size + 1) 34 (stv t) ∧ (F1 j).1 = true ∧ Ids wr gx j (F1 j).2)
  case atStart => exact ⟨0, Nat.zero_le _, rfl, rfl, hB, Bs, Bt, by rw [X0.out], by rw [X0.out]; exact hI⟩
  case round =>
    clear hB Bs Bt
    clear hI
    obtain ⟨j, hj, hgk, rfl, hB, Bs, Bt, hT, hI⟩ := hrel
    obtain ⟨wo1, rfl⟩ : ∃ z : World, z = wr := ⟨_, rfl⟩
    have fs := Bs.frozen; have ls := Bs.lt
    have ft := Bt.frozen; have lt := Bt.lt
    by_cases hq : j < 11
    · have HJ := Lib.hid hq; have HG := Lib.hid hgk; have HT := Lib.hid hT; clear hj hgk hT
      have hq1 : (j : Int) < 11 := ld5 hq
      obtain ⟨a, ha⟩ : ∃ a, a = s.r j := ⟨_, rfl⟩; obtain ⟨b, hb'⟩ : ∃ b, b = t.r j := ⟨_, rfl⟩
      have hix := fun w => idx_r s w j hq; rw [← ha] at hix
      have hbv : ∀ i v, (#[.int .i64 b.kind, uv b.r.b.v, uv b.r.b.m, uv b.r.lo, uv b.r.hi, sv b.r.sl, sv b.r.sh, .int .i64 b.slot, .int .i64 b.id, .int .i64 b.low, .int .i64 b.high] : Array Value).toList[i]? = some v → (stv t)[(j * 11) + i]? = some v := by rw [hb']; exact fun i v => r_vals t hq rfl i v
      have k_c : ∀ w : World, Ids w gx (j) (F1 j).2 → Calls Try.prog 58 #[.pointer (some ⟨gx, 0, none⟩), gv a, gv b] w fun e w' => e = .returned (.bool (F1 (j + 1)).1) ∧ Ids w' gx (j + 1) (F1 (j + 1)).2 ∧ Below gx w w' := fun w hI => by rw [X1.out j HT.out, ← ha, ← hb']; exact covers_c a b gx _ _ w hI (by omega) (by rw [ha]; exact (HI.out j hq).1) (by rw [hb']; exact (HI.out j hq).2)
      have K1 := Lib.hid k_c; have HBV := Lib.hid hbv; clear ha hb' k_c hbv
      go_upto_region 5 with fail
      clear hix
      clear  fs ls
      clear  ft lt
      have Br := Blk.new wo1 29 #[.int .i64 a.kind, uv a.r.b.v, uv a.r.b.m, uv a.r.lo, uv a.r.hi, sv a.r.sl, sv a.r.sh, .int .i64 a.slot, .int .i64 a.id, .int .i64 a.low, .int .i64 a.high]
      have hgr := hB.size
      have hnsr := Nat.ne_of_lt Bs.lt; have hltsr := Bs.lt
      have hntr := Nat.ne_of_lt Bt.lt; have hlttr := Bt.lt
      replace Bs : Blk (wo1.alloc (.cells #[.int .i64 a.kind, uv a.r.b.v, uv a.r.b.m, uv a.r.lo, uv a.r.hi, sv a.r.sl, sv a.r.sh, .int .i64 a.slot, .int .i64 a.id, .int .i64 a.low, .int .i64 a.high] 29)) (w.heap.size) 34 (stv s) := Bs.alloc _
      replace Bt : Blk (wo1.alloc (.cells #[.int .i64 a.kind, uv a.r.b.v, uv a.r.b.m, uv a.r.lo, uv a.r.hi, sv a.r.sl, sv a.r.sh, .int .i64 a.slot, .int .i64 a.id, .int .i64 a.low, .int .i64 a.high] 29)) (w.heap.size + 1) 34 (stv t) := Bt.alloc _
      replace hB : Below w.heap.size w (wo1.alloc (.cells #[.int .i64 a.kind, uv a.r.b.v, uv a.r.b.m, uv a.r.lo, uv a.r.hi, sv a.r.sl, sv a.r.sh, .int .i64 a.slot, .int .i64 a.id, .int .i64 a.low, .int .i64 a.high] 29)) := Bl_alloc hB _
      replace hI : Ids (wo1.alloc (.cells #[.int .i64 a.kind, uv a.r.b.v, uv a.r.b.m, uv a.r.lo, uv a.r.hi, sv a.r.sl, sv a.r.sh, .int .i64 a.slot, .int .i64 a.id, .int .i64 a.low, .int .i64 a.high] 29)) gx (j) (F1 j).2 := hI.next (Bl_alloc (Bl_refl wo1) _)
      generalize (wo1.alloc (.cells #[.int .i64 a.kind, uv a.r.b.v, uv a.r.b.m, uv a.r.lo, uv a.r.hi, sv a.r.sl, sv a.r.sh, .int .i64 a.slot, .int .i64 a.id, .int .i64 a.low, .int .i64 a.high] 29)) = w3 at *
      generalize wo1.heap.size = gr at *
      have fs := Bs.frozen; have ls := Bs.lt
      have ft := Bt.frozen; have lt := Bt.lt
      have cr0 : w3.cell? ⟨gr, 0, none⟩ = some (.int .i64 a.kind) := Br.cell 0
      have cr1 : w3.cell? ⟨gr, 1, none⟩ = some (uv a.r.b.v) := Br.cell 1
      have cr2 : w3.cell? ⟨gr, 2, none⟩ = some (uv a.r.b.m) := Br.cell 2
      have cr3 : w3.cell? ⟨gr, 3, none⟩ = some (uv a.r.lo) := Br.cell 3
      have cr4 : w3.cell? ⟨gr, 4, none⟩ = some (uv a.r.hi) := Br.cell 4
      have cr5 : w3.cell? ⟨gr, 5, none⟩ = some (sv a.r.sl) := Br.cell 5
      have cr6 : w3.cell? ⟨gr, 6, none⟩ = some (sv a.r.sh) := Br.cell 6
      have cr7 : w3.cell? ⟨gr, 7, none⟩ = some (.int .i64 a.slot) := Br.cell 7
      have cr8 : w3.cell? ⟨gr, 8, none⟩ = some (.int .i64 a.id) := Br.cell 8
      have cr9 : w3.cell? ⟨gr, 9, none⟩ = some (.int .i64 a.low) := Br.cell 9
      have cr10 : w3.cell? ⟨gr, 10, none⟩ = some (.int .i64 a.high) := Br.cell 10
      have fr := Br.frozen; have lr := Br.lt
      go_wp2_with fail
      replace cr0 : ∀ g : Later w3, g.w.cell? ⟨gr, 0, none⟩ = some (.int .i64 a.kind) := fun g => g.cell (Br.cell 0)
      replace cr1 : ∀ g : Later w3, g.w.cell? ⟨gr, 1, none⟩ = some (uv a.r.b.v) := fun g => g.cell (Br.cell 1)
      replace cr2 : ∀ g : Later w3, g.w.cell? ⟨gr, 2, none⟩ = some (uv a.r.b.m) := fun g => g.cell (Br.cell 2)
      replace cr3 : ∀ g : Later w3, g.w.cell? ⟨gr, 3, none⟩ = some (uv a.r.lo) := fun g => g.cell (Br.cell 3)
      replace cr4 : ∀ g : Later w3, g.w.cell? ⟨gr, 4, none⟩ = some (uv a.r.hi) := fun g => g.cell (Br.cell 4)
      replace cr5 : ∀ g : Later w3, g.w.cell? ⟨gr, 5, none⟩ = some (sv a.r.sl) := fun g => g.cell (Br.cell 5)
      replace cr6 : ∀ g : Later w3, g.w.cell? ⟨gr, 6, none⟩ = some (sv a.r.sh) := fun g => g.cell (Br.cell 6)
      replace cr7 : ∀ g : Later w3, g.w.cell? ⟨gr, 7, none⟩ = some (.int .i64 a.slot) := fun g => g.cell (Br.cell 7)
      replace cr8 : ∀ g : Later w3, g.w.cell? ⟨gr, 8, none⟩ = some (.int .i64 a.id) := fun g => g.cell (Br.cell 8)
      replace cr9 : ∀ g : Later w3, g.w.cell? ⟨gr, 9, none⟩ = some (.int .i64 a.low) := fun g => g.cell (Br.cell 9)
      replace cr10 : ∀ g : Later w3, g.w.cell? ⟨gr, 10, none⟩ = some (.int .i64 a.high) := fun g => g.cell (Br.cell 10)
      refine wp_region_mix 6 (fun _ => #[]) (by kernel_rfl) (by kernel_rfl) (no_alloc (by kernel_rfl)) ?_
      simp only [List.take_succ_cons, List.take_zero, List.drop_succ_cons, List.drop_zero]
      repeat (first | (refine wpMix_row rfl 29 (.tmp 7) rfl (gr) rfl 29 #[.int .i64 a.kind, uv a.r.b.v, uv a.r.b.m, uv a.r.lo, uv a.r.hi, sv a.r.sl, sv a.r.sh, .int .i64 a.slot, .int .i64 a.id, .int .i64 a.low, .int .i64 a.high] _ Br Try.underlying29 rfl (size_re _ _ _ _ _ _ _ _ _ _ _) ?_) | (refine wpMix_part rfl 29 (.tmp 24) rfl (w.heap.size + 1) ((j * 11)) rfl 34 (stv t) #[.int .i64 b.kind, uv b.r.b.v, uv b.r.b.m, uv b.r.lo, uv b.r.hi, sv b.r.sl, sv b.r.sh, .int .i64 b.slot, .int .i64 b.id, .int .i64 b.low, .int .i64 b.high] _ Bt Try.underlying29 rfl (size_re _ _ _ _ _ _ _ _ _ _ _) HBV.out ?_) | ((with_reducible refine wpMix_step (fun K hK => ?_)); go_simp; first | ((with_reducible refine hK _ ?_); clear hK K) | (rw [if_neg (by decide)]; (with_reducible refine hK _ ?_); clear hK K)))
      refine wpMix_nil ?_
      intro G w4 hgr hblk hdist
      have hb : Below w3.heap.size w3 w4 := hgr
      replace Bs := Bs.next hb
      replace Bt := Bt.next hb
      replace Br := Br.next hb
      replace hI := hI.next hb
      clear  fs ls
      clear  ft lt
      clear cr0 cr1 cr2 cr3 cr4 cr5 cr6 cr7 cr8 cr9 cr10 fr lr
      replace hB : Below w.heap.size w w4 := Bl_trans hB hb
      simp only [putAll, isAlloc]
      clear hb hgr hblk hdist
      have fs := Bs.frozen; have ls := Bs.lt
      have ft := Bt.frozen; have lt := Bt.lt
      have cr0 : w4.cell? ⟨gr, 0, none⟩ = some (.int .i64 a.kind) := Br.cell 0
      have cr1 : w4.cell? ⟨gr, 1, none⟩ = some (uv a.r.b.v) := Br.cell 1
      have cr2 : w4.cell? ⟨gr, 2, none⟩ = some (uv a.r.b.m) := Br.cell 2
      have cr3 : w4.cell? ⟨gr, 3, none⟩ = some (uv a.r.lo) := Br.cell 3
      have cr4 : w4.cell? ⟨gr, 4, none⟩ = some (uv a.r.hi) := Br.cell 4
      have cr5 : w4.cell? ⟨gr, 5, none⟩ = some (sv a.r.sl) := Br.cell 5
      have cr6 : w4.cell? ⟨gr, 6, none⟩ = some (sv a.r.sh) := Br.cell 6
      have cr7 : w4.cell? ⟨gr, 7, none⟩ = some (.int .i64 a.slot) := Br.cell 7
      have cr8 : w4.cell? ⟨gr, 8, none⟩ = some (.int .i64 a.id) := Br.cell 8
      have cr9 : w4.cell? ⟨gr, 9, none⟩ = some (.int .i64 a.low) := Br.cell 9
      have cr10 : w4.cell? ⟨gr, 10, none⟩ = some (.int .i64 a.high) := Br.cell 10
      have fr := Br.frozen; have lr := Br.lt
      clear hq1
      clear  fs ls
      clear  ft lt
      clear cr0 cr1 cr2 cr3 cr4 cr5 cr6 cr7 cr8 cr9 cr10 fr lr
      clear Br
      go_wp2_with fail
      refine (K1.out _ hI).mono ?_
      rintro e wc ⟨rfl, hI2, hb⟩
      replace Bs := below_blk hb SX.out Bs; replace Bt := below_blk hb TX.out Bt; replace hB := hB.trans (hb.mono GX.out); clear hI hb
      have fs := Bs.frozen; have ls := Bs.lt
      have ft := Bt.frozen; have lt := Bt.lt
      cases hc : (F1 (j + 1)).1
      · have E1 := Lib.hid (X2.out j HJ.out hc); clear hc
        go_wp2
        go_ret
        exact ⟨by rw [E1.out]; rfl, hB⟩
      · have HC := Lib.hid hc; clear hc
        go_wp2_with fail
        clear  fs ls
        clear  ft lt
        go_roundg (11 - 1 - j)
        case measure => exact ld1 HG.out HJ.out
        case rel => exact ⟨j + 1, HJ.out, ld2 HJ.out, (by first | rfl | (simp; done) | go_num), hB, Bs, Bt, HC.out, hI2⟩
    · obtain rfl := ld3 hj hq
      have H1 := Lib.hid hT; clear hT hq hj hgk X0 X1 X2
      go_wp2_with (refine wpList_load_part rfl 32 (.tmp 29) rfl (w.heap.size) 185 rfl 34 (stv s) (ksA s) _ Bs Try.underlying32 rfl (size_ks s) part_get ?_)
      clear  fs ls
      clear  ft lt
      go_loopg [31] 8 (fun m' i wr => ∃ j : Nat, j ≤ 8 ∧ m' + j = 8 ∧ i = .int .i64 (j : Int) ∧ Below w.heap.size w wr ∧ Blk wr (w.heap.size) 34 (stv s) ∧ Blk wr (w.heap.size + 1) 34 (stv t) ∧ (F2 j).1 = true ∧ Ids wr gx (11 + j) (F2 j).2)
      case atStart => exact ⟨0, Nat.zero_le _, rfl, rfl, hB, Bs, Bt, by rw [Y0.out], by rw [Y0.out]; exact hI⟩
      case round =>
        clear hB Bs Bt
        clear hI
        obtain ⟨j, hj, hgk, rfl, hB, Bs, Bt, hT, hI⟩ := hrel
        obtain ⟨wo2, rfl⟩ : ∃ z : World, z = wr := ⟨_, rfl⟩
        have fs := Bs.frozen; have ls := Bs.lt
        have ft := Bt.frozen; have lt := Bt.lt
        by_cases hq : j < 8
        · have HJ := Lib.hid hq; have HG := Lib.hid hgk; have HT := Lib.hid hT; clear hj hgk hT
          have hq1 : (j : Int) < 8 := ld5 hq
          obtain ⟨a, ha⟩ : ∃ a, a = s.kept j := ⟨_, rfl⟩; obtain ⟨b, hb'⟩ : ∃ b, b = t.kept j := ⟨_, rfl⟩
          have hix := fun w => idx_k s w j hq; rw [← ha] at hix
          have hbv : ∀ i v, (#[.int .i64 b.kind, uv b.r.b.v, uv b.r.b.m, uv b.r.lo, uv b.r.hi, sv b.r.sl, sv b.r.sh, .int .i64 b.slot, .int .i64 b.id, .int .i64 b.low, .int .i64 b.high] : Array Value).toList[i]? = some v → (stv t)[(185 + j * 11) + i]? = some v := by rw [hb']; exact fun i v => kept_vals t hq rfl i v
          have k_c : ∀ w : World, Ids w gx (11 + j) (F2 j).2 → Calls Try.prog 58 #[.pointer (some ⟨gx, 0, none⟩), gv a, gv b] w fun e w' => e = .returned (.bool (F2 (j + 1)).1) ∧ Ids w' gx (11 + j + 1) (F2 (j + 1)).2 ∧ Below gx w w' := fun w hI => by rw [Y1.out j HT.out, ← ha, ← hb']; exact covers_c a b gx _ _ w hI (by omega) (by rw [ha]; exact (HI2.out j hq).1) (by rw [hb']; exact (HI2.out j hq).2)
          have K1 := Lib.hid k_c; have HBV := Lib.hid hbv; clear ha hb' k_c hbv
          go_upto_region 11 with fail
          clear hix
          clear  fs ls
          clear  ft lt
          have Br := Blk.new wo2 29 #[.int .i64 a.kind, uv a.r.b.v, uv a.r.b.m, uv a.r.lo, uv a.r.hi, sv a.r.sl, sv a.r.sh, .int .i64 a.slot, .int .i64 a.id, .int .i64 a.low, .int .i64 a.high]
          have hgr := hB.size
          have hnsr := Nat.ne_of_lt Bs.lt; have hltsr := Bs.lt
          have hntr := Nat.ne_of_lt Bt.lt; have hlttr := Bt.lt
          replace Bs : Blk (wo2.alloc (.cells #[.int .i64 a.kind, uv a.r.b.v, uv a.r.b.m, uv a.r.lo, uv a.r.hi, sv a.r.sl, sv a.r.sh, .int .i64 a.slot, .int .i64 a.id, .int .i64 a.low, .int .i64 a.high] 29)) (w.heap.size) 34 (stv s) := Bs.alloc _
          replace Bt : Blk (wo2.alloc (.cells #[.int .i64 a.kind, uv a.r.b.v, uv a.r.b.m, uv a.r.lo, uv a.r.hi, sv a.r.sl, sv a.r.sh, .int .i64 a.slot, .int .i64 a.id, .int .i64 a.low, .int .i64 a.high] 29)) (w.heap.size + 1) 34 (stv t) := Bt.alloc _
          replace hB : Below w.heap.size w (wo2.alloc (.cells #[.int .i64 a.kind, uv a.r.b.v, uv a.r.b.m, uv a.r.lo, uv a.r.hi, sv a.r.sl, sv a.r.sh, .int .i64 a.slot, .int .i64 a.id, .int .i64 a.low, .int .i64 a.high] 29)) := Bl_alloc hB _
          replace hI : Ids (wo2.alloc (.cells #[.int .i64 a.kind, uv a.r.b.v, uv a.r.b.m, uv a.r.lo, uv a.r.hi, sv a.r.sl, sv a.r.sh, .int .i64 a.slot, .int .i64 a.id, .int .i64 a.low, .int .i64 a.high] 29)) gx (11 + j) (F2 j).2 := hI.next (Bl_alloc (Bl_refl wo2) _)
          generalize (wo2.alloc (.cells #[.int .i64 a.kind, uv a.r.b.v, uv a.r.b.m, uv a.r.lo, uv a.r.hi, sv a.r.sl, sv a.r.sh, .int .i64 a.slot, .int .i64 a.id, .int .i64 a.low, .int .i64 a.high] 29)) = w3 at *
          generalize wo2.heap.size = gr at *
          have fs := Bs.frozen; have ls := Bs.lt
          have ft := Bt.frozen; have lt := Bt.lt
          have cr0 : w3.cell? ⟨gr, 0, none⟩ = some (.int .i64 a.kind) := Br.cell 0
          have cr1 : w3.cell? ⟨gr, 1, none⟩ = some (uv a.r.b.v) := Br.cell 1
          have cr2 : w3.cell? ⟨gr, 2, none⟩ = some (uv a.r.b.m) := Br.cell 2
          have cr3 : w3.cell? ⟨gr, 3, none⟩ = some (uv a.r.lo) := Br.cell 3
          have cr4 : w3.cell? ⟨gr, 4, none⟩ = some (uv a.r.hi) := Br.cell 4
          have cr5 : w3.cell? ⟨gr, 5, none⟩ = some (sv a.r.sl) := Br.cell 5
          have cr6 : w3.cell? ⟨gr, 6, none⟩ = some (sv a.r.sh) := Br.cell 6
          have cr7 : w3.cell? ⟨gr, 7, none⟩ = some (.int .i64 a.slot) := Br.cell 7
          have cr8 : w3.cell? ⟨gr, 8, none⟩ = some (.int .i64 a.id) := Br.cell 8
          have cr9 : w3.cell? ⟨gr, 9, none⟩ = some (.int .i64 a.low) := Br.cell 9
          have cr10 : w3.cell? ⟨gr, 10, none⟩ = some (.int .i64 a.high) := Br.cell 10
          have fr := Br.frozen; have lr := Br.lt
          go_wp2_with fail
          replace cr0 : ∀ g : Later w3, g.w.cell? ⟨gr, 0, none⟩ = some (.int .i64 a.kind) := fun g => g.cell (Br.cell 0)
          replace cr1 : ∀ g : Later w3, g.w.cell? ⟨gr, 1, none⟩ = some (uv a.r.b.v) := fun g => g.cell (Br.cell 1)
          replace cr2 : ∀ g : Later w3, g.w.cell? ⟨gr, 2, none⟩ = some (uv a.r.b.m) := fun g => g.cell (Br.cell 2)
          replace cr3 : ∀ g : Later w3, g.w.cell? ⟨gr, 3, none⟩ = some (uv a.r.lo) := fun g => g.cell (Br.cell 3)
          replace cr4 : ∀ g : Later w3, g.w.cell? ⟨gr, 4, none⟩ = some (uv a.r.hi) := fun g => g.cell (Br.cell 4)
          replace cr5 : ∀ g : Later w3, g.w.cell? ⟨gr, 5, none⟩ = some (sv a.r.sl) := fun g => g.cell (Br.cell 5)
          replace cr6 : ∀ g : Later w3, g.w.cell? ⟨gr, 6, none⟩ = some (sv a.r.sh) := fun g => g.cell (Br.cell 6)
          replace cr7 : ∀ g : Later w3, g.w.cell? ⟨gr, 7, none⟩ = some (.int .i64 a.slot) := fun g => g.cell (Br.cell 7)
          replace cr8 : ∀ g : Later w3, g.w.cell? ⟨gr, 8, none⟩ = some (.int .i64 a.id) := fun g => g.cell (Br.cell 8)
          replace cr9 : ∀ g : Later w3, g.w.cell? ⟨gr, 9, none⟩ = some (.int .i64 a.low) := fun g => g.cell (Br.cell 9)
          replace cr10 : ∀ g : Later w3, g.w.cell? ⟨gr, 10, none⟩ = some (.int .i64 a.high) := fun g => g.cell (Br.cell 10)
          refine wp_region_mix 6 (fun _ => #[]) (by kernel_rfl) (by kernel_rfl) (no_alloc (by kernel_rfl)) ?_
          simp only [List.take_succ_cons, List.take_zero, List.drop_succ_cons, List.drop_zero]
          repeat (first | (refine wpMix_row rfl 29 (.tmp 9) rfl (gr) rfl 29 #[.int .i64 a.kind, uv a.r.b.v, uv a.r.b.m, uv a.r.lo, uv a.r.hi, sv a.r.sl, sv a.r.sh, .int .i64 a.slot, .int .i64 a.id, .int .i64 a.low, .int .i64 a.high] _ Br Try.underlying29 rfl (size_re _ _ _ _ _ _ _ _ _ _ _) ?_) | (refine wpMix_part rfl 29 (.tmp 39) rfl (w.heap.size + 1) ((185 + j * 11)) rfl 34 (stv t) #[.int .i64 b.kind, uv b.r.b.v, uv b.r.b.m, uv b.r.lo, uv b.r.hi, sv b.r.sl, sv b.r.sh, .int .i64 b.slot, .int .i64 b.id, .int .i64 b.low, .int .i64 b.high] _ Bt Try.underlying29 rfl (size_re _ _ _ _ _ _ _ _ _ _ _) HBV.out ?_) | ((with_reducible refine wpMix_step (fun K hK => ?_)); go_simp; first | ((with_reducible refine hK _ ?_); clear hK K) | (rw [if_neg (by decide)]; (with_reducible refine hK _ ?_); clear hK K)))
          refine wpMix_nil ?_
          intro G w4 hgr hblk hdist
          have hb : Below w3.heap.size w3 w4 := hgr
          replace Bs := Bs.next hb
          replace Bt := Bt.next hb
          replace Br := Br.next hb
          replace hI := hI.next hb
          clear  fs ls
          clear  ft lt
          clear cr0 cr1 cr2 cr3 cr4 cr5 cr6 cr7 cr8 cr9 cr10 fr lr
          replace hB : Below w.heap.size w w4 := Bl_trans hB hb
          simp only [putAll, isAlloc]
          clear hb hgr hblk hdist
          have fs := Bs.frozen; have ls := Bs.lt
          have ft := Bt.frozen; have lt := Bt.lt
          have cr0 : w4.cell? ⟨gr, 0, none⟩ = some (.int .i64 a.kind) := Br.cell 0
          have cr1 : w4.cell? ⟨gr, 1, none⟩ = some (uv a.r.b.v) := Br.cell 1
          have cr2 : w4.cell? ⟨gr, 2, none⟩ = some (uv a.r.b.m) := Br.cell 2
          have cr3 : w4.cell? ⟨gr, 3, none⟩ = some (uv a.r.lo) := Br.cell 3
          have cr4 : w4.cell? ⟨gr, 4, none⟩ = some (uv a.r.hi) := Br.cell 4
          have cr5 : w4.cell? ⟨gr, 5, none⟩ = some (sv a.r.sl) := Br.cell 5
          have cr6 : w4.cell? ⟨gr, 6, none⟩ = some (sv a.r.sh) := Br.cell 6
          have cr7 : w4.cell? ⟨gr, 7, none⟩ = some (.int .i64 a.slot) := Br.cell 7
          have cr8 : w4.cell? ⟨gr, 8, none⟩ = some (.int .i64 a.id) := Br.cell 8
          have cr9 : w4.cell? ⟨gr, 9, none⟩ = some (.int .i64 a.low) := Br.cell 9
          have cr10 : w4.cell? ⟨gr, 10, none⟩ = some (.int .i64 a.high) := Br.cell 10
          have fr := Br.frozen; have lr := Br.lt
          clear hq1
          clear  fs ls
          clear  ft lt
          clear cr0 cr1 cr2 cr3 cr4 cr5 cr6 cr7 cr8 cr9 cr10 fr lr
          clear Br
          go_wp2_with fail
          refine (K1.out _ hI).mono ?_
          rintro e wc ⟨rfl, hI2, hb⟩
          replace Bs := below_blk hb SX.out Bs; replace Bt := below_blk hb TX.out Bt; replace hB := hB.trans (hb.mono GX.out); clear hI hb
          have fs := Bs.frozen; have ls := Bs.lt
          have ft := Bt.frozen; have lt := Bt.lt
          cases hc : (F2 (j + 1)).1
          · have E1 := Lib.hid (Y2.out j HJ.out hc); clear hc
            go_wp2
            go_ret
            exact ⟨by rw [E1.out]; rfl, hB⟩
          · have HC := Lib.hid hc; clear hc
            go_wp2_with fail
            clear  fs ls
            clear  ft lt
            go_roundg (8 - 1 - j)
            case measure => exact ld1 HG.out HJ.out
            case rel => exact ⟨j + 1, HJ.out, ld2 HJ.out, (by first | rfl | (simp; done) | go_num), hB, Bs, Bt, HC.out, hI2⟩
        · obtain rfl := ld3 hj hq
          have H2 := Lib.hid hT; clear hT hq hj hgk Y0 Y1 Y2 hI
          go_wp2_with (refine wpList_load_part rfl 31 (.tmp 44) rfl (w.heap.size) 121 rfl 34 (stv s) (wsA s) _ Bs Try.underlying31 rfl (size_ws s) part_get ?_)
          clear  fs ls
          clear  ft lt
          go_loopg [46] 64 (fun m' i wr => ∃ j : Nat, j ≤ 64 ∧ m' + j = 64 ∧ i = .int .i64 (j : Int) ∧ Below w.heap.size w wr ∧ Blk wr (w.heap.size) 34 (stv s) ∧ Blk wr (w.heap.size + 1) 34 (stv t) ∧ PlainAbs.whatN s t j = true)
          case atStart => exact ⟨0, Nat.zero_le _, rfl, rfl, hB, Bs, Bt, rfl⟩
          case round =>
            clear hB Bs Bt
            obtain ⟨j, hj, hgk, rfl, hB, Bs, Bt, hT⟩ := hrel
            obtain ⟨wo3, rfl⟩ : ∃ z : World, z = wr := ⟨_, rfl⟩
            have fs := Bs.frozen; have ls := Bs.lt
            have ft := Bt.frozen; have lt := Bt.lt
            by_cases hq : j < 64
            · have HJ := Lib.hid hq; have HG := Lib.hid hgk; have HT := Lib.hid hT; clear hj hgk hT
              have hq1 : (j : Int) < 64 := ld5 hq
              have hix := fun w => idx_w s w j hq
              have ct : wo3.cell? ⟨w.heap.size + 1, 121 + j, none⟩ = some (.bool (t.what j)) := by rw [Bt.cell, stv_get t (by omega), what_at t hq]
              cases hs : s.what j
              · have HW := Lib.hid (show PlainAbs.whatN s t (j + 1) = true by show (_ && (!s.what j || t.what j)) = true; rw [HT.out, hs]; rfl)
                rw [hs] at hix; clear hs
                go_wp2_with fail
                clear  fs ls
                clear  ft lt
                go_roundg (63 - j)
                case measure => exact ld1 HG.out HJ.out
                case rel => exact ⟨j + 1, HJ.out, ld2 HJ.out, (by first | rfl | (simp; done) | go_num), hB, Bs, Bt, HW.out⟩
              · cases ht : t.what j
                · have E1 := Lib.hid (Z2.out j HJ.out (show PlainAbs.whatN s t (j + 1) = false by show (_ && (!s.what j || t.what j)) = false; rw [hs, ht]; simp))
                  rw [hs] at hix; rw [ht] at ct; clear hs ht
                  go_wp2
                  go_ret
                  exact ⟨by rw [E1.out]; rfl, hB⟩
                · have HW := Lib.hid (show PlainAbs.whatN s t (j + 1) = true by show (_ && (!s.what j || t.what j)) = true; rw [HT.out, hs, ht]; rfl)
                  rw [hs] at hix; rw [ht] at ct; clear hs ht
                  go_wp2_with fail
                  clear  fs ls
                  clear  ft lt
                  go_roundg (63 - j)
                  case measure => exact ld1 HG.out HJ.out
                  case rel => exact ⟨j + 1, HJ.out, ld2 HJ.out, (by first | rfl | (simp; done) | go_num), hB, Bs, Bt, HW.out⟩
            · obtain rfl := ld3 hj hq
              have E1 := Lib.hid (Z3.out H1.out H2.out hT); clear hT hq hj hgk
              go_wp2
              go_ret
              exact ⟨by rw [E1.out]; rfl, hB⟩
end Go.Proofs.Ytmghpoagpiljhab
