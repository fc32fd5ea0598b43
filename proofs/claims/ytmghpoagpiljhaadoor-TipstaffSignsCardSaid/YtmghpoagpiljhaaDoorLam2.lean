/- The walks of package lamport: bits of a sum, keys, signatures. -/
import Derived.Test.YtmghpoagpiljhaaDoorLam
set_option linter.unusedSimpArgs false
set_option linter.unusedVariables false
namespace Go.Proofs.YtmghpoagpiljhaaDoor
open Go.RowKit
open PlainSha (secret leafT out sum allTo keyT)
/-- A bit of a sum. -/
def bitN (l : List (BitVec 8)) (i : Nat) : Nat := (l.getD (i / 8) 0).toNat / 2 ^ (7 - i % 8) % 2
theorem bitN_lt (l : List (BitVec 8)) (i : Nat) : bitN l i < 2 := Nat.mod_lt _ (by omega)
theorem and1 : ∀ n : Nat, n < 256 → bits .and .u8 (n : Int) 1 = ((n % 2 : Nat) : Int) := by decide +kernel
theorem shr_b (c : BitVec 8) (k : Nat) : T1 c / 2 ^ k = ((c.toNat / 2 ^ k : Nat) : Int) := by
  unfold T1
  rw [show ((2 : Int) ^ k) = ((2 ^ k : Nat) : Int) by rw [Int.natCast_pow]; rfl]
  exact (Int.natCast_ediv _ _).symm
theorem and1_b (c : BitVec 8) (k : Nat) : bits .and .u8 (T1 c / 2 ^ k) 1 = ((c.toNat / 2 ^ k % 2 : Nat) : Int) := by
  rw [shr_b, and1 _ (Nat.lt_of_le_of_lt (Nat.div_le_self _ _) c.isLt)]
/-- A signature's first parts. -/
def sigT (s : BitVec 8) (l : List (BitVec 8)) : Nat → List (BitVec 8)
  | 0 => []
  | i + 1 => sigT s l i ++ (secret s i (bitN l i) ++ leafT (secret s i (1 - bitN l i)))
theorem secret_0 (s : BitVec 8) (i : Nat) (hi : i < 32) (gs os cs : Nat) (w : World) (hT : Tabs w) (hc : w.cell? ⟨gs, os, none⟩ = some (bv s)) : Calls Tryd.prog 29 #[.slice (some ⟨gs, os, none⟩) 1 cs, .int .i64 (i : Int), .int .u8 0] w (RetB w 32 (secret s i 0)) := secret_c s i 0 hi (by omega) gs os cs w hT hc
theorem secret_1 (s : BitVec 8) (i : Nat) (hi : i < 32) (gs os cs : Nat) (w : World) (hT : Tabs w) (hc : w.cell? ⟨gs, os, none⟩ = some (bv s)) : Calls Tryd.prog 29 #[.slice (some ⟨gs, os, none⟩) 1 cs, .int .i64 (i : Int), .int .u8 1] w (RetB w 32 (secret s i 1)) := secret_c s i 1 hi (by omega) gs os cs w hT hc
set_option maxRecDepth 100000 in
set_option maxHeartbeats 800000 in
theorem bit_c (l : List (BitVec 8)) (i : Nat) (hi : i < 32) (w : World) : Calls Tryd.prog 31 #[.agg (b32 l), .int .i64 (i : Int)] w fun e w' => e = .returned (.int .u8 (bitN l i : Int)) ∧ Below w.heap.size w w' := by
  obtain ⟨M, hM⟩ : ∃ M, M = b32 l := ⟨_, rfl⟩
  have hMs : (Tryd.prog.info? 23).map (·.size) = some M.size := by rw [hM]; unfold b32; rw [bws_size]; kernel_rfl
  have HM := Lib.hid hM; rw [← hM]; clear hM
  obtain ⟨k, hk⟩ : ∃ k, k = i / 8 := ⟨_, rfl⟩; obtain ⟨r, hr⟩ : ∃ k, k = i % 8 := ⟨_, rfl⟩; obtain ⟨sh, hsh⟩ : ∃ k, k = 7 - r := ⟨_, rfl⟩
  have e1 : (i : Int) / 8 = (k : Int) := by omega
  have e2 : (i : Int) % 8 = (r : Int) := by omega
  have e3 : 7 - (r : Int) = (sh : Int) := by omega
  have b1 : k < 32 := by omega
  have b2 : (k : Int) < 32 := by omega
  have b3 : sh ≤ 7 := by omega
  have b4 : r < 8 := by omega
  obtain ⟨c, hc⟩ : ∃ c, c = l.getD k 0 := ⟨_, rfl⟩
  have HV := Lib.hid (show bitN l i = c.toNat / 2 ^ sh % 2 by unfold bitN; rw [← hk, ← hr, ← hsh, ← hc])
  have HCC := Lib.hid hc; clear hk hr hsh hc
  go_enter Tryd.func31, Tryd.ntmps31
  go_upto_region 1 with fail
  have cx : (w.alloc (.cells M 23)).cell? ⟨w.heap.size, k, none⟩ = some (bv c) := by rw [(Blk.new w 23 M).cell, HM.out, HCC.out]; unfold b32; rw [bws_get _ b1]
  go_wp2
  go_ret
  exact ⟨by rw [HV.out, ← and1_b]; rfl, Bl_alloc (Bl_refl w) _⟩
set_option maxRecDepth 100000 in
set_option maxHeartbeats 1600000 in
theorem key_c (s : BitVec 8) (gs os cs : Nat) (w : World) (hT : Tabs w) (hc : w.cell? ⟨gs, os, none⟩ = some (bv s)) : Calls Tryd.prog 10 #[.slice (some ⟨gs, os, none⟩) 1 cs] w fun e w' => e = .returned (.agg (b32 (keyT s))) ∧ Below w.heap.size w w' := by
  have HT := Lib.hid hT; have HC := Lib.hid hc; clear hc hT
  suffices H : ∀ w1 : World, Below w.heap.size w w1 → Calls Tryd.prog 10 #[.slice (some ⟨gs, os, none⟩) 1 cs] w1 (fun e w' => e = .returned (.agg (b32 (keyT s))) ∧ Below w.heap.size w w') from H w (Bl_refl w)
  intro w1 hB
  go_enter Tryd.func10, Tryd.ntmps10
  go_upto_region 1 with fail
  rw [← b32_z]
  have Br := Blk.new w1 23 (bws 32 fun _ => 0); have hgr := hB.size
  replace hB : Below w.heap.size w (w1.alloc (.cells (bws 32 fun _ => 0) 23)) := Bl_alloc hB _
  generalize (w1.alloc (.cells (bws 32 fun _ => 0) 23)) = w2 at *; generalize w1.heap.size = gr at *
  have HB0 := Lib.hid hB; have HBr := Lib.hid Br; have HGR := Lib.hid hgr; clear hB Br hgr
  have hB : Below w2.heap.size w2 w2 := Bl_refl w2
  have HTW := Lib.hid (show ∀ w3 : World, Below w2.heap.size w2 w3 → Tabs w3 from fun w3 h3 => HT.out.next (Bl_trans HB0.out h3))
  have HCW := Lib.hid (show ∀ w3 : World, Below w2.heap.size w2 w3 → w3.cell? ⟨gs, os, none⟩ = some (bv s) from fun w3 h3 => ((Bl_trans HB0.out h3).cell (World.block_lt_of_cell? w _ HC.out)).trans HC.out); clear HC HT
  go_wp2_with fail
  go_loopg [3, 5] 32 (fun m' v i wr => ∃ j : Nat, j ≤ 32 ∧ m' + j = 32 ∧ i = .int .i64 (j : Int) ∧ Below w2.heap.size w2 wr ∧ OwnB wr w2.heap.size v (64 * j) (allTo s j))
  case atStart => exact ⟨0, Nat.zero_le _, rfl, rfl, hB, World.ownsRow_nil _ _ _ _⟩
  case round =>
    clear hB
    obtain ⟨j, hj, hgk, rfl, hB, hO⟩ := hrel
    obtain ⟨wo, rfl⟩ : ∃ z : World, z = wr := ⟨_, rfl⟩
    by_cases h : j < 32
    · have h1 : (j : Int) < 32 := by omega
      obtain ⟨J, eJ⟩ : ∃ k, k = allTo s j := ⟨_, rfl⟩; obtain ⟨k, ek⟩ : ∃ k, k = 64 * j := ⟨_, rfl⟩
      have hk : k ≤ 2048 := by omega
      rw [← ek, ← eJ] at hO
      have HA := Lib.hid (show ∀ v w3, OwnB w3 w2.heap.size v (k + 32 + 32) (J ++ leafT (secret s j 0) ++ leafT (secret s j 1)) → OwnB w3 w2.heap.size v (64 * (j + 1)) (allTo s (j + 1)) from fun v w3 hv => by rw [eJ] at hv; rw [show 64 * (j + 1) = k + 32 + 32 by omega]; exact hv)
      have HJ := Lib.hid h; have HG := Lib.hid hgk; clear hgk eJ ek hj
      have k_s := secret_0 s j HJ.out gs os cs wo (HTW.out _ hB) (HCW.out _ hB)
      have KS := Lib.hid k_s; clear k_s
      obtain ⟨X0, eX⟩ : ∃ X, X = secret s j 0 := ⟨_, rfl⟩; rw [← eX] at KS HA; clear eX
      go_wp2_with fail
      refine (KS.out).mono ?_
      rintro e wa0 ⟨gx0, cx0, rfl, hb, hgx0, hlx0, hnx0, hcx0, hLx0⟩
      replace hO := hO.next hb
      have HB1 := Bl_trans hB hb; clear hB; have hB := HB1; clear HB1
      clear KS hb hgx0 hlx0 hnx0
      have k_l := leaf_c X0 32 hLx0 (by omega) gx0 0 cx0 wa0 (HTW.out _ hB) (fun i hi => by rw [Nat.zero_add]; exact hcx0 i hi)
      have KL := Lib.hid k_l; clear k_l hcx0
      obtain ⟨Y0, eY⟩ : ∃ X, X = leafT X0 := ⟨_, rfl⟩; rw [← eY] at KL HA; clear eY
      go_wp2_with fail
      refine (KL.out).mono ?_
      rintro e wb0 ⟨gy0, cy0, rfl, hb, hgy0, hly0, hny0, hcy0, hLy0⟩
      replace hO := hO.next hb
      have HB1 := Bl_trans hB hb; clear hB; have hB := HB1; clear HB1
      clear KL hb hgy0 hly0 hny0 hLx0
      have HYC := Lib.hid (show ∀ i, i < 32 → wb0.cell? ((⟨gy0, 0, none⟩ : Addr).add i) = some (bv (Y0.getD i 0)) from fun i hi => by rw [add_off, Nat.zero_add]; exact hcy0 i hi); have HYL := Lib.hid hLy0; clear hcy0 hLy0
      go_wp2_with (first | (refine wpList_app rfl (.tmp 8) (.tmp 12) rfl w2.heap.size _ (k) (J) rfl (hO) ⟨gy0, 0, none⟩ 32 cy0 (Y0) rfl HYL.out HYC.out (by omega) (by have := hB.size; first | omega | (simp; done) | (simp; omega)) ?_))
      intro v0 w31 hO' hg
      replace hB := Bl_grown hB (Nat.le_refl _) (hO) hg
      clear hg hO HYC HYL; have hO := hO'; clear hO'
      have k_s := secret_1 s j HJ.out gs os cs w31 (HTW.out _ hB) (HCW.out _ hB)
      have KS := Lib.hid k_s; clear k_s
      obtain ⟨X1, eX⟩ : ∃ X, X = secret s j 1 := ⟨_, rfl⟩; rw [← eX] at KS HA; clear eX
      go_wp2_with fail
      refine (KS.out).mono ?_
      rintro e wa1 ⟨gx1, cx1, rfl, hb, hgx1, hlx1, hnx1, hcx1, hLx1⟩
      replace hO := hO.next hb
      have HB1 := Bl_trans hB hb; clear hB; have hB := HB1; clear HB1
      clear KS hb hgx1 hlx1 hnx1
      have k_l := leaf_c X1 32 hLx1 (by omega) gx1 0 cx1 wa1 (HTW.out _ hB) (fun i hi => by rw [Nat.zero_add]; exact hcx1 i hi)
      have KL := Lib.hid k_l; clear k_l hcx1
      obtain ⟨Y1, eY⟩ : ∃ X, X = leafT X1 := ⟨_, rfl⟩; rw [← eY] at KL HA; clear eY
      go_wp2_with fail
      refine (KL.out).mono ?_
      rintro e wb1 ⟨gy1, cy1, rfl, hb, hgy1, hly1, hny1, hcy1, hLy1⟩
      replace hO := hO.next hb
      have HB1 := Bl_trans hB hb; clear hB; have hB := HB1; clear HB1
      clear KL hb hgy1 hly1 hny1 hLx1
      have HYC := Lib.hid (show ∀ i, i < 32 → wb1.cell? ((⟨gy1, 0, none⟩ : Addr).add i) = some (bv (Y1.getD i 0)) from fun i hi => by rw [add_off, Nat.zero_add]; exact hcy1 i hi); have HYL := Lib.hid hLy1; clear hcy1 hLy1
      go_wp2_with (first | (refine wpList_app rfl (.tmp 14) (.tmp 18) rfl w2.heap.size _ (k + 32) (J ++ Y0) rfl (hO) ⟨gy1, 0, none⟩ 32 cy1 (Y1) rfl HYL.out HYC.out (by omega) (by have := hB.size; first | omega | (simp; done) | (simp; omega)) ?_))
      intro v1 w32 hO' hg
      replace hB := Bl_grown hB (Nat.le_refl _) (hO) hg
      clear hg hO HYC HYL; have hO := hO'; clear hO'
      have hO2 := HA.out _ _ (by first | exact hO | (simpa only [List.append_assoc] using hO)); clear hO
      go_wp2_with fail
      go_roundg (32 - 1 - j)
      case measure => exact dg_sr1 HG.out HJ.out
      case rel => exact ⟨j + 1, HJ.out, dg_sr2 HJ.out, by go_num, hB, hO2⟩
    · obtain rfl := dg_sr3 hj h
      obtain ⟨J, eJ⟩ : ∃ J, J = allTo s 32 := ⟨_, rfl⟩
      rw [← eJ] at hO; clear hgk h hj
      obtain ⟨g, cap, rfl, _, hgl, _, hcell, hll⟩ := hO.at (by omega)
      have k_s := sum_c J _ hll (by omega) g 0 cap wo (HTW.out _ hB) (fun i hi => by rw [Nat.zero_add]; exact hcell i hi)
      have KS := Lib.hid k_s; clear k_s hcell hll hO
      go_wp2_with fail
      refine KS.out.mono ?_
      rintro e w9 ⟨rfl, hb⟩
      have HB1 := Bl_trans hB hb; clear hB hb KS; have hB := HB1; clear HB1
      obtain ⟨X, eX⟩ : ∃ X, X = out (sum J) := ⟨_, rfl⟩; rw [← eX]; have HX := Lib.hid (show keyT s = X by rw [eX, eJ]; unfold keyT; exact Eq.refl (out (sum (allTo s 32)))); clear eX eJ
      have Br := HBr.out.next hB; have hB3 : Below w.heap.size w w9 := Bl_trans HB0.out hB; clear hB; have hB := hB3; clear hB3; have hgr := HGR.out
      go_wp2_with (refine wpList_store_whole rfl 23 (.tmp 2) (.tmp 22) rfl gr (b32 X) rfl rfl 23 _ Br (by unfold b32; rw [bws_size]; kernel_rfl) (by unfold b32; rw [bws_size, bws_size]) (bws_one _ _) ?_)
      intro w20 hS
      replace hB := hS.bel hB hgr; replace Br := hS.blk; clear hS
      go_wp2_with fail
      exact bodyPost_ret (v := .agg (b32 X)) (results_row1 Tryd.results10 _ _ gr 23 _ _ rfl Br Tryd.underlying23 rfl (by unfold b32; rw [bws_size]; kernel_rfl)) rfl ⟨by rw [HX.out], hB⟩
end Go.Proofs.YtmghpoagpiljhaaDoor
