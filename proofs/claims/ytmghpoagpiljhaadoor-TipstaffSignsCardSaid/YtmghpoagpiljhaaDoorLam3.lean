/- The walks of package lamport: signatures; a text's first bytes. -/
import Derived.Test.YtmghpoagpiljhaaDoorLam2
import Derived.Laws.AppendOwnNone
set_option linter.unusedSimpArgs false
set_option linter.unusedVariables false
namespace Go.Proofs.YtmghpoagpiljhaaDoor
open Go.RowKit
open PlainSha (secret leafT out sum allTo keyT)
set_option maxRecDepth 100000 in
set_option maxHeartbeats 1600000 in
theorem sign_c (s : BitVec 8) (l : List (BitVec 8)) (gs os cs : Nat) (w : World) (hT : Tabs w) (hc : w.cell? ⟨gs, os, none⟩ = some (bv s)) : Calls Tryd.prog 12 #[.slice (some ⟨gs, os, none⟩) 1 cs, .agg (b32 l)] w (RetB w 2048 (sigT s l 32)) := by
  have HT := Lib.hid hT; have HC := Lib.hid hc; clear hc hT
  obtain ⟨M, hM⟩ : ∃ M, M = b32 l := ⟨_, rfl⟩
  have hMs : (Tryd.prog.info? 23).map (·.size) = some M.size := by rw [hM]; unfold b32; rw [bws_size]; kernel_rfl
  have HB_ := Lib.hid (show ∀ (i : Nat) (w : World), i < 32 → Calls Tryd.prog 31 #[.agg M, .int .i64 (i : Int)] w fun e w' => e = .returned (.int .u8 (bitN l i : Int)) ∧ Below w.heap.size w w' by rw [hM]; exact fun i w hi => bit_c l i hi w)
  rw [← hM]; clear hM; have HMS := Lib.hid hMs; clear hMs
  go_enter Tryd.func12, Tryd.ntmps12
  go_upto_region 1 with fail
  have Bm := Blk.new w 23 M; have hb0 := Bl_alloc (Bl_refl w) (.cells M 23); have HB0 := Lib.hid hb0; clear hb0
  obtain ⟨gm, egm⟩ : ∃ g, g = w.heap.size := ⟨_, rfl⟩
  generalize (w.alloc (.cells M 23)) = w2 at *; rw [← egm] at Bm ⊢; have HBM := Lib.hid Bm; clear Bm egm
  have hB : Below w2.heap.size w2 w2 := Bl_refl w2
  have HTW := Lib.hid (show ∀ w3 : World, Below w2.heap.size w2 w3 → Tabs w3 from fun w3 h3 => HT.out.next (Bl_trans HB0.out h3))
  have HCW := Lib.hid (show ∀ w3 : World, Below w2.heap.size w2 w3 → w3.cell? ⟨gs, os, none⟩ = some (bv s) from fun w3 h3 => ((Bl_trans HB0.out h3).cell (World.block_lt_of_cell? w _ HC.out)).trans HC.out); clear HC HT
  go_wp2_with fail
  go_loopg [5, 8] 32 (fun m' v i wr => ∃ j : Nat, j ≤ 32 ∧ m' + j = 32 ∧ i = .int .i64 (j : Int) ∧ Below w2.heap.size w2 wr ∧ OwnB wr w2.heap.size v (64 * j) (sigT s l j))
  case atStart => exact ⟨0, Nat.zero_le _, rfl, rfl, hB, World.ownsRow_nil _ _ _ _⟩
  case round =>
    clear hB
    obtain ⟨j, hj, hgk, rfl, hB, hO⟩ := hrel
    obtain ⟨wo, rfl⟩ : ∃ z : World, z = wr := ⟨_, rfl⟩
    by_cases h : j < 32
    · have h1 : (j : Int) < 32 := by omega
      obtain ⟨J, eJ⟩ : ∃ k, k = sigT s l j := ⟨_, rfl⟩; obtain ⟨k, ek⟩ : ∃ k, k = 64 * j := ⟨_, rfl⟩; obtain ⟨b, eb⟩ : ∃ b, b = bitN l j := ⟨_, rfl⟩
      have hk : k ≤ 2048 := by omega
      have hb2 : b < 2 := by rw [eb]; exact bitN_lt l j
      have h2 : IntKind.u8.wrap (1 - (b : Int)) = ((1 - b : Nat) : Int) := by rw [IntWalk.u8_in _ (by constructor <;> omega)]; omega
      rw [← ek, ← eJ] at hO
      have HA := Lib.hid (show ∀ v w3, OwnB w3 w2.heap.size v (k + 32 + 32) (J ++ (secret s j b ++ leafT (secret s j (1 - b)))) → OwnB w3 w2.heap.size v (64 * (j + 1)) (sigT s l (j + 1)) from fun v w3 hv => by rw [eJ, eb] at hv; rw [show 64 * (j + 1) = k + 32 + 32 by omega]; exact hv)
      have KB := Lib.hid (show ∀ w : World, Calls Tryd.prog 31 #[.agg M, .int .i64 (j : Int)] w fun e w' => e = .returned (.int .u8 (b : Int)) ∧ Below w.heap.size w w' by rw [eb]; exact fun w => HB_.out j w h)
      have HJ := Lib.hid h; have HG := Lib.hid hgk; have HB2 := Lib.hid hb2; have H2 := Lib.hid h2; clear hgk eJ ek eb hj h2 hb2
      have Bm := HBM.out.next hB; have hMs := HMS.out
      go_wp2_with (refine wpList_load_whole rfl 23 (.tmp 3) rfl gm rfl 23 _ _ Bm Tryd.underlying23 rfl hMs ?_)
      clear Bm hMs
      refine (KB.out _).mono ?_
      rintro e wa ⟨rfl, hb⟩; clear KB
      replace hO := hO.next hb; have HB1 := Bl_trans hB hb; clear hB hb; have hB := HB1; clear HB1
      have KS := Lib.hid (secret_c s j b HJ.out HB2.out gs os cs wa (HTW.out _ hB) (HCW.out _ hB))
      obtain ⟨X0, eX⟩ : ∃ X, X = secret s j b := ⟨_, rfl⟩; rw [← eX] at KS HA; clear eX
      go_wp2_with fail
      refine (KS.out).mono ?_
      rintro e wb ⟨gx0, cx0, rfl, hb, hgx0, hlx0, hnx0, hcx0, hLx0⟩
      replace hO := hO.next hb
      have HB1 := Bl_trans hB hb; clear hB; have hB := HB1; clear HB1
      clear KS hb hgx0 hlx0 hnx0
      have HXC := Lib.hid (show ∀ i, i < 32 → wb.cell? ((⟨gx0, 0, none⟩ : Addr).add i) = some (bv (X0.getD i 0)) from fun i hi => by rw [add_off, Nat.zero_add]; exact hcx0 i hi); have HXL := Lib.hid hLx0; clear hcx0 hLx0
      go_wp2_with (first | (refine wpList_app rfl (.tmp 14) (.tmp 18) rfl w2.heap.size _ (k) (J) rfl (hO) ⟨gx0, 0, none⟩ 32 cx0 (X0) rfl HXL.out HXC.out (by omega) (by have := hB.size; first | omega | (simp; done) | (simp; omega)) ?_))
      intro v5 w41 hO' hg
      replace hB := Bl_grown hB (Nat.le_refl _) (hO) hg
      clear hg hO HXC HXL; have hO := hO'; clear hO'
      have KS := Lib.hid (secret_c s j (1 - b) HJ.out (by omega) gs os cs w41 (HTW.out _ hB) (HCW.out _ hB))
      have h2 := H2.out
      obtain ⟨X1, eX⟩ : ∃ X, X = secret s j (1 - b) := ⟨_, rfl⟩; rw [← eX] at KS HA; clear eX
      go_wp2_with fail
      refine (KS.out).mono ?_
      rintro e wc ⟨gx1, cx1, rfl, hb, hgx1, hlx1, hnx1, hcx1, hLx1⟩
      replace hO := hO.next hb
      have HB1 := Bl_trans hB hb; clear hB; have hB := HB1; clear HB1
      clear KS hb hgx1 hlx1 hnx1 h2
      have KL := Lib.hid (leaf_c X1 32 hLx1 (by omega) gx1 0 cx1 wc (HTW.out _ hB) (fun i hi => by rw [Nat.zero_add]; exact hcx1 i hi)); clear hcx1 hLx1
      obtain ⟨Y1, eY⟩ : ∃ X, X = leafT X1 := ⟨_, rfl⟩; rw [← eY] at KL HA; clear eY
      go_wp2_with fail
      refine (KL.out).mono ?_
      rintro e wd ⟨gy1, cy1, rfl, hb, hgy1, hly1, hny1, hcy1, hLy1⟩
      replace hO := hO.next hb
      have HB1 := Bl_trans hB hb; clear hB; have hB := HB1; clear HB1
      clear KL hb hgy1 hly1 hny1
      have HYC := Lib.hid (show ∀ i, i < 32 → wd.cell? ((⟨gy1, 0, none⟩ : Addr).add i) = some (bv (Y1.getD i 0)) from fun i hi => by rw [add_off, Nat.zero_add]; exact hcy1 i hi); have HYL := Lib.hid hLy1; clear hcy1 hLy1
      go_wp2_with (first | (refine wpList_app rfl (.tmp 20) (.tmp 26) rfl w2.heap.size _ (k + 32) (J ++ X0) rfl (hO) ⟨gy1, 0, none⟩ 32 cy1 (Y1) rfl HYL.out HYC.out (by omega) (by have := hB.size; first | omega | (simp; done) | (simp; omega)) ?_))
      intro v6 w51 hO' hg
      replace hB := Bl_grown hB (Nat.le_refl _) (hO) hg
      clear hg hO HYC HYL; have hO := hO'; clear hO'
      have hO2 := HA.out _ _ (by first | exact hO | (simpa only [List.append_assoc] using hO)); clear hO
      go_wp2_with fail
      go_roundg (32 - 1 - j)
      case measure => exact dg_sr1 HG.out HJ.out
      case rel => exact ⟨j + 1, HJ.out, dg_sr2 HJ.out, by go_num, hB, hO2⟩
    · obtain rfl := dg_sr3 hj h
      obtain ⟨J, eJ⟩ : ∃ J, J = sigT s l 32 := ⟨_, rfl⟩
      rw [← eJ] at hO; have HJJ := Lib.hid eJ; clear hgk h hj eJ
      obtain ⟨g, cap, rfl, hbg, hgl, hnc, hcell, hll⟩ := hO.at (by omega)
      have HX := Lib.hid (show RetB w 2048 (sigT s l 32) (.returned (.slice (some ⟨g, 0, none⟩) (64 * 32) cap)) wo from ⟨g, cap, rfl, Bl_trans HB0.out hB, Nat.le_trans HB0.out.size hbg, hgl, hnc, by rw [← HJJ.out]; exact hcell, by rw [← HJJ.out]; exact hll⟩)
      clear hcell hll hO hbg hgl hnc hB
      go_wp2
      go_ret
      exact HX.out
end Go.Proofs.YtmghpoagpiljhaaDoor
