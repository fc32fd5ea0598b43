/- The walks of package digest: the sum of several texts, each with its length ahead. -/
import Derived.Test.YtmghpoagpiljhaaDoorDg5
set_option linter.unusedSimpArgs false
set_option linter.unusedVariables false
namespace Go.Proofs.YtmghpoagpiljhaaDoor
open Go.RowKit
open PlainSha (joined len8)
theorem joined_snoc (p : List (BitVec 8)) : ∀ ps, joined (ps ++ [p]) = joined ps ++ len8 p.length ++ p
  | [] => by simp [joined]
  | q :: ps => by
      show len8 q.length ++ q ++ joined (ps ++ [p]) = len8 q.length ++ q ++ joined ps ++ len8 p.length ++ p
      rw [joined_snoc p ps]
      simp only [List.append_assoc]
/-- The first texts, joined. -/
def jn (L : Nat → List (BitVec 8)) (i : Nat) : List (BitVec 8) := joined ((List.range i).map L)
theorem jn_next (L : Nat → List (BitVec 8)) (i : Nat) : jn L (i + 1) = jn L i ++ len8 (L i).length ++ L i := by
  unfold jn
  rw [List.range_succ, List.map_append]
  exact joined_snoc _ _
/-- How long they are. -/
def jlen (N : Nat → Nat) : Nat → Nat
  | 0 => 0
  | i + 1 => jlen N i + 8 + N i
theorem jlen_le (N : Nat → Nat) (h : ∀ i, N i ≤ 1000) : ∀ i, jlen N i ≤ 1008 * i
  | 0 => Nat.le_refl _
  | i + 1 => by have := jlen_le N h i; have := h i; unfold jlen; omega
theorem jlen_pos (N : Nat → Nat) : ∀ i, 0 < i → 0 < jlen N i
  | i + 1, _ => by unfold jlen; omega
set_option maxRecDepth 100000 in
set_option maxHeartbeats 1600000 in
theorem joined_c (m : Nat) (hm : m ≤ 2) (hm0 : 0 < m) (G O N C : Nat → Nat) (L : Nat → List (BitVec 8)) (hL : ∀ i, (L i).length = N i) (hN : ∀ i, N i ≤ 1000) (gp cp : Nat) (w : World) (hT : Tabs w) (hp : ∀ i, i < m → w.cell? ⟨gp, i, none⟩ = some (.slice (some ⟨G i, O i, none⟩) (N i) (C i))) (hc : ∀ i, i < m → ∀ j, j < N i → w.cell? ⟨G i, O i + j, none⟩ = some (bv ((L i).getD j 0))) : Calls Tryd.prog 51 #[.slice (some ⟨gp, 0, none⟩) m cp] w fun e w' => e = .returned (.agg (b32 (PlainSha.out (PlainSha.sum (jn L m))))) ∧ Below w.heap.size w w' := by
  have HP := Lib.hid hp; have HC := Lib.hid hc; have HT := Lib.hid hT; have HLN := Lib.hid hL; have HNN := Lib.hid hN; clear hc hT hp hL hN
  suffices H : ∀ w1 : World, Below w.heap.size w w1 → Calls Tryd.prog 51 #[.slice (some ⟨gp, 0, none⟩) m cp] w1 (fun e w' => e = .returned (.agg (b32 (PlainSha.out (PlainSha.sum (jn L m))))) ∧ Below w.heap.size w w') from H w (Bl_refl w)
  intro w1 hB
  go_enter Tryd.func51, Tryd.ntmps51
  go_upto_region 1 with fail
  rw [← b32_z]
  have Br := Blk.new w1 23 (bws 32 fun _ => 0); have hgr := hB.size
  replace hB : Below w.heap.size w (w1.alloc (.cells (bws 32 fun _ => 0) 23)) := Bl_alloc hB _
  generalize (w1.alloc (.cells (bws 32 fun _ => 0) 23)) = w2 at *; generalize w1.heap.size = gr at *
  have HB0 := Lib.hid hB; have HBr := Lib.hid Br; have HGR := Lib.hid hgr; clear hB Br hgr
  have hB : Below w2.heap.size w2 w2 := Bl_refl w2
  have HPW := Lib.hid (show ∀ w3 : World, Below w2.heap.size w2 w3 → ∀ i, i < m → w3.cell? ⟨gp, i, none⟩ = some (.slice (some ⟨G i, O i, none⟩) (N i) (C i)) from fun w3 h3 i hi => ((Bl_trans HB0.out h3).cell (World.block_lt_of_cell? w _ (HP.out i hi))).trans (HP.out i hi))
  have HCW := Lib.hid (show ∀ w3 : World, Below w2.heap.size w2 w3 → ∀ i, i < m → ∀ j, j < N i → w3.cell? ((⟨G i, O i, none⟩ : Addr).add j) = some (bv ((L i).getD j 0)) from fun w3 h3 i hi j hj => by rw [add_off]; exact ((Bl_trans HB0.out h3).cell (World.block_lt_of_cell? w _ (HC.out i hi j hj))).trans (HC.out i hi j hj)); clear HC HP
  go_wp2_with fail
  go_loopg [3, 8] m (fun m' v i wr => ∃ j : Nat, j ≤ m ∧ m' + j = m ∧ i = .int .i64 (j : Int) ∧ Below w2.heap.size w2 wr ∧ OwnB wr w2.heap.size v (jlen N j) (jn L j))
  case atStart => exact ⟨0, Nat.zero_le _, rfl, rfl, hB, World.ownsRow_nil _ _ _ _⟩
  case round =>
    clear hB
    obtain ⟨j, hj, hgk, rfl, hB, hO⟩ := hrel
    obtain ⟨wo, rfl⟩ : ∃ z : World, z = wr := ⟨_, rfl⟩
    have hjl := jlen_le N HNN.out j
    by_cases h : j < m
    · have h1 : (j : Int) < (m : Int) := by omega
      obtain ⟨g, eg⟩ : ∃ g, g = G j := ⟨_, rfl⟩; obtain ⟨of, eo⟩ : ∃ g, g = O j := ⟨_, rfl⟩; obtain ⟨n, en⟩ : ∃ g, g = N j := ⟨_, rfl⟩; obtain ⟨cc, ec⟩ : ∃ g, g = C j := ⟨_, rfl⟩; obtain ⟨l, el⟩ : ∃ l, l = L j := ⟨_, rfl⟩; obtain ⟨k, ek⟩ : ∃ k, k = jlen N j := ⟨_, rfl⟩; obtain ⟨J, eJ⟩ : ∃ k, k = jn L j := ⟨_, rfl⟩
      have hcp : wo.cell? ⟨gp, j, none⟩ = some (.slice (some ⟨g, of, none⟩) n cc) := by rw [eg, eo, en, ec]; exact HPW.out _ hB j h
      have HW := Lib.hid (show ∀ w3 : World, Below w2.heap.size w2 w3 → ∀ j, j < n → w3.cell? ((⟨g, of, none⟩ : Addr).add j) = some (bv (l.getD j 0)) from fun w3 h3 i hi => by rw [eg, eo, el]; exact HCW.out w3 h3 j h i (by rw [← en]; exact hi))
      have hn1 : n ≤ 1000 := by rw [en]; exact HNN.out j
      have hln := Lib.hid (show l.length = n by rw [el, en]; exact HLN.out j)
      rw [← ek, ← eJ] at hO; rw [← ek] at hjl
      have HN1 := Lib.hid (show jlen N (j + 1) = k + 8 + n by rw [ek, en]; rfl); have HJ1 := Lib.hid (show jn L (j + 1) = J ++ (len8 n ++ l) by rw [jn_next, eJ, el, HLN.out j, ← en, List.append_assoc])
      have HJ := Lib.hid h; have HG := Lib.hid hgk; clear hgk eg eo en ec el ek eJ hj
      obtain ⟨x8, hx8⟩ : ∃ x, x = BitVec.ofNat 64 n := ⟨_, rfl⟩
      have h8 : (n : Int) = T x8 := by rw [hx8, ← lit_T _ (by omega)]
      have hx : x8.toNat = n := by rw [hx8, BitVec.toNat_ofNat]; omega
      have H8 := Lib.hid h8; have HX := Lib.hid hx; clear h8 hx8 hx
      go_wp2_with fail
      rw [H8.out]
      refine (length_c x8 _).mono ?_
      rintro e w4 ⟨g8, c8, rfl, hb, _, _, _, h8c, _⟩
      rw [← H8.out]
      have hE := hO.next hb; have HB1 := Bl_trans hB hb; clear hB hO hb; have hB := HB1; clear HB1
      have H8D := Lib.hid (show ∀ j, j < 8 → w4.cell? ((⟨g8, 0, none⟩ : Addr).add j) = some (bv ((len8 n).getD j 0)) from fun j hj => by rw [add_off, Nat.zero_add, ← HX.out]; exact h8c j hj); clear h8c hcp
      go_wp2_with (first | (refine wpList_app rfl (.tmp 12) (.tmp 16) rfl w2.heap.size _ (k) (J) rfl (hE) ⟨g8, 0, none⟩ 8 c8 (len8 n) rfl rfl H8D.out (by omega) (by have := hB.size; first | omega | (simp; done) | (simp; omega)) ?_))
      intro v5 w5 hO' hg
      replace hB := Bl_grown hB (Nat.le_refl _) (hE) hg
      clear hE hg; have hE := hO'; clear hO'
      go_wp2_with (first | (refine wpList_app rfl (.tmp 18) (.tmp 19) rfl w2.heap.size _ (k + 8) (J ++ len8 n) rfl (hE) ⟨g, of, none⟩ n cc (l) rfl hln.out (HW.out _ hB) (by omega) (by have := hB.size; first | omega | (simp; done) | (simp; omega)) ?_))
      intro v6 w6 hO' hg
      replace hB := Bl_grown hB (Nat.le_refl _) (hE) hg
      clear hE hg; rw [← HN1.out, ← HJ1.out] at hO'
      go_wp2_with fail
      go_roundg (m - 1 - j)
      case measure => exact dg_sr1 HG.out HJ.out
      case rel => exact ⟨j + 1, HJ.out, dg_sr2 HJ.out, by go_num, hB, hO'⟩
    · obtain rfl := dg_sr3 hj h
      have T2 := HT.out.next (Bl_trans HB0.out hB)
      obtain ⟨J, eJ⟩ : ∃ J, J = jn L j := ⟨_, rfl⟩; obtain ⟨k, ek⟩ : ∃ J, J = jlen N j := ⟨_, rfl⟩
      rw [← ek, ← eJ] at hO; rw [← ek] at hjl
      have hk0' := ek; have HJJ := Lib.hid eJ; clear eJ ek hgk h hj
      have hk0 : 0 < k := by rw [hk0']; exact jlen_pos N j hm0
      clear hk0'
      obtain ⟨g, cap, rfl, _, hgl, _, hcell, hll⟩ := hO.at (by omega)
      have k_s := sum_c J k hll (by omega) g 0 cap wo T2 (fun i hi => by rw [Nat.zero_add]; exact hcell i hi)
      have KS := Lib.hid k_s; clear k_s T2 hcell hll hO
      go_wp2_with fail
      refine KS.out.mono ?_
      rintro e w9 ⟨rfl, hb⟩
      have HB1 := Bl_trans hB hb; clear hB hb KS; have hB := HB1; clear HB1
      obtain ⟨X, eX⟩ : ∃ X, X = PlainSha.out (PlainSha.sum J) := ⟨_, rfl⟩; rw [← eX]; have HX := Lib.hid eX; clear eX
      have Br := HBr.out.next hB; have hB3 : Below w.heap.size w w9 := Bl_trans HB0.out hB; clear hB; have hB := hB3; clear hB3; have hgr := HGR.out
      go_wp2_with (refine wpList_store_whole rfl 23 (.tmp 2) (.tmp 23) rfl gr (b32 X) rfl rfl 23 _ Br (by unfold b32; rw [bws_size]; kernel_rfl) (by unfold b32; rw [bws_size, bws_size]) (bws_one _ _) ?_)
      intro w20 hS
      replace hB := hS.bel hB hgr; replace Br := hS.blk; clear hS
      go_wp2_with fail
      exact bodyPost_ret (v := .agg (b32 X)) (results_row1 Tryd.results51 _ _ gr 23 _ _ rfl Br Tryd.underlying23 rfl (by unfold b32; rw [bws_size]; kernel_rfl)) rfl ⟨by rw [HX.out, HJJ.out], hB⟩
end Go.Proofs.YtmghpoagpiljhaaDoor
