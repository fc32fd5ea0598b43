/- The walks of package digest: the sum of a text. -/
import Derived.Test.YtmghpoagpiljhaaDoorDg4
set_option linter.unusedSimpArgs false
set_option linter.unusedVariables false
namespace Go.Proofs.YtmghpoagpiljhaaDoor
open Go.RowKit
open PlainSha (padded zeros blocks wordAt comp len8)
/-! ### rows of bytes -/
def updB (f : Nat → BitVec 8) (i : Nat) (v : BitVec 8) : Nat → BitVec 8 := fun j => if j = i then v else f j
def bws (n : Nat) (f : Nat → BitVec 8) : Array Value := Array.ofFn (n := n) fun i => bv (f i)
theorem bws_size (n : Nat) (f : Nat → BitVec 8) : (bws n f).size = n := by simp [bws]
theorem bws_get {n : Nat} (f : Nat → BitVec 8) {i : Nat} (h : i < n) : (bws n f)[i]? = some (bv (f i)) := by simp [bws, h]
theorem bws_one (n : Nat) (f : Nat → BitVec 8) : (bws n f).all (·.oneCell') = true := by
  rw [Array.all_eq_true_iff_forall_mem]
  intro v hv
  obtain ⟨i, hi, rfl⟩ := Array.mem_iff_getElem.1 hv
  simp [bws]
  rfl
theorem bws_ext {n : Nat} {f g : Nat → BitVec 8} (h : ∀ i, i < n → f i = g i) : bws n f = bws n g := by
  apply Array.ext_getElem?
  intro i
  by_cases hi : i < n
  · rw [bws_get f hi, bws_get g hi, h i hi]
  · rw [Array.getElem?_eq_none (by rw [bws_size]; omega), Array.getElem?_eq_none (by rw [bws_size]; omega)]
theorem bws_set {n : Nat} (f : Nat → BitVec 8) {i : Nat} (hi : i < n) (v : BitVec 8) : (bws n f).setIfInBounds i (bv v) = bws n (updB f i v) := by
  apply Array.ext_getElem?
  intro j
  rw [Array.getElem?_setIfInBounds]
  by_cases e : i = j
  · subst e
    rw [if_pos rfl, if_pos (by rw [bws_size]; exact hi), bws_get _ hi]
    simp [updB]
  · rw [if_neg e]
    by_cases hj : j < n
    · rw [bws_get _ hj, bws_get _ hj]; simp [updB, Ne.symm e]
    · rw [Array.getElem?_eq_none (by rw [bws_size]; omega), Array.getElem?_eq_none (by rw [bws_size]; omega)]
/-- Thirty-two bytes of a list. -/
def b32 (l : List (BitVec 8)) : Array Value := bws 32 fun i => l.getD i 0
theorem b32_z : bws 32 (fun _ => 0) = #[.int .u8 0, .int .u8 0, .int .u8 0, .int .u8 0, .int .u8 0, .int .u8 0, .int .u8 0, .int .u8 0, .int .u8 0, .int .u8 0, .int .u8 0, .int .u8 0, .int .u8 0, .int .u8 0, .int .u8 0, .int .u8 0, .int .u8 0, .int .u8 0, .int .u8 0, .int .u8 0, .int .u8 0, .int .u8 0, .int .u8 0, .int .u8 0, .int .u8 0, .int .u8 0, .int .u8 0, .int .u8 0, .int .u8 0, .int .u8 0, .int .u8 0, .int .u8 0] := rfl
/-- The two tables lie where the program laid them. -/
def Tabs (w : World) : Prop := Tab w ∧ ∀ j, j < 8 → w.cell? ⟨0, j, none⟩ = some (wv (sf PlainSha.begin j))
theorem Tab.next {w w' : World} (h : Tab w) (hb : Below w.heap.size w w') : Tab w' := ⟨Nat.lt_of_lt_of_le h.1 hb.size, fun j hj => (hb.cell (p := ⟨1, j, none⟩) h.1).trans (h.2 j hj)⟩
theorem Tabs.next {w w' : World} (h : Tabs w) (hb : Below w.heap.size w w') : Tabs w' := ⟨h.1.next hb, fun j hj => (hb.cell (p := ⟨0, j, none⟩) (Nat.lt_of_succ_lt h.1.1)).trans (h.2 j hj)⟩
/-- The bytes of a sum by their place. -/
theorem out_at (s : PlainSha.St) (i : Nat) (h : i < 32) : (PlainSha.out s).getD i 0 = (sf s (i / 4) >>> (24 - 8 * (i % 4))).setWidth 8 :=
  match i, h with
  | 0, _ => rfl
  | 1, _ => rfl
  | 2, _ => rfl
  | 3, _ => rfl
  | 4, _ => rfl
  | 5, _ => rfl
  | 6, _ => rfl
  | 7, _ => rfl
  | 8, _ => rfl
  | 9, _ => rfl
  | 10, _ => rfl
  | 11, _ => rfl
  | 12, _ => rfl
  | 13, _ => rfl
  | 14, _ => rfl
  | 15, _ => rfl
  | 16, _ => rfl
  | 17, _ => rfl
  | 18, _ => rfl
  | 19, _ => rfl
  | 20, _ => rfl
  | 21, _ => rfl
  | 22, _ => rfl
  | 23, _ => rfl
  | 24, _ => rfl
  | 25, _ => rfl
  | 26, _ => rfl
  | 27, _ => rfl
  | 28, _ => rfl
  | 29, _ => rfl
  | 30, _ => rfl
  | 31, _ => rfl
  | i + 32, h => absurd h (by omega)
/-- The first bytes of a list; nought behind them. -/
def oF (l : List (BitVec 8)) (j : Nat) : Nat → BitVec 8 := fun i => if i < j then l.getD i 0 else 0
theorem oF_0 (l : List (BitVec 8)) : bws 32 (oF l 0) = bws 32 (fun _ => 0) := bws_ext fun i _ => by unfold oF; rw [if_neg (Nat.not_lt_zero _)]
theorem oF_next (l : List (BitVec 8)) (j : Nat) : bws 32 (updB (oF l j) j (l.getD j 0)) = bws 32 (oF l (j + 1)) := bws_ext fun i _ => by
  unfold updB oF
  by_cases e : i = j
  · rw [if_pos e, if_pos (by omega), e]
  · rw [if_neg e]
    by_cases h2 : i < j
    · rw [if_pos h2, if_pos (by omega)]
    · rw [if_neg h2, if_neg (by omega)]
theorem oF_32 (l : List (BitVec 8)) : bws 32 (oF l 32) = b32 l := bws_ext fun i h => by unfold oF; rw [if_pos h]
theorem val8 (x : BitVec 32) (sh : Nat) (h : sh ≤ 32) : T3 x / 2 ^ sh % 256 = T1 ((x >>> sh).setWidth 8) := by
  rw [shr_div _ _ h, ← IntKind.wrap_u8, u1_of3]
theorem empty_own (w : World) : OwnB (w.alloc (.cells #[] 5)) w.heap.size (.slice (some ⟨w.heap.size, 0, none⟩) 0 0) 0 [] :=
  ⟨rfl, .inr ⟨_, 0, #[], rfl, Nat.le_refl _, heap_alloc_new w _, Nat.le_refl _, Nat.zero_le _, rfl, rfl⟩⟩
theorem zeros_lt (n : Nat) : zeros n < 64 := by unfold zeros; omega
theorem zeros_no (n z : Nat) (h : z < zeros n) : (n + 1 + z) % 64 ≠ 56 := by unfold zeros at h; omega
theorem zeros_yes (n : Nat) : (n + 1 + zeros n) % 64 = 56 := by unfold zeros; omega
set_option maxRecDepth 100000 in
set_option maxHeartbeats 1600000 in
theorem sum_c (l : List (BitVec 8)) (n : Nat) (hn : l.length = n) (hn2 : n ≤ 4096) (ga oa ca : Nat) (w : World) (hT : Tabs w) (hc : ∀ j, j < n → w.cell? ⟨ga, oa + j, none⟩ = some (bv (l.getD j 0))) : Calls Tryd.prog 5 #[.slice (some ⟨ga, oa, none⟩) n ca] w fun e w' => e = .returned (.agg (b32 (PlainSha.out (PlainSha.sum l)))) ∧ Below w.heap.size w w' := by
  have HC := Lib.hid hc; have HT := Lib.hid hT; have HN := Lib.hid hn; clear hc hT hn
  suffices H : ∀ w1 : World, Below w.heap.size w w1 → Calls Tryd.prog 5 #[.slice (some ⟨ga, oa, none⟩) n ca] w1 (fun e w' => e = .returned (.agg (b32 (PlainSha.out (PlainSha.sum l)))) ∧ Below w.heap.size w w') from H w (Bl_refl w)
  intro w1 hB
  go_enter Tryd.func5, Tryd.ntmps5
  go_upto_region 1 with fail
  rw [← b32_z]
  have Br := Blk.new w1 23 (bws 32 fun _ => 0); have hgr := hB.size
  replace hB : Below w.heap.size w (w1.alloc (.cells (bws 32 fun _ => 0) 23)) := Bl_alloc hB _
  generalize (w1.alloc (.cells (bws 32 fun _ => 0) 23)) = w2 at *; generalize w1.heap.size = gr at *
  have fr := Br.frozen; have lr := Br.lt
  have HB0 := Lib.hid hB
  have HW := Lib.hid (show ∀ w3 : World, Below w2.heap.size w2 w3 → ∀ j, j < n → w3.cell? ((⟨ga, oa, none⟩ : Addr).add j) = some (bv (l.getD j 0)) from fun w3 h3 j hj => by rw [add_off]; exact ((Bl_trans hB h3).cell (World.block_lt_of_cell? w _ (HC.out j hj))).trans (HC.out j hj)); clear HC
  have HT2 := Lib.hid (HT.out.next hB); have HBr := Lib.hid Br; have HGR := Lib.hid hgr; clear hB HT Br hgr fr lr
  have hB : Below w2.heap.size w2 w2 := Bl_refl w2
  have hE : OwnB (w2.alloc (.cells #[] 5)) w2.heap.size (.slice (some ⟨w2.heap.size, 0, none⟩) 0 0) 0 [] := empty_own w2
  go_wp2_with (first | (refine wpList_app rfl (.tmp 7) (.tmp 8) rfl w2.heap.size _ (0) ([]) rfl (hE) ⟨ga, oa, none⟩ n ca (l) rfl HN.out (HW.out _ (Bl_alloc hB _)) (by omega) (by have := hB.size; first | omega | (simp; done) | (simp; omega)) ?_))
  intro v1 w3 hO' hg
  replace hB := Bl_grown (Bl_alloc hB _) (Nat.le_refl _) (hE) hg
  clear hE hg; try simp only [List.nil_append, Nat.zero_add] at hO'
  have hE := hO'.next (Bl_alloc (Bl_refl _) (.cells #[.int .u8 128] 5))
  go_wp2_with (first | (refine wpList_app rfl (.tmp 10) (.tmp 11) rfl w2.heap.size _ (n) (l) rfl (hE) ⟨w3.heap.size, 0, none⟩ 1 1 ([128#8]) rfl rfl (new1 w3 128#8 _) (by omega) (by have := hB.size; first | omega | (simp; done) | (simp; omega)) ?_))
  intro v2 w4 hO' hg
  replace hB := Bl_grown (Bl_alloc hB _) (Nat.le_refl _) (hE) hg
  have hO : OwnB w4 w2.heap.size v2 (n + 1 + 0) (l ++ [128#8] ++ List.replicate 0 0#8) := by rw [List.replicate_zero, List.append_nil]; exact hO'
  clear hE hg hO'
  go_wp2_with fail
  go_loopg [3] (zeros n) (fun m' v wr => ∃ z : Nat, z ≤ zeros n ∧ m' + z = zeros n ∧ Below w2.heap.size w2 wr ∧ OwnB wr w2.heap.size v (n + 1 + z) (l ++ [128#8] ++ List.replicate z 0#8))
  case atStart => exact ⟨0, Nat.zero_le _, Nat.add_zero _, hB, hO⟩
  case round =>
    clear hB hO
    obtain ⟨z, hz, hgk, hB, hO⟩ := hrel
    have hzl := zeros_lt n
    by_cases h : z < zeros n
    · obtain ⟨gm, cm, rfl, _, _, _, _, _⟩ := hO.at (by omega)
      obtain ⟨k, hk⟩ : ∃ k, k = n + 1 + z := ⟨_, rfl⟩
      have hr : (k : Int) % 64 ≠ 56 := by have := zeros_no n z h; omega
      have hr2 : ((k : Int) % 64 == 56) = false := by simpa using hr
      have hk2 : k ≤ 5000 := by omega
      rw [← hk] at hO ⊢
      have HK := Lib.hid hk; have HJ := Lib.hid h; have HG := Lib.hid hgk; clear hk hgk hz hzl
      obtain ⟨L, hL⟩ : ∃ L, L = l ++ [128#8] ++ List.replicate z 0#8 := ⟨_, rfl⟩
      rw [← hL] at hO
      have HL := Lib.hid (show ∀ v w3, OwnB w3 w2.heap.size v (k + 1) (L ++ [0#8]) → OwnB w3 w2.heap.size v (n + 1 + (z + 1)) (l ++ [128#8] ++ List.replicate (z + 1) 0#8) from fun v w3 hv => by rw [List.replicate_succ', ← List.append_assoc, ← hL, show n + 1 + (z + 1) = k + 1 by rw [HK.out]; omega]; exact hv)
      clear hL
      have hE := hO.next (Bl_alloc (Bl_refl _) (.cells #[.int .u8 0] 5))
      go_wp2_with (first | (refine wpList_app rfl (.tmp 17) (.tmp 18) rfl w2.heap.size _ (k) (L) rfl (hE) ⟨wr.heap.size, 0, none⟩ 1 1 ([0#8]) rfl rfl (new1 wr 0#8 _) (by omega) (by have := hB.size; first | omega | (simp; done) | (simp; omega)) ?_))
      intro v3 w5 hO' hg
      replace hB := Bl_grown (Bl_alloc hB _) (Nat.le_refl _) (hE) hg
      clear hE hg hO hr hr2
      have hO := HL.out _ _ hO'; clear hO'
      go_wp2_with fail
      go_roundg (zeros n - 1 - z)
      case measure => exact dg_sr1 HG.out HJ.out
      case rel => exact ⟨z + 1, HJ.out, dg_sr2 HJ.out, hB, hO⟩
    · obtain rfl := dg_sr3 hz h
      obtain ⟨gm, cm, rfl, _, _, _, _, _⟩ := hO.at (by omega)
      obtain ⟨k, hk⟩ : ∃ k, k = n + 1 + zeros n := ⟨_, rfl⟩
      have hr : (k : Int) % 64 = 56 := by have := zeros_yes n; omega
      have hr2 : ((k : Int) % 64 == 56) = true := by simpa using hr
      have hk2 : k ≤ 5000 := by omega
      rw [← hk] at hO ⊢
      have HK := Lib.hid hk; clear hk hgk hz hzl h
      obtain ⟨x8, hx8⟩ : ∃ x, x = BitVec.ofNat 64 (8 * n) := ⟨_, rfl⟩
      have h8 : 8 * (n : Int) = T x8 := by rw [hx8, ← lit_T _ (by omega)]; omega
      have hx : x8.toNat = 8 * n := by rw [hx8, BitVec.toNat_ofNat]; omega
      have H8 := Lib.hid h8; have HX := Lib.hid hx; clear h8 hx8 hx
      go_wp2_with fail
      rw [H8.out]
      refine (length_c x8 _).mono ?_
      rintro e w4 ⟨g8, c8, rfl, hb, _, _, _, h8c, _⟩
      have hE := hO.next hb; have HB1 := Bl_trans hB hb; clear hB hO hr hr2 hb; have hB := HB1; clear HB1
      have h8d : ∀ j, j < 8 → w4.cell? ((⟨g8, 0, none⟩ : Addr).add j) = some (bv ((len8 x8.toNat).getD j 0)) := fun j hj => by rw [add_off, Nat.zero_add]; exact h8c j hj
      have H8D := Lib.hid h8d; clear h8d h8c
      obtain ⟨L, hL⟩ : ∃ L, L = l ++ [128#8] ++ List.replicate (zeros n) 0#8 := ⟨_, rfl⟩
      rw [← hL] at hE; have HL := Lib.hid hL; clear hL
      go_wp2_with (first | (refine wpList_app rfl (.tmp 20) (.tmp 25) rfl w2.heap.size _ (k) (L) rfl (hE) ⟨g8, 0, none⟩ 8 c8 ((len8 x8.toNat)) rfl rfl H8D.out (by omega) (by have := hB.size; first | omega | (simp; done) | (simp; omega)) ?_))
      intro v4 w5 hO' hg
      replace hB := Bl_grown hB (Nat.le_refl _) (hE) hg
      clear hE hg
      obtain ⟨P, hP⟩ : ∃ P, P = padded l := ⟨_, rfl⟩
      obtain ⟨nb, hnb⟩ : ∃ nb, k + 8 = 64 * nb := ⟨(k + 8) / 64, by have := zeros_yes n; have := HK.out; omega⟩
      have hPL : L ++ len8 x8.toNat = P := by rw [hP, HL.out, HX.out]; unfold padded; rw [HN.out]
      rw [hPL] at hO'; clear hPL
      obtain ⟨gm, cm, rfl, hgm, hgl, hcm, hPc, hPl⟩ := hO'.at (by omega)
      rw [hnb] at hcm hPc hPl; rw [hnb]; clear hO'
      have hT3 := HT2.out.next hB
      obtain ⟨q0, hq0⟩ : ∃ q, q = PlainSha.begin := ⟨_, rfl⟩
      have cb0 : w5.cell? ⟨0, 0, none⟩ = some (wv q0.a) := by rw [hq0]; exact hT3.2 0 (by omega)
      have cb1 : w5.cell? ⟨0, 1, none⟩ = some (wv q0.b) := by rw [hq0]; exact hT3.2 1 (by omega)
      have cb2 : w5.cell? ⟨0, 2, none⟩ = some (wv q0.c) := by rw [hq0]; exact hT3.2 2 (by omega)
      have cb3 : w5.cell? ⟨0, 3, none⟩ = some (wv q0.d) := by rw [hq0]; exact hT3.2 3 (by omega)
      have cb4 : w5.cell? ⟨0, 4, none⟩ = some (wv q0.e) := by rw [hq0]; exact hT3.2 4 (by omega)
      have cb5 : w5.cell? ⟨0, 5, none⟩ = some (wv q0.f) := by rw [hq0]; exact hT3.2 5 (by omega)
      have cb6 : w5.cell? ⟨0, 6, none⟩ = some (wv q0.g) := by rw [hq0]; exact hT3.2 6 (by omega)
      have cb7 : w5.cell? ⟨0, 7, none⟩ = some (wv q0.h) := by rw [hq0]; exact hT3.2 7 (by omega)
      have HP := Lib.hid hP; have HQ0 := Lib.hid hq0; have HNB := Lib.hid hnb; have HPC := Lib.hid hPc; have HPL := Lib.hid hPl; have HT3 := Lib.hid hT3; have HCM := Lib.hid hcm; clear hP hq0 hnb hPc hPl hT3 hcm HW
      have hn64 : 64 * nb ≤ 5000 := by have := HNB.out; omega
      go_wp2_with fail
      change Code.wp _ _ _ _ (w5.alloc (.cells (sl q0) 56))
      have Bs := Blk.new w5 56 (sl q0); have hgs := hB.size; have hgms := Nat.ne_of_lt hgl
      have hgm2 : gm < (w5.alloc (.cells (sl q0) 56)).heap.size := by simp; omega
      replace hB : Below w2.heap.size w2 (w5.alloc (.cells (sl q0) 56)) := Bl_alloc hB _
      have hPc : ∀ j, j < 64 * nb → (w5.alloc (.cells (sl q0) 56)).cell? ⟨gm, j, none⟩ = some (bv (P.getD j 0)) := fun j hj => ((Bl_alloc (Bl_refl w5) _).cell (p := ⟨gm, j, none⟩) hgl).trans (HPC.out j hj)
      clear cb0 cb1 cb2 cb3 cb4 cb5 cb6 cb7 HPC
      generalize (w5.alloc (.cells (sl q0) 56)) = w6 at *; generalize w5.heap.size = gs at *
      have hgs1 : gs ≠ 1 := by have := HT2.out.1.1; omega
      have HS1 := Lib.hid hgs1; have HGS := Lib.hid hgs; have HMS := Lib.hid hgms; clear hgs1 hgs hgms hgl hgm
      go_loopg [3] nb (fun m' v wr => ∃ i o c : Nat, i ≤ nb ∧ m' + i = nb ∧ v = .slice (some ⟨gm, o, none⟩) (64 * (nb - i)) c ∧ (i < nb → o = 64 * i) ∧ 64 * (nb - i) ≤ c ∧ Below w2.heap.size w2 wr ∧ Blk wr gs 56 (sl (blocks i P q0)) ∧ gm < wr.heap.size ∧ ∀ j, j < 64 * nb → wr.cell? ⟨gm, j, none⟩ = some (bv (P.getD j 0)))
      case atStart => exact ⟨0, 0, cm, Nat.zero_le _, rfl, rfl, fun _ => rfl, HCM.out, hB, Bs, hgm2, hPc⟩
      case round =>
        clear hB Bs hgm2 hPc
        obtain ⟨i, o, c, hi, hgk, rfl, ho, hcc, hB, Bs, hgm, hPc⟩ := hrel
        by_cases h : i < nb
        · obtain rfl := ho h; clear ho
          obtain ⟨nn, hnn⟩ : ∃ nn, nn = 64 * (nb - i) := ⟨_, rfl⟩
          have hn1 : 64 ≤ nn := by omega
          have hn2' : nn ≤ c := by omega
          have hn3 : 0 < nn := by omega
          have hn4 : (0 : Int) < (nn : Int) := by omega
          have hn5 : (64 : Int) ≤ (nn : Int) := by omega
          have hc1 : 64 ≤ c := by omega
          have hc2 : (64 : Int) ≤ (c : Int) := by omega
          have hc3 : (nn : Int) ≤ (c : Int) := by omega
          rw [← hnn]
          have hcells : ∀ j, j < 64 → wr.cell? ⟨gm, 64 * i + j, none⟩ = some (bv ((P.drop (64 * i)).getD j 0)) := fun j hj => by rw [hPc _ (by omega), List.getD_eq_getElem?_getD, List.getD_eq_getElem?_getD, List.getElem?_drop]
          have hwk := work_c (blocks i P q0) (P.drop (64 * i)) gs gm (64 * i) c HS1.out HMS.out wr Bs hcells (HT2.out.next hB).1
          have hbl : comp (blocks i P q0) (wordAt (P.drop (64 * i))) = blocks (i + 1) P q0 := by rw [PlainSha.blocks_app i 1, PlainSha.blocks_one]
          rw [hbl] at hwk; have HWK := Lib.hid hwk
          have HJ := Lib.hid h; have HG := Lib.hid hgk; have HNN := Lib.hid hnn; have HPC := Lib.hid hPc; clear hwk hbl hcells hPc hgk hnn hi hcc h
          go_wp2_with fail
          refine HWK.out.mono ?_
          rintro e w7 ⟨rfl, Bs', hbut⟩
          have hB2 := hbut.bel hB HGS.out hB.size; have hgm' := Nat.lt_of_lt_of_le hgm hbut.size
          have HPC2 := Lib.hid (show ∀ j, j < 64 * nb → w7.cell? ⟨gm, j, none⟩ = some (bv (P.getD j 0)) from fun j hj => (hbut.cell (a := ⟨gm, j, none⟩) hgm (Ne.symm HMS.out.symm)).trans (HPC.out j hj))
          clear HPC HWK hbut hB hgm Bs
          by_cases hc64 : c = 64
          · have hnn64 : nn = 64 := by omega
            subst hc64; subst hnn64
            go_wp2_with fail
            go_roundg (nb - 1 - i)
            case measure => exact dg_sr1 HG.out HJ.out
            case rel => exact ⟨i + 1, 64 * i, 0, HJ.out, dg_sr2 HJ.out, by rw [show 64 * (nb - (i + 1)) = 0 by have := HNN.out; omega], fun hlt => by have := HNN.out; omega, by have := HNN.out; omega, hB2, Bs', hgm', HPC2.out⟩
          · have hc5 : 64 < c := by omega
            have hc6 : (64 : Int) < (c : Int) := by omega
            go_wp2_with fail
            go_roundg (nb - 1 - i)
            case measure => exact dg_sr1 HG.out HJ.out
            case rel => exact ⟨i + 1, 64 * i + 64, c - 64, HJ.out, dg_sr2 HJ.out, by rw [show 64 * (nb - (i + 1)) = nn - 64 by have := HNN.out; omega], fun _ => by omega, by have := HNN.out; omega, hB2, Bs', hgm', HPC2.out⟩
        · obtain rfl := dg_sr3 hi h
          rw [Nat.sub_self, Nat.mul_zero]
          clear ho hcc hgk hi h
          obtain ⟨s, hs⟩ : ∃ s, s = PlainSha.sum l := ⟨_, rfl⟩
          have hsum : blocks i P q0 = s := by rw [hs, HQ0.out, HP.out]; unfold PlainSha.sum; rw [← HP.out, HPL.out, Nat.mul_div_cancel_left _ (by omega)]
          rw [hsum] at Bs; have HSUM := Lib.hid hs; clear hs hsum HP HPL HQ0 HNB hPc hgm
          go_upto_region 11 with fail
          rw [← b32_z]
          have Bo := Blk.new wr 23 (bws 32 fun _ => 0); have hgo := hB.size; have hnos := Nat.ne_of_lt Bs.lt
          replace Bs : Blk (wr.alloc (.cells (bws 32 fun _ => 0) 23)) gs 56 (sl s) := Bs.alloc _
          replace hB : Below w2.heap.size w2 (wr.alloc (.cells (bws 32 fun _ => 0) 23)) := Bl_alloc hB _
          generalize (wr.alloc (.cells (bws 32 fun _ => 0) 23)) = w8 at *; generalize wr.heap.size = go at *
          obtain ⟨F, hF⟩ : ∃ F, F = oF (PlainSha.out s) := ⟨_, rfl⟩
          have HF0 := Lib.hid (show bws 32 (F 0) = bws 32 (fun _ => 0) by rw [hF]; exact oF_0 _)
          have HFN := Lib.hid (show ∀ j, bws 32 (updB (F j) j ((PlainSha.out s).getD j 0)) = bws 32 (F (j + 1)) by rw [hF]; exact oF_next _)
          have HFE := Lib.hid (show bws 32 (F 32) = b32 (PlainSha.out s) by rw [hF]; exact oF_32 _)
          rw [← HF0.out] at Bo; clear HF0 hF
          have HGO := Lib.hid hgo; have HNOS := Lib.hid hnos; clear hgo hnos
          go_wp2_with fail
          go_loopg [36] 32 (fun m' v wr => ∃ j : Nat, j ≤ 32 ∧ m' + j = 32 ∧ v = .int .i64 (j : Int) ∧ Below w2.heap.size w2 wr ∧ Blk wr gs 56 (sl s) ∧ Blk wr go 23 (bws 32 (F j)))
          case atStart => exact ⟨0, Nat.zero_le _, rfl, rfl, hB, Bs, Bo⟩
          case round =>
            clear hB Bs Bo
            obtain ⟨j, hj, hgk, rfl, hB, Bs, Bo⟩ := hrel
            obtain ⟨wk, rfl⟩ : ∃ z : World, z = wr := ⟨_, rfl⟩
            have fs := Bs.frozen; have ls := Bs.lt
            have fo := Bo.frozen; have lo := Bo.lt
            by_cases h : j < 32
            · have h1 : (j : Int) < 32 := by omega
              obtain ⟨k4, hk4⟩ : ∃ k4, k4 = j / 4 := ⟨_, rfl⟩; obtain ⟨r, hr⟩ : ∃ r, r = j % 4 := ⟨_, rfl⟩; obtain ⟨sh, hsh⟩ : ∃ sh, sh = 24 - 8 * r := ⟨_, rfl⟩
              have e1 : (j : Int) / 4 = (k4 : Int) := by omega
              have e2 : (j : Int) % 4 = (r : Int) := by omega
              have e3 : 24 - 8 * (r : Int) = (sh : Int) := by omega
              have b1 : k4 < 8 := by omega
              have b2 : (k4 : Int) < 8 := by omega
              have b3 : sh ≤ 24 := by omega
              have b4 : r < 4 := by omega
              obtain ⟨x, hx⟩ : ∃ x, x = sf s k4 := ⟨_, rfl⟩
              have cx : wk.cell? ⟨gs, k4, none⟩ = some (wv x) := by rw [Bs.cell, ← sl_is, wvs_get _ b1, hx]
              have co : wk.cell? ⟨go, j, none⟩ = some (bv (F j j)) := by rw [Bo.cell, bws_get _ h]
              have HV := Lib.hid (show (PlainSha.out s).getD j 0 = (x >>> sh).setWidth 8 by rw [out_at s j h, hx, hk4, hsh, hr])
              have HJ := Lib.hid h; have HG := Lib.hid hgk; clear hx hk4 hr hsh hgk hj
              go_upto_region 15 with fail
              rw [val8 x sh (by omega), ← HV.out]
              clear  fs ls
              clear  fo lo
              replace Bo : Blk (wk.setCell ⟨go, j, none⟩ (bv ((PlainSha.out s).getD j 0))) go 23 (bws 32 (F (j + 1))) := by rw [← HFN.out, ← bws_set _ h]; exact Bo.set_ j _
              replace Bs : Blk (wk.setCell ⟨go, j, none⟩ (bv ((PlainSha.out s).getD j 0))) gs 56 (sl s) := Bs.far HNOS.out _
              replace hB : Below w2.heap.size w2 (wk.setCell ⟨go, j, none⟩ (bv ((PlainSha.out s).getD j 0))) := Bl_set hB HGO.out _
              clear cx co; change Code.wp _ _ _ _ (wk.setCell ⟨go, j, none⟩ (bv ((PlainSha.out s).getD j 0)))
              generalize (wk.setCell ⟨go, j, none⟩ (bv ((PlainSha.out s).getD j 0))) = w9 at *
              go_wp2_with fail
              go_roundg (32 - 1 - j)
              case measure => exact dg_sr1 HG.out HJ.out
              case rel => exact ⟨j + 1, HJ.out, dg_sr2 HJ.out, by go_num, hB, Bs, Bo⟩
            · obtain rfl := dg_sr3 hj h
              rw [HFE.out] at Bo; clear HFE HFN h hj hgk
              go_upto_region 16 with fail
              clear  fs ls
              clear  fo lo
              have Br := HBr.out.next hB; have hnr : gr ≠ go := by have := HBr.out.lt; have := HGO.out; omega
              have hB3 : Below w.heap.size w wk := Bl_trans HB0.out hB; clear hB; have hB := hB3; clear hB3; have hgr := HGR.out
              go_wp2_with (first | (refine wpList_load_whole rfl 23 (.tmp 5) rfl go rfl 23 _ _ Bo Tryd.underlying23 rfl (by unfold b32; rw [bws_size]; kernel_rfl) ?_) | (refine wpList_store_whole rfl 23 (.tmp 2) (.tmp 52) rfl gr (b32 (PlainSha.out s)) rfl rfl 23 _ Br (by unfold b32; rw [bws_size]; kernel_rfl) (by unfold b32; rw [bws_size, bws_size]) (bws_one _ _) ?_))
              have fr := True.intro; have lr := True.intro; have fo := True.intro; have lo := True.intro
              intro w21 hS
              clear  fr lr
              clear  fo lo
              replace Br : Blk w21 (gr) 23 (b32 (PlainSha.out s)) := hS.blk
              replace Bo := hS.far (by first | (simp; done) | (simp; omega) | (simp [*]; done) | (simp only [ne_eq]; constructor <;> omega)) Bo
              replace hB := hS.bel hB (by first | omega | (simp; omega))
              clear hS
              have fr := Br.frozen; have lr := Br.lt
              have fo := Bo.frozen; have lo := Bo.lt
              go_wp2_with fail
              exact bodyPost_ret (v := .agg (b32 (PlainSha.out s))) (results_row1 Tryd.results5 _ _ gr 23 _ _ rfl Br Tryd.underlying23 rfl (by unfold b32; rw [bws_size]; kernel_rfl)) rfl ⟨by rw [HSUM.out], hB⟩
end Go.Proofs.YtmghpoagpiljhaaDoor
