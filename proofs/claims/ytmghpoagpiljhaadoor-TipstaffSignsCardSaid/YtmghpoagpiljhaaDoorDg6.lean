/- The walks of package digest: a sum as signs; the known text has its sum. -/
import Derived.Test.YtmghpoagpiljhaaDoorDg5
import Derived.Test.YtmghpoagpiljhaaDoorMixL
import Derived.Laws.IdiomStrings
set_option linter.unusedSimpArgs false
set_option linter.unusedVariables false
namespace Go.Proofs.YtmghpoagpiljhaaDoor
open Go.RowKit
/-- A sign of sixteen. -/
def sgn (n : Nat) : BitVec 8 := if n < 10 then BitVec.ofNat 8 (48 + n) else BitVec.ofNat 8 (87 + n)
def hexL (l : List (BitVec 8)) : List (BitVec 8) := l.flatMap fun c => [sgn (c.toNat / 16), sgn (c.toNat % 16)]
theorem hexL_snoc (l : List (BitVec 8)) (c : BitVec 8) : hexL (l ++ [c]) = hexL l ++ [sgn (c.toNat / 16), sgn (c.toNat % 16)] := by
  unfold hexL
  rw [List.flatMap_append]
  simp
def bytesOf (l : List (BitVec 8)) : ByteArray := ⟨(l.map UInt8.ofBitVec).toArray⟩
theorem idx_sg (w : World) : ∀ n : Nat, n < 16 → (Instr.index 9 (.string ⟨#[48, 49, 50, 51, 52, 53, 54, 55, 56, 57, 97, 98, 99, 100, 101, 102]⟩) (.int .u8 (n : Int))).run Tryd.prog w = .ok (bv (sgn n)) w
  | 0, _ => by kernel_rfl
  | 1, _ => by kernel_rfl
  | 2, _ => by kernel_rfl
  | 3, _ => by kernel_rfl
  | 4, _ => by kernel_rfl
  | 5, _ => by kernel_rfl
  | 6, _ => by kernel_rfl
  | 7, _ => by kernel_rfl
  | 8, _ => by kernel_rfl
  | 9, _ => by kernel_rfl
  | 10, _ => by kernel_rfl
  | 11, _ => by kernel_rfl
  | 12, _ => by kernel_rfl
  | 13, _ => by kernel_rfl
  | 14, _ => by kernel_rfl
  | 15, _ => by kernel_rfl
  | n + 16, h => absurd h (by omega)
theorem idx_32 (l : List (BitVec 8)) (w : World) : ∀ j : Nat, j < 32 → (Instr.index 23 (.agg (b32 l)) (.int .i64 (j : Int))).run Tryd.prog w = .ok (bv (l.getD j 0)) w
  | 0, _ => by kernel_rfl
  | 1, _ => by kernel_rfl
  | 2, _ => by kernel_rfl
  | 3, _ => by kernel_rfl
  | 4, _ => by kernel_rfl
  | 5, _ => by kernel_rfl
  | 6, _ => by kernel_rfl
  | 7, _ => by kernel_rfl
  | 8, _ => by kernel_rfl
  | 9, _ => by kernel_rfl
  | 10, _ => by kernel_rfl
  | 11, _ => by kernel_rfl
  | 12, _ => by kernel_rfl
  | 13, _ => by kernel_rfl
  | 14, _ => by kernel_rfl
  | 15, _ => by kernel_rfl
  | 16, _ => by kernel_rfl
  | 17, _ => by kernel_rfl
  | 18, _ => by kernel_rfl
  | 19, _ => by kernel_rfl
  | 20, _ => by kernel_rfl
  | 21, _ => by kernel_rfl
  | 22, _ => by kernel_rfl
  | 23, _ => by kernel_rfl
  | 24, _ => by kernel_rfl
  | 25, _ => by kernel_rfl
  | 26, _ => by kernel_rfl
  | 27, _ => by kernel_rfl
  | 28, _ => by kernel_rfl
  | 29, _ => by kernel_rfl
  | 30, _ => by kernel_rfl
  | 31, _ => by kernel_rfl
  | n + 32, h => absurd h (by omega)
theorem and15 : ∀ n : Nat, n < 256 → bits .and .u8 (n : Int) 15 = ((n % 16 : Nat) : Int) := by decide +kernel
theorem new2 (w : World) (c d : BitVec 8) (t : TypeId) : ∀ j, j < 2 → (w.alloc (.cells #[bv c, bv d] t)).cell? ((⟨w.heap.size, 0, none⟩ : Addr).add j) = some (bv ([c, d].getD j 0)) := by
  intro j hj
  rw [add_off, Nat.zero_add, (Blk.new w t #[bv c, bv d]).cell]
  match j, hj with
  | 0, _ => rfl
  | 1, _ => rfl
  | j + 2, h => omega
set_option maxRecDepth 100000 in
set_option maxHeartbeats 1600000 in
theorem hex_c (l : List (BitVec 8)) (hl : l.length = 32) (w : World) : Calls Tryd.prog 26 #[.agg (b32 l)] w fun e w' => e = .returned (.string (bytesOf (hexL l))) ∧ Below w.heap.size w w' := by
  have HLL := Lib.hid hl; clear hl
  obtain ⟨M, hM⟩ : ∃ M, M = b32 l := ⟨_, rfl⟩
  have hMs : (Tryd.prog.info? 23).map (·.size) = some M.size := by rw [hM]; unfold b32; rw [bws_size]; kernel_rfl
  have HM := Lib.hid hM; rw [← hM]; clear hM
  go_enter Tryd.func26, Tryd.ntmps26
  go_upto_region 1 with fail
  have Bm := Blk.new w 23 M; have HB0 := Lib.hid (Bl_alloc (Bl_refl w) (.cells M 23))
  generalize (w.alloc (.cells M 23)) = w2 at *; generalize w.heap.size = gx at Bm
  have hlm := Bm.lt
  go_wp2_with (refine wpList_load_whole rfl 23 (.tmp 1) rfl _ rfl 23 _ _ Bm Tryd.underlying23 rfl hMs ?_)
  clear hlm Bm hMs
  go_loopg [3, 7] 32 (fun m' v i wr => ∃ j : Nat, j ≤ 32 ∧ m' + j = 32 ∧ i = .int .i64 (j : Int) ∧ Below w2.heap.size w2 wr ∧ OwnB wr w2.heap.size v (2 * j) (hexL (l.take j)))
  case atStart => exact ⟨0, Nat.zero_le _, rfl, rfl, Bl_refl w2, World.ownsRow_nil _ _ _ _⟩
  case round =>
    obtain ⟨j, hj, hgk, rfl, hB, hO⟩ := hrel
    by_cases h : j < 32
    · have h1 : (j : Int) < 32 := by omega
      obtain ⟨c, hc⟩ : ∃ c, c = l.getD j 0 := ⟨_, rfl⟩
      have hMj := fun w => (show (Instr.index 23 (.agg M) (.int .i64 (j : Int))).run Tryd.prog w = .ok (bv c) w by rw [HM.out, hc]; exact idx_32 l w j h)
      obtain ⟨n1, hn1⟩ : ∃ n, n = c.toNat / 16 := ⟨_, rfl⟩; obtain ⟨n2, hn2⟩ : ∃ n, n = c.toNat % 16 := ⟨_, rfl⟩
      have hcl := c.isLt
      have e1 : T1 c / (16 : Int) = (n1 : Int) := by unfold T1; omega
      have e2 : (T1 c).fdiv (16 : Int) = (n1 : Int) := by rw [Int.fdiv_eq_ediv_of_nonneg _ (by decide)]; exact e1
      have e3 : bits .and .u8 (T1 c) 15 = (n2 : Int) := by unfold T1; rw [and15 _ hcl, hn2]
      have e4 : T1 c % (16 : Int) = (n2 : Int) := by unfold T1; omega
      have hi1 := fun w => idx_sg w n1 (by omega)
      have hi2 := fun w => idx_sg w n2 (by omega)
      have HN := Lib.hid (show hexL (l.take (j + 1)) = hexL (l.take j) ++ [sgn n1, sgn n2] by rw [take_next l 0 j (by rw [HLL.out]; exact h), hexL_snoc, ← hc, hn1, hn2])
      have HJ := Lib.hid h; have HG := Lib.hid hgk; clear hc hn1 hn2 hcl hgk hj
      go_upto_region 5 with fail
      clear hMj
      go_wp2_with fail
      refine wp_region_mixL 7 (fun k => k == 0) (fun _ => #[]) (by kernel_rfl) (by kernel_rfl) (fun d _ _ _ _ h => by cases d <;> exact h) (no_alloc (by kernel_rfl)) ?_
      simp only [List.take_succ_cons, List.take_zero, List.drop_succ_cons, List.drop_zero]
      repeat ((with_reducible refine wpMixL_step (fun K hK => ?_)); go_simp; first | ((with_reducible refine hK _ ?_); clear hK K))
      refine wpMixL_nil ?_
      intro G w5 hgr hblk hdist
      have hb : Below wr.heap.size wr w5 := hgr
      replace hO := hO.next hb
      replace hB := Bl_trans hB hb
      simp only [putAll, isAlloc]
      clear hb hgr hblk hdist
      clear hi1 hi2 e1 e2 e3 e4
      have hE := hO.next (Bl_alloc (Bl_refl _) (.cells #[bv (sgn n1), bv (sgn n2)] 5))
      have hj2 : 2 * j ≤ 64 := by omega
      go_wp2_with (first | (refine wpList_app rfl (.tmp 10) (.tmp 17) rfl w2.heap.size _ (2 * j) (hexL (l.take j)) rfl (hE) ⟨w5.heap.size, 0, none⟩ 2 2 ([sgn n1, sgn n2]) rfl rfl (new2 w5 _ _ _) (by omega) (by have := hB.size; first | omega | (simp; done) | (simp; omega)) ?_))
      intro v6 w6 hO' hg
      replace hB := Bl_grown (Bl_alloc hB _) (Nat.le_refl _) (hE) hg
      rw [← HN.out] at hO'; clear hE hg hO
      have hO : OwnB w6 w2.heap.size v6 (2 * (j + 1)) (hexL (l.take (j + 1))) := hO'; clear hO'
      go_wp2_with fail
      go_roundg (32 - 1 - j)
      case measure => exact dg_sr1 HG.out HJ.out
      case rel => exact ⟨j + 1, HJ.out, dg_sr2 HJ.out, by go_num, hB, hO⟩
    · obtain rfl := dg_sr3 hj h
      obtain ⟨g, cap, rfl, _, _, _, hcell, hll⟩ := hO.at (by omega)
      rw [List.take_of_length_le (Nat.le_of_eq HLL.out)] at hcell hll
      have hcv := run_convert_bytes_back (P := Tryd.prog) wr 22 9 5 ⟨g, 0, none⟩ cap ((hexL l).map UInt8.ofBitVec) Tryd.underlying22 Tryd.underlying5 Tryd.underlying9 (fun i hi => by
        have hi' : i < (hexL l).length := by simpa using hi
        rw [add_off, Nat.zero_add, hcell i (by omega), List.getElem_map, List.getD_eq_getElem?_getD, List.getElem?_eq_getElem hi']
        rfl)
      rw [List.length_map, hll] at hcv
      have HCV := Lib.hid hcv; clear hcv hcell hll hO h hj hgk
      go_upto_region 7 with fail
      have hcv : (convert 22 9 (.slice (some ⟨g, 0, none⟩) 64 cap)).run Tryd.prog wr = .ok (.string (bytesOf (hexL l))) wr := HCV.out
      go_wp2
      go_ret
      exact ⟨rfl, Bl_trans HB0.out hB⟩
end Go.Proofs.YtmghpoagpiljhaaDoor
