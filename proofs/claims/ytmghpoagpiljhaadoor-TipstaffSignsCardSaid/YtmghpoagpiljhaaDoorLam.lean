/- The walks of package lamport: secrets, leaves, bits of a sum. -/
import Derived.Test.YtmghpoagpiljhaaDoorDg8
set_option linter.unusedSimpArgs false
set_option linter.unusedVariables false
namespace Go.Proofs.YtmghpoagpiljhaaDoor
open Go.RowKit
open PlainSha (secret leafT out sum)
abbrev z32 : Array Value := #[.int .u8 0, .int .u8 0, .int .u8 0, .int .u8 0, .int .u8 0, .int .u8 0, .int .u8 0, .int .u8 0, .int .u8 0, .int .u8 0, .int .u8 0, .int .u8 0, .int .u8 0, .int .u8 0, .int .u8 0, .int .u8 0, .int .u8 0, .int .u8 0, .int .u8 0, .int .u8 0, .int .u8 0, .int .u8 0, .int .u8 0, .int .u8 0, .int .u8 0, .int .u8 0, .int .u8 0, .int .u8 0, .int .u8 0, .int .u8 0, .int .u8 0, .int .u8 0]
theorem b32_cell {w : World} {g : Nat} {t : TypeId} {l : List (BitVec 8)} (hB : Blk w g t (b32 l)) (j : Nat) (hj : j < 32) : w.cell? ⟨g, j, none⟩ = some (bv (l.getD j 0)) := by
  rw [hB.cell]; unfold b32; rw [bws_get _ hj]
theorem ret_b32 {w w' : World} {g : Nat} {t : TypeId} {l : List (BitVec 8)} (hb : Below w.heap.size w w') (hB : Blk w' g t (b32 l)) (hg : w.heap.size ≤ g) (hl : l.length = 32) : RetB w 32 l (.returned (.slice (some ⟨g, 0, none⟩) 32 32)) w' :=
  ⟨g, 32, rfl, hb, hg, hB.lt, Nat.le_refl _, fun j hj => b32_cell hB j hj, hl⟩
theorem bv_nat (n : Nat) (h : n < 256) : bv (BitVec.ofNat 8 n) = .int .u8 (n : Int) := by
  show Value.int .u8 (T1 _) = _
  unfold T1
  rw [BitVec.toNat_ofNat, Nat.mod_eq_of_lt h]
/-- What one of two is. -/
def pick2 {α : Type} (a b : α) (i : Nat) : α := if i = 0 then a else b
set_option maxRecDepth 100000 in
set_option maxHeartbeats 800000 in
theorem leaf_c (l : List (BitVec 8)) (n : Nat) (hn : l.length = n) (hn2 : n ≤ 4096) (ga oa ca : Nat) (w : World) (hT : Tabs w) (hc : ∀ j, j < n → w.cell? ⟨ga, oa + j, none⟩ = some (bv (l.getD j 0))) : Calls Tryd.prog 28 #[.slice (some ⟨ga, oa, none⟩) n ca] w (RetB w 32 (leafT l)) := by
  have KS := Lib.hid (sum_c l n hn hn2 ga oa ca w hT hc); clear hT hc hn
  go_enter Tryd.func28, Tryd.ntmps28
  go_wp2_with fail
  refine KS.out.mono ?_
  rintro e w2 ⟨rfl, hB⟩; clear KS
  obtain ⟨X, eX⟩ : ∃ X, X = out (sum l) := ⟨_, rfl⟩; rw [← eX]; have HX := Lib.hid (show X.length = 32 by rw [eX]; exact PlainSha.out_length _); have HL := Lib.hid (show leafT l = X from eX.symm); clear eX
  have Bn := Blk.new w2 23 z32
  go_wp2_with (first | (refine wpList_store_whole rfl 23 (.tmp 3) (.tmp 5) rfl w2.heap.size (b32 X) rfl rfl 23 z32 Bn (by unfold b32; rw [bws_size]; kernel_rfl) (by unfold b32; rw [bws_size]; rfl) (bws_one _ _) ?_))
  intro w20 hS
  have Bx := hS.blk; have hg := hB.size; replace hB := hS.bel (Bl_alloc hB _) hg; clear hS Bn
  generalize w2.heap.size = gx at *
  go_wp2
  go_ret
  rw [HL.out]
  exact ret_b32 hB Bx hg HX.out
set_option maxRecDepth 100000 in
set_option maxHeartbeats 800000 in
theorem secret_c (s : BitVec 8) (i b : Nat) (hi : i < 32) (hb : b < 2) (gs os cs : Nat) (w : World) (hT : Tabs w) (hc : w.cell? ⟨gs, os, none⟩ = some (bv s)) : Calls Tryd.prog 29 #[.slice (some ⟨gs, os, none⟩) 1 cs, .int .i64 (i : Int), .int .u8 (b : Int)] w (RetB w 32 (secret s i b)) := by
  have HT := Lib.hid hT; have HC := Lib.hid hc; clear hT hc
  have e1 : IntKind.u8.wrap (i : Int) = (i : Int) := IntWalk.u8_in _ (by constructor <;> omega)
  go_enter Tryd.func29, Tryd.ntmps29
  go_wp2_with fail
  have BA : Blk ((w.alloc (.cells #[.int .u8 (i : Int), .int .u8 (b : Int)] 5)).alloc (.cells #[.slice (some ⟨gs, os, none⟩) 1 cs, .slice (some ⟨w.heap.size, 0, none⟩) 2 2] 22)) w.heap.size 5 #[.int .u8 (i : Int), .int .u8 (b : Int)] := (Blk.new w _ _).alloc _
  have BB : Blk ((w.alloc (.cells #[.int .u8 (i : Int), .int .u8 (b : Int)] 5)).alloc (.cells #[.slice (some ⟨gs, os, none⟩) 1 cs, .slice (some ⟨w.heap.size, 0, none⟩) 2 2] 22)) (w.heap.size + 1) 22 #[.slice (some ⟨gs, os, none⟩) 1 cs, .slice (some ⟨w.heap.size, 0, none⟩) 2 2] := by simpa using Blk.new (w.alloc (.cells #[.int .u8 (i : Int), .int .u8 (b : Int)] 5)) 22 #[.slice (some ⟨gs, os, none⟩) 1 cs, .slice (some ⟨w.heap.size, 0, none⟩) 2 2]
  have hB : Below w.heap.size w ((w.alloc (.cells #[.int .u8 (i : Int), .int .u8 (b : Int)] 5)).alloc (.cells #[.slice (some ⟨gs, os, none⟩) 1 cs, .slice (some ⟨w.heap.size, 0, none⟩) 2 2] 22)) := Bl_alloc (Bl_alloc (Bl_refl w) _) _
  have hcs : ((w.alloc (.cells #[.int .u8 (i : Int), .int .u8 (b : Int)] 5)).alloc (.cells #[.slice (some ⟨gs, os, none⟩) 1 cs, .slice (some ⟨w.heap.size, 0, none⟩) 2 2] 22)).cell? ⟨gs, os, none⟩ = some (bv s) := (hB.cell (World.block_lt_of_cell? w _ HC.out)).trans HC.out
  generalize ((w.alloc (.cells #[.int .u8 (i : Int), .int .u8 (b : Int)] 5)).alloc (.cells #[.slice (some ⟨gs, os, none⟩) 1 cs, .slice (some ⟨w.heap.size, 0, none⟩) 2 2] 22)) = w2 at *; generalize w.heap.size + 1 = gb at *
  have k_j := joined_c 2 (by omega) (by omega) (pick2 gs w.heap.size) (pick2 os 0) (pick2 1 2) (pick2 cs 2) (pick2 [s] [BitVec.ofNat 8 i, BitVec.ofNat 8 b]) (fun k => by unfold pick2; split <;> rfl) (fun k => by unfold pick2; split <;> omega) gb 2 w2 (HT.out.next hB)
    (fun k hk => by rw [BB.cell]; match k, hk with | 0, _ => rfl | 1, _ => rfl | k + 2, h => omega)
    (fun k hk j hj => by
      match k, hk with
      | 0, _ =>
        obtain rfl : j = 0 := Nat.lt_one_iff.1 hj
        exact hcs
      | 1, _ =>
        show w2.cell? ⟨w.heap.size, 0 + j, none⟩ = some (bv ([BitVec.ofNat 8 i, BitVec.ofNat 8 b].getD j 0))
        have hj2 : j < 2 := hj
        rw [BA.cell, Nat.zero_add]
        match j, hj2 with
        | 0, _ => exact congrArg some (bv_nat i (by omega)).symm
        | 1, _ => exact congrArg some (bv_nat b (by omega)).symm
        | j + 2, h => omega
      | k + 2, h => omega)
  have KJ := Lib.hid k_j; clear k_j hcs BA BB
  refine KJ.out.mono ?_
  rintro e w3 ⟨rfl, hb⟩; clear KJ
  have HB1 := Bl_trans hB hb; clear hB hb; have hB := HB1; clear HB1
  obtain ⟨X, eX⟩ : ∃ X, X = secret s i b := ⟨_, rfl⟩
  have eY : out (sum (jn (pick2 [s] [BitVec.ofNat 8 i, BitVec.ofNat 8 b]) 2)) = X := by rw [eX]; rfl
  rw [eY]; have HX := Lib.hid (show X.length = 32 by rw [eX]; exact PlainSha.out_length _); have HL := Lib.hid eX; clear eX eY
  have Bn := Blk.new w3 23 z32
  go_wp2_with (first | (refine wpList_store_whole rfl 23 (.tmp 7) (.tmp 14) rfl w3.heap.size (b32 X) rfl rfl 23 z32 Bn (by unfold b32; rw [bws_size]; kernel_rfl) (by unfold b32; rw [bws_size]; rfl) (bws_one _ _) ?_))
  intro w20 hS
  have Bx := hS.blk; have hg := hB.size; replace hB := hS.bel (Bl_alloc hB _) hg; clear hS Bn
  generalize w3.heap.size = gx at *
  go_wp2
  go_ret
  rw [← HL.out]
  exact ret_b32 hB Bx hg HX.out
end Go.Proofs.YtmghpoagpiljhaaDoor
