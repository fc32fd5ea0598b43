/- The library's Grow, Concat, Reverse, at slices of bytes. -/
import Derived.Test.YtmghpoagpiljhaaDoorLam3
import Derived.Test.YtmghpoagpiljhaaDoorHeld
import Derived.Lib.AppendZeros
set_option linter.unusedSimpArgs false
set_option linter.unusedVariables false
namespace Go.Proofs.YtmghpoagpiljhaaDoor
open Go.RowKit
set_option maxRecDepth 100000 in
set_option maxHeartbeats 400000 in
theorem grow_c (w : World) : Calls Tryd.prog 75 #[.slice none 0 0, .int .i64 64] w fun e w' => ∃ v, e = .returned v ∧ OwnB w' w.heap.size v 0 [] ∧ Below w.heap.size w w' := by
  obtain ⟨i0, hi, hz0, hz1, hz2⟩ := info_parts info_u8
  have hrun := Lib.run_append_nil_zeros w 22 3 22 5 i0 (.int .u8 0) .i64 .i64 Tryd.underlying22 Tryd.underlying3 hi hz0 64 (by omega) (by omega) (by omega) (by omega)
  have HR := Lib.hid hrun; clear hrun
  have h1 := grownCap_ge w 64 0 5; have h2 := grownCap_le_maxLen w 64 0 5 (by unfold maxLen; omega)
  obtain ⟨c, hc⟩ : ∃ c, c = grownCap w 64 0 5 := ⟨_, rfl⟩
  rw [← hc] at HR h1 h2; clear hc
  obtain ⟨cs, hcs⟩ : ∃ cs, cs = Builtin.zeroCells (Value.int .u8 0).cells 64 ++ Builtin.zeroCells (Value.int .u8 0).cells (c - 64) := ⟨_, rfl⟩
  have hsz : cs.size = c * 1 := by rw [hcs, Array.size_append, size_zeroCells, size_zeroCells]; simp [Value.cells]; omega
  rw [← hcs] at HR; clear hcs
  have hO := Lib.hid (show OwnB (w.drew.alloc (.cells cs 5)) w.heap.size (.slice (some ⟨w.drew.heap.size, 0, none⟩) 0 c) 0 [] from World.ownsRow_made w.drew cs c (Nat.le_refl _) h2 hsz)
  clear hsz h2 hi hz0 hz1 hz2
  go_enter Tryd.func75, Tryd.ntmps75
  go_wp2_with (refine Lib.wpList_append_run _ rfl (.tmp 20) (.tmp 21) 22 3 rfl _ _ rfl rfl _ _ HR.out ?_)
  go_ret
  exact ⟨_, rfl, hO.out, Bl_alloc (Below.refl _ w).drew _⟩
set_option maxRecDepth 100000 in
set_option maxHeartbeats 800000 in
theorem concat_c (X Y : List (BitVec 8)) (hX : X.length = 32) (hY : Y.length = 32) (gt ct g0 o0 c0 g1 o1 c1 : Nat) (w : World)
    (e0 : w.cell? ⟨gt, 0, none⟩ = some (.slice (some ⟨g0, o0, none⟩) 32 c0)) (e1 : w.cell? ⟨gt, 1, none⟩ = some (.slice (some ⟨g1, o1, none⟩) 32 c1))
    (hx : ∀ i, i < 32 → w.cell? ⟨g0, o0 + i, none⟩ = some (bv (X.getD i 0))) (hy : ∀ i, i < 32 → w.cell? ⟨g1, o1 + i, none⟩ = some (bv (Y.getD i 0))) :
    Calls Tryd.prog 54 #[.slice (some ⟨gt, 0, none⟩) 2 ct] w (RetB w 64 (X ++ Y)) := by
  have HX := Lib.hid hX; have HY := Lib.hid hY; have HXC := Lib.hid hx; have HYC := Lib.hid hy; clear hX hY hx hy
  have hg := Lib.hid (grow_c w)
  go_enter Tryd.func54, Tryd.ntmps54
  go_wp2_with fail
  refine wp_loop_rounds 3 ?_
  rw [rounds_succ]
  go_wp2_with fail
  rw [rounds_succ]
  go_wp2_with fail
  rw [rounds_succ]
  go_wp2_with fail
  refine hg.out.mono ?_
  rintro e w2 ⟨v, rfl, hO, hB⟩
  have k0 := (hB.cell (World.block_lt_of_cell? w _ e0)).trans e0; have k1 := (hB.cell (World.block_lt_of_cell? w _ e1)).trans e1
  have hx2 := Lib.hid (show ∀ i, i < 32 → w2.cell? ((⟨g0, o0, none⟩ : Addr).add i) = some (bv (X.getD i 0)) from fun i hi => by rw [add_off]; exact (hB.cell (World.block_lt_of_cell? w _ (HXC.out i hi))).trans (HXC.out i hi))
  go_wp2_with fail
  refine wp_loop_rounds 3 ?_
  rw [rounds_succ]
  go_wp2_with (first | (refine wpList_app rfl (.tmp 31) (.tmp 32) rfl w.heap.size _ 0 [] rfl hO ⟨g0, o0, none⟩ 32 c0 X rfl HX.out hx2.out (by omega) hB.size ?_))
  intro v3 w3 hO3 hg3
  have hB3 := Bl_grown hB (Nat.le_refl _) hO hg3
  have k1 := (hB3.cell (World.block_lt_of_cell? w _ e1)).trans e1
  have hy3 := Lib.hid (show ∀ i, i < 32 → w3.cell? ((⟨g1, o1, none⟩ : Addr).add i) = some (bv (Y.getD i 0)) from fun i hi => by rw [add_off]; exact (hB3.cell (World.block_lt_of_cell? w _ (HYC.out i hi))).trans (HYC.out i hi))
  have hO3' : OwnB w3 w.heap.size v3 32 X := hO3
  clear hO hB hg3 k0
  go_wp2_with fail
  rw [rounds_succ]
  go_wp2_with (first | (refine wpList_app rfl (.tmp 31) (.tmp 32) rfl w.heap.size _ 32 X rfl hO3' ⟨g1, o1, none⟩ 32 c1 Y rfl HY.out hy3.out (by omega) hB3.size ?_))
  intro v4 w4 hO4 hg4
  have hB4 := Bl_grown hB3 (Nat.le_refl _) hO3' hg4
  clear hO3' hO3 hB3 hg4 k1
  obtain ⟨g, cap, rfl, hbg, hgl, hnc, hcell, hll⟩ := hO4.at (by omega)
  have HZ := Lib.hid (show RetB w 64 (X ++ Y) (.returned (.slice (some ⟨g, 0, none⟩) 64 cap)) w4 from ⟨g, cap, rfl, hB4, hbg, hgl, hnc, hcell, hll⟩)
  clear hcell hll hO4 hbg hgl hnc hB4
  go_wp2_with fail
  rw [rounds_succ]
  go_wp2_with fail
  go_ret
  exact HZ.out
end Go.Proofs.YtmghpoagpiljhaaDoor
