/- The library's Reverse, at two slices of bytes. -/
import Derived.Test.YtmghpoagpiljhaaDoorCat
set_option linter.unusedSimpArgs false
set_option linter.unusedVariables false
namespace Go.Proofs.YtmghpoagpiljhaaDoor
open Go.RowKit
set_option maxRecDepth 100000 in
set_option maxHeartbeats 800000 in
theorem reverse_c (gt ct g0 o0 n0 c0 g1 o1 n1 c1 : Nat) (w : World) (hB : Blk w gt 22 #[.slice (some ⟨g0, o0, none⟩) n0 c0, .slice (some ⟨g1, o1, none⟩) n1 c1]) :
    Calls Tryd.prog 53 #[.slice (some ⟨gt, 0, none⟩) 2 ct] w fun e w' => (∃ v, e = .returned v) ∧ But gt w w' ∧ Blk w' gt 22 #[.slice (some ⟨g1, o1, none⟩) n1 c1, .slice (some ⟨g0, o0, none⟩) n0 c0] := by
  have HB := Lib.hid hB
  have e0 := hB.cell 0; have e1 := hB.cell 1; have f0 := hB.frozen 0; have f1 := hB.frozen 1; clear hB
  go_enter Tryd.func53, Tryd.ntmps53
  go_wp2_with fail
  refine wp_loop_rounds 2 ?_
  rw [rounds_succ]
  go_upto_region 3 with fail
  refine wp_region_N (fun w' => w'.cell? ⟨gt, 0, none⟩ = some (.slice (some ⟨g0, o0, none⟩) n0 c0) ∧ w'.cell? ⟨gt, 1, none⟩ = some (.slice (some ⟨g1, o1, none⟩) n1 c1)) (fun j => j == 7 || j == 11) (by kernel_rfl) ?_
  have hS : w.drew.cell? ⟨gt, 0, none⟩ = some (.slice (some ⟨g0, o0, none⟩) n0 c0) ∧ w.drew.cell? ⟨gt, 1, none⟩ = some (.slice (some ⟨g1, o1, none⟩) n1 c1) := ⟨e0, e1⟩
  refine wpAnyN_free 0 (some 14) (Value.slice (some ⟨gt, 0, none⟩) 2 ct) rfl rfl (by kernel_rfl) (by kernel_rfl) (by kernel_rfl) (by kernel_rfl) (fun _ _ _ h => h) rfl (fun w' => by go_simp) ?_
  simp only [Act.put, List.setIfInBounds_toArray, List.set_cons_zero, List.set_cons_succ]
  refine wpAnyN_free 1 (some 15) (Value.int .i64 0) rfl rfl (by kernel_rfl) (by kernel_rfl) (by kernel_rfl) (by kernel_rfl) (fun _ _ _ h => h) rfl (fun w' => by go_simp) ?_
  simp only [Act.put, List.setIfInBounds_toArray, List.set_cons_zero, List.set_cons_succ]
  refine wpAnyN_free 2 (some 16) (Value.slice (some ⟨gt, 0, none⟩) 2 ct) rfl rfl (by kernel_rfl) (by kernel_rfl) (by kernel_rfl) (by kernel_rfl) (fun _ _ _ h => h) rfl (fun w' => by go_simp) ?_
  simp only [Act.put, List.setIfInBounds_toArray, List.set_cons_zero, List.set_cons_succ]
  refine wpAnyN_free 3 (some 17) (Value.int .i64 1) rfl rfl (by kernel_rfl) (by kernel_rfl) (by kernel_rfl) (by kernel_rfl) (fun _ _ _ h => h) rfl (fun w' => by go_simp) ?_
  simp only [Act.put, List.setIfInBounds_toArray, List.set_cons_zero, List.set_cons_succ]
  refine wpAnyN_free 4 (some 18) (Value.slice (some ⟨gt, 0, none⟩) 2 ct) rfl rfl (by kernel_rfl) (by kernel_rfl) (by kernel_rfl) (by kernel_rfl) (fun _ _ _ h => h) rfl (fun w' => by go_simp) ?_
  simp only [Act.put, List.setIfInBounds_toArray, List.set_cons_zero, List.set_cons_succ]
  refine wpAnyN_free 5 (some 19) (Value.int .i64 1) rfl rfl (by kernel_rfl) (by kernel_rfl) (by kernel_rfl) (by kernel_rfl) (fun _ _ _ h => h) rfl (fun w' => by go_simp) ?_
  simp only [Act.put, List.setIfInBounds_toArray, List.set_cons_zero, List.set_cons_succ]
  refine wpAnyN_free 6 (some 20) (Value.pointer (some ⟨gt, 1, none⟩)) rfl rfl (by kernel_rfl) (by kernel_rfl) (by kernel_rfl) (by kernel_rfl) (fun _ _ _ h => h) rfl (fun w' => by go_simp) ?_
  simp only [Act.put, List.setIfInBounds_toArray, List.set_cons_zero, List.set_cons_succ]
  refine wpAnyN_free 8 (some 22) (Value.slice (some ⟨gt, 0, none⟩) 2 ct) rfl rfl (by kernel_rfl) (by kernel_rfl) (by kernel_rfl) (by kernel_rfl) (fun _ _ _ h => h) rfl (fun w' => by go_simp) ?_
  simp only [Act.put, List.setIfInBounds_toArray, List.set_cons_zero, List.set_cons_succ]
  refine wpAnyN_free 9 (some 23) (Value.int .i64 0) rfl rfl (by kernel_rfl) (by kernel_rfl) (by kernel_rfl) (by kernel_rfl) (fun _ _ _ h => h) rfl (fun w' => by go_simp) ?_
  simp only [Act.put, List.setIfInBounds_toArray, List.set_cons_zero, List.set_cons_succ]
  refine wpAnyN_free 10 (some 24) (Value.pointer (some ⟨gt, 0, none⟩)) rfl rfl (by kernel_rfl) (by kernel_rfl) (by kernel_rfl) (by kernel_rfl) (fun _ _ _ h => h) rfl (fun w' => by go_simp) ?_
  simp only [Act.put, List.setIfInBounds_toArray, List.set_cons_zero, List.set_cons_succ]
  refine wpAnyN_take 7 (some 21) (Value.slice (some ⟨g1, o1, none⟩) n1 c1) rfl rfl (by kernel_rfl) (by kernel_rfl) (by kernel_rfl) (by kernel_rfl) (fun _ _ _ h => h) rfl (fun w' hw' => by obtain ⟨hcell, hcell1⟩ := hw'; go_simp) hS ?_
  simp only [Act.put, List.setIfInBounds_toArray, List.set_cons_zero, List.set_cons_succ]
  refine wpAnyN_take 11 (some 25) (Value.slice (some ⟨g0, o0, none⟩) n0 c0) rfl rfl (by kernel_rfl) (by kernel_rfl) (by kernel_rfl) (by kernel_rfl) (fun _ _ _ h => h) rfl (fun w' hw' => by obtain ⟨hcell, hcell1⟩ := hw'; go_simp) hS ?_
  simp only [Act.put, List.setIfInBounds_toArray, List.set_cons_zero, List.set_cons_succ]
  refine wpAnyN_free 12 (some 26) (Value.pointer (some ⟨gt, 0, none⟩)) rfl rfl (by kernel_rfl) (by kernel_rfl) (by kernel_rfl) (by kernel_rfl) (fun _ _ _ h => h) rfl (fun w' => by go_simp) ?_
  simp only [Act.put, List.setIfInBounds_toArray, List.set_cons_zero, List.set_cons_succ]
  refine wpAnyN_one 13 rfl (by kernel_rfl) ?_
  simp only [List.getElem_toArray, List.getElem_cons_succ, List.getElem_cons_zero]
  go_wp2_with fail
  refine ⟨fun h => absurd h (by decide), ?_⟩
  have B1 : Blk ((w.setCell ⟨gt, 0, none⟩ (.slice (some ⟨g1, o1, none⟩) n1 c1)).drew) gt 22 #[.slice (some ⟨g1, o1, none⟩) n1 c1, .slice (some ⟨g1, o1, none⟩) n1 c1] := (HB.out.set_ 0 _).drew
  have HBu := Lib.hid (show But gt w ((w.setCell ⟨gt, 0, none⟩ (.slice (some ⟨g1, o1, none⟩) n1 c1)).drew) from ((But.refl gt w).setp 0 _).drew)
  generalize ((w.setCell ⟨gt, 0, none⟩ (.slice (some ⟨g1, o1, none⟩) n1 c1)).drew) = w2 at *
  have e2 := B1.cell 1; have f2 := B1.frozen 1
  refine wpAnyN_free 14 (some 27) (Value.pointer (some ⟨gt, 1, none⟩)) rfl rfl (by kernel_rfl) (by kernel_rfl) (by kernel_rfl) (by kernel_rfl) (fun _ _ _ h => h) rfl (fun w' => by go_simp) ?_
  simp only [Act.put, List.setIfInBounds_toArray, List.set_cons_zero, List.set_cons_succ]
  refine wpAnyN_one 15 rfl (by kernel_rfl) ?_
  simp only [List.getElem_toArray, List.getElem_cons_succ, List.getElem_cons_zero]
  go_wp2_with fail
  refine ⟨fun h => absurd h (by decide), wpAnyN_done (by kernel_rfl) ?_⟩
  go_wp2_with fail
  rw [rounds_succ]
  go_wp2_with fail
  go_end0
  exact ⟨⟨_, rfl⟩, HBu.out.setp 1 _, B1.set_ 1 _⟩
end Go.Proofs.YtmghpoagpiljhaaDoor
