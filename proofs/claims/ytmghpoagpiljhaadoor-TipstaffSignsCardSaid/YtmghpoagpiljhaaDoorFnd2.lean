/- The walk of registry's Find, with one entry. -/
import Derived.Test.YtmghpoagpiljhaaDoorFnd
set_option linter.unusedSimpArgs false
set_option linter.unusedVariables false
namespace Go.Proofs.YtmghpoagpiljhaaDoor
open Go.RowKit
open PlainSha (secret leafT out sum allTo keyT)
set_option maxRecDepth 100000 in
set_option maxHeartbeats 800000 in
theorem find_spent_c (k : List (BitVec 8)) (L S : Array Value) (r g cap gs cap2 : Nat) (cs : Array Value) (w : World) (hR : Reg1 w r g cap cs k true) :
    Calls Tryd.prog 11 #[.pointer (some ⟨r, 0, none⟩), .agg S, .slice (some ⟨gs, 0, none⟩) 2048 cap2] w fun e w' => e = .returned (.tuple #[.int .i64 0, .int .i64 129]) ∧ Below w.heap.size w w' := by
  have hE := entV_info k true
  obtain ⟨E, hEE⟩ : ∃ E, E = entV k true := ⟨_, rfl⟩
  have hv := hR.2.2.1
  have hEb := entV_b k true; have hE1 := entV_one k true; have hEs := entV_size k true
  rw [← hEE] at hE hv hEb hE1 hEs; clear hEE
  have HES := Lib.hid hEs; clear hEs
  have HV := Lib.hid hv; have HE1 := Lib.hid hE1; have HEB := Lib.hid hEb; clear hv hE1 hEb
  have hR1 := hR.next (Bl_alloc (Bl_refl w) (.cells S 23))
  have hc := hR1.row; have Bg := hR1.2.1
  have hBw : Below w.heap.size w (w.alloc (.cells S 23)) := Bl_alloc (Bl_refl w) _
  clear hR hR1
  go_enter Tryd.func11, Tryd.ntmps11
  go_upto_region 1 with fail
  generalize (w.alloc (.cells S 23)) = w2 at *; generalize egk : w.heap.size = gk at *
  go_wp2_with fail
  refine wp_loop_rounds 2 ?_
  rw [rounds_succ]
  go_wp2_with (first | (refine wpList_load_part rfl 64 (.tmp 25) rfl g 0 rfl 64 cs E _ Bg Tryd.underlying64 rfl hE HV.out ?_) | (refine wpList_store_whole rfl 64 (.tmp 9) (.tmp 26) rfl w2.heap.size E rfl rfl 64 _ (Blk.new w2 _ _) hE HES.out.symm (Array.all_eq_true_iff_forall_mem.2 fun u hu => HE1.out u (Array.mem_toList_iff.2 hu)) ?_))
  intro w3 hS
  have hb3 : Below w2.heap.size w2 w3 := hS.bel (Bl_alloc (Bl_refl w2) _) (Nat.le_refl _)
  have ht := hS.blk.cell 32
  rw [HEB.out] at ht
  have hB3 : Below gk w w3 := hBw.trans (hb3.mono (by have := hBw.size; omega))
  have HB3 := Lib.hid hB3; clear hB3 hb3 hS Bg hBw
  generalize w2.heap.size = gn at *
  go_wp2_with fail
  rw [rounds_succ]
  go_wp2_with fail
  exact bodyPost_ret (v := .tuple #[.int .i64 0, .int .i64 129]) (by simp [results, Tryd.results11, go_sem]) rfl ⟨rfl, by rw [egk]; exact HB3.out⟩
end Go.Proofs.YtmghpoagpiljhaaDoor
