/- The walk of registry's Find, with one entry. -/
import Derived.Test.YtmghpoagpiljhaaDoorFnd2
set_option linter.unusedSimpArgs false
set_option linter.unusedVariables false
namespace Go.Proofs.YtmghpoagpiljhaaDoor
open Go.RowKit
open PlainSha (secret leafT out sum allTo keyT)
set_option maxRecDepth 100000 in
set_option maxHeartbeats 800000 in
theorem find_live_c (k l : List (BitVec 8)) (hk : k.length = 32) (o : BitVec 8) (r g cap gs cap2 : Nat) (hcap : 2048 ≤ cap2) (cs : Array Value) (w : World) (hR : Reg1 w r g cap cs k false) (hT : Tabs w) (hc9 : ∀ j, j < 2048 → w.cell? ⟨gs, j, none⟩ = some (bv ((sigT o l 32).getD j 0))) :
    Calls Tryd.prog 11 #[.pointer (some ⟨r, 0, none⟩), .agg (b32 l), .slice (some ⟨gs, 0, none⟩) 2048 cap2] w fun e w' => e = .returned (.tuple #[.int .i64 0, .int .i64 (if keyT o = k then 0 else 129)]) ∧ Below w.heap.size w w' := by
  obtain ⟨res, hres⟩ : ∃ z : Int, z = if keyT o = k then 0 else 129 := ⟨_, rfl⟩
  have KV := Lib.hid (fun w' (b : Below w.heap.size w w') => verify_sig k l hk o gs cap2 hcap w' (hT.next b) (fun j hj => (b.cell (World.block_lt_of_cell? w _ (hc9 j hj))).trans (hc9 j hj)))
  rw [← hres] at KV ⊢; have HRES := Lib.hid hres; clear hres hc9 hT
  obtain ⟨S, hS0⟩ : ∃ S, S = b32 l := ⟨_, rfl⟩; have hSi := b32_info l; obtain ⟨K, hK0⟩ : ∃ K, K = b32 k := ⟨_, rfl⟩; have hKi := b32_info k; have HEK := Lib.hid (entV_key k false)
  rw [← hS0] at KV hSi ⊢; rw [← hK0] at KV hKi HEK; clear hS0 hK0
  have hE := entV_info k false
  obtain ⟨E, hEE⟩ : ∃ E, E = entV k false := ⟨_, rfl⟩
  have hv := hR.2.2.1
  have hEb := entV_b k false; have hE1 := entV_one k false; have hEs := entV_size k false
  rw [← hEE] at HEK hE hv hEb hE1 hEs; clear hEE
  have HES := Lib.hid hEs; clear hEs
  have HV := Lib.hid hv; have HE1 := Lib.hid hE1; have HEB := Lib.hid hEb; clear hv hE1 hEb
  have hR1 := hR.next (Bl_alloc (Bl_refl w) (.cells S 23))
  have hc := hR1.row; have Bg := hR1.2.1
  have hBw : Below w.heap.size w (w.alloc (.cells S 23)) := Bl_alloc (Bl_refl w) _
  clear hR hR1
  go_enter Tryd.func11, Tryd.ntmps11
  go_upto_region 1 with fail
  have Bbox := Blk.new w 23 S
  generalize (w.alloc (.cells S 23)) = w2 at *; generalize egk : w.heap.size = gk at *
  go_wp2_with fail
  refine wp_loop_rounds 2 ?_
  rw [rounds_succ]
  go_wp2_with (first | (refine wpList_load_part rfl 64 (.tmp 25) rfl g 0 rfl 64 cs E _ Bg Tryd.underlying64 rfl hE HV.out ?_) | (refine wpList_store_whole rfl 64 (.tmp 9) (.tmp 26) rfl w2.heap.size E rfl rfl 64 _ (Blk.new w2 _ _) hE HES.out.symm (Array.all_eq_true_iff_forall_mem.2 fun u hu => HE1.out u (Array.mem_toList_iff.2 hu)) ?_))
  intro w3 hS
  have hb3 : Below w2.heap.size w2 w3 := hS.bel (Bl_alloc (Bl_refl w2) _) (Nat.le_refl _)
  have ht := hS.blk.cell 32
  rw [HEB.out] at ht
  have hB3 : Below gk w w3 := hBw.trans (hb3.mono (by have := hBw.size; omega))
  have HB3 := Lib.hid hB3; have hSb := hS.blk; have hbox := Bbox.next hb3; clear hB3 hb3 hS Bg hBw Bbox
  generalize w2.heap.size = gn at *
  go_wp2_with (first | (refine wpList_row_g (.agg K) rfl (exec_row 23 (.tmp 31) rfl gn 0 rfl 64 E K _ hSb Tryd.underlying23 rfl hKi HEK.out) ?_) | (refine wpList_row_g (.agg S) rfl (exec_row 23 (.tmp 4) rfl gk 0 rfl 23 S S _ hbox Tryd.underlying23 rfl hSi (row_self S)) ?_))
  refine (KV.out w3 HB3.out).mono ?_
  rintro e w4 ⟨rfl, hb4⟩
  have HB5 := Lib.hid (show Below gk w w4 from HB3.out.trans (hb4.mono (by have := HB3.out.size; omega)))
  clear hb4
  by_cases hq : keyT o = k
  · obtain rfl : res = 0 := by rw [HRES.out, if_pos hq]
    clear hq
    go_wp2_with fail
    exact bodyPost_ret (v := .tuple #[.int .i64 0, .int .i64 0]) (by simp [results, Tryd.results11, go_sem]) rfl ⟨rfl, by rw [egk]; exact HB5.out⟩
  · obtain rfl : res = 129 := by rw [HRES.out, if_neg hq]
    clear hq
    go_wp2_with fail
    rw [rounds_succ]
    go_wp2_with fail
    exact bodyPost_ret (v := .tuple #[.int .i64 0, .int .i64 129]) (by simp [results, Tryd.results11, go_sem]) rfl ⟨rfl, by rw [egk]; exact HB5.out⟩
end Go.Proofs.YtmghpoagpiljhaaDoor
