/- The walks of package registry: find. -/
import Derived.Test.YtmghpoagpiljhaaDoorReg
set_option linter.unusedSimpArgs false
set_option linter.unusedVariables false
namespace Go.Proofs.YtmghpoagpiljhaaDoor
open Go.RowKit
/-- A registry with no entry; with one. -/
def Reg0 (w : World) (r : Nat) : Prop := Blk w r 60 #[.slice none 0 0]
def Reg1 (w : World) (r g cap : Nat) (cs : Array Value) (k : List (BitVec 8)) (b : Bool) : Prop :=
  Blk w r 60 #[.slice (some ⟨g, 0, none⟩) 1 cap] ∧ Blk w g 64 cs ∧ (∀ j v, (entV k b).toList[j]? = some v → cs[0 + j]? = some v) ∧ 33 ≤ cs.size ∧ r ≠ g
theorem Reg0.next {w w' : World} {r : Nat} (h : Reg0 w r) (hb : Below w.heap.size w w') : Reg0 w' r := Blk.next h hb
theorem Reg1.next {w w' : World} {r g cap : Nat} {cs : Array Value} {k : List (BitVec 8)} {b : Bool} (h : Reg1 w r g cap cs k b) (hb : Below w.heap.size w w') : Reg1 w' r g cap cs k b := ⟨h.1.next hb, h.2.1.next hb, h.2.2⟩
set_option maxRecDepth 100000 in
set_option maxHeartbeats 400000 in
theorem index0_c (g : Nat) (w : World) : Calls Tryd.prog 49 #[.slice none 0 0, .func (.func 50) #[] #[.pointer (some ⟨g, 0, none⟩)]] w fun e w' => e = .returned (.int .i64 (-1)) ∧ Below w.heap.size w w' := by
  go_enter Tryd.func49, Tryd.ntmps49
  go_wp2_with fail
  refine wp_loop_rounds 1 ?_
  rw [rounds_succ]
  go_wp2_with fail
  go_ret
  exact ⟨rfl, Bl_refl w⟩
set_option maxRecDepth 100000 in
set_option maxHeartbeats 400000 in
theorem index1_c (k : List (BitVec 8)) (b : Bool) (hk : k.length = 32) (g ge cap : Nat) (cs : Array Value) (w : World) (hB : Blk w g 23 (b32 k)) (hE : Blk w ge 64 cs) (hv : ∀ j v, (entV k b).toList[j]? = some v → cs[0 + j]? = some v) :
    Calls Tryd.prog 49 #[.slice (some ⟨ge, 0, none⟩) 1 cap, .func (.func 50) #[] #[.pointer (some ⟨g, 0, none⟩)]] w fun e w' => e = .returned (.int .i64 0) ∧ Below w.heap.size w w' := by
  have hf := find1_c k k b g w hB hk hk
  rw [decide_eq_true (Eq.refl k)] at hf
  have HF := Lib.hid hf; clear hf
  have hs := entV_info k b
  obtain ⟨M, hM⟩ : ∃ M, M = entV k b := ⟨_, rfl⟩
  rw [← hM] at HF hs hv; have HV := Lib.hid hv; clear hM hB hv
  go_enter Tryd.func49, Tryd.ntmps49
  go_wp2_with fail
  refine wp_loop_rounds 1 ?_
  rw [rounds_succ]
  go_wp2_with (first | (refine wpList_load_part rfl 64 (.tmp 14) rfl ge 0 rfl 64 cs M _ hE Tryd.underlying64 rfl hs HV.out ?_))
  refine HF.out.mono ?_
  rintro e w' ⟨rfl, hb⟩
  go_wp2_with fail
  go_ret
  exact ⟨rfl, hb⟩
set_option maxRecDepth 100000 in
set_option maxHeartbeats 400000 in
theorem find0_c (l : List (BitVec 8)) (r : Nat) (w : World) (hR : Reg0 w r) : Calls Tryd.prog 27 #[.pointer (some ⟨r, 0, none⟩), .agg (b32 l)] w fun e w' => e = .returned (.int .i64 (-1)) ∧ Below w.heap.size w w' := by
  obtain ⟨K, hK⟩ : ∃ K, K = b32 l := ⟨_, rfl⟩
  rw [← hK]; clear hK
  have hr := hR.alloc (.cells K 23)
  have hc := hr.cell 0
  have HX := Lib.hid (index0_c w.heap.size (w.alloc (.cells K 23)))
  go_enter Tryd.func27, Tryd.ntmps27
  go_wp2_with fail
  refine HX.out.mono ?_
  rintro e w' ⟨rfl, hb⟩
  go_wp2
  go_ret
  exact ⟨rfl, Bl_trans (Bl_alloc (Bl_refl w) _) hb⟩
set_option maxRecDepth 100000 in
set_option maxHeartbeats 400000 in
theorem find1r_c (k : List (BitVec 8)) (b : Bool) (hk : k.length = 32) (r g cap : Nat) (cs : Array Value) (w : World) (hR : Reg1 w r g cap cs k b) : Calls Tryd.prog 27 #[.pointer (some ⟨r, 0, none⟩), .agg (b32 k)] w fun e w' => e = .returned (.int .i64 0) ∧ Below w.heap.size w w' := by
  have HX := Lib.hid (index1_c k b hk w.heap.size g cap cs (w.alloc (.cells (b32 k) 23)) (Blk.new w _ _) (hR.2.1.alloc _) hR.2.2.1)
  obtain ⟨K, hK⟩ : ∃ K, K = b32 k := ⟨_, rfl⟩
  rw [← hK] at HX ⊢; clear hK
  have hr := hR.1.alloc (.cells K 23)
  have hc := hr.cell 0
  clear hR
  go_enter Tryd.func27, Tryd.ntmps27
  go_wp2_with fail
  refine HX.out.mono ?_
  rintro e w' ⟨rfl, hb⟩
  go_wp2
  go_ret
  exact ⟨rfl, Bl_trans (Bl_alloc (Bl_refl w) _) hb⟩
end Go.Proofs.YtmghpoagpiljhaaDoor
