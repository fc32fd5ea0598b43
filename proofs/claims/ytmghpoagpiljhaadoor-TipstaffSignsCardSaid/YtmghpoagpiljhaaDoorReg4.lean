/- The walks of package registry: Has, Spend, Len, with one entry. -/
import Derived.Test.YtmghpoagpiljhaaDoorReg3
set_option linter.unusedSimpArgs false
set_option linter.unusedVariables false
namespace Go.Proofs.YtmghpoagpiljhaaDoor
open Go.RowKit
theorem Reg1.truth {w : World} {r g cap : Nat} {cs : Array Value} {k : List (BitVec 8)} {b : Bool} (h : Reg1 w r g cap cs k b) : w.cell? ⟨g, 32, none⟩ = some (.bool b) := by
  rw [h.2.1.cell]
  have := h.2.2.1 32 (.bool b) (by rw [Array.getElem?_toList]; exact entV_b k b)
  rwa [Nat.zero_add] at this
theorem Reg1.row {w : World} {r g cap : Nat} {cs : Array Value} {k : List (BitVec 8)} {b : Bool} (h : Reg1 w r g cap cs k b) : w.cell? ⟨r, 0, none⟩ = some (.slice (some ⟨g, 0, none⟩) 1 cap) := h.1.cell 0
set_option maxRecDepth 100000 in
set_option maxHeartbeats 400000 in
theorem len_c (k : List (BitVec 8)) (b : Bool) (r g cap : Nat) (cs : Array Value) (w : World) (hR : Reg1 w r g cap cs k b) : Calls Tryd.prog 15 #[.pointer (some ⟨r, 0, none⟩)] w fun e w' => e = .returned (.int .i64 1) ∧ Below w.heap.size w w' := by
  have hc := hR.row; clear hR
  go_enter Tryd.func15, Tryd.ntmps15
  go_wp2_with fail
  go_ret
  exact ⟨rfl, Bl_refl w⟩
set_option maxRecDepth 100000 in
set_option maxHeartbeats 400000 in
theorem has_c (k : List (BitVec 8)) (b : Bool) (hk : k.length = 32) (r g cap : Nat) (cs : Array Value) (w : World) (hR : Reg1 w r g cap cs k b) : Calls Tryd.prog 13 #[.pointer (some ⟨r, 0, none⟩), .agg (b32 k)] w fun e w' => e = .returned (.bool (!b)) ∧ Below w.heap.size w w' := by
  have HF := Lib.hid (fun w1 h1 => find1r_c k b hk r g cap cs w1 h1)
  have hi := b32_info k
  obtain ⟨K, hK⟩ : ∃ K, K = b32 k := ⟨_, rfl⟩
  rw [← hK] at HF hi ⊢; clear hK
  have HR := Lib.hid (hR.next (Bl_alloc (Bl_refl w) (.cells K 23))); clear hR
  go_enter Tryd.func13, Tryd.ntmps13
  go_upto_region 1 with fail
  have Bk := Blk.new w 23 K
  have hB := Bl_alloc (Bl_refl w) (.cells K 23)
  have HB := Lib.hid hB; clear hB
  generalize (w.alloc (.cells K 23)) = w2 at *; generalize egk : w.heap.size = gk at *
  go_wp2_with (first | (refine wpList_load_whole rfl 23 (.tmp 3) rfl gk rfl 23 K _ Bk Tryd.underlying23 rfl hi ?_))
  refine (HF.out _ HR.out).mono ?_
  rintro e w3 ⟨rfl, hb⟩
  have hR3 := HR.out.next hb
  have hc := hR3.row; have ht := hR3.truth; clear hR3
  have hB3 : Below gk w w3 := HB.out.trans (hb.mono (by rw [← egk]; exact HB.out.size)); clear hb
  have HB3 := Lib.hid hB3; clear hB3
  go_wp2_with fail
  go_ret
  exact ⟨rfl, by rw [egk]; exact HB3.out⟩
set_option maxRecDepth 100000 in
set_option maxHeartbeats 400000 in
theorem spend_c (k : List (BitVec 8)) (r g cap : Nat) (cs : Array Value) (w : World) (hR : Reg1 w r g cap cs k false) : Calls Tryd.prog 14 #[.pointer (some ⟨r, 0, none⟩), .int .i64 0] w fun e w' => e = .returned (.int .i64 0) ∧ But g w w' ∧ ∃ cs', Reg1 w' r g cap cs' k true := by
  have hc := hR.row; have ht := hR.truth; have hf := hR.2.1.frozen 32
  have HR := Lib.hid hR; clear hR
  go_enter Tryd.func14, Tryd.ntmps14
  go_wp2_with fail
  go_ret
  refine ⟨rfl, (But.refl g w).setp 32 _, cs.setIfInBounds 32 (.bool true), HR.out.1.far (by exact HR.out.2.2.2.2) _, HR.out.2.1.set_ 32 _, ?_, by simpa using HR.out.2.2.2.1, HR.out.2.2.2.2⟩
  intro j v hj
  rw [Nat.zero_add]
  have h0 := HR.out.2.2.1 j
  rw [Nat.zero_add] at h0
  have hsz := HR.out.2.2.2.1
  rw [Array.getElem?_toList] at hj
  by_cases h : j = 32
  · subst h
    rw [entV_b] at hj; cases hj
    simp [Array.getElem?_setIfInBounds]; omega
  · have h33 : j < 33 := by have := (Array.getElem?_eq_some_iff.1 hj).1; rwa [entV_size] at this
    have e1 : (entV k false)[j]? = some v := by
      rw [← hj]; unfold entV
      rw [Array.getElem?_append_left (by unfold b32; rw [bws_size]; omega), Array.getElem?_append_left (by unfold b32; rw [bws_size]; omega)]
    rw [Array.getElem?_setIfInBounds, if_neg (Ne.symm h)]
    exact h0 v (by rw [Array.getElem?_toList]; exact e1)
end Go.Proofs.YtmghpoagpiljhaaDoor
