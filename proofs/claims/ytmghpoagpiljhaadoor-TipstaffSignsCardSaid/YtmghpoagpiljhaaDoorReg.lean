/- The walks of package registry. -/
import Derived.Test.YtmghpoagpiljhaaDoorDg5
import Derived.ChangeKeysEq
import Derived.Laws.StructEq
set_option linter.unusedSimpArgs false
set_option linter.unusedVariables false
namespace Go.Proofs.YtmghpoagpiljhaaDoor
open Go.RowKit
/-! ### sums compared -/
theorem all_same {a b : List (BitVec 8)} : ∀ n, ((List.range n).all fun i => a.getD i 0 == b.getD i 0) = true → ∀ i, i < n → a.getD i 0 = b.getD i 0 := fun n h i hi => by
  have := List.all_eq_true.1 h i (List.mem_range.2 hi)
  exact eq_of_beq this
theorem list_same {a b : List (BitVec 8)} (ha : a.length = 32) (hb : b.length = 32) (h : ∀ i, i < 32 → a.getD i 0 = b.getD i 0) : a = b := by
  apply List.ext_getElem (by omega)
  intro i h1 h2
  have := h i (by omega)
  rw [List.getD_eq_getElem?_getD, List.getD_eq_getElem?_getD, List.getElem?_eq_getElem h1, List.getElem?_eq_getElem h2] at this
  exact this
theorem T1_beq (a b : BitVec 8) : (T1 a == T1 b) = (a == b) := by
  rw [Bool.eq_iff_iff, beq_iff_eq, beq_iff_eq]
  refine ⟨fun h => ?_, fun h => by rw [h]⟩
  unfold T1 at h
  exact BitVec.eq_of_toNat_eq (by omega)
theorem eqItems_b (d : Nat) (k l : List (BitVec 8)) (w : World) : ∀ is : List Nat, (∀ i ∈ is, i < 32) → (Op.eqItems (d + 1) 5 1 (b32 k) (b32 l) is).run Tryd.prog w = .ok (is.all fun i => k.getD i 0 == l.getD i 0) w
  | [], _ => rfl
  | i :: is, h => by
    have hi := h i (by simp)
    have e1 : (part 5 (b32 k) (i * 1)).run Tryd.prog w = .ok (bv (k.getD i 0)) w := run_part_plain w (by kernel_rfl) (by rw [Nat.mul_one]; unfold b32; exact bws_get _ hi)
    have e2 : (part 5 (b32 l) (i * 1)).run Tryd.prog w = .ok (bv (l.getD i 0)) w := run_part_plain w (by kernel_rfl) (by rw [Nat.mul_one]; unfold b32; exact bws_get _ hi)
    have e3 : (Op.equalIn (d + 1) 5 (bv (k.getD i 0)) (bv (l.getD i 0))).run Tryd.prog w = .ok (k.getD i 0 == l.getD i 0) w := by
      rw [← T1_beq]; exact run_equalIn_int w d 5 .u8 .u8 _ _ Tryd.underlying5
    have ih := eqItems_b d k l w is fun j hj => h j (by simp [hj])
    simp only [Op.eqItems, Sem.run_bind, e1, e2, e3, Result.andThen_ok, List.all_cons]
    cases hr : (k.getD i 0 == l.getD i 0)
    · simp
    · simpa using ih
theorem all_iff_n (n : Nat) (k l : List (BitVec 8)) (h : (∀ i, i < n → k.getD i 0 = l.getD i 0) → k = l) : ((List.range n).all fun i => k.getD i 0 == l.getD i 0) = decide (k = l) := by
  rw [Bool.eq_iff_iff, decide_eq_true_iff]
  exact ⟨fun e => h (all_same n e), fun e => by rw [e]; exact List.all_eq_true.2 fun i _ => beq_self_eq_true _⟩
theorem all_iff (k l : List (BitVec 8)) (hk : k.length = 32) (hl : l.length = 32) : ((List.range 32).all fun i => k.getD i 0 == l.getD i 0) = decide (k = l) := all_iff_n 32 k l (list_same hk hl)
theorem eq32_at (d : Nat) (k l : List (BitVec 8)) (hk : k.length = 32) (hl : l.length = 32) (w : World) : (Op.equalIn (d + 1 + 1) 23 (.agg (b32 k)) (.agg (b32 l))).run Tryd.prog w = .ok (decide (k = l)) w := by
  obtain ⟨i0, hi, hz0, hz1, hz2⟩ := info_parts info_u8
  have c1 : Tryd.prog.cellsOf 5 = 1 := by kernel_rfl
  rw [run_equalIn_array w (d + 1) (b32 k) (b32 l) Tryd.underlying23 hi, c1, eqItems_b d k l w _ (fun i h => List.mem_range.1 h), all_iff k l hk hl]
theorem eq32 (k l : List (BitVec 8)) (hk : k.length = 32) (hl : l.length = 32) (w : World) : (Op.equalIn 10000 23 (.agg (b32 k)) (.agg (b32 l))).run Tryd.prog w = .ok (decide (k = l)) w := eq32_at 9998 k l hk hl w
set_option maxHeartbeats 400000 in
theorem new_c (w : World) : Calls Tryd.prog 7 #[] w fun e w' => e = .returned (.pointer (some ⟨w.heap.size, 0, none⟩)) ∧ w' = w.alloc (.cells #[.slice none 0 0] 60) := by
  go_enter Tryd.func7, Tryd.ntmps7
  go_wp2_with fail
  go_ret
  exact ⟨rfl, rfl⟩
/-- An entry's cells. -/
def entV (k : List (BitVec 8)) (b : Bool) : Array Value := b32 k ++ #[.bool b]
theorem entV_size (k : List (BitVec 8)) (b : Bool) : (entV k b).size = 33 := by unfold entV b32; rw [Array.size_append, bws_size]; rfl
theorem entV_key (k : List (BitVec 8)) (b : Bool) : ∀ j v, (b32 k).toList[j]? = some v → (entV k b)[0 + j]? = some v := by
  intro j v h
  rw [Array.getElem?_toList] at h
  have := (Array.getElem?_eq_some_iff.1 h).1
  unfold entV
  rw [Nat.zero_add, Array.getElem?_append_left this, h]
theorem entV_b (k : List (BitVec 8)) (b : Bool) : (entV k b)[32]? = some (.bool b) := by
  unfold entV
  rw [Array.getElem?_append_right (by unfold b32; rw [bws_size]; omega)]
  unfold b32; rw [bws_size]; rfl
theorem b32_info (k : List (BitVec 8)) : (Tryd.prog.info? 23).map (·.size) = some (b32 k).size := by unfold b32; rw [bws_size]; kernel_rfl
theorem entV_info (k : List (BitVec 8)) (b : Bool) : (Tryd.prog.info? 64).map (·.size) = some (entV k b).size := by rw [entV_size]; kernel_rfl

set_option maxRecDepth 100000 in
set_option maxHeartbeats 400000 in
theorem find1_c (k l : List (BitVec 8)) (b : Bool) (g : Nat) (w : World) (hB : Blk w g 23 (b32 l)) (hk : k.length = 32) (hl : l.length = 32) : Calls Tryd.prog 50 #[.agg (entV k b), .pointer (some ⟨g, 0, none⟩)] w fun e w' => e = .returned (.bool (decide (k = l))) ∧ Below w.heap.size w w' := by
  obtain ⟨M, hM⟩ : ∃ M, M = entV k b := ⟨_, rfl⟩
  have hMs := entV_info k b
  have HK := Lib.hid (entV_key k b)
  rw [← hM] at hMs HK; rw [← hM]; clear hM
  obtain ⟨K, hK⟩ : ∃ K, K = b32 k := ⟨_, rfl⟩; obtain ⟨L, hL⟩ : ∃ L, L = b32 l := ⟨_, rfl⟩
  have hKs := b32_info k; have hLs := b32_info l
  rw [← hK] at hKs HK; rw [← hL] at hLs hB; have HE := Lib.hid (show ∀ w : World, (Op.equalIn 10000 23 (.agg K) (.agg L)).run Tryd.prog w = .ok (decide (k = l)) w by rw [hK, hL]; exact eq32 k l hk hl); clear hK hL hk hl
  go_enter Tryd.func50, Tryd.ntmps50
  go_upto_region 1 with fail
  have Bm := Blk.new w 64 M
  have Bg := hB.alloc (.cells M 64)
  have hE := HE.out
  go_wp2_with (first | (refine wpList_load_part rfl 23 (.tmp 4) rfl w.heap.size 0 rfl 64 M K _ Bm Tryd.underlying23 rfl hKs HK.out ?_) | (refine wpList_load_whole rfl 23 (.tmp 1) rfl g rfl 23 L _ Bg Tryd.underlying23 rfl hLs ?_))
  go_ret
  exact ⟨rfl, Bl_alloc (Bl_refl w) _⟩
end Go.Proofs.YtmghpoagpiljhaaDoor
