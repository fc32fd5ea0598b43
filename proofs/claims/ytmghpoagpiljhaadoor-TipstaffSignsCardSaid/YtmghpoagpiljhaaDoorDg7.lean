/- The known text has its sum; the first descriptor is opened. -/
import Derived.Test.YtmghpoagpiljhaaDoorDg6
import Derived.Lib.SlBytesConst
set_option linter.unusedSimpArgs false
set_option linter.unusedVariables false
namespace Go.Proofs.YtmghpoagpiljhaaDoor
open Go.RowKit
abbrev abcS : ByteArray := ⟨#[98, 97, 55, 56, 49, 54, 98, 102, 56, 102, 48, 49, 99, 102, 101, 97, 52, 49, 52, 49, 52, 48, 100, 101, 53, 100, 97, 101, 50, 50, 50, 51, 98, 48, 48, 51, 54, 49, 97, 51, 57, 54, 49, 55, 55, 97, 57, 99, 98, 52, 49, 48, 102, 102, 54, 49, 102, 50, 48, 48, 49, 53, 97, 100]⟩
theorem abc_hex : bytesOf (hexL (PlainSha.out (PlainSha.sum [97#8, 98#8, 99#8]))) = abcS := by kernel_rfl
set_option maxRecDepth 100000 in
set_option maxHeartbeats 800000 in
theorem stands_c (w : World) (hT : Tabs w) : Calls Tryd.prog 8 #[] w fun e w' => e = .returned (.bool true) ∧ Below w.heap.size w w' := by
  have HT := Lib.hid hT; clear hT
  have hcv := Go.Lib.run_convert_bytes_const (P := Tryd.prog) w 22 5 #[.int .u8 97, .int .u8 98, .int .u8 99] 3 3 Tryd.underlying22 Tryd.underlying5
  go_enter Tryd.func8, Tryd.ntmps8
  go_wp2_with fail
  have hB := Bl_alloc (Bl_refl w) (.cells #[.int .u8 97, .int .u8 98, .int .u8 99] 5 (3, 4))
  refine (sum_c [97#8, 98#8, 99#8] 3 rfl (by omega) w.heap.size 0 3 _ (HT.out.next hB) (fun j hj => by
    rw [Nat.zero_add, cell_of_row _ w.heap.size j _ _ _ (heap_alloc_new w _)]
    match j, hj with
    | 0, _ => rfl
    | 1, _ => rfl
    | 2, _ => rfl
    | j + 3, h => omega)).mono ?_
  rintro e w2 ⟨rfl, hb⟩
  replace hB := Bl_trans hB hb
  clear hb
  obtain ⟨l, hl⟩ : ∃ l, l = PlainSha.out (PlainSha.sum [97#8, 98#8, 99#8]) := ⟨_, rfl⟩
  rw [← hl]
  have HX := Lib.hid (show bytesOf (hexL l) = abcS by rw [hl]; exact abc_hex)
  have hll : l.length = 32 := by rw [hl]; rfl
  clear hl
  go_wp2_with fail
  refine (hex_c l hll w2).mono ?_
  rintro e w3 ⟨rfl, hb⟩
  replace hB := Bl_trans hB hb
  rw [HX.out]
  clear hb HX hll
  go_wp2
  go_ret
  exact ⟨rfl, hB⟩
set_option maxRecDepth 100000 in
set_option maxHeartbeats 800000 in
theorem opens_c (w : World) : Calls Tryd.prog 20 #[] w fun e w' => e = .returned (.bool true) ∧ Below w.heap.size w w' := by
  have hms : ∀ w : World, (Instr.makeSlice 108 (.int .i64 2) (.int .i64 2)).run Tryd.prog w = .ok (.slice (some ⟨w.heap.size, 0, none⟩) 2 2) (w.alloc (.cells #[.int .i64 0, .int .i64 0] 3)) := fun w => by kernel_rfl
  go_enter Tryd.func20, Tryd.ntmps20
  go_wp2_with go_in
  refine wp_loop_rounds 1 ?_
  rw [rounds_succ]
  go_wp2_with go_in
  go_ret
  exact ⟨rfl, Bl_alloc (Bl_alloc (Bl_refl w) _) _⟩
end Go.Proofs.YtmghpoagpiljhaaDoor
