/- A text's first bytes. -/
import Derived.Test.YtmghpoagpiljhaaDoorLam3
set_option linter.unusedSimpArgs false
set_option linter.unusedVariables false
namespace Go.Proofs.YtmghpoagpiljhaaDoor
open Go.RowKit
/-- Bytes as an argument: nil, or a row of bytes. -/
def Bytes (w : World) (a : Option Addr) (n cap : Nat) (l : List (BitVec 8)) : Prop :=
  (a = none ∧ n = 0 ∧ cap = 0 ∧ l = []) ∨ ∃ x, a = some x ∧ n ≤ cap ∧ cap ≤ maxLen ∧ l.length = n ∧ ∀ i, i < n → w.cell? (x.add i) = some (bv (l.getD i 0))
/-- A slice of at most 200 new bytes. -/
def CutB (w : World) (e : Ending) (w' : World) : Prop :=
  ∃ g k cap l, e = .returned (.slice (some ⟨g, 0, none⟩) k cap) ∧ Below w.heap.size w w' ∧ k ≤ 200 ∧ l.length = k ∧ ∀ j, j < k → w'.cell? ⟨g, j, none⟩ = some (bv ((l : List (BitVec 8)).getD j 0))
theorem own_empty (w : World) : OwnB (w.alloc (.cells #[] 5)) w.heap.size (.slice (some ⟨w.heap.size, 0, none⟩) 0 0) 0 [] := by
  refine ⟨rfl, .inr ⟨w.heap.size, 0, #[], rfl, Nat.le_refl _, heap_alloc_new w _, Nat.le_refl _, ?_, ?_, ?_⟩⟩
  all_goals first | rfl | simp | (unfold maxLen; omega)
set_option maxRecDepth 100000 in
set_option maxHeartbeats 800000 in
theorem cut_nil_c (w : World) : Calls Tryd.prog 6 #[.slice none 0 0, .int .i64 200] w (CutB w) := by
  go_enter Tryd.func6, Tryd.ntmps6
  go_wp2_with fail
  go_ret
  exact ⟨_, _, _, [], rfl, Bl_alloc (Bl_refl w) _, by omega, rfl, fun j h => absurd h (by omega)⟩
set_option maxRecDepth 100000 in
set_option maxHeartbeats 800000 in
theorem cut_some_c (x : Addr) (n cap : Nat) (l : List (BitVec 8)) (w : World) (hl : l.length = n) (hcap : n ≤ cap) (hm : cap ≤ maxLen) (hc : ∀ i, i < n → w.cell? (x.add i) = some (bv (l.getD i 0))) : Calls Tryd.prog 6 #[.slice (some x) n cap, .int .i64 200] w (CutB w) := by
  by_cases h0 : n = 0
  · subst h0
    go_enter Tryd.func6, Tryd.ntmps6
    go_wp2_with fail
    go_ret
    exact ⟨_, _, _, [], rfl, Bl_alloc (Bl_refl w) _, by omega, rfl, fun j h => absurd h (by omega)⟩
  obtain ⟨k, hk⟩ : ∃ k, k = min n 200 := ⟨_, rfl⟩
  have hk0 : 0 < k := by omega
  have hkn : k ≤ n := by omega
  have hk2 : k ≤ 200 := by omega
  have HC := Lib.hid (show ∀ i, i < k → (w.alloc (.cells #[] 5)).cell? (x.add i) = some (bv ((l.take k).getD i 0)) from fun i hi => by
    rw [(Bl_alloc (Bl_refl w) (.cells #[] 5)).cell (World.block_lt_of_cell? w _ (hc i (by omega))), hc i (by omega), List.getD_eq_getElem?_getD, List.getD_eq_getElem?_getD, List.getElem?_take, if_pos hi])
  have HL := Lib.hid (show (l.take k).length = k by rw [List.length_take]; omega)
  have HO := Lib.hid (own_empty w); clear hc hl
  by_cases h2 : n ≤ 200
  · obtain rfl : k = n := by omega
    clear hk
    go_enter Tryd.func6, Tryd.ntmps6
    go_wp2_with (refine wpList_app rfl (.tmp 5) (.tmp 11) rfl w.heap.size _ 0 [] rfl HO.out x k cap (l.take k) rfl HL.out HC.out (by omega) (by simp) ?_)
    intro v' w' hO hg
    have hB := Bl_grown (Bl_alloc (Bl_refl w) _) (Nat.le_refl _) HO.out hg
    obtain ⟨g, cap', rfl, hbg, hgl, hnc, hcell, hll⟩ := hO.at (by omega)
    go_wp2
    go_ret
    exact ⟨g, k, cap', l.take k, rfl, hB, by omega, by simpa using hll, by simpa using hcell⟩
  · obtain rfl : k = 200 := by omega
    clear hk
    have h3 : 200 < n := by omega
    go_enter Tryd.func6, Tryd.ntmps6
    go_wp2_with (refine wpList_app rfl (.tmp 5) (.tmp 11) rfl w.heap.size _ 0 [] rfl HO.out x 200 cap (l.take 200) rfl HL.out HC.out (by omega) (by simp) ?_)
    intro v' w' hO hg
    have hB := Bl_grown (Bl_alloc (Bl_refl w) _) (Nat.le_refl _) HO.out hg
    obtain ⟨g, cap', rfl, hbg, hgl, hnc, hcell, hll⟩ := hO.at (by omega)
    go_wp2
    go_ret
    exact ⟨g, 0 + 200, cap', l.take 200, rfl, hB, by omega, by simpa using hll, by simpa using hcell⟩
theorem cut_c (a : Option Addr) (n cap : Nat) (l : List (BitVec 8)) (w : World) (h : Bytes w a n cap l) : Calls Tryd.prog 6 #[.slice a n cap, .int .i64 200] w (CutB w) := by
  rcases h with ⟨rfl, rfl, rfl, rfl⟩ | ⟨x, rfl, h1, h2, h3, h4⟩
  · exact cut_nil_c w
  · exact cut_some_c x n cap l w h3 h1 h2 h4
end Go.Proofs.YtmghpoagpiljhaaDoor
