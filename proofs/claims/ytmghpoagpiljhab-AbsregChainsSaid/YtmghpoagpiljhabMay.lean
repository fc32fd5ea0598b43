/- AbsregMaybes' own walk. -/
import Derived.Test.YtmghpoagpiljhabMayP
import Derived.Test.YtmghpoagpiljhabMixQ
import Derived.Test.YtmghpoagpiljhabOpen
set_option linter.unusedSimpArgs false
set_option linter.unusedVariables false
namespace Go.Proofs.Ytmghpoagpiljhab
namespace PlainAbs
theorem two_ok (sl x y : Int) (hx : okKey x) (hy : okKey y) (k : Nat) : okKey ((two sl x y).r k).id := by
  show okKey (upd (upd start.r 0 (mreg sl x)) 6 (mreg sl y) k).id
  unfold upd
  by_cases h6 : k = 6
  · rw [if_pos h6]; exact hy
  · rw [if_neg h6]
    by_cases h0 : k = 0
    · rw [if_pos h0]; exact hx
    · rw [if_neg h0]; show okKey (upd (upd (fun _ => zr) 1 _) 10 _ k).id
      unfold upd
      by_cases h10 : k = 10
      · rw [if_pos h10]; show okKey 0; decide
      · rw [if_neg h10]
        by_cases h1 : k = 1
        · rw [if_pos h1]; show okKey 0; decide
        · rw [if_neg h1]; show okKey 0; decide
end PlainAbs
open Go.RowKit
open PlainTnum (N)
open PlainScalar (Rng)
open PlainAbs (Rg St zr zs upd Im mreg two three)
set_option maxRecDepth 100000 in
set_option maxHeartbeats 400000 in
theorem tmaybe_c (sl id : Int) (w : World) : Calls Try.prog 32 #[.int .i64 sl, .int .i64 id] w fun e w' => e = .returned (.agg #[.int .i64 6, .int .u64 0, .int .u64 0, .int .u64 0, .int .u64 0, .int .i64 0, .int .i64 0, .int .i64 sl, .int .i64 id, .int .i64 0, .int .i64 0]) ∧ Below w.heap.size w w' := by
  go_enter Try.func32, Try.ntmps32
  go_upto_region 1 with fail
  obtain ⟨gr, hgr⟩ : ∃ g, g = w.heap.size := ⟨_, rfl⟩
  have Br : Blk (w.alloc (.cells #[.int .i64 0, .int .u64 0, .int .u64 0, .int .u64 0, .int .u64 0, .int .i64 0, .int .i64 0, .int .i64 0, .int .i64 0, .int .i64 0, .int .i64 0] 29)) (w.heap.size) 29 #[.int .i64 0, .int .u64 0, .int .u64 0, .int .u64 0, .int .u64 0, .int .i64 0, .int .i64 0, .int .i64 0, .int .i64 0, .int .i64 0, .int .i64 0] := (Blk.new w 29 #[.int .i64 0, .int .u64 0, .int .u64 0, .int .u64 0, .int .u64 0, .int .i64 0, .int .i64 0, .int .i64 0, .int .i64 0, .int .i64 0, .int .i64 0])
  have hB : Below w.heap.size w (w.alloc (.cells #[.int .i64 0, .int .u64 0, .int .u64 0, .int .u64 0, .int .u64 0, .int .i64 0, .int .i64 0, .int .i64 0, .int .i64 0, .int .i64 0, .int .i64 0] 29)) := (Bl_alloc (Bl_refl w) _)
  clear hgr
  clear gr
  generalize (w.alloc (.cells #[.int .i64 0, .int .u64 0, .int .u64 0, .int .u64 0, .int .u64 0, .int .i64 0, .int .i64 0, .int .i64 0, .int .i64 0, .int .i64 0, .int .i64 0] 29)) = w1 at *
  have cr0 : w1.cell? ⟨w.heap.size, 0, none⟩ = some (.int .i64 0) := Br.cell 0
  have cr1 : w1.cell? ⟨w.heap.size, 1, none⟩ = some (.int .u64 0) := Br.cell 1
  have cr2 : w1.cell? ⟨w.heap.size, 2, none⟩ = some (.int .u64 0) := Br.cell 2
  have cr3 : w1.cell? ⟨w.heap.size, 3, none⟩ = some (.int .u64 0) := Br.cell 3
  have cr4 : w1.cell? ⟨w.heap.size, 4, none⟩ = some (.int .u64 0) := Br.cell 4
  have cr5 : w1.cell? ⟨w.heap.size, 5, none⟩ = some (.int .i64 0) := Br.cell 5
  have cr6 : w1.cell? ⟨w.heap.size, 6, none⟩ = some (.int .i64 0) := Br.cell 6
  have cr7 : w1.cell? ⟨w.heap.size, 7, none⟩ = some (.int .i64 0) := Br.cell 7
  have cr8 : w1.cell? ⟨w.heap.size, 8, none⟩ = some (.int .i64 0) := Br.cell 8
  have cr9 : w1.cell? ⟨w.heap.size, 9, none⟩ = some (.int .i64 0) := Br.cell 9
  have cr10 : w1.cell? ⟨w.heap.size, 10, none⟩ = some (.int .i64 0) := Br.cell 10
  have fr := Br.frozen; have lr := Br.lt
  go_wp2_with (refine wpList_store_whole rfl 29 (.tmp 4) (.tmp 7) rfl (w.heap.size) #[.int .i64 6, .int .u64 0, .int .u64 0, .int .u64 0, .int .u64 0, .int .i64 0, .int .i64 0, .int .i64 sl, .int .i64 id, .int .i64 0, .int .i64 0] rfl rfl 29 _ Br (size_re _ _ _ _ _ _ _ _ _ _ _) rfl (by simp [Value.oneCell']) ?_)
  intro w2 hS
  clear cr0 cr1 cr2 cr3 cr4 cr5 cr6 cr7 cr8 cr9 cr10 fr lr
  replace Br : Blk w2 (w.heap.size) 29 #[.int .i64 6, .int .u64 0, .int .u64 0, .int .u64 0, .int .u64 0, .int .i64 0, .int .i64 0, .int .i64 sl, .int .i64 id, .int .i64 0, .int .i64 0] := hS.blk
  replace hB := hS.bel hB (by first | omega | (simp; omega))
  clear hS
  have cr0 : w2.cell? ⟨w.heap.size, 0, none⟩ = some (.int .i64 6) := Br.cell 0
  have cr1 : w2.cell? ⟨w.heap.size, 1, none⟩ = some (.int .u64 0) := Br.cell 1
  have cr2 : w2.cell? ⟨w.heap.size, 2, none⟩ = some (.int .u64 0) := Br.cell 2
  have cr3 : w2.cell? ⟨w.heap.size, 3, none⟩ = some (.int .u64 0) := Br.cell 3
  have cr4 : w2.cell? ⟨w.heap.size, 4, none⟩ = some (.int .u64 0) := Br.cell 4
  have cr5 : w2.cell? ⟨w.heap.size, 5, none⟩ = some (.int .i64 0) := Br.cell 5
  have cr6 : w2.cell? ⟨w.heap.size, 6, none⟩ = some (.int .i64 0) := Br.cell 6
  have cr7 : w2.cell? ⟨w.heap.size, 7, none⟩ = some (.int .i64 sl) := Br.cell 7
  have cr8 : w2.cell? ⟨w.heap.size, 8, none⟩ = some (.int .i64 id) := Br.cell 8
  have cr9 : w2.cell? ⟨w.heap.size, 9, none⟩ = some (.int .i64 0) := Br.cell 9
  have cr10 : w2.cell? ⟨w.heap.size, 10, none⟩ = some (.int .i64 0) := Br.cell 10
  have fr := Br.frozen; have lr := Br.lt
  go_wp2
  exact bodyPost_ret (v := .agg #[.int .i64 6, .int .u64 0, .int .u64 0, .int .u64 0, .int .u64 0, .int .i64 0, .int .i64 0, .int .i64 sl, .int .i64 id, .int .i64 0, .int .i64 0]) (by simp [results, Try.results32, go_sem, cr0, cr1, cr2, cr3, cr4, cr5, cr6, cr7, cr8, cr9, cr10, lr]) rfl ⟨rfl, by repeat (first | (with_reducible exact hB) | (with_reducible refine Bl_set ?_ (by first | omega | (simp; done) | (simp; omega)) _) | with_reducible apply Bl_alloc)⟩
theorem three_stv (sl x y : Int) : stv (three sl x y) = setL (stv (two sl x y)) 207 (gl (mreg sl x)) := by unfold three; rw [show (207 : Nat) = 185 + 2 * 11 from rfl, set_kept _ (k := 2) (by omega)]
end Go.Proofs.Ytmghpoagpiljhab
