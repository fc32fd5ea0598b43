/- The walks of package registry: Add. -/
import Derived.Test.YtmghpoagpiljhaaDoorReg2
import Derived.Test.YtmghpoagpiljhaaDoorHeld
import Derived.Deep.AppendLies
set_option linter.unusedSimpArgs false
set_option linter.unusedVariables false
namespace Go.Proofs.YtmghpoagpiljhaaDoor
open Go.RowKit
theorem info_e : (Tryd.prog.info? 64).map (fun i => (i.zero.map (·.cells.size), i.size, i.bytes)) = some (some 33, 33, 33) := by kernel_rfl
theorem info_entry : ∃ i0 z, Tryd.prog.info? 64 = some i0 ∧ i0.zero = some z ∧ i0.size = 33 ∧ i0.bytes = 33 ∧ z.cells.size = 33 := by
  have h := info_e
  cases hi : Tryd.prog.info? 64 with
  | none => rw [hi] at h; cases h
  | some i =>
    rw [hi] at h
    simp only [Option.map_some, Option.some.injEq, Prod.mk.injEq] at h
    obtain ⟨h0, h1, h2⟩ := h
    cases hz : i.zero with
    | none => rw [hz] at h0; cases h0
    | some z => rw [hz] at h0; exact ⟨i, z, rfl, hz, h1, h2, by simpa using h0⟩
theorem build_e (k : List (BitVec 8)) (w : World) : (Instr.build 64 #[(0, .agg (b32 k))]).run Tryd.prog w = .ok (.agg (entV k false)) w := by kernel_rfl
theorem slice_e (k : List (BitVec 8)) (w : World) : (Instr.buildSlice 58 1 #[(0, .agg (entV k false))]).run Tryd.prog w = .ok (.slice (some ⟨w.heap.size, 0, none⟩) 1 1) (w.alloc (.cells (entV k false) 64)) := by kernel_rfl
theorem entV_one (k : List (BitVec 8)) (b : Bool) : ∀ u ∈ (entV k b).toList, u.oneCell' = true := by
  intro u hu
  unfold entV at hu
  rw [Array.toList_append] at hu
  rcases List.mem_append.1 hu with h | h
  · exact Array.all_eq_true_iff_forall_mem.1 (bws_one 32 fun i => k.getD i 0) u (Array.mem_toList_iff.1 h)
  · simp at h; rw [h]; rfl
set_option maxRecDepth 100000 in
set_option maxHeartbeats 800000 in
theorem add_c (k : List (BitVec 8)) (hk : k.length = 32) (r : Nat) (w : World) (hR : Reg0 w r) : Calls Tryd.prog 9 #[.pointer (some ⟨r, 0, none⟩), .agg (b32 k)] w fun e w' => e = .returned (.int .i64 0) ∧ But r w w' ∧ ∃ g cap cs, Reg1 w' r g cap cs k false ∧ w.heap.size ≤ g := by
  have HF := Lib.hid (fun w1 h1 => find0_c k r w1 h1)
  have HBE := Lib.hid (build_e k); have HSE := Lib.hid (slice_e k); have HE1 := Lib.hid (entV_one k false); have HES := Lib.hid (entV_size k false)
  have hi := b32_info k
  obtain ⟨E, hE⟩ : ∃ E, E = entV k false := ⟨_, rfl⟩
  obtain ⟨K, hK⟩ : ∃ K, K = b32 k := ⟨_, rfl⟩
  rw [← hE] at HBE HSE HE1 HES
  rw [← hK] at HF HBE hi ⊢
  have HE := Lib.hid hE; clear hE hK
  have hr := hR.alloc (.cells K 23)
  have hc := hr.cell 0
  have hrk := Nat.ne_of_lt hR.lt
  clear hR
  go_enter Tryd.func9, Tryd.ntmps9
  go_upto_region 1 with fail
  have Bk := Blk.new w 23 K
  have hB : Below w.heap.size w (w.alloc (.cells K 23)) := Bl_alloc (Bl_refl w) _
  have hgk := hB.size
  generalize (w.alloc (.cells K 23)) = w2 at *; generalize egk : w.heap.size = gk at *
  go_wp2_with (first | (refine wpList_load_whole rfl 23 (.tmp 3) rfl gk rfl 23 K _ Bk Tryd.underlying23 rfl hi ?_))
  refine (HF.out _ hr).mono ?_
  rintro e w3 ⟨rfl, hb⟩
  replace hr := Blk.next hr hb; replace Bk := Bk.next hb; have hc := hr.cell 0
  have hB3 : Below gk w w3 := hB.trans (hb.mono hgk); have hb3 := hb.size; clear hB hb
  go_upto_region 7 with fail
  obtain ⟨i0, z0, hi0, hz0, hz1, hz2, hz3⟩ := info_entry
  refine wp_region_N (fun w' => w'.cell? ⟨r, 0, none⟩ = some (.slice none 0 0) ∧ Blk w' gk 23 K) (fun j => decide (j ≤ 8)) (by kernel_rfl) ?_
  have hS : w3.drew.cell? ⟨r, 0, none⟩ = some (.slice none 0 0) ∧ Blk w3.drew gk 23 K := ⟨hr.cell 0, Bk⟩
  refine wpAnyN_take 0 (some 20) (Value.pointer (some ⟨r, 0, none⟩)) rfl rfl (by kernel_rfl) (by kernel_rfl) (by kernel_rfl) (by kernel_rfl) (fun _ _ _ h => h) rfl (fun w' hw' => by obtain ⟨hcell, hblk⟩ := hw'; go_simp) hS ?_
  simp only [Act.put, List.setIfInBounds_toArray, List.set_cons_zero, List.set_cons_succ]
  refine wpAnyN_take 1 (some 21) (Value.pointer (some ⟨r, 0, none⟩)) rfl rfl (by kernel_rfl) (by kernel_rfl) (by kernel_rfl) (by kernel_rfl) (fun _ _ _ h => h) rfl (fun w' hw' => by obtain ⟨hcell, hblk⟩ := hw'; go_simp) hS ?_
  simp only [Act.put, List.setIfInBounds_toArray, List.set_cons_zero, List.set_cons_succ]
  refine wpAnyN_take 5 (some 25) (Value.agg K) rfl rfl (by kernel_rfl) (by kernel_rfl) (by kernel_rfl) (by kernel_rfl) (fun _ _ _ h => h) rfl (fun w' hw' => exec_row 23 (.tmp 3) rfl gk 0 rfl 23 K K _ hw'.2 Tryd.underlying23 rfl hi (row_self K)) hS ?_
  simp only [Act.put, List.setIfInBounds_toArray, List.set_cons_zero, List.set_cons_succ]
  refine wpAnyN_take 2 (some 22) (Value.pointer (some ⟨r, 0, none⟩)) rfl rfl (by kernel_rfl) (by kernel_rfl) (by kernel_rfl) (by kernel_rfl) (fun _ _ _ h => h) rfl (fun w' hw' => by obtain ⟨hcell, hblk⟩ := hw'; go_simp) hS ?_
  simp only [Act.put, List.setIfInBounds_toArray, List.set_cons_zero, List.set_cons_succ]
  refine wpAnyN_take 3 (some 23) (Value.pointer (some ⟨r, 0, none⟩)) rfl rfl (by kernel_rfl) (by kernel_rfl) (by kernel_rfl) (by kernel_rfl) (fun _ _ _ h => h) rfl (fun w' hw' => by obtain ⟨hcell, hblk⟩ := hw'; go_simp) hS ?_
  simp only [Act.put, List.setIfInBounds_toArray, List.set_cons_zero, List.set_cons_succ]
  refine wpAnyN_take 4 (some 24) (Value.slice none 0 0) rfl rfl (by kernel_rfl) (by kernel_rfl) (by kernel_rfl) (by kernel_rfl) (fun _ _ _ h => h) rfl (fun w' hw' => by obtain ⟨hcell, hblk⟩ := hw'; go_simp) hS ?_
  simp only [Act.put, List.setIfInBounds_toArray, List.set_cons_zero, List.set_cons_succ]
  refine wpAnyN_take 6 (some 26) (Value.agg E) rfl rfl (by kernel_rfl) (by kernel_rfl) (by kernel_rfl) (by kernel_rfl) (fun _ _ _ h => h) rfl (fun w' hw' => exec_build 64 _ rfl _ (by simpa [Act.eval] using HBE.out w')) hS ?_
  simp only [Act.put, List.setIfInBounds_toArray, List.set_cons_zero, List.set_cons_succ]
  refine wpAnyN_one 7 rfl (by kernel_rfl) ?_
  simp only [List.getElem_toArray, List.getElem_cons_succ, List.getElem_cons_zero]
  refine wpList_built rfl 58 1 _ rfl _ _ (by simpa [Act.eval] using HSE.out w3.drew) ?_
  simp only [Act.put, List.setIfInBounds_toArray, List.set_cons_zero, List.set_cons_succ]
  have hr1 : Blk (w3.drew.alloc (.cells E 64)) r _ _ := Blk.alloc (show Blk w3.drew r _ _ from hr) _
  have Bk1 : Blk (w3.drew.alloc (.cells E 64)) gk _ _ := Blk.alloc (show Blk w3.drew gk _ _ from Bk) _
  refine ⟨fun _ => ⟨hr1.cell 0, Bk1⟩, ?_⟩
  refine wpAnyN_one 8 rfl (by kernel_rfl) ?_
  simp only [List.getElem_toArray, List.getElem_cons_succ, List.getElem_cons_zero]
  refine wpList_append_lies _ rfl (.tmp 24) (.tmp 27) 58 rfl w3.heap.size 64 i0 z0 33 33 Tryd.underlying58 hi0 hz0 hz1 hz2 hz3 (by omega) (.slice none 0 0) 0 [] rfl (World.ownsRow_nil _ _ _ _)
    ⟨w3.drew.heap.size, 0, none⟩ 1 1 E.toList rfl (by simpa using HES.out) (World.news_of_block (heap_alloc_new w3.drew _)) HE1.out (by omega) (by unfold maxLen; omega) (by omega) (by show w3.heap.size ≤ _; rw [World.size_alloc]; exact Nat.le_succ _) _ rfl ?_
  intro g cap w4 hown hgrow hat hlt
  simp only [Act.put, List.setIfInBounds_toArray, List.set_cons_zero, List.set_cons_succ]
  have hr4 : Blk w4 r 60 #[.slice none 0 0] := (hgrow.block r hr1.lt (by simp [Value.ownBlock])).trans hr1
  have Bk4 : Blk w4 gk 23 K := (hgrow.block gk Bk1.lt (by simp [Value.ownBlock])).trans Bk1
  have hS4 : w4.cell? ⟨r, 0, none⟩ = some (.slice none 0 0) ∧ Blk w4 gk 23 K := ⟨hr4.cell 0, Bk4⟩
  refine ⟨fun _ => hS4, ?_⟩
  refine wpAnyN_one 9 rfl (by kernel_rfl) ?_
  simp only [List.getElem_toArray, List.getElem_cons_succ, List.getElem_cons_zero]
  go_wp2_with fail
  refine ⟨fun h => absurd h (by decide), ?_⟩
  refine wpAnyN_one 10 rfl (by kernel_rfl) ?_
  simp only [List.getElem_toArray, List.getElem_cons_succ, List.getElem_cons_zero]
  go_wp2_with fail
  refine ⟨fun h => absurd h (by decide), ?_⟩
  have hc4 := hr4.cell 0; have hf4 := hr4.frozen 0
  refine wpAnyN_one 11 rfl (by kernel_rfl) ?_
  simp only [List.getElem_toArray, List.getElem_cons_succ, List.getElem_cons_zero]
  go_wp2_with fail
  refine ⟨fun h => absurd h (by decide), wpAnyN_done (by kernel_rfl) ?_⟩
  have hgr : r ≠ g := by
    rcases hat with h | h
    · cases h
    · rw [h]; exact Nat.ne_of_lt hr1.lt
  have hB5 : Below gk w w4 := ((hB3.drew).alloc (Nat.le_trans hgk hb3) _).grown hgrow (by rw [World.size_alloc]; exact Nat.le_trans (Nat.le_trans hgk hb3) (Nat.le_succ _)) (fun k e => by cases e)
  rw [← egk] at hB5
  rcases hown.2 with ⟨h, _⟩ | ⟨g', cap', cur, he, hbg, hgc, hnc, _, hcs, htk⟩
  · cases h
  cases he
  have HX := Lib.hid (show But r w (w4.setCell ⟨r, 0, none⟩ (.slice (some ⟨g, 0, none⟩) 1 cap)) ∧ ∃ gg cap' cs, Reg1 (w4.setCell ⟨r, 0, none⟩ (.slice (some ⟨g, 0, none⟩) 1 cap)) r gg cap' cs k false ∧ w.heap.size ≤ gg from by
    refine ⟨(But.of hB5).setp 0 _, g, cap, cur, ⟨(hr4.set_ 0 _), Blk.far (show Blk w4 g _ cur from hgc) (Ne.symm hgr) _, ?_, by omega, hgr⟩, by rw [egk]; exact Nat.le_trans (Nat.le_trans hgk hb3) hbg⟩
    intro j v hj
    rw [← HE.out] at hj
    have h33 : j < 33 := by
      have := (List.getElem?_eq_some_iff.1 hj).1
      have h2 := HES.out
      simpa [h2] using this
    rw [Nat.zero_add]
    have h3 : (cur.toList.take 33)[j]? = some v := by
      have : cur.toList.take 33 = E.toList := by simpa using htk
      rw [this]; exact hj
    rw [List.getElem?_take, if_pos h33] at h3
    simpa using h3)
  clear hown hgrow hat hbg hgc hnc hcs htk hB5 hr4 Bk4 hS4 hr1 Bk1 hS HE HES HE1 HSE HBE
  go_wp2
  go_ret
  obtain ⟨h1, g2, cap2, cs2, h2, h3⟩ := HX.out
  exact ⟨rfl, h1, g2, cap2, cs2, h2, h3⟩
end Go.Proofs.YtmghpoagpiljhaaDoor
