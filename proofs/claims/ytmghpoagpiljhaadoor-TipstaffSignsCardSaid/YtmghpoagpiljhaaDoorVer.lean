/- The walk of lamport's Verify. -/
import Derived.Test.YtmghpoagpiljhaaDoorVerP
import Derived.Test.YtmghpoagpiljhaaDoorReg4
import Derived.Sort.CutIn
import Derived.Deep.RegionHeld3
set_option linter.unusedSimpArgs false
set_option linter.unusedVariables false
namespace Go.Proofs.YtmghpoagpiljhaaDoor
open Go.RowKit Go.Shelf
open PlainSha (secret leafT out sum allTo keyT)
attribute [local go_sem] Oper.semAt_some
def slV (g cap : Nat) : Value := .slice (some ⟨g, 0, none⟩) 2048 cap
/-- What stands between two rounds. -/
structure Fix (w : World) (k l : List (BitVec 8)) (g cap : Nat) (j : Nat) (W : World) : Prop where
  key : Blk W w.heap.size 23 (b32 k)
  sum : Blk W (w.heap.size + 1) 23 (b32 l)
  num : Blk W (w.heap.size + 3) 3 #[.int .i64 (j : Int)]
  sig : Blk W (w.heap.size + 4) 22 #[.slice (some ⟨g, 0, none⟩) 2048 cap]
  wid : Blk W (w.heap.size + 5) 3 #[.int .i64 64]
  low : Below w.heap.size w W
def Acc (w : World) (W : World) (v : Value) (n : Nat) (L : List (BitVec 8)) : Prop := Blk W (w.heap.size + 2) 22 #[v] ∧ OwnB W w.heap.size v n L
theorem Fix.next {w W W' : World} {k l : List (BitVec 8)} {g cap j : Nat} (h : Fix w k l g cap j W) (b : Below W.heap.size W W') : Fix w k l g cap j W' :=
  ⟨h.key.next b, h.sum.next b, h.num.next b, h.sig.next b, h.wid.next b, Bl_trans h.low b⟩
theorem Acc.next {w W W' : World} {v : Value} {n : Nat} {L : List (BitVec 8)} (h : Acc w W v n L) (b : Below W.heap.size W W') : Acc w W' v n L := ⟨h.1.next b, OwnB.next h.2 b⟩
theorem Fix.but {w W W' : World} {k l : List (BitVec 8)} {g cap j p : Nat} (h : Fix w k l g cap j W) (b : But p W W') (hp : w.heap.size + 6 ≤ p) : Fix w k l g cap j W' :=
  ⟨b.far (by omega) h.key, b.far (by omega) h.sum, b.far (by omega) h.num, b.far (by omega) h.sig, b.far (by omega) h.wid, b.bel h.low (by omega) h.low.size⟩
theorem Fix.app {w W W' : World} {k l L : List (BitVec 8)} {g cap j n : Nat} {v : Value} (h : Fix w k l g cap j W) (hO : OwnB W w.heap.size v n L) (b : W.grownBy W' v.ownBlock) : Fix w k l g cap j W' :=
  ⟨blk_app h.key (by decide) hO b, blk_app h.sum (by decide) hO b, blk_app h.num (by decide) hO b, blk_app h.sig (by decide) hO b, blk_app h.wid (by decide) hO b, Bl_grown h.low (Nat.le_refl _) hO b⟩
theorem Fix.put {w W : World} {k l : List (BitVec 8)} {g cap j : Nat} (h : Fix w k l g cap j W) (u : Value) : Fix w k l g cap j (W.setCell ⟨w.heap.size + 2, 0, none⟩ u) :=
  ⟨h.key.far (by simp) u, h.sum.far (by simp) u, h.num.far (by simp) u, h.sig.far (by simp) u, h.wid.far (by simp) u, h.low.setCell (p := ⟨w.heap.size + 2, 0, none⟩) (by simp) u⟩
theorem Fix.inc {w W : World} {k l : List (BitVec 8)} {g cap j : Nat} (h : Fix w k l g cap j W) : Fix w k l g cap (j + 1) (W.setCell ⟨w.heap.size + 3, 0, none⟩ (.int .i64 ((j + 1 : Nat) : Int))) :=
  ⟨h.key.far (by simp) _, h.sum.far (by simp) _, h.num.set_ 0 _, h.sig.far (by simp) _, h.wid.far (by simp) _, h.low.setCell (p := ⟨w.heap.size + 3, 0, none⟩) (by simp) _⟩
theorem Fix.kept {w W W' : World} {k l : List (BitVec 8)} {g cap j : Nat} {row : Option Nat} (h : Fix w k l g cap j W) (hg : W.grownBy W' row) (hr : ∀ r, row = some r → w.heap.size ≤ r ∧ ∃ o : Obj, W.heap[r]? = some o ∧ o.isCells = false) : Fix w k l g cap j W' :=
  have hr2 := fun r e => (hr r e).2
  ⟨blk_kept h.key hg hr2, blk_kept h.sum hg hr2, blk_kept h.num hg hr2, blk_kept h.sig hg hr2, blk_kept h.wid hg hr2, h.low.grown hg h.low.size (fun r e => (hr r e).1)⟩
theorem Acc.kept {w W W' : World} {v : Value} {n : Nat} {L : List (BitVec 8)} {row : Option Nat} (h : Acc w W v n L) (hg : W.grownBy W' row) (hr : ∀ r, row = some r → ∃ o : Obj, W.heap[r]? = some o ∧ o.isCells = false) : Acc w W' v n L := ⟨blk_kept h.1 hg hr, own_kept h.2 hg hr⟩
theorem bel_of {n : Nat} {a b c : World} (h1 : Below n a b) (h2 : Below n a c) (hs : b.heap.size ≤ c.heap.size) : Below n b c := ⟨h2.os.trans h1.os.symm, h2.tape.trans h1.tape.symm, h2.output.trans h1.output.symm, hs, fun k hk => (h2.block k hk).trans (h1.block k hk).symm⟩
set_option maxRecDepth 100000 in
set_option maxHeartbeats 2000000 in
theorem verify_c (k l : List (BitVec 8)) (hk : k.length = 32) (A B : Nat → List (BitVec 8)) (hA0' : ∀ x, (A x).length = 32) (hB0' : ∀ x, (B x).length = 32) (g cap : Nat) (hcap : 2048 ≤ cap) (w : World) (hT : Tabs w)
    (hcA : ∀ x j, x < 32 → j < 32 → w.cell? ⟨g, 64 * x + j, none⟩ = some (bv ((A x).getD j 0))) (hcB : ∀ x j, x < 32 → j < 32 → w.cell? ⟨g, 64 * x + 32 + j, none⟩ = some (bv ((B x).getD j 0))) :
    Calls Tryd.prog 30 #[.agg (b32 k), .agg (b32 l), .slice (some ⟨g, 0, none⟩) 2048 cap] w fun e w' => e = .returned (.int .i64 (if out (sum (verT l A B (upto 32))) = k then 0 else 129)) ∧ Below w.heap.size w w' := by
  obtain ⟨res, hres⟩ : ∃ r : Int, r = if out (sum (verT l A B (upto 32))) = k then 0 else 129 := ⟨_, rfl⟩
  rw [← hres]; have HRES := Lib.hid hres; clear hres
  refine (callsIn_wide (n := 3)).1 ?_
  obtain ⟨K, hK⟩ : ∃ K, K = b32 k := ⟨_, rfl⟩; obtain ⟨S, hS⟩ : ∃ S, S = b32 l := ⟨_, rfl⟩
  rw [← hK, ← hS]
  have HK := Lib.hid hK; have HS := Lib.hid hS; clear hK hS
  refine callsIn_of_wp_marks Tryd.func30 rfl trivial ?_ rfl
  simp only [Tryd.ntmps30, List.size_toArray, List.length_cons, List.length_nil, Nat.reduceAdd, Nat.reduceSub, Array.replicate_succ, Array.replicate_zero, List.push_toArray, List.append_toArray, List.nil_append, List.cons_append]
  gi_wp2_with (refine ⟨trivial, ?_⟩; gi_at_call 52; refine (callsIn_wide.2 (chunk_c _ _ _ _)).mono ?_; rintro e w' ⟨rfl, rfl⟩)
  simp only [Nat.add_assoc, Nat.reduceAdd]
  obtain ⟨w6, hw6⟩ : ∃ w6, w6 = ((((((w.alloc (.cells K 23)).alloc (.cells S 23)).alloc (.cells #[.slice none 0 0] 22)).alloc (.cells #[.int .i64 0] 3)).alloc (.cells #[.slice (some ⟨g, 0, none⟩) 2048 cap] 22)).alloc (.cells #[.int .i64 64] 3)) := ⟨_, rfl⟩
  have hsz : w6.heap.size = w.heap.size + 6 := by rw [hw6]; simp
  have hF : Fix w k l g cap 0 w6 := by
    rw [hw6]
    have b0 := Blk.new w 23 K
    refine ⟨?_, ?_, ?_, ?_, ?_, Bl_alloc (Bl_alloc (Bl_alloc (Bl_alloc (Bl_alloc (Bl_alloc (Bl_refl w) _) _) _) _) _) _⟩
    · rw [← HK.out]; exact ((((b0.alloc _).alloc _).alloc _).alloc _).alloc _
    · rw [← HS.out]; have b := Blk.new (w.alloc (.cells K 23)) 23 S; rw [World.size_alloc] at b; exact (((b.alloc _).alloc _).alloc _).alloc _
    · have b := Blk.new (((w.alloc (.cells K 23)).alloc (.cells S 23)).alloc (.cells #[.slice none 0 0] 22)) 3 #[.int .i64 0]; simp only [World.size_alloc, Nat.add_assoc, Nat.reduceAdd] at b; exact (b.alloc _).alloc _
    · have b := Blk.new ((((w.alloc (.cells K 23)).alloc (.cells S 23)).alloc (.cells #[.slice none 0 0] 22)).alloc (.cells #[.int .i64 0] 3)) 22 #[.slice (some ⟨g, 0, none⟩) 2048 cap]; simp only [World.size_alloc, Nat.add_assoc, Nat.reduceAdd] at b; exact b.alloc _
    · have b := Blk.new (((((w.alloc (.cells K 23)).alloc (.cells S 23)).alloc (.cells #[.slice none 0 0] 22)).alloc (.cells #[.int .i64 0] 3)).alloc (.cells #[.slice (some ⟨g, 0, none⟩) 2048 cap] 22)) 3 #[.int .i64 64]; simp only [World.size_alloc, Nat.add_assoc, Nat.reduceAdd] at b; exact b
  have hA0 : Acc w w6 (.slice none 0 0) 0 [] := by
    refine ⟨?_, World.ownsRow_nil _ _ _ _⟩
    rw [hw6]
    have b := Blk.new ((w.alloc (.cells K 23)).alloc (.cells S 23)) 22 #[.slice none 0 0]; simp only [World.size_alloc, Nat.add_assoc, Nat.reduceAdd] at b; exact ((b.alloc _).alloc _).alloc _
  rw [← hw6]
  refine wpIn_rangeFunc_ownF (w0 := w6) rfl (by omega) (gf := 74) (lb := #[.pointer (some ⟨w.heap.size + 4, 0, none⟩), .pointer (some ⟨w.heap.size + 5, 0, none⟩)]) rfl trivial (enters_of Tryd.func74 (by kernel_rfl) rfl)
    (chunk_stops (3 - 1) (by omega) (w.heap.size + 4) (w.heap.size + 5) w.heap.size g cap hcap w6 (by omega) (by omega) (hF.sig.cell 0) (hF.wid.cell 0)) KpC.t (KpC.b (by omega) (by omega) (by omega)) (Below.refl _ _) (fun _ => rfl)
    (fun pre W => Fix w k l g cap pre.length W ∧ ∃ v, Acc w W v (64 * pre.length) (verT l A B pre))
    (fun _ _ _ => False)
    (fun s X Y row hs hg hr => ⟨hs.1.kept hg (fun r e => ⟨by have := (hr r e).1; omega, (hr r e).2⟩), hs.2.elim fun v ha => ⟨v, ha.kept hg (fun r e => (hr r e).2)⟩⟩)
    (fun _ _ _ _ _ hs _ _ => hs)
    ⟨hF, _, hA0⟩
    (fun x => { tmps := #[.agg K, .agg S, .slice (some ⟨g, 0, none⟩) 2048 cap, .pointer (some ⟨w.heap.size, 0, none⟩), .pointer (some ⟨w.heap.size + 1, 0, none⟩), undef, .int .i64 0, .pointer (some ⟨w.heap.size + 2, 0, none⟩), .pointer (some ⟨w.heap.size + 3, 0, none⟩), .slice (some ⟨g, 64 * x.1, none⟩) 64 64, undef, .slice (some ⟨g, 0, none⟩) 2048 cap, .int .i64 2048, .bool false, .slice (some ⟨g, 0, none⟩) 2048 cap, .func (.func 74) #[] #[.pointer (some ⟨w.heap.size + 4, 0, none⟩), .pointer (some ⟨w.heap.size + 5, 0, none⟩)], .slice (some ⟨g, 64 * x.1, none⟩) 64 64, undef, undef, undef, undef, undef, undef, undef, undef, undef, undef, undef, undef, undef, undef, undef, undef, undef, undef, undef, undef, undef, undef], defers := [] }) ?assign ?body ?done ?stop
  case assign =>
    intro r x W K hK
    unfold encC
    gi_wp2
    exact hK
  case body =>
    rintro r pre x W ⟨hF, v, hA⟩ hlen
    obtain ⟨p, hp⟩ : ∃ p, p = pre.length := ⟨_, rfl⟩
    obtain ⟨V, hV⟩ : ∃ V, V = verT l A B pre := ⟨_, rfl⟩
    obtain ⟨q, hq⟩ : ∃ q, q = 64 * x.1 := ⟨_, rfl⟩
    rw [← hp] at hF hA hlen; rw [← hV] at hA; rw [← hq]
    have HVP := Lib.hid (show ∀ (W' : World) (v' : Value), Fix w k l g cap (p + 1) W' → Acc w W' v' (64 * p + 64) (V ++ partV l A B p x.1) → Fix w k l g cap (pre ++ [x]).length W' ∧ ∃ v, Acc w W' v (64 * (pre ++ [x]).length) (verT l A B (pre ++ [x])) from fun W' v' h1 h2 => by
      rw [verT_snoc, ← hV, ← hp, List.length_append, ← hp]
      exact ⟨h1, v', h2⟩)
    have HX := Lib.hid x.2
    have HQ := Lib.hid hq
    have HIX := Lib.hid (show ∀ W', Below W.heap.size W W' → Fix w k l g cap p W' ∧ Acc w W' v (64 * p) V from fun W' b => ⟨hF.next b, hA.next b⟩)
    have hW6 : w.heap.size + 6 ≤ W.heap.size := hF.wid.lt
    have HP := Lib.hid hlen
    have HD := Lib.hid hF.low.drew
    have KL := Lib.hid (leaf_c (A x.1) 32 (hA0' x.1) (by omega) g q 64 W.drew (hT.next hF.low.drew) (fun i hi => by rw [hq]; exact (hF.low.drew.cell (World.block_lt_of_cell? w _ (hcA x.1 i x.2 hi))).trans (hcA x.1 i x.2 hi)))
    have HBC := Lib.hid (show ∀ W', Below w.heap.size w W' → ∀ i, i < 32 → W'.cell? ⟨g, q + 32 + i, none⟩ = some (bv ((B x.1).getD i 0)) from fun W' b i hi => by rw [hq]; exact (b.cell (World.block_lt_of_cell? w _ (hcB x.1 i x.2 hi))).trans (hcB x.1 i x.2 hi))
    clear hp hV hq hlen
    gi_wp2
    refine wpIn_region_N (fun _ => True) (fun _ => false) (by kernel_rfl) (by kernel_rfl) (fun ⟨_, _, h⟩ => h) ?_
    refine wpAnyN_free 0 (some 17) (Value.slice (some ⟨g, q, none⟩) 64 64) rfl rfl (by kernel_rfl) rfl (by kernel_rfl) (by kernel_rfl) (fun _ _ _ h => h) rfl (fun w' => by go_simp) ?_
    simp only [Act.put, List.setIfInBounds_toArray, List.set_cons_zero, List.set_cons_succ]
    refine wpAnyN_free 1 (some 18) (Value.slice (some ⟨g, q, none⟩) 32 64) rfl rfl (by kernel_rfl) rfl (by kernel_rfl) (by kernel_rfl) (fun _ _ _ h => h) rfl (fun w' => by go_simp) ?_
    simp only [Act.put, List.setIfInBounds_toArray, List.set_cons_zero, List.set_cons_succ]
    refine wpAnyN_free 3 (some 20) (Value.slice (some ⟨g, q, none⟩) 64 64) rfl rfl (by kernel_rfl) rfl (by kernel_rfl) (by kernel_rfl) (fun _ _ _ h => h) rfl (fun w' => by go_simp) ?_
    simp only [Act.put, List.setIfInBounds_toArray, List.set_cons_zero, List.set_cons_succ]
    refine wpAnyN_free 4 (some 21) (Value.slice (some ⟨g, q + 32, none⟩) 32 32) rfl rfl (by kernel_rfl) rfl (by kernel_rfl) (by kernel_rfl) (fun _ _ _ h => h) rfl (fun w' => by go_simp) ?_
    simp only [Act.put, List.setIfInBounds_toArray, List.set_cons_zero, List.set_cons_succ]
    refine wpAnyN_one 2 rfl (by kernel_rfl) ?_
    simp only [List.getElem_toArray, List.getElem_cons_succ, List.getElem_cons_zero]
    go_wp2_with fail
    refine KL.out.mono ?_
    rintro e W2 ⟨gy, cy, rfl, hb, hgy, hly, hny, hcy, hLy⟩
    go_wp2_with fail
    refine ⟨fun _ => trivial, ?_⟩
    refine wpAnyN_one 5 rfl (by kernel_rfl) ?_
    simp only [List.getElem_toArray, List.getElem_cons_succ, List.getElem_cons_zero]
    go_wp2_with fail
    refine ⟨fun _ => trivial, ?_⟩
    refine wpAnyN_one 6 rfl (by kernel_rfl) ?_
    simp only [List.getElem_toArray, List.getElem_cons_succ, List.getElem_cons_zero]
    go_wp2_with fail
    refine ⟨fun _ => trivial, wpAnyN_done (by kernel_rfl) ?_⟩
    gi_upto_region 8 with fail
    have hB3 : Below W.heap.size W (W2.alloc (.cells #[.slice (some ⟨gy, 0, none⟩) 32 cy, .slice (some ⟨g, q + 32, none⟩) 32 32] 22)) := Bl_alloc (((Below.refl W.heap.size W).drew).trans (show Below W.heap.size W.drew W2 from hb)) _
    have hBt := Blk.new W2 22 #[.slice (some ⟨gy, 0, none⟩) 32 cy, .slice (some ⟨g, q + 32, none⟩) 32 32]
    have hy3 := Lib.hid (show ∀ i, i < 32 → (W2.alloc (.cells #[.slice (some ⟨gy, 0, none⟩) 32 cy, .slice (some ⟨g, q + 32, none⟩) 32 32] 22)).cell? ⟨gy, 0 + i, none⟩ = some (bv ((leafT (A x.1)).getD i 0)) from fun i hi => by
      rw [Nat.zero_add]; exact ((Bl_alloc (Bl_refl W2) _).cell (World.block_lt_of_cell? W2 _ (hcy i hi))).trans (hcy i hi))
    have hgt : w.heap.size + 6 ≤ W2.heap.size := Nat.le_trans hW6 hb.size
    have HLY := Lib.hid hLy
    generalize (W2.alloc (.cells #[.slice (some ⟨gy, 0, none⟩) 32 cy, .slice (some ⟨g, q + 32, none⟩) 32 32] 22)) = W3 at *
    generalize W2.heap.size = gt at *
    obtain ⟨hF3, hA3⟩ := HIX.out W3 hB3
    have HB3 := Lib.hid hB3; have HBT := Lib.hid hBt; have HF3 := Lib.hid hF3; have HA3 := Lib.hid hA3; have HF := Lib.hid hF; have HA := Lib.hid hA
    have hbit := bit_c l p HP.out W3
    have hne : gy ≠ gt := Nat.ne_of_lt hly
    clear hcy hLy hly hny hgy hb KL hF hA hB3 hBt HIX HD
    have hbt := bitN_lt l p
    have Bs := hF3.sum
    have c8 := hF3.num.cell 0
    have hS8 := b32_info l
    rw [← HS.out] at Bs hS8 hbit
    by_cases h1 : bitN l p = 1
    · rw [h1] at hbit
      have HBIT := Lib.hid hbit
      have HPV := Lib.hid (show partV l A B p x.1 = B x.1 ++ leafT (A x.1) by unfold partV; rw [if_pos h1])
      clear hbit hbt h1 hF3 hA3
      refine wpIn_region_L (fun ⟨_, _, h⟩ => h) (by kernel_rfl) ?_
      go_wp2_with (refine wpList_load_whole rfl 23 (.tmp 4) rfl (w.heap.size + 1) rfl 23 S _ Bs Tryd.underlying23 rfl hS8 ?_)
      refine HBIT.out.mono ?_
      rintro e W4 ⟨rfl, hb4⟩
      have HF4 := Lib.hid (HF3.out.next hb4); have HA4 := Lib.hid (HA3.out.next hb4); have HT4 := Lib.hid (HBT.out.next hb4); have HK4 := Lib.hid ((keeps_below HB3.out).trans (keeps_below hb4))
      have HB4 := Lib.hid (show Below W.heap.size W W4 from HB3.out.trans (hb4.mono HB3.out.size))
      have hy4 := Lib.hid (show ∀ i, i < 32 → W4.cell? ⟨gy, 0 + i, none⟩ = some (bv ((leafT (A x.1)).getD i 0)) from fun i hi => (hb4.cell (World.block_lt_of_cell? W3 _ (hy3.out i hi))).trans (hy3.out i hi))
      clear hb4 HBIT Bs c8 hS8
      have KR := Lib.hid (reverse_c gt 2 gy 0 32 cy g (q + 32) 32 32 W4 HT4.out)
      go_wp2_with fail
      gi_upto_region 9 with fail
      refine wpIn_region_L (fun ⟨_, _, h⟩ => h) (by kernel_rfl) ?_
      go_wp2_with fail
      refine KR.out.mono ?_
      rintro e W5 ⟨⟨u5, rfl⟩, hb5, hT5⟩
      have HF5 := Lib.hid (HF4.out.but hb5 hgt)
      have HA5 := Lib.hid (show Acc w W5 v (64 * p) V from ⟨hb5.far (by omega) HA4.out.1, own_but HA4.out.2 hb5 HT4.out (by decide)⟩)
      have HBT5 := Lib.hid hT5
      have HK5 := Lib.hid (HK4.out.trans (keeps_but hb5 HT4.out))
      have hy5 := Lib.hid (show ∀ i, i < 32 → W5.cell? ⟨gy, 0 + i, none⟩ = some (bv ((leafT (A x.1)).getD i 0)) from fun i hi => (hb5.cell (World.block_lt_of_cell? W4 _ (hy4.out i hi)) hne).trans (hy4.out i hi))
      have HBC5 := Lib.hid (HBC.out W5.drew HF5.out.low.drew)
      clear hb5 hT5 KR
      go_wp2_with fail
      gi_upto_region 10 with fail
      have hS5 : W5.drew.cell? ⟨w.heap.size + 2, 0, none⟩ = some v := HA5.out.1.cell 0
      have KC := Lib.hid (concat_c (B x.1) (leafT (A x.1)) (hB0' x.1) HLY.out gt 2 g (q + 32) 32 gy 0 cy W5.drew (HBT5.out.cell 0) (HBT5.out.cell 1) HBC5.out hy5.out)
      refine wpIn_region_N (fun w' => w'.cell? ⟨w.heap.size + 2, 0, none⟩ = some v) (fun j => decide (j ≤ 3)) (by kernel_rfl) (by kernel_rfl) (fun ⟨_, _, h⟩ => h) ?_
      refine wpAnyN_take 0 (some 29) (v) rfl rfl (by kernel_rfl) (by kernel_rfl) (by kernel_rfl) (by kernel_rfl) (fun _ _ _ h => h) rfl (fun w' hw' => by have hcell : w'.cell? ⟨w.heap.size + 2, 0, none⟩ = some v := hw'; go_simp) hS5 ?_
      simp only [Act.put, List.setIfInBounds_toArray, List.set_cons_zero, List.set_cons_succ]
      refine wpAnyN_take 1 (some 30) (Value.slice (some ⟨gt, 0, none⟩) 2 2) rfl rfl (by kernel_rfl) (by kernel_rfl) (by kernel_rfl) (by kernel_rfl) (fun _ _ _ h => h) rfl (fun w' hw' => by have hcell : w'.cell? ⟨w.heap.size + 2, 0, none⟩ = some v := hw'; go_simp) hS5 ?_
      simp only [Act.put, List.setIfInBounds_toArray, List.set_cons_zero, List.set_cons_succ]
      refine wpAnyN_one 2 rfl (by kernel_rfl) ?_
      simp only [List.getElem_toArray, List.getElem_cons_succ, List.getElem_cons_zero]
      go_wp2_with fail
      refine KC.out.mono ?_
      rintro e W6 ⟨gz, cz, rfl, hb6, hgz, hlz, hnz, hcz, hLz⟩
      have hB6 : Below W5.heap.size W5 W6 := ((Below.refl W5.heap.size W5).drew).trans (show Below W5.heap.size W5.drew W6 from hb6)
      have HF6 := Lib.hid (HF5.out.next hB6); have HA6 := Lib.hid (HA5.out.next hB6); have HK6 := Lib.hid (HK5.out.trans (keeps_below hB6))
      have HZ := Lib.hid (show ∀ i, i < 64 → W6.cell? ((⟨gz, 0, none⟩ : Addr).add i) = some (bv (((B x.1) ++ (leafT (A x.1))).getD i 0)) from fun i hi => by rw [add_off, Nat.zero_add]; exact hcz i hi)
      have HLZ := Lib.hid hLz
      clear hb6 hgz hlz hnz hcz hLz KC hB6
      go_wp2_with fail
      refine ⟨fun _ => HA6.out.1.cell 0, ?_⟩
      refine wpAnyN_one 3 rfl (by kernel_rfl) ?_
      simp only [List.getElem_toArray, List.getElem_cons_succ, List.getElem_cons_zero]
      refine wpList_app rfl (.tmp 29) (.tmp 31) rfl w.heap.size v (64 * p) V rfl HA6.out.2 ⟨gz, 0, none⟩ 64 cz ((B x.1) ++ (leafT (A x.1))) rfl HLZ.out HZ.out (by have := HP.out; omega) HF6.out.low.size ?_
      intro v7 W7 hO7 hg7
      have HF7 := Lib.hid (HF6.out.app HA6.out.2 hg7)
      have HB7 := Lib.hid (blk_app HA6.out.1 (by decide) HA6.out.2 hg7)
      have HK7 := Lib.hid (HK6.out.trans (keeps_app HA6.out.2 hg7))
      obtain ⟨g7, cap7, rfl, _⟩ := hO7.at (by omega)
      have HO7 := Lib.hid hO7; clear hO7 hg7 HZ HLZ
      simp only [Act.put, List.setIfInBounds_toArray, List.set_cons_zero, List.set_cons_succ]
      refine ⟨fun _ => HB7.out.cell 0, ?_⟩
      have k7 := HB7.out.cell 0; have f7 := HB7.out.frozen 0
      refine wpAnyN_one 4 rfl (by kernel_rfl) ?_
      simp only [List.getElem_toArray, List.getElem_cons_succ, List.getElem_cons_zero]
      go_wp2_with fail
      refine ⟨fun h => absurd h (by decide), wpAnyN_done (by kernel_rfl) ?_⟩
      have HF8 := Lib.hid (HF7.out.put (.slice (some ⟨g7, 0, none⟩) (64 * p + 64) cap7))
      have HB8 := Lib.hid (HB7.out.set_ 0 (.slice (some ⟨g7, 0, none⟩) (64 * p + 64) cap7))
      have HO8 := Lib.hid (own_set (i := 0) (u := .slice (some ⟨g7, 0, none⟩) (64 * p + 64) cap7) HO7.out HB7.out (by decide))
      have HK8 := Lib.hid (HK7.out.trans (KeepsOthers.setCell W7 ⟨w.heap.size + 2, 0, none⟩ (.slice (some ⟨g7, 0, none⟩) (64 * p + 64) cap7)))
      generalize (W7.setCell ⟨w.heap.size + 2, 0, none⟩ (.slice (some ⟨g7, 0, none⟩) (64 * p + 64) cap7)) = W8 at *
      clear k7 f7
      have k8 := HF8.out.num.cell 0; have f8 := HF8.out.num.frozen 0
      have hw8 : wrap64 ((p : Int) + 1) = ((p + 1 : Nat) : Int) := by have := HP.out; rw [IntWalk.wrap64_in _ (by constructor <;> omega)]; omega
      gi_wp2
      rw [show ((p : Int) + 1) = ((p + 1 : Nat) : Int) from rfl]
      have F9 := HF8.out.inc
      refine ⟨HK8.out.trans (KeepsOthers.setCell W8 ⟨w.heap.size + 3, 0, none⟩ _), ⟨bel_of HF.out.low F9.low (HK8.out.trans (KeepsOthers.setCell W8 ⟨w.heap.size + 3, 0, none⟩ (.int .i64 ((p + 1 : Nat) : Int)))).size, F9.sig.trans HF.out.sig.symm, F9.wid.trans HF.out.wid.symm⟩, HVP.out _ (.slice (some ⟨g7, 0, none⟩) (64 * p + 64) cap7) F9 ⟨HB8.out.far (by simp) _, ?_⟩⟩
      rw [HPV.out]
      exact own_set (i := 0) (u := .int .i64 ((p + 1 : Nat) : Int)) HO8.out HF8.out.num (by decide)
    · rw [show bitN l p = 0 by omega] at hbit
      have HBIT := Lib.hid hbit
      have HPV := Lib.hid (show partV l A B p x.1 = leafT (A x.1) ++ B x.1 by unfold partV; rw [if_neg h1])
      clear hbit hbt h1 hF3 hA3
      refine wpIn_region_L (fun ⟨_, _, h⟩ => h) (by kernel_rfl) ?_
      go_wp2_with (refine wpList_load_whole rfl 23 (.tmp 4) rfl (w.heap.size + 1) rfl 23 S _ Bs Tryd.underlying23 rfl hS8 ?_)
      refine HBIT.out.mono ?_
      rintro e W4 ⟨rfl, hb4⟩
      have HF4 := Lib.hid (HF3.out.next hb4); have HA4 := Lib.hid (HA3.out.next hb4); have HT4 := Lib.hid (HBT.out.next hb4); have HK4 := Lib.hid ((keeps_below HB3.out).trans (keeps_below hb4))
      have HB4 := Lib.hid (show Below W.heap.size W W4 from HB3.out.trans (hb4.mono HB3.out.size))
      have hy4 := Lib.hid (show ∀ i, i < 32 → W4.cell? ⟨gy, 0 + i, none⟩ = some (bv ((leafT (A x.1)).getD i 0)) from fun i hi => (hb4.cell (World.block_lt_of_cell? W3 _ (hy3.out i hi))).trans (hy3.out i hi))
      have HBC4 := Lib.hid (HBC.out W4.drew HF4.out.low.drew)
      clear hb4 HBIT Bs c8 hS8
      have HF5 := HF4; have HA5 := HA4; have HBT5 := HT4; have HK5 := HK4; have hy5 := hy4; have HBC5 := HBC4
      clear HF4 HA4 HT4 HK4 hy4 HBC4
      generalize W4 = W5 at *
      go_wp2_with fail
      gi_upto_region 10 with fail
      have hS5 : W5.drew.cell? ⟨w.heap.size + 2, 0, none⟩ = some v := HA5.out.1.cell 0
      have KC := Lib.hid (concat_c (leafT (A x.1)) (B x.1) HLY.out (hB0' x.1) gt 2 gy 0 cy g (q + 32) 32 W5.drew (HBT5.out.cell 0) (HBT5.out.cell 1) hy5.out HBC5.out)
      refine wpIn_region_N (fun w' => w'.cell? ⟨w.heap.size + 2, 0, none⟩ = some v) (fun j => decide (j ≤ 3)) (by kernel_rfl) (by kernel_rfl) (fun ⟨_, _, h⟩ => h) ?_
      refine wpAnyN_take 0 (some 29) (v) rfl rfl (by kernel_rfl) (by kernel_rfl) (by kernel_rfl) (by kernel_rfl) (fun _ _ _ h => h) rfl (fun w' hw' => by have hcell : w'.cell? ⟨w.heap.size + 2, 0, none⟩ = some v := hw'; go_simp) hS5 ?_
      simp only [Act.put, List.setIfInBounds_toArray, List.set_cons_zero, List.set_cons_succ]
      refine wpAnyN_take 1 (some 30) (Value.slice (some ⟨gt, 0, none⟩) 2 2) rfl rfl (by kernel_rfl) (by kernel_rfl) (by kernel_rfl) (by kernel_rfl) (fun _ _ _ h => h) rfl (fun w' hw' => by have hcell : w'.cell? ⟨w.heap.size + 2, 0, none⟩ = some v := hw'; go_simp) hS5 ?_
      simp only [Act.put, List.setIfInBounds_toArray, List.set_cons_zero, List.set_cons_succ]
      refine wpAnyN_one 2 rfl (by kernel_rfl) ?_
      simp only [List.getElem_toArray, List.getElem_cons_succ, List.getElem_cons_zero]
      go_wp2_with fail
      refine KC.out.mono ?_
      rintro e W6 ⟨gz, cz, rfl, hb6, hgz, hlz, hnz, hcz, hLz⟩
      have hB6 : Below W5.heap.size W5 W6 := ((Below.refl W5.heap.size W5).drew).trans (show Below W5.heap.size W5.drew W6 from hb6)
      have HF6 := Lib.hid (HF5.out.next hB6); have HA6 := Lib.hid (HA5.out.next hB6); have HK6 := Lib.hid (HK5.out.trans (keeps_below hB6))
      have HZ := Lib.hid (show ∀ i, i < 64 → W6.cell? ((⟨gz, 0, none⟩ : Addr).add i) = some (bv (((leafT (A x.1)) ++ (B x.1)).getD i 0)) from fun i hi => by rw [add_off, Nat.zero_add]; exact hcz i hi)
      have HLZ := Lib.hid hLz
      clear hb6 hgz hlz hnz hcz hLz KC hB6
      go_wp2_with fail
      refine ⟨fun _ => HA6.out.1.cell 0, ?_⟩
      refine wpAnyN_one 3 rfl (by kernel_rfl) ?_
      simp only [List.getElem_toArray, List.getElem_cons_succ, List.getElem_cons_zero]
      refine wpList_app rfl (.tmp 29) (.tmp 31) rfl w.heap.size v (64 * p) V rfl HA6.out.2 ⟨gz, 0, none⟩ 64 cz ((leafT (A x.1)) ++ (B x.1)) rfl HLZ.out HZ.out (by have := HP.out; omega) HF6.out.low.size ?_
      intro v7 W7 hO7 hg7
      have HF7 := Lib.hid (HF6.out.app HA6.out.2 hg7)
      have HB7 := Lib.hid (blk_app HA6.out.1 (by decide) HA6.out.2 hg7)
      have HK7 := Lib.hid (HK6.out.trans (keeps_app HA6.out.2 hg7))
      obtain ⟨g7, cap7, rfl, _⟩ := hO7.at (by omega)
      have HO7 := Lib.hid hO7; clear hO7 hg7 HZ HLZ
      simp only [Act.put, List.setIfInBounds_toArray, List.set_cons_zero, List.set_cons_succ]
      refine ⟨fun _ => HB7.out.cell 0, ?_⟩
      have k7 := HB7.out.cell 0; have f7 := HB7.out.frozen 0
      refine wpAnyN_one 4 rfl (by kernel_rfl) ?_
      simp only [List.getElem_toArray, List.getElem_cons_succ, List.getElem_cons_zero]
      go_wp2_with fail
      refine ⟨fun h => absurd h (by decide), wpAnyN_done (by kernel_rfl) ?_⟩
      have HF8 := Lib.hid (HF7.out.put (.slice (some ⟨g7, 0, none⟩) (64 * p + 64) cap7))
      have HB8 := Lib.hid (HB7.out.set_ 0 (.slice (some ⟨g7, 0, none⟩) (64 * p + 64) cap7))
      have HO8 := Lib.hid (own_set (i := 0) (u := .slice (some ⟨g7, 0, none⟩) (64 * p + 64) cap7) HO7.out HB7.out (by decide))
      have HK8 := Lib.hid (HK7.out.trans (KeepsOthers.setCell W7 ⟨w.heap.size + 2, 0, none⟩ (.slice (some ⟨g7, 0, none⟩) (64 * p + 64) cap7)))
      generalize (W7.setCell ⟨w.heap.size + 2, 0, none⟩ (.slice (some ⟨g7, 0, none⟩) (64 * p + 64) cap7)) = W8 at *
      clear k7 f7
      have k8 := HF8.out.num.cell 0; have f8 := HF8.out.num.frozen 0
      have hw8 : wrap64 ((p : Int) + 1) = ((p + 1 : Nat) : Int) := by have := HP.out; rw [IntWalk.wrap64_in _ (by constructor <;> omega)]; omega
      gi_wp2
      rw [show ((p : Int) + 1) = ((p + 1 : Nat) : Int) from rfl]
      have F9 := HF8.out.inc
      refine ⟨HK8.out.trans (KeepsOthers.setCell W8 ⟨w.heap.size + 3, 0, none⟩ _), ⟨bel_of HF.out.low F9.low (HK8.out.trans (KeepsOthers.setCell W8 ⟨w.heap.size + 3, 0, none⟩ (.int .i64 ((p + 1 : Nat) : Int)))).size, F9.sig.trans HF.out.sig.symm, F9.wid.trans HF.out.wid.symm⟩, HVP.out _ (.slice (some ⟨g7, 0, none⟩) (64 * p + 64) cap7) F9 ⟨HB8.out.far (by simp) _, ?_⟩⟩
      rw [HPV.out]
      exact own_set (i := 0) (u := .int .i64 ((p + 1 : Nat) : Int)) HO8.out HF8.out.num (by decide)
  case done =>
    rintro D ys W hD rfl ⟨hF, v, hA⟩ hK
    rw [upto_len (Nat.le_refl 32)] at hF hA
    obtain ⟨V, hV⟩ : ∃ V, V = verT l A B (upto 32) := ⟨_, rfl⟩
    rw [← hV] at hA; have HV := Lib.hid hV; clear hV
    obtain ⟨ga, ca, rfl, _, hgl, _, hcell, hll⟩ := OwnB.at hA.2 (by omega)
    obtain ⟨k', hk'⟩ : ∃ k', k' = out (sum V) := ⟨_, rfl⟩
    have KS := Lib.hid (sum_c V (64 * 32) hll (by omega) ga 0 ca W.drew (hT.next hF.low.drew) (fun i hi => by rw [Nat.zero_add]; exact hcell i hi))
    have hki := b32_info k
    have he0 : ∀ w' : World, _ := fun w' => eq32 k' k (by rw [hk']; exact PlainSha.out_length _) hk w'
    rw [← hk'] at KS; have HKK := Lib.hid hk'; clear hk'
    have hkey := hF.key
    rw [← HK.out] at hki hkey he0
    have HE := Lib.hid he0; clear he0
    gi_upto_region 12 with fail
    refine wpIn_wide.2 (wp_region_noPanic (wp_region_N (fun w' => w'.cell? ⟨w.heap.size + 2, 0, none⟩ = some (.slice (some ⟨ga, 0, none⟩) (64 * 32) ca) ∧ Blk w' w.heap.size 23 K) (fun j => decide (j ≤ 3)) (by kernel_rfl) ?_))
    have hS := Lib.hid (show W.drew.cell? ⟨w.heap.size + 2, 0, none⟩ = some (.slice (some ⟨ga, 0, none⟩) (64 * 32) ca) ∧ Blk W.drew w.heap.size 23 K from ⟨hA.1.cell 0, hkey⟩)
    refine wpAnyN_take 0 (some 35) (Value.slice (some ⟨ga, 0, none⟩) (64 * 32) ca) rfl rfl (by kernel_rfl) (by kernel_rfl) (by kernel_rfl) (by kernel_rfl) (fun _ _ _ h => h) rfl (fun w' hw' => by have hcell := hw'.1; go_simp) hS.out ?_
    simp only [Act.put, List.setIfInBounds_toArray, List.set_cons_zero, List.set_cons_succ]
    refine wpAnyN_take 2 (some 37) (Value.agg K) rfl rfl (by kernel_rfl) (by kernel_rfl) (by kernel_rfl) (by kernel_rfl) (fun _ _ _ h => h) rfl (fun w' hw' => exec_row 23 (.tmp 3) rfl w.heap.size 0 rfl 23 K K _ hw'.2 Tryd.underlying23 rfl hki (row_self K)) hS.out ?_
    simp only [Act.put, List.setIfInBounds_toArray, List.set_cons_zero, List.set_cons_succ]
    refine wpAnyN_one 1 rfl (by kernel_rfl) ?_
    simp only [List.getElem_toArray, List.getElem_cons_succ, List.getElem_cons_zero]
    go_wp2_with fail
    refine KS.out.mono ?_
    rintro e W2 ⟨rfl, hb⟩
    have hB2 : Below W.heap.size W W2 := ((Below.refl W.heap.size W).drew).trans (show Below W.heap.size W.drew W2 from hb)
    go_wp2_with fail
    have hS2 : W2.cell? ⟨w.heap.size + 2, 0, none⟩ = some (.slice (some ⟨ga, 0, none⟩) (64 * 32) ca) ∧ Blk W2 w.heap.size 23 K := ⟨(hA.1.next hB2).cell 0, hkey.next hB2⟩
    have HS2 := Lib.hid hS2; clear hS2
    refine ⟨fun _ => HS2.out, ?_⟩
    refine wpAnyN_one 3 rfl (by kernel_rfl) ?_
    simp only [List.getElem_toArray, List.getElem_cons_succ, List.getElem_cons_zero]
    have he := HE.out
    go_wp2_with fail
    refine ⟨fun _ => HS2.out, wpAnyN_done (by kernel_rfl) (NoPanic.normal ?_)⟩
    have hK2 : W2.heap[D]? = some (.deferred (some [])) := (hB2.block D (Array.getElem?_eq_some_iff.1 hK).1).trans hK
    have hBw : Below w.heap.size w (W2.putObj D (.deferred none)) := (hF.low.trans (hB2.mono hF.low.size)).trans (belowK_b (w := w) (Nat.le_refl _) W2 D _ _ (by omega) hK2 rfl rfl)
    clear he
    by_cases hq : k' = k
    · rw [decide_eq_true hq]
      have HQ := Lib.hid hq; clear hq
      gi_wp2
      refine ⟨by simp, .inl ⟨_, _, rfl, run_takeDeferred hK2, ?_⟩⟩
      exact ⟨_, results_tmp rfl _ _ _, by rw [HRES.out, ← HV.out, ← HKK.out, if_pos HQ.out]; rfl, hBw⟩
    · rw [decide_eq_false hq]
      have HQ := Lib.hid hq; clear hq
      gi_wp2
      refine ⟨by simp, .inl ⟨_, _, rfl, run_takeDeferred hK2, ?_⟩⟩
      exact ⟨_, results_tmp rfl _ _ _, by rw [HRES.out, ← HV.out, ← HKK.out, if_neg HQ.out]; rfl, hBw⟩
  case stop =>
    rintro D c pre W hD _ h _
    exact h.elim
end Go.Proofs.YtmghpoagpiljhaaDoor
