/- A list that came in, cut at eight, behind a number of the call's own; which one of a list is looked at. -/
import Derived.Test.YtmghpoagpiljhabAround
import Derived.Test.YtmghpoagpiljhabOpenC
import Derived.Test.YtmghpoagpiljhabMixP
import Derived.ArgAppend
import Derived.OwnWalk
import Derived.Below
import Derived.Deep.AppendSrc
set_option linter.unusedSimpArgs false
namespace Go.Proofs.Ytmghpoagpiljhab
open Go.RowKit
open PlainTnum (N)
open PlainScalar (Rng)
theorem info_u64 : (Try.prog.info? 22).map (fun i => (i.zero, i.size, i.bytes)) = some (some (.int .u64 0), 1, 8) := by kernel_rfl
/-- Which one of n is looked at. -/
def idx (p : Int) (n : Nat) : Nat := (IntKind.u64.wrap p).toNat % n
theorem idx_lt (p : Int) {n : Nat} (h : 0 < n) : idx p n < n := Nat.mod_lt _ h
theorem idx_is (p : Int) (n : Nat) (h9 : n ≤ 9) (h : 0 < n) : IntKind.i64.wrap ((IntKind.u64.wrap p).tmod (n : Int)) = (idx p n : Int) := by
  have h0 : 0 ≤ IntKind.u64.wrap p := by rw [wrap_u]; exact T_lo _
  have hl := idx_lt p h
  have e : (IntKind.u64.wrap p).tmod (n : Int) = (idx p n : Int) := by
    rw [Int.tmod_eq_emod_of_nonneg h0]
    unfold idx
    obtain ⟨x, hx⟩ : ∃ x : Nat, IntKind.u64.wrap p = (x : Int) := ⟨_, (Int.toNat_of_nonneg h0).symm⟩
    rw [hx, Int.toNat_natCast]; exact (Int.natCast_emod _ _).symm
  rw [e]
  exact IntWalk.i64_in _ (by constructor <;> omega)
/-- An append of nothing. -/
theorem wpList_append_empty {P : Program} {w : World} {ops : Array Oper} {rest : List Oper} {o : Oper} {a : Act} {Q : Exit → Act → World → Prop} (hgd : o.guard = none) (s x : Operand) (t : TypeId)
    (ho : o.op = .call { callee := .builtin .append, args := #[s, x], argTypes := #[t, t] }) (e : TypeId) (i : TypeInfo) (ht : P.underlying t = some (.slice e)) (hi : P.info? e = some i)
    (b off n cap : Nat) (hs : a.eval s = .slice (some ⟨b, off, none⟩) n cap) (hn : n ≤ cap) (ao : Option Addr) (c : Nat) (hx : a.eval x = .slice ao 0 c)
    (hK : wpList P ops Q rest (a.put o.dst (.slice (some ⟨b, off, none⟩) n cap)) w) : wpList P ops Q (o :: rest) a w := by
  have hsrc : Src P i.size t (.slice ao 0 c) 0 [] w := by
    cases ao with
    | none => exact Src.ofNil w ht c
    | some ad => exact Src.ofSlice w ht ad 0 c [] (by simp) (fun j u h => by simp at h) (fun u h => by cases h)
  refine wpList_plain hgd fun K hK' => ?_
  have hrun := run_append_room_src (P := P) w t t o.type e i ht hi b off n cap (.slice ao 0 c) 0 [] hsrc (by omega) (fun j h => by simp at h) (fun j h => by simp at h)
  unfold Oper.wp
  simp [execOp, ho, resolve, invoke, builtin, hs, hx, hrun, Result.andThen]
  exact hK' _ _ hK
/-- Behind an append of k numbers to one: where they lie. -/
theorem own_tail {w : World} {base : Nat} {e : TypeId} {v x : Value} {k : Nat} {news : List Value} (h : w.ownsRow base e 1 v (1 + k) ([x] ++ news)) (hn : news.length = k) :
    ∃ g cap cur, v = .slice (some ⟨g, 0, none⟩) (1 + k) cap ∧ base ≤ g ∧ 1 + k ≤ cap ∧ cap ≤ 9223372036854775807 ∧ Blk w g e cur ∧ ∀ j u, news[j]? = some u → cur[1 + j]? = some u := by
  obtain ⟨hl, ⟨_, h0⟩ | ⟨g, cap, cur, rfl, hb, hh, h1, h2, h3, h4⟩⟩ := h
  · omega
  · refine ⟨g, cap, cur, rfl, hb, h1, h2, hh, fun j u hj => ?_⟩
    have hjk : j < k := by have := (List.getElem?_eq_some_iff.1 hj).1; omega
    have : (cur.toList.take ((1 + k) * 1))[1 + j]? = some u := by
      rw [h4, List.getElem?_append_right (by simp)]; simpa using hj
    rw [List.getElem?_take_of_lt (by omega)] at this
    simpa using this
theorem Bl_grown {w w2 : World} {o : Obj} (hg : (w.alloc o).grownBy w2 none) : Below w.heap.size w w2 := ((Below.refl _ _).alloc (Nat.le_refl _) _).grown hg (by simp) (fun k h => by cases h)
theorem news_at {L : List W} {k : Nat} (hL : L.length = k) {j : Nat} (hj : j < k) : (L.map uv)[j]? = some (uv (L.getD j 0#64)) := by
  simp [List.getD, hL, hj]
theorem one_at {w : World} {g : Nat} {x : W} (h : w.cell? ⟨g, 0, none⟩ = some (uv x)) : ∀ j, j < 1 → w.cell? ⟨g, 0 + j, none⟩ = some (uv ([x].getD j 0#64)) := by
  intro j hj
  obtain rfl : j = 0 := by omega
  exact h
theorem one_news (L : List W) : ∀ u ∈ L.map uv, u.oneCell' = true := by
  intro u hu; obtain ⟨x, _, rfl⟩ := List.mem_map.1 hu; rfl
set_option maxRecDepth 100000 in
set_option maxHeartbeats 3200000 in
theorem ranges_fn (gA offA nA capA kA : Nat) (hkA : kA = min nA 8) (LA : List W) (hLA : LA.length = kA) (hnA : 0 < nA) (hcapA : nA ≤ capA) (aoB : Option Addr) (capB : Nat) (p q : Int) (m0 m1 : W) (w : World) (hcA : ∀ j, j < kA → w.cell? ⟨gA, offA + j, none⟩ = some (uv (LA.getD j 0#64)))  : Calls Try.prog 21 #[.agg #[.slice (some ⟨gA, offA, none⟩) nA capA, .slice aoB 0 capB, .int .i64 p, .int .i64 q, uv m0, uv m1]] w fun e w' => e = .returned (.tuple #[rv (PlainScalar.around LA m0), rv (PlainScalar.around [3#64] m1), uv (LA.getD (idx p kA) 0#64), uv ([3#64].getD (idx q 1) 0#64)]) ∧ Below w.heap.size w w' := by
  have hgA : gA < w.heap.size := World.block_lt_of_cell? w _ (hcA 0 (by omega))
  have hk8A : kA ≤ 8 := by omega
  have hknA : kA ≤ nA := by omega
  have hk0A : 0 < kA := by omega
  have hminA : min (nA : Int) 8 = (kA : Int) := by omega
  have hkcA : (kA : Int) ≤ (capA : Int) := by omega
  have hniA : (0 : Int) < (nA : Int) := by omega
  have HCA := Lib.hid hcA; clear hcA hkA
  have hm0 : min (0 : Int) 8 = 0 := rfl
  obtain ⟨i0, hi, hz0, hz1, hz2⟩ := info_parts info_u64
  obtain ⟨ix, e_ix⟩ : ∃ z', z' = idx p kA := ⟨_, rfl⟩; obtain ⟨iy, e_iy⟩ : ∃ z', z' = idx q 1 := ⟨_, rfl⟩
  have h_ix : IntKind.i64.wrap ((IntKind.u64.wrap p).tmod (kA : Int)) = (ix : Int) := by rw [e_ix]; exact idx_is p kA (by omega) (by omega)
  have l_ix : ix < kA := by rw [e_ix]; exact idx_lt _ (by omega)
  have h_iy : IntKind.i64.wrap ((IntKind.u64.wrap q).tmod 1) = (iy : Int) := by rw [e_iy]; exact idx_is q 1 (by omega) (by omega)
  have l_iy : iy < 1 := by rw [e_iy]; exact idx_lt _ (by omega)
  rw [← e_ix, ← e_iy]; clear e_ix e_iy
  obtain ⟨VA, e_VA⟩ : ∃ z', z' = PlainScalar.around LA m0 := ⟨_, rfl⟩; obtain ⟨XA, e_XA⟩ : ∃ z', z' = LA.getD ix 0#64 := ⟨_, rfl⟩
  rw [← e_VA, ← e_XA]
  have HXA := Lib.hid e_XA; clear e_XA
  have HVA := Lib.hid e_VA; clear e_VA
  obtain rfl : iy = 0 := by omega
  obtain ⟨VB, e_VB⟩ : ∃ z', z' = PlainScalar.around [3#64] m1 := ⟨_, rfl⟩; obtain ⟨XB, e_XB⟩ : ∃ z', z' = [3#64].getD 0 0#64 := ⟨_, rfl⟩
  rw [← e_VB, ← e_XB]
  obtain rfl : XB = 3#64 := e_XB
  have HVB := Lib.hid e_VB; clear e_VB
  have Hx := Lib.hid h_ix; have Hy := Lib.hid h_iy; clear h_ix h_iy
  go_enter Try.func21, Try.ntmps21
  go_upto_region 1 with fail
  obtain ⟨gc, hgc⟩ : ∃ g, g = w.heap.size := ⟨_, rfl⟩
  obtain ⟨gx, hgx⟩ : ∃ g, g = w.heap.size + 1 := ⟨_, rfl⟩
  obtain ⟨gy, hgy⟩ : ∃ g, g = w.heap.size + 1 + 1 := ⟨_, rfl⟩
  have Bc : Blk (((w.alloc (.cells #[.slice (some ⟨gA, offA, none⟩) nA capA, .slice aoB 0 capB, .int .i64 p, .int .i64 q, uv m0, uv m1] 49)).alloc (.cells #[.int .u64 0, .int .u64 0, .int .u64 0, .int .u64 0, .int .i64 0, .int .i64 0] 53)).alloc (.cells #[.int .u64 0, .int .u64 0, .int .u64 0, .int .u64 0, .int .i64 0, .int .i64 0] 53)) (w.heap.size) 49 #[.slice (some ⟨gA, offA, none⟩) nA capA, .slice aoB 0 capB, .int .i64 p, .int .i64 q, uv m0, uv m1] := (((Blk.new w 49 #[.slice (some ⟨gA, offA, none⟩) nA capA, .slice aoB 0 capB, .int .i64 p, .int .i64 q, uv m0, uv m1])).alloc _).alloc _
  have Bx : Blk (((w.alloc (.cells #[.slice (some ⟨gA, offA, none⟩) nA capA, .slice aoB 0 capB, .int .i64 p, .int .i64 q, uv m0, uv m1] 49)).alloc (.cells #[.int .u64 0, .int .u64 0, .int .u64 0, .int .u64 0, .int .i64 0, .int .i64 0] 53)).alloc (.cells #[.int .u64 0, .int .u64 0, .int .u64 0, .int .u64 0, .int .i64 0, .int .i64 0] 53)) (w.heap.size + 1) 53 #[.int .u64 0, .int .u64 0, .int .u64 0, .int .u64 0, .int .i64 0, .int .i64 0] := ((by simpa using Blk.new (w.alloc (.cells #[.slice (some ⟨gA, offA, none⟩) nA capA, .slice aoB 0 capB, .int .i64 p, .int .i64 q, uv m0, uv m1] 49)) 53 #[.int .u64 0, .int .u64 0, .int .u64 0, .int .u64 0, .int .i64 0, .int .i64 0] : Blk _ (w.heap.size + 1) 53 #[.int .u64 0, .int .u64 0, .int .u64 0, .int .u64 0, .int .i64 0, .int .i64 0])).alloc _
  have By : Blk (((w.alloc (.cells #[.slice (some ⟨gA, offA, none⟩) nA capA, .slice aoB 0 capB, .int .i64 p, .int .i64 q, uv m0, uv m1] 49)).alloc (.cells #[.int .u64 0, .int .u64 0, .int .u64 0, .int .u64 0, .int .i64 0, .int .i64 0] 53)).alloc (.cells #[.int .u64 0, .int .u64 0, .int .u64 0, .int .u64 0, .int .i64 0, .int .i64 0] 53)) (w.heap.size + 1 + 1) 53 #[.int .u64 0, .int .u64 0, .int .u64 0, .int .u64 0, .int .i64 0, .int .i64 0] := (by simpa using Blk.new ((w.alloc (.cells #[.slice (some ⟨gA, offA, none⟩) nA capA, .slice aoB 0 capB, .int .i64 p, .int .i64 q, uv m0, uv m1] 49)).alloc (.cells #[.int .u64 0, .int .u64 0, .int .u64 0, .int .u64 0, .int .i64 0, .int .i64 0] 53)) 53 #[.int .u64 0, .int .u64 0, .int .u64 0, .int .u64 0, .int .i64 0, .int .i64 0] : Blk _ (w.heap.size + 1 + 1) 53 #[.int .u64 0, .int .u64 0, .int .u64 0, .int .u64 0, .int .i64 0, .int .i64 0])
  have hB : Below w.heap.size w (((w.alloc (.cells #[.slice (some ⟨gA, offA, none⟩) nA capA, .slice aoB 0 capB, .int .i64 p, .int .i64 q, uv m0, uv m1] 49)).alloc (.cells #[.int .u64 0, .int .u64 0, .int .u64 0, .int .u64 0, .int .i64 0, .int .i64 0] 53)).alloc (.cells #[.int .u64 0, .int .u64 0, .int .u64 0, .int .u64 0, .int .i64 0, .int .i64 0] 53)) := (Bl_alloc (Bl_alloc (Bl_alloc (Bl_refl w) _) _) _)
  clear hgc
  clear gc
  clear hgx
  clear gx
  clear hgy
  clear gy
  generalize (((w.alloc (.cells #[.slice (some ⟨gA, offA, none⟩) nA capA, .slice aoB 0 capB, .int .i64 p, .int .i64 q, uv m0, uv m1] 49)).alloc (.cells #[.int .u64 0, .int .u64 0, .int .u64 0, .int .u64 0, .int .i64 0, .int .i64 0] 53)).alloc (.cells #[.int .u64 0, .int .u64 0, .int .u64 0, .int .u64 0, .int .i64 0, .int .i64 0] 53)) = w1 at *
  obtain ⟨cc0, cc1, cc2, cc3, cc4, cc5⟩ := cells6 Bc
  have fc := Bc.frozen; have lc := Bc.lt
  obtain ⟨cx0, cx1, cx2, cx3, cx4, cx5⟩ := cells6 Bx
  have fx := Bx.frozen; have lx := Bx.lt
  obtain ⟨cy0, cy1, cy2, cy3, cy4, cy5⟩ := cells6 By
  have fy := By.frozen; have ly := By.lt
  go_wp2_with (at_builtin; refine wpList_append_grows _ rfl (.tmp 8) (.tmp 15) 46 rfl 22 i0 (.int .u64 0) 1 8 Try.underlying46 hi hz0 hz1 hz2 rfl (by decide) (some ⟨w1.heap.size, 0, none⟩) 1 1 [.int .u64 5] rfl (fun h => by cases h) rfl ?oldsA ⟨gA, offA, none⟩ kA capA (LA.map uv) rfl ?nlA ?csA (one_news LA) ?fullA ?b1A ?b2A ?restA)
  case oldsA => intro b hb j u hu; obtain rfl := Option.some.inj hb; match j, hu with | 0, hu => simp at hu; subst hu; simp [Addr.add]
  case nlA => simp [hLA]
  case csA =>
    intro j u hu
    have hj : j < kA := by have := (List.getElem?_eq_some_iff.1 hu).1; simpa [hLA] using this
    rw [news_at hLA hj] at hu; rw [← hu, Addr.add_lit, World.cell?_alloc_past _ _ _ (show gA < w1.heap.size from Nat.lt_of_lt_of_le hgA hB.size)]; exact (hB.cell (p := ⟨gA, offA + j, none⟩) hgA).trans (HCA.out j hj)
  case fullA => omega
  case b1A => unfold maxLen; omega
  case b2A => omega
  case restA =>
    intro vA w2 hown hgrow
    have hwz : w1.heap.size ≤ (w1.alloc (.cells #[.int .u64 5] 22)).heap.size := by simp
    have hqc : w.heap.size < w1.heap.size := Bc.lt
    have hqx : w.heap.size + 1 < w1.heap.size := Bx.lt
    have hqy : w.heap.size + 1 + 1 < w1.heap.size := By.lt
    have hb : Below w1.heap.size w1 w2 := Bl_grown hgrow
    clear cc0 cc1 cc2 cc3 cc4 cc5 fc lc
    clear cx0 cx1 cx2 cx3 cx4 cx5 fx lx
    clear cy0 cy1 cy2 cy3 cy4 cy5 fy ly
    replace Bc := Bc.next hb
    replace Bx := Bx.next hb
    replace By := By.next hb
    obtain ⟨eA, cA, uA, rfl, hgeA, h1cA, h9cA, BeA, hceA⟩ := own_tail hown (by simp [hLA])
    replace hceA : ∀ j, j < kA → uA[1 + j]? = some (uv (LA.getD j 0#64)) := fun j hj => hceA j _ (news_at hLA hj)
    have HEA := Lib.hid hceA; clear hceA hown hgrow
    have hneA : ¬ cA = 1 := by omega
    have hweA : w.heap.size ≤ eA := by have := hB.size; omega
    clear hwz
    have hnceA : w.heap.size ≠ eA := by omega
    clear hqc
    have hnxeA : w.heap.size + 1 ≠ eA := by omega
    clear hqx
    have hnyeA : w.heap.size + 1 + 1 ≠ eA := by omega
    clear hqy
    clear hgeA
    replace hB : Below w.heap.size w w2 := Bl_trans hB hb
    clear hb
    obtain ⟨cc0, cc1, cc2, cc3, cc4, cc5⟩ := cells6 Bc
    have fc := Bc.frozen; have lc := Bc.lt
    obtain ⟨cx0, cx1, cx2, cx3, cx4, cx5⟩ := cells6 Bx
    have fx := Bx.frozen; have lx := Bx.lt
    obtain ⟨cy0, cy1, cy2, cy3, cy4, cy5⟩ := cells6 By
    have fy := By.frozen; have ly := By.lt
    have feA := BeA.frozen; have leA := BeA.lt
    go_upto_region 3 with (at_builtin; refine wpList_append_empty rfl (.tmp 17) (.tmp 24) 46 rfl 22 i0 Try.underlying46 hi w2.heap.size 0 1 1 rfl (by omega) aoB capB rfl ?_)
    clear cc0 cc1 cc2 cc3 cc4 cc5 fc lc
    clear cx0 cx1 cx2 cx3 cx4 cx5 fx lx
    clear cy0 cy1 cy2 cy3 cy4 cy5 fy ly
    clear  feA leA
    have BlB := Blk.new w2 22 #[.int .u64 3]
    have hglB := hB.size
    have hnclB := Nat.ne_of_lt Bc.lt; have hltclB := Bc.lt
    have hnxlB := Nat.ne_of_lt Bx.lt; have hltxlB := Bx.lt
    have hnylB := Nat.ne_of_lt By.lt; have hltylB := By.lt
    have hneAlB := Nat.ne_of_lt BeA.lt; have hlteAlB := BeA.lt
    replace Bc : Blk (w2.alloc (.cells #[.int .u64 3] 22)) (w.heap.size) 49 #[.slice (some ⟨gA, offA, none⟩) nA capA, .slice aoB 0 capB, .int .i64 p, .int .i64 q, uv m0, uv m1] := Bc.alloc _
    replace Bx : Blk (w2.alloc (.cells #[.int .u64 3] 22)) (w.heap.size + 1) 53 #[.int .u64 0, .int .u64 0, .int .u64 0, .int .u64 0, .int .i64 0, .int .i64 0] := Bx.alloc _
    replace By : Blk (w2.alloc (.cells #[.int .u64 3] 22)) (w.heap.size + 1 + 1) 53 #[.int .u64 0, .int .u64 0, .int .u64 0, .int .u64 0, .int .i64 0, .int .i64 0] := By.alloc _
    replace BeA : Blk (w2.alloc (.cells #[.int .u64 3] 22)) (eA) 22 uA := BeA.alloc _
    replace hB : Below w.heap.size w (w2.alloc (.cells #[.int .u64 3] 22)) := Bl_alloc hB _
    generalize (w2.alloc (.cells #[.int .u64 3] 22)) = w3 at *
    generalize w2.heap.size = glB at *
    obtain ⟨cc0, cc1, cc2, cc3, cc4, cc5⟩ := cells6 Bc
    have fc := Bc.frozen; have lc := Bc.lt
    obtain ⟨cx0, cx1, cx2, cx3, cx4, cx5⟩ := cells6 Bx
    have fx := Bx.frozen; have lx := Bx.lt
    obtain ⟨cy0, cy1, cy2, cy3, cy4, cy5⟩ := cells6 By
    have fy := By.frozen; have ly := By.lt
    have feA := BeA.frozen; have leA := BeA.lt
    have clB0 : w3.cell? ⟨glB, 0, none⟩ = some (.int .u64 3) := BlB.cell 0
    have flB := BlB.frozen; have llB := BlB.lt
    go_upto_region 7 with fail
    have k_A : ∀ w : World, Blk w eA 22 uA → Calls Try.prog 42 #[.slice (some ⟨eA, 1, none⟩) kA (cA - 1), uv m0] w fun e w' => e = .returned (rv VA) ∧ Below w.heap.size w w' := fun w h => by rw [HVA.out]; exact around_c LA kA hLA (by omega) (by omega) eA 1 (cA - 1) m0 w (fun j hj => by rw [h.cell]; exact HEA.out j hj)
    have k_B : ∀ w : World, Blk w glB 22 #[.int .u64 3] → Calls Try.prog 42 #[.slice (some ⟨glB, 0, none⟩) 1 1, uv m1] w fun e w' => e = .returned (rv VB) ∧ Below w.heap.size w w' := fun w h => by rw [HVB.out]; exact around_c [3#64] 1 rfl (by omega) (by omega) glB 0 1 m1 w (one_at (h.cell 0))
    have h_ix := Hx.out; have h_iy := Hy.out; clear Hx Hy
    have hwk1 : IntKind.u64.wrap 1 = 1 := by rw [IntKind.wrap_u64]; rfl
    have ht1 : IntKind.i64.wrap 0 = 0 := by rw [IntKind.wrap_i64]; rfl
    have hwkA : IntKind.u64.wrap (kA : Int) = (kA : Int) := by rw [IntKind.wrap_u64]; omega
    have hkzA : ¬ (kA : Int) = 0 := by omega
    have hkn0A : ¬ kA = 0 := by omega
    have li_ix : (ix : Int) < (kA : Int) := by omega
    go_wp2_with fail
    clear cc0 cc1 cc2 cc3 cc4 cc5 fc lc
    clear cx0 cx1 cx2 cx3 cx4 cx5 fx lx
    clear cy0 cy1 cy2 cy3 cy4 cy5 fy ly
    clear  feA leA
    clear clB0 flB llB
    obtain ⟨I, hI⟩ : ∃ I : World → Prop, ∀ x, I x ↔ (Below w.heap.size w x ∧ Blk x (w.heap.size) 49 #[.slice (some ⟨gA, offA, none⟩) nA capA, .slice aoB 0 capB, .int .i64 p, .int .i64 q, uv m0, uv m1] ∧ (∃ cs, Blk x (w.heap.size + 1) 53 cs ∧ cs.size = 6) ∧ (∃ cs, Blk x (w.heap.size + 1 + 1) 53 cs ∧ cs.size = 6) ∧ Blk x (eA) 22 uA ∧ Blk x (glB) 22 #[.int .u64 3]) := ⟨_, fun _ => Iff.rfl⟩
    obtain ⟨D, hD⟩ : ∃ D : Nat → World → Prop, ∀ k x, D k x ↔ ((k = 34 → Blk x (w.heap.size + 1) 53 #[uv VA.b.v, uv VA.b.m, uv VA.lo, uv VA.hi, sv VA.sl, sv VA.sh]) ∧ (k = 35 → Blk x (w.heap.size + 1 + 1) 53 #[uv VB.b.v, uv VB.b.m, uv VB.lo, uv VB.hi, sv VB.sl, sv VB.sh])) := ⟨_, fun _ _ => Iff.rfl⟩
    have hI0 : I w3 := (hI _).2 ⟨hB, Bc, ⟨_, Bx, rfl⟩, ⟨_, By, rfl⟩, BeA, BlB⟩
    have lc := Bc.lt; clear Bc
    have iBc : ∀ g : In I, Blk g.w (w.heap.size) 49 #[.slice (some ⟨gA, offA, none⟩) nA capA, .slice aoB 0 capB, .int .i64 p, .int .i64 q, uv m0, uv m1] := fun g => ((hI _).1 g.is).2.1
    have cc0 : ∀ g : In I, g.w.cell? ⟨w.heap.size, 0, none⟩ = some (.slice (some ⟨gA, offA, none⟩) nA capA) := fun g => (iBc g).cell 0
    have cc1 : ∀ g : In I, g.w.cell? ⟨w.heap.size, 1, none⟩ = some (.slice aoB 0 capB) := fun g => (iBc g).cell 1
    have cc2 : ∀ g : In I, g.w.cell? ⟨w.heap.size, 2, none⟩ = some (.int .i64 p) := fun g => (iBc g).cell 2
    have cc3 : ∀ g : In I, g.w.cell? ⟨w.heap.size, 3, none⟩ = some (.int .i64 q) := fun g => (iBc g).cell 3
    have cc4 : ∀ g : In I, g.w.cell? ⟨w.heap.size, 4, none⟩ = some (uv m0) := fun g => (iBc g).cell 4
    have cc5 : ∀ g : In I, g.w.cell? ⟨w.heap.size, 5, none⟩ = some (uv m1) := fun g => (iBc g).cell 5
    have lx := Bx.lt; clear Bx
    have ly := By.lt; clear By
    have leA := BeA.lt; clear BeA
    have iBeA : ∀ g : In I, Blk g.w (eA) 22 uA := fun g => ((hI _).1 g.is).2.2.2.2.1
    have llB := BlB.lt; clear BlB
    have iBlB : ∀ g : In I, Blk g.w (glB) 22 #[.int .u64 3] := fun g => ((hI _).1 g.is).2.2.2.2.2
    have clB0 : ∀ g : In I, g.w.cell? ⟨glB, 0, none⟩ = some (.int .u64 3) := fun g => (iBlB g).cell 0
    have cXA : ∀ x : In I, x.w.cell? ⟨eA, 1 + ix, none⟩ = some (uv XA) := fun x => by rw [(iBeA x).cell, HXA.out]; exact HEA.out ix l_ix
    have hIg : ∀ x y, Grows x y → I x → I y := fun x y hg hx => by
      obtain ⟨hb, m0, ⟨s1, m1, z1⟩, ⟨s2, m2, z2⟩, m3, m4⟩ := (hI _).1 hx
      exact (hI _).2 ⟨Bl_trans hb hg, m0.next hg, ⟨s1, m1.next hg, z1⟩, ⟨s2, m2.next hg, z2⟩, m3.next hg, m4.next hg⟩
    have hDg : ∀ k x y, Grows x y → D k x → D k y := fun k x y hg hx => by
      obtain ⟨d34, d35⟩ := (hD _ _).1 hx
      exact (hD _ _).2 ⟨fun e => (d34 e).next hg, fun e => (d35 e).next hg⟩
    have hDt : ∀ k, (k == 34 || k == 35) = false → ∀ x, D k x := fun k hk x => (hD _ _).2 ⟨fun e => by subst e; simp at hk, fun e => by subst e; simp at hk⟩
    have hS34 : ∀ g : In I, I (g.w.setRow (w.heap.size + 1) #[uv VA.b.v, uv VA.b.m, uv VA.lo, uv VA.hi, sv VA.sl, sv VA.sh]) ∧ D 34 (g.w.setRow (w.heap.size + 1) #[uv VA.b.v, uv VA.b.m, uv VA.lo, uv VA.hi, sv VA.sl, sv VA.sh]) ∧ ∀ j, D j g.w → D j (g.w.setRow (w.heap.size + 1) #[uv VA.b.v, uv VA.b.m, uv VA.lo, uv VA.hi, sv VA.sl, sv VA.sh]) := fun g => by
      obtain ⟨hb, m0, ⟨s1, m1, z1⟩, ⟨s2, m2, z2⟩, m3, m4⟩ := (hI _).1 g.is
      refine ⟨(hI _).2 ⟨Bl_row hb (by first | omega | (simp; omega)) _, (m0.row_other (by first | (simp; done) | (simp; omega) | (simp [*]; done) | (simp only [ne_eq]; constructor <;> omega))), ⟨_, m1.row_same, rfl⟩, ⟨s2, (m2.row_other (by first | (simp; done) | (simp; omega) | (simp [*]; done) | (simp only [ne_eq]; constructor <;> omega))), z2⟩, (m3.row_other (by first | (simp; done) | (simp; omega) | (simp [*]; done) | (simp only [ne_eq]; constructor <;> omega))), (m4.row_other (by first | (simp; done) | (simp; omega) | (simp [*]; done) | (simp only [ne_eq]; constructor <;> omega)))⟩, (hD _ _).2 ⟨fun _ => m1.row_same, fun e => absurd e (by decide)⟩, fun j hj => (hD _ _).2 ⟨fun _ => m1.row_same, fun e => (((hD _ _).1 hj).2 e).row_other (by first | (simp; done) | (simp; omega) | (simp [*]; done) | (simp only [ne_eq]; constructor <;> omega))⟩⟩
    have hS35 : ∀ g : In I, I (g.w.setRow (w.heap.size + 1 + 1) #[uv VB.b.v, uv VB.b.m, uv VB.lo, uv VB.hi, sv VB.sl, sv VB.sh]) ∧ D 35 (g.w.setRow (w.heap.size + 1 + 1) #[uv VB.b.v, uv VB.b.m, uv VB.lo, uv VB.hi, sv VB.sl, sv VB.sh]) ∧ ∀ j, D j g.w → D j (g.w.setRow (w.heap.size + 1 + 1) #[uv VB.b.v, uv VB.b.m, uv VB.lo, uv VB.hi, sv VB.sl, sv VB.sh]) := fun g => by
      obtain ⟨hb, m0, ⟨s1, m1, z1⟩, ⟨s2, m2, z2⟩, m3, m4⟩ := (hI _).1 g.is
      refine ⟨(hI _).2 ⟨Bl_row hb (by first | omega | (simp; omega)) _, (m0.row_other (by first | (simp; done) | (simp; omega) | (simp [*]; done) | (simp only [ne_eq]; constructor <;> omega))), ⟨s1, (m1.row_other (by first | (simp; done) | (simp; omega) | (simp [*]; done) | (simp only [ne_eq]; constructor <;> omega))), z1⟩, ⟨_, m2.row_same, rfl⟩, (m3.row_other (by first | (simp; done) | (simp; omega) | (simp [*]; done) | (simp only [ne_eq]; constructor <;> omega))), (m4.row_other (by first | (simp; done) | (simp; omega) | (simp [*]; done) | (simp only [ne_eq]; constructor <;> omega)))⟩, (hD _ _).2 ⟨fun e => absurd e (by decide), fun _ => m2.row_same⟩, fun j hj => (hD _ _).2 ⟨fun e => (((hD _ _).1 hj).1 e).row_other (by first | (simp; done) | (simp; omega) | (simp [*]; done) | (simp only [ne_eq]; constructor <;> omega)), fun _ => m2.row_same⟩⟩
    refine wp_region_mixP I D (fun k => k == 34 || k == 35) (by kernel_rfl) (by kernel_rfl) (by kernel_rfl) hI0 hIg hDg hDt ?_
    have hne_I : Nonempty (In I) := ⟨⟨_, hI0⟩⟩
    clear hIg hDg hDt hI0
    repeat ((with_reducible refine wpMixP_step (fun K hK => ?_)); go_simp; first | ((with_reducible refine hK _ ?_); clear hK K) | (rw [if_neg (by decide)]; (with_reducible refine hK _ ?_); clear hK K) | (apply Exists.intro; refine ⟨fun g => ?_, hK _ ?_⟩; ((with_reducible refine Calls.mono (k_A g.w (iBeA g)) ?_); exact fun _ _ h => h); clear hK K) | (apply Exists.intro; refine ⟨fun g => ?_, hK _ ?_⟩; ((with_reducible refine Calls.mono (k_B g.w (iBlB g)) ?_); exact fun _ _ h => h); clear hK K) | (refine ⟨⟨rfl, fun g => ?_⟩, hK _ ?_⟩; (exact ⟨_, run_store_row _ _ _ rfl (w.heap.size + 1) 53 _ #[uv VA.b.v, uv VA.b.m, uv VA.lo, uv VA.hi, sv VA.sl, sv VA.sh] rfl rfl (((hI _).1 g.is).2.2.1).choose_spec.1 (by kernel_rfl) (((hI _).1 g.is).2.2.1).choose_spec.2 (by simp [Value.oneCell']), hS34 g⟩); clear hK K) | (refine ⟨⟨rfl, fun g => ?_⟩, hK _ ?_⟩; (exact ⟨_, run_store_row _ _ _ rfl (w.heap.size + 1 + 1) 53 _ #[uv VB.b.v, uv VB.b.m, uv VB.lo, uv VB.hi, sv VB.sl, sv VB.sh] rfl rfl (((hI _).1 g.is).2.2.2.1).choose_spec.1 (by kernel_rfl) (((hI _).1 g.is).2.2.2.1).choose_spec.2 (by simp [Value.oneCell']), hS35 g⟩); clear hK K))
    refine wpMixP_nil ?_
    intro w4 hIw hDw
    clear cXA
    clear hS34 hS35 iBc iBeA iBlB cc0 cc1 cc2 cc3 cc4 cc5 clB0
    clear hB
    obtain ⟨hB, Bc, _, _, BeA, BlB⟩ := (hI _).1 hIw
    have Bx := ((hD _ _).1 (hDw 34 (by decide))).1 rfl
    have By := ((hD _ _).1 (hDw 35 (by decide))).2 rfl
    clear hne_I; clear hIw hDw hI hD I D lc lx ly leA llB
    obtain ⟨cc0, cc1, cc2, cc3, cc4, cc5⟩ := cells6 Bc
    have fc := Bc.frozen; have lc := Bc.lt
    obtain ⟨cx0, cx1, cx2, cx3, cx4, cx5⟩ := cells6 Bx
    have fx := Bx.frozen; have lx := Bx.lt
    obtain ⟨cy0, cy1, cy2, cy3, cy4, cy5⟩ := cells6 By
    have fy := By.frozen; have ly := By.lt
    have feA := BeA.frozen; have leA := BeA.lt
    have clB0 : w4.cell? ⟨glB, 0, none⟩ = some (.int .u64 3) := BlB.cell 0
    have flB := BlB.frozen; have llB := BlB.lt
    go_wp2
    exact bodyPost_ret (v := .tuple #[rv VA, rv VB, uv XA, uv 3#64]) (by simp [results, Try.results21, go_sem, cx0, cx1, cx2, cx3, cx4, cx5, cy0, cy1, cy2, cy3, cy4, cy5, lx, ly, show T 3#64 = 3 from rfl]) rfl ⟨rfl, by repeat (first | (with_reducible exact hB) | (with_reducible refine Bl_set ?_ (by first | omega | (simp; done) | (simp; omega)) _) | with_reducible apply Bl_alloc)⟩
set_option maxRecDepth 100000 in
set_option maxHeartbeats 3200000 in
theorem ranges_ff (gA offA nA capA kA : Nat) (hkA : kA = min nA 8) (LA : List W) (hLA : LA.length = kA) (hnA : 0 < nA) (hcapA : nA ≤ capA) (gB offB nB capB kB : Nat) (hkB : kB = min nB 8) (LB : List W) (hLB : LB.length = kB) (hnB : 0 < nB) (hcapB : nB ≤ capB) (p q : Int) (m0 m1 : W) (w : World) (hcA : ∀ j, j < kA → w.cell? ⟨gA, offA + j, none⟩ = some (uv (LA.getD j 0#64))) (hcB : ∀ j, j < kB → w.cell? ⟨gB, offB + j, none⟩ = some (uv (LB.getD j 0#64))) : Calls Try.prog 21 #[.agg #[.slice (some ⟨gA, offA, none⟩) nA capA, .slice (some ⟨gB, offB, none⟩) nB capB, .int .i64 p, .int .i64 q, uv m0, uv m1]] w fun e w' => e = .returned (.tuple #[rv (PlainScalar.around LA m0), rv (PlainScalar.around LB m1), uv (LA.getD (idx p kA) 0#64), uv (LB.getD (idx q kB) 0#64)]) ∧ Below w.heap.size w w' := by
  have hgA : gA < w.heap.size := World.block_lt_of_cell? w _ (hcA 0 (by omega))
  have hk8A : kA ≤ 8 := by omega
  have hknA : kA ≤ nA := by omega
  have hk0A : 0 < kA := by omega
  have hminA : min (nA : Int) 8 = (kA : Int) := by omega
  have hkcA : (kA : Int) ≤ (capA : Int) := by omega
  have hniA : (0 : Int) < (nA : Int) := by omega
  have HCA := Lib.hid hcA; clear hcA hkA
  have hgB : gB < w.heap.size := World.block_lt_of_cell? w _ (hcB 0 (by omega))
  have hk8B : kB ≤ 8 := by omega
  have hknB : kB ≤ nB := by omega
  have hk0B : 0 < kB := by omega
  have hminB : min (nB : Int) 8 = (kB : Int) := by omega
  have hkcB : (kB : Int) ≤ (capB : Int) := by omega
  have hniB : (0 : Int) < (nB : Int) := by omega
  have HCB := Lib.hid hcB; clear hcB hkB
  have hm0 : min (0 : Int) 8 = 0 := rfl
  obtain ⟨i0, hi, hz0, hz1, hz2⟩ := info_parts info_u64
  obtain ⟨ix, e_ix⟩ : ∃ z', z' = idx p kA := ⟨_, rfl⟩; obtain ⟨iy, e_iy⟩ : ∃ z', z' = idx q kB := ⟨_, rfl⟩
  have h_ix : IntKind.i64.wrap ((IntKind.u64.wrap p).tmod (kA : Int)) = (ix : Int) := by rw [e_ix]; exact idx_is p kA (by omega) (by omega)
  have l_ix : ix < kA := by rw [e_ix]; exact idx_lt _ (by omega)
  have h_iy : IntKind.i64.wrap ((IntKind.u64.wrap q).tmod (kB : Int)) = (iy : Int) := by rw [e_iy]; exact idx_is q kB (by omega) (by omega)
  have l_iy : iy < kB := by rw [e_iy]; exact idx_lt _ (by omega)
  rw [← e_ix, ← e_iy]; clear e_ix e_iy
  obtain ⟨VA, e_VA⟩ : ∃ z', z' = PlainScalar.around LA m0 := ⟨_, rfl⟩; obtain ⟨XA, e_XA⟩ : ∃ z', z' = LA.getD ix 0#64 := ⟨_, rfl⟩
  rw [← e_VA, ← e_XA]
  have HXA := Lib.hid e_XA; clear e_XA
  have HVA := Lib.hid e_VA; clear e_VA
  obtain ⟨VB, e_VB⟩ : ∃ z', z' = PlainScalar.around LB m1 := ⟨_, rfl⟩; obtain ⟨XB, e_XB⟩ : ∃ z', z' = LB.getD iy 0#64 := ⟨_, rfl⟩
  rw [← e_VB, ← e_XB]
  have HXB := Lib.hid e_XB; clear e_XB
  have HVB := Lib.hid e_VB; clear e_VB
  have Hx := Lib.hid h_ix; have Hy := Lib.hid h_iy; clear h_ix h_iy
  go_enter Try.func21, Try.ntmps21
  go_upto_region 1 with fail
  obtain ⟨gc, hgc⟩ : ∃ g, g = w.heap.size := ⟨_, rfl⟩
  obtain ⟨gx, hgx⟩ : ∃ g, g = w.heap.size + 1 := ⟨_, rfl⟩
  obtain ⟨gy, hgy⟩ : ∃ g, g = w.heap.size + 1 + 1 := ⟨_, rfl⟩
  have Bc : Blk (((w.alloc (.cells #[.slice (some ⟨gA, offA, none⟩) nA capA, .slice (some ⟨gB, offB, none⟩) nB capB, .int .i64 p, .int .i64 q, uv m0, uv m1] 49)).alloc (.cells #[.int .u64 0, .int .u64 0, .int .u64 0, .int .u64 0, .int .i64 0, .int .i64 0] 53)).alloc (.cells #[.int .u64 0, .int .u64 0, .int .u64 0, .int .u64 0, .int .i64 0, .int .i64 0] 53)) (w.heap.size) 49 #[.slice (some ⟨gA, offA, none⟩) nA capA, .slice (some ⟨gB, offB, none⟩) nB capB, .int .i64 p, .int .i64 q, uv m0, uv m1] := (((Blk.new w 49 #[.slice (some ⟨gA, offA, none⟩) nA capA, .slice (some ⟨gB, offB, none⟩) nB capB, .int .i64 p, .int .i64 q, uv m0, uv m1])).alloc _).alloc _
  have Bx : Blk (((w.alloc (.cells #[.slice (some ⟨gA, offA, none⟩) nA capA, .slice (some ⟨gB, offB, none⟩) nB capB, .int .i64 p, .int .i64 q, uv m0, uv m1] 49)).alloc (.cells #[.int .u64 0, .int .u64 0, .int .u64 0, .int .u64 0, .int .i64 0, .int .i64 0] 53)).alloc (.cells #[.int .u64 0, .int .u64 0, .int .u64 0, .int .u64 0, .int .i64 0, .int .i64 0] 53)) (w.heap.size + 1) 53 #[.int .u64 0, .int .u64 0, .int .u64 0, .int .u64 0, .int .i64 0, .int .i64 0] := ((by simpa using Blk.new (w.alloc (.cells #[.slice (some ⟨gA, offA, none⟩) nA capA, .slice (some ⟨gB, offB, none⟩) nB capB, .int .i64 p, .int .i64 q, uv m0, uv m1] 49)) 53 #[.int .u64 0, .int .u64 0, .int .u64 0, .int .u64 0, .int .i64 0, .int .i64 0] : Blk _ (w.heap.size + 1) 53 #[.int .u64 0, .int .u64 0, .int .u64 0, .int .u64 0, .int .i64 0, .int .i64 0])).alloc _
  have By : Blk (((w.alloc (.cells #[.slice (some ⟨gA, offA, none⟩) nA capA, .slice (some ⟨gB, offB, none⟩) nB capB, .int .i64 p, .int .i64 q, uv m0, uv m1] 49)).alloc (.cells #[.int .u64 0, .int .u64 0, .int .u64 0, .int .u64 0, .int .i64 0, .int .i64 0] 53)).alloc (.cells #[.int .u64 0, .int .u64 0, .int .u64 0, .int .u64 0, .int .i64 0, .int .i64 0] 53)) (w.heap.size + 1 + 1) 53 #[.int .u64 0, .int .u64 0, .int .u64 0, .int .u64 0, .int .i64 0, .int .i64 0] := (by simpa using Blk.new ((w.alloc (.cells #[.slice (some ⟨gA, offA, none⟩) nA capA, .slice (some ⟨gB, offB, none⟩) nB capB, .int .i64 p, .int .i64 q, uv m0, uv m1] 49)).alloc (.cells #[.int .u64 0, .int .u64 0, .int .u64 0, .int .u64 0, .int .i64 0, .int .i64 0] 53)) 53 #[.int .u64 0, .int .u64 0, .int .u64 0, .int .u64 0, .int .i64 0, .int .i64 0] : Blk _ (w.heap.size + 1 + 1) 53 #[.int .u64 0, .int .u64 0, .int .u64 0, .int .u64 0, .int .i64 0, .int .i64 0])
  have hB : Below w.heap.size w (((w.alloc (.cells #[.slice (some ⟨gA, offA, none⟩) nA capA, .slice (some ⟨gB, offB, none⟩) nB capB, .int .i64 p, .int .i64 q, uv m0, uv m1] 49)).alloc (.cells #[.int .u64 0, .int .u64 0, .int .u64 0, .int .u64 0, .int .i64 0, .int .i64 0] 53)).alloc (.cells #[.int .u64 0, .int .u64 0, .int .u64 0, .int .u64 0, .int .i64 0, .int .i64 0] 53)) := (Bl_alloc (Bl_alloc (Bl_alloc (Bl_refl w) _) _) _)
  clear hgc
  clear gc
  clear hgx
  clear gx
  clear hgy
  clear gy
  generalize (((w.alloc (.cells #[.slice (some ⟨gA, offA, none⟩) nA capA, .slice (some ⟨gB, offB, none⟩) nB capB, .int .i64 p, .int .i64 q, uv m0, uv m1] 49)).alloc (.cells #[.int .u64 0, .int .u64 0, .int .u64 0, .int .u64 0, .int .i64 0, .int .i64 0] 53)).alloc (.cells #[.int .u64 0, .int .u64 0, .int .u64 0, .int .u64 0, .int .i64 0, .int .i64 0] 53)) = w1 at *
  obtain ⟨cc0, cc1, cc2, cc3, cc4, cc5⟩ := cells6 Bc
  have fc := Bc.frozen; have lc := Bc.lt
  obtain ⟨cx0, cx1, cx2, cx3, cx4, cx5⟩ := cells6 Bx
  have fx := Bx.frozen; have lx := Bx.lt
  obtain ⟨cy0, cy1, cy2, cy3, cy4, cy5⟩ := cells6 By
  have fy := By.frozen; have ly := By.lt
  go_wp2_with (at_builtin; refine wpList_append_grows _ rfl (.tmp 8) (.tmp 15) 46 rfl 22 i0 (.int .u64 0) 1 8 Try.underlying46 hi hz0 hz1 hz2 rfl (by decide) (some ⟨w1.heap.size, 0, none⟩) 1 1 [.int .u64 5] rfl (fun h => by cases h) rfl ?oldsA ⟨gA, offA, none⟩ kA capA (LA.map uv) rfl ?nlA ?csA (one_news LA) ?fullA ?b1A ?b2A ?restA)
  case oldsA => intro b hb j u hu; obtain rfl := Option.some.inj hb; match j, hu with | 0, hu => simp at hu; subst hu; simp [Addr.add]
  case nlA => simp [hLA]
  case csA =>
    intro j u hu
    have hj : j < kA := by have := (List.getElem?_eq_some_iff.1 hu).1; simpa [hLA] using this
    rw [news_at hLA hj] at hu; rw [← hu, Addr.add_lit, World.cell?_alloc_past _ _ _ (show gA < w1.heap.size from Nat.lt_of_lt_of_le hgA hB.size)]; exact (hB.cell (p := ⟨gA, offA + j, none⟩) hgA).trans (HCA.out j hj)
  case fullA => omega
  case b1A => unfold maxLen; omega
  case b2A => omega
  case restA =>
    intro vA w2 hown hgrow
    have hwz : w1.heap.size ≤ (w1.alloc (.cells #[.int .u64 5] 22)).heap.size := by simp
    have hqc : w.heap.size < w1.heap.size := Bc.lt
    have hqx : w.heap.size + 1 < w1.heap.size := Bx.lt
    have hqy : w.heap.size + 1 + 1 < w1.heap.size := By.lt
    have hb : Below w1.heap.size w1 w2 := Bl_grown hgrow
    clear cc0 cc1 cc2 cc3 cc4 cc5 fc lc
    clear cx0 cx1 cx2 cx3 cx4 cx5 fx lx
    clear cy0 cy1 cy2 cy3 cy4 cy5 fy ly
    replace Bc := Bc.next hb
    replace Bx := Bx.next hb
    replace By := By.next hb
    obtain ⟨eA, cA, uA, rfl, hgeA, h1cA, h9cA, BeA, hceA⟩ := own_tail hown (by simp [hLA])
    replace hceA : ∀ j, j < kA → uA[1 + j]? = some (uv (LA.getD j 0#64)) := fun j hj => hceA j _ (news_at hLA hj)
    have HEA := Lib.hid hceA; clear hceA hown hgrow
    have hneA : ¬ cA = 1 := by omega
    have hweA : w.heap.size ≤ eA := by have := hB.size; omega
    clear hwz
    have hnceA : w.heap.size ≠ eA := by omega
    clear hqc
    have hnxeA : w.heap.size + 1 ≠ eA := by omega
    clear hqx
    have hnyeA : w.heap.size + 1 + 1 ≠ eA := by omega
    clear hqy
    clear hgeA
    replace hB : Below w.heap.size w w2 := Bl_trans hB hb
    clear hb
    obtain ⟨cc0, cc1, cc2, cc3, cc4, cc5⟩ := cells6 Bc
    have fc := Bc.frozen; have lc := Bc.lt
    obtain ⟨cx0, cx1, cx2, cx3, cx4, cx5⟩ := cells6 Bx
    have fx := Bx.frozen; have lx := Bx.lt
    obtain ⟨cy0, cy1, cy2, cy3, cy4, cy5⟩ := cells6 By
    have fy := By.frozen; have ly := By.lt
    have feA := BeA.frozen; have leA := BeA.lt
    go_wp2_with (at_builtin; refine wpList_append_grows _ rfl (.tmp 17) (.tmp 24) 46 rfl 22 i0 (.int .u64 0) 1 8 Try.underlying46 hi hz0 hz1 hz2 rfl (by decide) (some ⟨w2.heap.size, 0, none⟩) 1 1 [.int .u64 3] rfl (fun h => by cases h) rfl ?oldsB ⟨gB, offB, none⟩ kB capB (LB.map uv) rfl ?nlB ?csB (one_news LB) ?fullB ?b1B ?b2B ?restB)
    case oldsB => intro b hb j u hu; obtain rfl := Option.some.inj hb; match j, hu with | 0, hu => simp at hu; subst hu; simp [Addr.add]
    case nlB => simp [hLB]
    case csB =>
      intro j u hu
      have hj : j < kB := by have := (List.getElem?_eq_some_iff.1 hu).1; simpa [hLB] using this
      rw [news_at hLB hj] at hu; rw [← hu, Addr.add_lit, World.cell?_alloc_past _ _ _ (show gB < w2.heap.size from Nat.lt_of_lt_of_le hgB hB.size)]; exact (hB.cell (p := ⟨gB, offB + j, none⟩) hgB).trans (HCB.out j hj)
    case fullB => omega
    case b1B => unfold maxLen; omega
    case b2B => omega
    case restB =>
      intro vB w3 hown hgrow
      have hwz : w2.heap.size ≤ (w2.alloc (.cells #[.int .u64 3] 22)).heap.size := by simp
      have hqc : w.heap.size < w2.heap.size := Bc.lt
      have hqx : w.heap.size + 1 < w2.heap.size := Bx.lt
      have hqy : w.heap.size + 1 + 1 < w2.heap.size := By.lt
      have hqeA : eA < w2.heap.size := BeA.lt
      have hb : Below w2.heap.size w2 w3 := Bl_grown hgrow
      clear cc0 cc1 cc2 cc3 cc4 cc5 fc lc
      clear cx0 cx1 cx2 cx3 cx4 cx5 fx lx
      clear cy0 cy1 cy2 cy3 cy4 cy5 fy ly
      clear  feA leA
      replace Bc := Bc.next hb
      replace Bx := Bx.next hb
      replace By := By.next hb
      replace BeA := BeA.next hb
      obtain ⟨eB, cB, uB, rfl, hgeB, h1cB, h9cB, BeB, hceB⟩ := own_tail hown (by simp [hLB])
      replace hceB : ∀ j, j < kB → uB[1 + j]? = some (uv (LB.getD j 0#64)) := fun j hj => hceB j _ (news_at hLB hj)
      have HEB := Lib.hid hceB; clear hceB hown hgrow
      have hneB : ¬ cB = 1 := by omega
      have hweB : w.heap.size ≤ eB := by have := hB.size; omega
      clear hwz
      have hnceB : w.heap.size ≠ eB := by omega
      clear hqc
      have hnxeB : w.heap.size + 1 ≠ eB := by omega
      clear hqx
      have hnyeB : w.heap.size + 1 + 1 ≠ eB := by omega
      clear hqy
      have hneAeB : eA ≠ eB := by omega
      clear hqeA
      clear hgeB
      replace hB : Below w.heap.size w w3 := Bl_trans hB hb
      clear hb
      obtain ⟨cc0, cc1, cc2, cc3, cc4, cc5⟩ := cells6 Bc
      have fc := Bc.frozen; have lc := Bc.lt
      obtain ⟨cx0, cx1, cx2, cx3, cx4, cx5⟩ := cells6 Bx
      have fx := Bx.frozen; have lx := Bx.lt
      obtain ⟨cy0, cy1, cy2, cy3, cy4, cy5⟩ := cells6 By
      have fy := By.frozen; have ly := By.lt
      have feA := BeA.frozen; have leA := BeA.lt
      have feB := BeB.frozen; have leB := BeB.lt
      go_upto_region 7 with fail
      have k_A : ∀ w : World, Blk w eA 22 uA → Calls Try.prog 42 #[.slice (some ⟨eA, 1, none⟩) kA (cA - 1), uv m0] w fun e w' => e = .returned (rv VA) ∧ Below w.heap.size w w' := fun w h => by rw [HVA.out]; exact around_c LA kA hLA (by omega) (by omega) eA 1 (cA - 1) m0 w (fun j hj => by rw [h.cell]; exact HEA.out j hj)
      have k_B : ∀ w : World, Blk w eB 22 uB → Calls Try.prog 42 #[.slice (some ⟨eB, 1, none⟩) kB (cB - 1), uv m1] w fun e w' => e = .returned (rv VB) ∧ Below w.heap.size w w' := fun w h => by rw [HVB.out]; exact around_c LB kB hLB (by omega) (by omega) eB 1 (cB - 1) m1 w (fun j hj => by rw [h.cell]; exact HEB.out j hj)
      have h_ix := Hx.out; have h_iy := Hy.out; clear Hx Hy
      have hwkA : IntKind.u64.wrap (kA : Int) = (kA : Int) := by rw [IntKind.wrap_u64]; omega
      have hkzA : ¬ (kA : Int) = 0 := by omega
      have hkn0A : ¬ kA = 0 := by omega
      have li_ix : (ix : Int) < (kA : Int) := by omega
      have hwkB : IntKind.u64.wrap (kB : Int) = (kB : Int) := by rw [IntKind.wrap_u64]; omega
      have hkzB : ¬ (kB : Int) = 0 := by omega
      have hkn0B : ¬ kB = 0 := by omega
      have li_iy : (iy : Int) < (kB : Int) := by omega
      go_wp2_with fail
      clear cc0 cc1 cc2 cc3 cc4 cc5 fc lc
      clear cx0 cx1 cx2 cx3 cx4 cx5 fx lx
      clear cy0 cy1 cy2 cy3 cy4 cy5 fy ly
      clear  feA leA
      clear  feB leB
      obtain ⟨I, hI⟩ : ∃ I : World → Prop, ∀ x, I x ↔ (Below w.heap.size w x ∧ Blk x (w.heap.size) 49 #[.slice (some ⟨gA, offA, none⟩) nA capA, .slice (some ⟨gB, offB, none⟩) nB capB, .int .i64 p, .int .i64 q, uv m0, uv m1] ∧ (∃ cs, Blk x (w.heap.size + 1) 53 cs ∧ cs.size = 6) ∧ (∃ cs, Blk x (w.heap.size + 1 + 1) 53 cs ∧ cs.size = 6) ∧ Blk x (eA) 22 uA ∧ Blk x (eB) 22 uB) := ⟨_, fun _ => Iff.rfl⟩
      obtain ⟨D, hD⟩ : ∃ D : Nat → World → Prop, ∀ k x, D k x ↔ ((k = 34 → Blk x (w.heap.size + 1) 53 #[uv VA.b.v, uv VA.b.m, uv VA.lo, uv VA.hi, sv VA.sl, sv VA.sh]) ∧ (k = 35 → Blk x (w.heap.size + 1 + 1) 53 #[uv VB.b.v, uv VB.b.m, uv VB.lo, uv VB.hi, sv VB.sl, sv VB.sh])) := ⟨_, fun _ _ => Iff.rfl⟩
      have hI0 : I w3 := (hI _).2 ⟨hB, Bc, ⟨_, Bx, rfl⟩, ⟨_, By, rfl⟩, BeA, BeB⟩
      have lc := Bc.lt; clear Bc
      have iBc : ∀ g : In I, Blk g.w (w.heap.size) 49 #[.slice (some ⟨gA, offA, none⟩) nA capA, .slice (some ⟨gB, offB, none⟩) nB capB, .int .i64 p, .int .i64 q, uv m0, uv m1] := fun g => ((hI _).1 g.is).2.1
      have cc0 : ∀ g : In I, g.w.cell? ⟨w.heap.size, 0, none⟩ = some (.slice (some ⟨gA, offA, none⟩) nA capA) := fun g => (iBc g).cell 0
      have cc1 : ∀ g : In I, g.w.cell? ⟨w.heap.size, 1, none⟩ = some (.slice (some ⟨gB, offB, none⟩) nB capB) := fun g => (iBc g).cell 1
      have cc2 : ∀ g : In I, g.w.cell? ⟨w.heap.size, 2, none⟩ = some (.int .i64 p) := fun g => (iBc g).cell 2
      have cc3 : ∀ g : In I, g.w.cell? ⟨w.heap.size, 3, none⟩ = some (.int .i64 q) := fun g => (iBc g).cell 3
      have cc4 : ∀ g : In I, g.w.cell? ⟨w.heap.size, 4, none⟩ = some (uv m0) := fun g => (iBc g).cell 4
      have cc5 : ∀ g : In I, g.w.cell? ⟨w.heap.size, 5, none⟩ = some (uv m1) := fun g => (iBc g).cell 5
      have lx := Bx.lt; clear Bx
      have ly := By.lt; clear By
      have leA := BeA.lt; clear BeA
      have iBeA : ∀ g : In I, Blk g.w (eA) 22 uA := fun g => ((hI _).1 g.is).2.2.2.2.1
      have leB := BeB.lt; clear BeB
      have iBeB : ∀ g : In I, Blk g.w (eB) 22 uB := fun g => ((hI _).1 g.is).2.2.2.2.2
      have cXA : ∀ x : In I, x.w.cell? ⟨eA, 1 + ix, none⟩ = some (uv XA) := fun x => by rw [(iBeA x).cell, HXA.out]; exact HEA.out ix l_ix
      have cXB : ∀ x : In I, x.w.cell? ⟨eB, 1 + iy, none⟩ = some (uv XB) := fun x => by rw [(iBeB x).cell, HXB.out]; exact HEB.out iy l_iy
      have hIg : ∀ x y, Grows x y → I x → I y := fun x y hg hx => by
        obtain ⟨hb, m0, ⟨s1, m1, z1⟩, ⟨s2, m2, z2⟩, m3, m4⟩ := (hI _).1 hx
        exact (hI _).2 ⟨Bl_trans hb hg, m0.next hg, ⟨s1, m1.next hg, z1⟩, ⟨s2, m2.next hg, z2⟩, m3.next hg, m4.next hg⟩
      have hDg : ∀ k x y, Grows x y → D k x → D k y := fun k x y hg hx => by
        obtain ⟨d34, d35⟩ := (hD _ _).1 hx
        exact (hD _ _).2 ⟨fun e => (d34 e).next hg, fun e => (d35 e).next hg⟩
      have hDt : ∀ k, (k == 34 || k == 35) = false → ∀ x, D k x := fun k hk x => (hD _ _).2 ⟨fun e => by subst e; simp at hk, fun e => by subst e; simp at hk⟩
      have hS34 : ∀ g : In I, I (g.w.setRow (w.heap.size + 1) #[uv VA.b.v, uv VA.b.m, uv VA.lo, uv VA.hi, sv VA.sl, sv VA.sh]) ∧ D 34 (g.w.setRow (w.heap.size + 1) #[uv VA.b.v, uv VA.b.m, uv VA.lo, uv VA.hi, sv VA.sl, sv VA.sh]) ∧ ∀ j, D j g.w → D j (g.w.setRow (w.heap.size + 1) #[uv VA.b.v, uv VA.b.m, uv VA.lo, uv VA.hi, sv VA.sl, sv VA.sh]) := fun g => by
        obtain ⟨hb, m0, ⟨s1, m1, z1⟩, ⟨s2, m2, z2⟩, m3, m4⟩ := (hI _).1 g.is
        refine ⟨(hI _).2 ⟨Bl_row hb (by first | omega | (simp; omega)) _, (m0.row_other (by first | (simp; done) | (simp; omega) | (simp [*]; done) | (simp only [ne_eq]; constructor <;> omega))), ⟨_, m1.row_same, rfl⟩, ⟨s2, (m2.row_other (by first | (simp; done) | (simp; omega) | (simp [*]; done) | (simp only [ne_eq]; constructor <;> omega))), z2⟩, (m3.row_other (by first | (simp; done) | (simp; omega) | (simp [*]; done) | (simp only [ne_eq]; constructor <;> omega))), (m4.row_other (by first | (simp; done) | (simp; omega) | (simp [*]; done) | (simp only [ne_eq]; constructor <;> omega)))⟩, (hD _ _).2 ⟨fun _ => m1.row_same, fun e => absurd e (by decide)⟩, fun j hj => (hD _ _).2 ⟨fun _ => m1.row_same, fun e => (((hD _ _).1 hj).2 e).row_other (by first | (simp; done) | (simp; omega) | (simp [*]; done) | (simp only [ne_eq]; constructor <;> omega))⟩⟩
      have hS35 : ∀ g : In I, I (g.w.setRow (w.heap.size + 1 + 1) #[uv VB.b.v, uv VB.b.m, uv VB.lo, uv VB.hi, sv VB.sl, sv VB.sh]) ∧ D 35 (g.w.setRow (w.heap.size + 1 + 1) #[uv VB.b.v, uv VB.b.m, uv VB.lo, uv VB.hi, sv VB.sl, sv VB.sh]) ∧ ∀ j, D j g.w → D j (g.w.setRow (w.heap.size + 1 + 1) #[uv VB.b.v, uv VB.b.m, uv VB.lo, uv VB.hi, sv VB.sl, sv VB.sh]) := fun g => by
        obtain ⟨hb, m0, ⟨s1, m1, z1⟩, ⟨s2, m2, z2⟩, m3, m4⟩ := (hI _).1 g.is
        refine ⟨(hI _).2 ⟨Bl_row hb (by first | omega | (simp; omega)) _, (m0.row_other (by first | (simp; done) | (simp; omega) | (simp [*]; done) | (simp only [ne_eq]; constructor <;> omega))), ⟨s1, (m1.row_other (by first | (simp; done) | (simp; omega) | (simp [*]; done) | (simp only [ne_eq]; constructor <;> omega))), z1⟩, ⟨_, m2.row_same, rfl⟩, (m3.row_other (by first | (simp; done) | (simp; omega) | (simp [*]; done) | (simp only [ne_eq]; constructor <;> omega))), (m4.row_other (by first | (simp; done) | (simp; omega) | (simp [*]; done) | (simp only [ne_eq]; constructor <;> omega)))⟩, (hD _ _).2 ⟨fun e => absurd e (by decide), fun _ => m2.row_same⟩, fun j hj => (hD _ _).2 ⟨fun e => (((hD _ _).1 hj).1 e).row_other (by first | (simp; done) | (simp; omega) | (simp [*]; done) | (simp only [ne_eq]; constructor <;> omega)), fun _ => m2.row_same⟩⟩
      refine wp_region_mixP I D (fun k => k == 34 || k == 35) (by kernel_rfl) (by kernel_rfl) (by kernel_rfl) hI0 hIg hDg hDt ?_
      have hne_I : Nonempty (In I) := ⟨⟨_, hI0⟩⟩
      clear hIg hDg hDt hI0
      repeat ((with_reducible refine wpMixP_step (fun K hK => ?_)); go_simp; first | ((with_reducible refine hK _ ?_); clear hK K) | (rw [if_neg (by decide)]; (with_reducible refine hK _ ?_); clear hK K) | (apply Exists.intro; refine ⟨fun g => ?_, hK _ ?_⟩; ((with_reducible refine Calls.mono (k_A g.w (iBeA g)) ?_); exact fun _ _ h => h); clear hK K) | (apply Exists.intro; refine ⟨fun g => ?_, hK _ ?_⟩; ((with_reducible refine Calls.mono (k_B g.w (iBeB g)) ?_); exact fun _ _ h => h); clear hK K) | (refine ⟨⟨rfl, fun g => ?_⟩, hK _ ?_⟩; (exact ⟨_, run_store_row _ _ _ rfl (w.heap.size + 1) 53 _ #[uv VA.b.v, uv VA.b.m, uv VA.lo, uv VA.hi, sv VA.sl, sv VA.sh] rfl rfl (((hI _).1 g.is).2.2.1).choose_spec.1 (by kernel_rfl) (((hI _).1 g.is).2.2.1).choose_spec.2 (by simp [Value.oneCell']), hS34 g⟩); clear hK K) | (refine ⟨⟨rfl, fun g => ?_⟩, hK _ ?_⟩; (exact ⟨_, run_store_row _ _ _ rfl (w.heap.size + 1 + 1) 53 _ #[uv VB.b.v, uv VB.b.m, uv VB.lo, uv VB.hi, sv VB.sl, sv VB.sh] rfl rfl (((hI _).1 g.is).2.2.2.1).choose_spec.1 (by kernel_rfl) (((hI _).1 g.is).2.2.2.1).choose_spec.2 (by simp [Value.oneCell']), hS35 g⟩); clear hK K))
      refine wpMixP_nil ?_
      intro w4 hIw hDw
      clear cXA
      clear cXB
      clear hS34 hS35 iBc iBeA iBeB cc0 cc1 cc2 cc3 cc4 cc5
      clear hB
      obtain ⟨hB, Bc, _, _, BeA, BeB⟩ := (hI _).1 hIw
      have Bx := ((hD _ _).1 (hDw 34 (by decide))).1 rfl
      have By := ((hD _ _).1 (hDw 35 (by decide))).2 rfl
      clear hne_I; clear hIw hDw hI hD I D lc lx ly leA leB
      obtain ⟨cc0, cc1, cc2, cc3, cc4, cc5⟩ := cells6 Bc
      have fc := Bc.frozen; have lc := Bc.lt
      obtain ⟨cx0, cx1, cx2, cx3, cx4, cx5⟩ := cells6 Bx
      have fx := Bx.frozen; have lx := Bx.lt
      obtain ⟨cy0, cy1, cy2, cy3, cy4, cy5⟩ := cells6 By
      have fy := By.frozen; have ly := By.lt
      have feA := BeA.frozen; have leA := BeA.lt
      have feB := BeB.frozen; have leB := BeB.lt
      go_wp2
      exact bodyPost_ret (v := .tuple #[rv VA, rv VB, uv XA, uv XB]) (by simp [results, Try.results21, go_sem, cx0, cx1, cx2, cx3, cx4, cx5, cy0, cy1, cy2, cy3, cy4, cy5, lx, ly]) rfl ⟨rfl, by repeat (first | (with_reducible exact hB) | (with_reducible refine Bl_set ?_ (by first | omega | (simp; done) | (simp; omega)) _) | with_reducible apply Bl_alloc)⟩
set_option maxRecDepth 100000 in
set_option maxHeartbeats 3200000 in
theorem ranges_nf (aoA : Option Addr) (capA : Nat) (gB offB nB capB kB : Nat) (hkB : kB = min nB 8) (LB : List W) (hLB : LB.length = kB) (hnB : 0 < nB) (hcapB : nB ≤ capB) (p q : Int) (m0 m1 : W) (w : World)  (hcB : ∀ j, j < kB → w.cell? ⟨gB, offB + j, none⟩ = some (uv (LB.getD j 0#64))) : Calls Try.prog 21 #[.agg #[.slice aoA 0 capA, .slice (some ⟨gB, offB, none⟩) nB capB, .int .i64 p, .int .i64 q, uv m0, uv m1]] w fun e w' => e = .returned (.tuple #[rv (PlainScalar.around [5#64] m0), rv (PlainScalar.around LB m1), uv ([5#64].getD (idx p 1) 0#64), uv (LB.getD (idx q kB) 0#64)]) ∧ Below w.heap.size w w' := by
  have hgB : gB < w.heap.size := World.block_lt_of_cell? w _ (hcB 0 (by omega))
  have hk8B : kB ≤ 8 := by omega
  have hknB : kB ≤ nB := by omega
  have hk0B : 0 < kB := by omega
  have hminB : min (nB : Int) 8 = (kB : Int) := by omega
  have hkcB : (kB : Int) ≤ (capB : Int) := by omega
  have hniB : (0 : Int) < (nB : Int) := by omega
  have HCB := Lib.hid hcB; clear hcB hkB
  have hm0 : min (0 : Int) 8 = 0 := rfl
  obtain ⟨i0, hi, hz0, hz1, hz2⟩ := info_parts info_u64
  obtain ⟨ix, e_ix⟩ : ∃ z', z' = idx p 1 := ⟨_, rfl⟩; obtain ⟨iy, e_iy⟩ : ∃ z', z' = idx q kB := ⟨_, rfl⟩
  have h_ix : IntKind.i64.wrap ((IntKind.u64.wrap p).tmod 1) = (ix : Int) := by rw [e_ix]; exact idx_is p 1 (by omega) (by omega)
  have l_ix : ix < 1 := by rw [e_ix]; exact idx_lt _ (by omega)
  have h_iy : IntKind.i64.wrap ((IntKind.u64.wrap q).tmod (kB : Int)) = (iy : Int) := by rw [e_iy]; exact idx_is q kB (by omega) (by omega)
  have l_iy : iy < kB := by rw [e_iy]; exact idx_lt _ (by omega)
  rw [← e_ix, ← e_iy]; clear e_ix e_iy
  obtain rfl : ix = 0 := by omega
  obtain ⟨VA, e_VA⟩ : ∃ z', z' = PlainScalar.around [5#64] m0 := ⟨_, rfl⟩; obtain ⟨XA, e_XA⟩ : ∃ z', z' = [5#64].getD 0 0#64 := ⟨_, rfl⟩
  rw [← e_VA, ← e_XA]
  obtain rfl : XA = 5#64 := e_XA
  have HVA := Lib.hid e_VA; clear e_VA
  obtain ⟨VB, e_VB⟩ : ∃ z', z' = PlainScalar.around LB m1 := ⟨_, rfl⟩; obtain ⟨XB, e_XB⟩ : ∃ z', z' = LB.getD iy 0#64 := ⟨_, rfl⟩
  rw [← e_VB, ← e_XB]
  have HXB := Lib.hid e_XB; clear e_XB
  have HVB := Lib.hid e_VB; clear e_VB
  have Hx := Lib.hid h_ix; have Hy := Lib.hid h_iy; clear h_ix h_iy
  go_enter Try.func21, Try.ntmps21
  go_upto_region 1 with fail
  obtain ⟨gc, hgc⟩ : ∃ g, g = w.heap.size := ⟨_, rfl⟩
  obtain ⟨gx, hgx⟩ : ∃ g, g = w.heap.size + 1 := ⟨_, rfl⟩
  obtain ⟨gy, hgy⟩ : ∃ g, g = w.heap.size + 1 + 1 := ⟨_, rfl⟩
  have Bc : Blk (((w.alloc (.cells #[.slice aoA 0 capA, .slice (some ⟨gB, offB, none⟩) nB capB, .int .i64 p, .int .i64 q, uv m0, uv m1] 49)).alloc (.cells #[.int .u64 0, .int .u64 0, .int .u64 0, .int .u64 0, .int .i64 0, .int .i64 0] 53)).alloc (.cells #[.int .u64 0, .int .u64 0, .int .u64 0, .int .u64 0, .int .i64 0, .int .i64 0] 53)) (w.heap.size) 49 #[.slice aoA 0 capA, .slice (some ⟨gB, offB, none⟩) nB capB, .int .i64 p, .int .i64 q, uv m0, uv m1] := (((Blk.new w 49 #[.slice aoA 0 capA, .slice (some ⟨gB, offB, none⟩) nB capB, .int .i64 p, .int .i64 q, uv m0, uv m1])).alloc _).alloc _
  have Bx : Blk (((w.alloc (.cells #[.slice aoA 0 capA, .slice (some ⟨gB, offB, none⟩) nB capB, .int .i64 p, .int .i64 q, uv m0, uv m1] 49)).alloc (.cells #[.int .u64 0, .int .u64 0, .int .u64 0, .int .u64 0, .int .i64 0, .int .i64 0] 53)).alloc (.cells #[.int .u64 0, .int .u64 0, .int .u64 0, .int .u64 0, .int .i64 0, .int .i64 0] 53)) (w.heap.size + 1) 53 #[.int .u64 0, .int .u64 0, .int .u64 0, .int .u64 0, .int .i64 0, .int .i64 0] := ((by simpa using Blk.new (w.alloc (.cells #[.slice aoA 0 capA, .slice (some ⟨gB, offB, none⟩) nB capB, .int .i64 p, .int .i64 q, uv m0, uv m1] 49)) 53 #[.int .u64 0, .int .u64 0, .int .u64 0, .int .u64 0, .int .i64 0, .int .i64 0] : Blk _ (w.heap.size + 1) 53 #[.int .u64 0, .int .u64 0, .int .u64 0, .int .u64 0, .int .i64 0, .int .i64 0])).alloc _
  have By : Blk (((w.alloc (.cells #[.slice aoA 0 capA, .slice (some ⟨gB, offB, none⟩) nB capB, .int .i64 p, .int .i64 q, uv m0, uv m1] 49)).alloc (.cells #[.int .u64 0, .int .u64 0, .int .u64 0, .int .u64 0, .int .i64 0, .int .i64 0] 53)).alloc (.cells #[.int .u64 0, .int .u64 0, .int .u64 0, .int .u64 0, .int .i64 0, .int .i64 0] 53)) (w.heap.size + 1 + 1) 53 #[.int .u64 0, .int .u64 0, .int .u64 0, .int .u64 0, .int .i64 0, .int .i64 0] := (by simpa using Blk.new ((w.alloc (.cells #[.slice aoA 0 capA, .slice (some ⟨gB, offB, none⟩) nB capB, .int .i64 p, .int .i64 q, uv m0, uv m1] 49)).alloc (.cells #[.int .u64 0, .int .u64 0, .int .u64 0, .int .u64 0, .int .i64 0, .int .i64 0] 53)) 53 #[.int .u64 0, .int .u64 0, .int .u64 0, .int .u64 0, .int .i64 0, .int .i64 0] : Blk _ (w.heap.size + 1 + 1) 53 #[.int .u64 0, .int .u64 0, .int .u64 0, .int .u64 0, .int .i64 0, .int .i64 0])
  have hB : Below w.heap.size w (((w.alloc (.cells #[.slice aoA 0 capA, .slice (some ⟨gB, offB, none⟩) nB capB, .int .i64 p, .int .i64 q, uv m0, uv m1] 49)).alloc (.cells #[.int .u64 0, .int .u64 0, .int .u64 0, .int .u64 0, .int .i64 0, .int .i64 0] 53)).alloc (.cells #[.int .u64 0, .int .u64 0, .int .u64 0, .int .u64 0, .int .i64 0, .int .i64 0] 53)) := (Bl_alloc (Bl_alloc (Bl_alloc (Bl_refl w) _) _) _)
  clear hgc
  clear gc
  clear hgx
  clear gx
  clear hgy
  clear gy
  generalize (((w.alloc (.cells #[.slice aoA 0 capA, .slice (some ⟨gB, offB, none⟩) nB capB, .int .i64 p, .int .i64 q, uv m0, uv m1] 49)).alloc (.cells #[.int .u64 0, .int .u64 0, .int .u64 0, .int .u64 0, .int .i64 0, .int .i64 0] 53)).alloc (.cells #[.int .u64 0, .int .u64 0, .int .u64 0, .int .u64 0, .int .i64 0, .int .i64 0] 53)) = w1 at *
  obtain ⟨cc0, cc1, cc2, cc3, cc4, cc5⟩ := cells6 Bc
  have fc := Bc.frozen; have lc := Bc.lt
  obtain ⟨cx0, cx1, cx2, cx3, cx4, cx5⟩ := cells6 Bx
  have fx := Bx.frozen; have lx := Bx.lt
  obtain ⟨cy0, cy1, cy2, cy3, cy4, cy5⟩ := cells6 By
  have fy := By.frozen; have ly := By.lt
  go_upto_region 2 with (at_builtin; refine wpList_append_empty rfl (.tmp 8) (.tmp 15) 46 rfl 22 i0 Try.underlying46 hi w1.heap.size 0 1 1 rfl (by omega) aoA capA rfl ?_)
  clear cc0 cc1 cc2 cc3 cc4 cc5 fc lc
  clear cx0 cx1 cx2 cx3 cx4 cx5 fx lx
  clear cy0 cy1 cy2 cy3 cy4 cy5 fy ly
  have BlA := Blk.new w1 22 #[.int .u64 5]
  have hglA := hB.size
  have hnclA := Nat.ne_of_lt Bc.lt; have hltclA := Bc.lt
  have hnxlA := Nat.ne_of_lt Bx.lt; have hltxlA := Bx.lt
  have hnylA := Nat.ne_of_lt By.lt; have hltylA := By.lt
  replace Bc : Blk (w1.alloc (.cells #[.int .u64 5] 22)) (w.heap.size) 49 #[.slice aoA 0 capA, .slice (some ⟨gB, offB, none⟩) nB capB, .int .i64 p, .int .i64 q, uv m0, uv m1] := Bc.alloc _
  replace Bx : Blk (w1.alloc (.cells #[.int .u64 5] 22)) (w.heap.size + 1) 53 #[.int .u64 0, .int .u64 0, .int .u64 0, .int .u64 0, .int .i64 0, .int .i64 0] := Bx.alloc _
  replace By : Blk (w1.alloc (.cells #[.int .u64 5] 22)) (w.heap.size + 1 + 1) 53 #[.int .u64 0, .int .u64 0, .int .u64 0, .int .u64 0, .int .i64 0, .int .i64 0] := By.alloc _
  replace hB : Below w.heap.size w (w1.alloc (.cells #[.int .u64 5] 22)) := Bl_alloc hB _
  generalize (w1.alloc (.cells #[.int .u64 5] 22)) = w2 at *
  generalize w1.heap.size = glA at *
  obtain ⟨cc0, cc1, cc2, cc3, cc4, cc5⟩ := cells6 Bc
  have fc := Bc.frozen; have lc := Bc.lt
  obtain ⟨cx0, cx1, cx2, cx3, cx4, cx5⟩ := cells6 Bx
  have fx := Bx.frozen; have lx := Bx.lt
  obtain ⟨cy0, cy1, cy2, cy3, cy4, cy5⟩ := cells6 By
  have fy := By.frozen; have ly := By.lt
  have clA0 : w2.cell? ⟨glA, 0, none⟩ = some (.int .u64 5) := BlA.cell 0
  have flA := BlA.frozen; have llA := BlA.lt
  go_wp2_with (at_builtin; refine wpList_append_grows _ rfl (.tmp 17) (.tmp 24) 46 rfl 22 i0 (.int .u64 0) 1 8 Try.underlying46 hi hz0 hz1 hz2 rfl (by decide) (some ⟨w2.heap.size, 0, none⟩) 1 1 [.int .u64 3] rfl (fun h => by cases h) rfl ?oldsB ⟨gB, offB, none⟩ kB capB (LB.map uv) rfl ?nlB ?csB (one_news LB) ?fullB ?b1B ?b2B ?restB)
  case oldsB => intro b hb j u hu; obtain rfl := Option.some.inj hb; match j, hu with | 0, hu => simp at hu; subst hu; simp [Addr.add]
  case nlB => simp [hLB]
  case csB =>
    intro j u hu
    have hj : j < kB := by have := (List.getElem?_eq_some_iff.1 hu).1; simpa [hLB] using this
    rw [news_at hLB hj] at hu; rw [← hu, Addr.add_lit, World.cell?_alloc_past _ _ _ (show gB < w2.heap.size from Nat.lt_of_lt_of_le hgB hB.size)]; exact (hB.cell (p := ⟨gB, offB + j, none⟩) hgB).trans (HCB.out j hj)
  case fullB => omega
  case b1B => unfold maxLen; omega
  case b2B => omega
  case restB =>
    intro vB w3 hown hgrow
    have hwz : w2.heap.size ≤ (w2.alloc (.cells #[.int .u64 3] 22)).heap.size := by simp
    have hqc : w.heap.size < w2.heap.size := Bc.lt
    have hqx : w.heap.size + 1 < w2.heap.size := Bx.lt
    have hqy : w.heap.size + 1 + 1 < w2.heap.size := By.lt
    have hqlA : glA < w2.heap.size := BlA.lt
    have hb : Below w2.heap.size w2 w3 := Bl_grown hgrow
    clear cc0 cc1 cc2 cc3 cc4 cc5 fc lc
    clear cx0 cx1 cx2 cx3 cx4 cx5 fx lx
    clear cy0 cy1 cy2 cy3 cy4 cy5 fy ly
    clear clA0 flA llA
    replace Bc := Bc.next hb
    replace Bx := Bx.next hb
    replace By := By.next hb
    replace BlA := BlA.next hb
    obtain ⟨eB, cB, uB, rfl, hgeB, h1cB, h9cB, BeB, hceB⟩ := own_tail hown (by simp [hLB])
    replace hceB : ∀ j, j < kB → uB[1 + j]? = some (uv (LB.getD j 0#64)) := fun j hj => hceB j _ (news_at hLB hj)
    have HEB := Lib.hid hceB; clear hceB hown hgrow
    have hneB : ¬ cB = 1 := by omega
    have hweB : w.heap.size ≤ eB := by have := hB.size; omega
    clear hwz
    have hnceB : w.heap.size ≠ eB := by omega
    clear hqc
    have hnxeB : w.heap.size + 1 ≠ eB := by omega
    clear hqx
    have hnyeB : w.heap.size + 1 + 1 ≠ eB := by omega
    clear hqy
    have hnlAeB : glA ≠ eB := by omega
    clear hqlA
    clear hgeB
    replace hB : Below w.heap.size w w3 := Bl_trans hB hb
    clear hb
    obtain ⟨cc0, cc1, cc2, cc3, cc4, cc5⟩ := cells6 Bc
    have fc := Bc.frozen; have lc := Bc.lt
    obtain ⟨cx0, cx1, cx2, cx3, cx4, cx5⟩ := cells6 Bx
    have fx := Bx.frozen; have lx := Bx.lt
    obtain ⟨cy0, cy1, cy2, cy3, cy4, cy5⟩ := cells6 By
    have fy := By.frozen; have ly := By.lt
    have clA0 : w3.cell? ⟨glA, 0, none⟩ = some (.int .u64 5) := BlA.cell 0
    have flA := BlA.frozen; have llA := BlA.lt
    have feB := BeB.frozen; have leB := BeB.lt
    go_upto_region 7 with fail
    have k_A : ∀ w : World, Blk w glA 22 #[.int .u64 5] → Calls Try.prog 42 #[.slice (some ⟨glA, 0, none⟩) 1 1, uv m0] w fun e w' => e = .returned (rv VA) ∧ Below w.heap.size w w' := fun w h => by rw [HVA.out]; exact around_c [5#64] 1 rfl (by omega) (by omega) glA 0 1 m0 w (one_at (h.cell 0))
    have k_B : ∀ w : World, Blk w eB 22 uB → Calls Try.prog 42 #[.slice (some ⟨eB, 1, none⟩) kB (cB - 1), uv m1] w fun e w' => e = .returned (rv VB) ∧ Below w.heap.size w w' := fun w h => by rw [HVB.out]; exact around_c LB kB hLB (by omega) (by omega) eB 1 (cB - 1) m1 w (fun j hj => by rw [h.cell]; exact HEB.out j hj)
    have h_ix := Hx.out; have h_iy := Hy.out; clear Hx Hy
    have hwk1 : IntKind.u64.wrap 1 = 1 := by rw [IntKind.wrap_u64]; rfl
    have ht1 : IntKind.i64.wrap 0 = 0 := by rw [IntKind.wrap_i64]; rfl
    have hwkB : IntKind.u64.wrap (kB : Int) = (kB : Int) := by rw [IntKind.wrap_u64]; omega
    have hkzB : ¬ (kB : Int) = 0 := by omega
    have hkn0B : ¬ kB = 0 := by omega
    have li_iy : (iy : Int) < (kB : Int) := by omega
    go_wp2_with fail
    clear cc0 cc1 cc2 cc3 cc4 cc5 fc lc
    clear cx0 cx1 cx2 cx3 cx4 cx5 fx lx
    clear cy0 cy1 cy2 cy3 cy4 cy5 fy ly
    clear clA0 flA llA
    clear  feB leB
    obtain ⟨I, hI⟩ : ∃ I : World → Prop, ∀ x, I x ↔ (Below w.heap.size w x ∧ Blk x (w.heap.size) 49 #[.slice aoA 0 capA, .slice (some ⟨gB, offB, none⟩) nB capB, .int .i64 p, .int .i64 q, uv m0, uv m1] ∧ (∃ cs, Blk x (w.heap.size + 1) 53 cs ∧ cs.size = 6) ∧ (∃ cs, Blk x (w.heap.size + 1 + 1) 53 cs ∧ cs.size = 6) ∧ Blk x (glA) 22 #[.int .u64 5] ∧ Blk x (eB) 22 uB) := ⟨_, fun _ => Iff.rfl⟩
    obtain ⟨D, hD⟩ : ∃ D : Nat → World → Prop, ∀ k x, D k x ↔ ((k = 34 → Blk x (w.heap.size + 1) 53 #[uv VA.b.v, uv VA.b.m, uv VA.lo, uv VA.hi, sv VA.sl, sv VA.sh]) ∧ (k = 35 → Blk x (w.heap.size + 1 + 1) 53 #[uv VB.b.v, uv VB.b.m, uv VB.lo, uv VB.hi, sv VB.sl, sv VB.sh])) := ⟨_, fun _ _ => Iff.rfl⟩
    have hI0 : I w3 := (hI _).2 ⟨hB, Bc, ⟨_, Bx, rfl⟩, ⟨_, By, rfl⟩, BlA, BeB⟩
    have lc := Bc.lt; clear Bc
    have iBc : ∀ g : In I, Blk g.w (w.heap.size) 49 #[.slice aoA 0 capA, .slice (some ⟨gB, offB, none⟩) nB capB, .int .i64 p, .int .i64 q, uv m0, uv m1] := fun g => ((hI _).1 g.is).2.1
    have cc0 : ∀ g : In I, g.w.cell? ⟨w.heap.size, 0, none⟩ = some (.slice aoA 0 capA) := fun g => (iBc g).cell 0
    have cc1 : ∀ g : In I, g.w.cell? ⟨w.heap.size, 1, none⟩ = some (.slice (some ⟨gB, offB, none⟩) nB capB) := fun g => (iBc g).cell 1
    have cc2 : ∀ g : In I, g.w.cell? ⟨w.heap.size, 2, none⟩ = some (.int .i64 p) := fun g => (iBc g).cell 2
    have cc3 : ∀ g : In I, g.w.cell? ⟨w.heap.size, 3, none⟩ = some (.int .i64 q) := fun g => (iBc g).cell 3
    have cc4 : ∀ g : In I, g.w.cell? ⟨w.heap.size, 4, none⟩ = some (uv m0) := fun g => (iBc g).cell 4
    have cc5 : ∀ g : In I, g.w.cell? ⟨w.heap.size, 5, none⟩ = some (uv m1) := fun g => (iBc g).cell 5
    have lx := Bx.lt; clear Bx
    have ly := By.lt; clear By
    have llA := BlA.lt; clear BlA
    have iBlA : ∀ g : In I, Blk g.w (glA) 22 #[.int .u64 5] := fun g => ((hI _).1 g.is).2.2.2.2.1
    have clA0 : ∀ g : In I, g.w.cell? ⟨glA, 0, none⟩ = some (.int .u64 5) := fun g => (iBlA g).cell 0
    have leB := BeB.lt; clear BeB
    have iBeB : ∀ g : In I, Blk g.w (eB) 22 uB := fun g => ((hI _).1 g.is).2.2.2.2.2
    have cXB : ∀ x : In I, x.w.cell? ⟨eB, 1 + iy, none⟩ = some (uv XB) := fun x => by rw [(iBeB x).cell, HXB.out]; exact HEB.out iy l_iy
    have hIg : ∀ x y, Grows x y → I x → I y := fun x y hg hx => by
      obtain ⟨hb, m0, ⟨s1, m1, z1⟩, ⟨s2, m2, z2⟩, m3, m4⟩ := (hI _).1 hx
      exact (hI _).2 ⟨Bl_trans hb hg, m0.next hg, ⟨s1, m1.next hg, z1⟩, ⟨s2, m2.next hg, z2⟩, m3.next hg, m4.next hg⟩
    have hDg : ∀ k x y, Grows x y → D k x → D k y := fun k x y hg hx => by
      obtain ⟨d34, d35⟩ := (hD _ _).1 hx
      exact (hD _ _).2 ⟨fun e => (d34 e).next hg, fun e => (d35 e).next hg⟩
    have hDt : ∀ k, (k == 34 || k == 35) = false → ∀ x, D k x := fun k hk x => (hD _ _).2 ⟨fun e => by subst e; simp at hk, fun e => by subst e; simp at hk⟩
    have hS34 : ∀ g : In I, I (g.w.setRow (w.heap.size + 1) #[uv VA.b.v, uv VA.b.m, uv VA.lo, uv VA.hi, sv VA.sl, sv VA.sh]) ∧ D 34 (g.w.setRow (w.heap.size + 1) #[uv VA.b.v, uv VA.b.m, uv VA.lo, uv VA.hi, sv VA.sl, sv VA.sh]) ∧ ∀ j, D j g.w → D j (g.w.setRow (w.heap.size + 1) #[uv VA.b.v, uv VA.b.m, uv VA.lo, uv VA.hi, sv VA.sl, sv VA.sh]) := fun g => by
      obtain ⟨hb, m0, ⟨s1, m1, z1⟩, ⟨s2, m2, z2⟩, m3, m4⟩ := (hI _).1 g.is
      refine ⟨(hI _).2 ⟨Bl_row hb (by first | omega | (simp; omega)) _, (m0.row_other (by first | (simp; done) | (simp; omega) | (simp [*]; done) | (simp only [ne_eq]; constructor <;> omega))), ⟨_, m1.row_same, rfl⟩, ⟨s2, (m2.row_other (by first | (simp; done) | (simp; omega) | (simp [*]; done) | (simp only [ne_eq]; constructor <;> omega))), z2⟩, (m3.row_other (by first | (simp; done) | (simp; omega) | (simp [*]; done) | (simp only [ne_eq]; constructor <;> omega))), (m4.row_other (by first | (simp; done) | (simp; omega) | (simp [*]; done) | (simp only [ne_eq]; constructor <;> omega)))⟩, (hD _ _).2 ⟨fun _ => m1.row_same, fun e => absurd e (by decide)⟩, fun j hj => (hD _ _).2 ⟨fun _ => m1.row_same, fun e => (((hD _ _).1 hj).2 e).row_other (by first | (simp; done) | (simp; omega) | (simp [*]; done) | (simp only [ne_eq]; constructor <;> omega))⟩⟩
    have hS35 : ∀ g : In I, I (g.w.setRow (w.heap.size + 1 + 1) #[uv VB.b.v, uv VB.b.m, uv VB.lo, uv VB.hi, sv VB.sl, sv VB.sh]) ∧ D 35 (g.w.setRow (w.heap.size + 1 + 1) #[uv VB.b.v, uv VB.b.m, uv VB.lo, uv VB.hi, sv VB.sl, sv VB.sh]) ∧ ∀ j, D j g.w → D j (g.w.setRow (w.heap.size + 1 + 1) #[uv VB.b.v, uv VB.b.m, uv VB.lo, uv VB.hi, sv VB.sl, sv VB.sh]) := fun g => by
      obtain ⟨hb, m0, ⟨s1, m1, z1⟩, ⟨s2, m2, z2⟩, m3, m4⟩ := (hI _).1 g.is
      refine ⟨(hI _).2 ⟨Bl_row hb (by first | omega | (simp; omega)) _, (m0.row_other (by first | (simp; done) | (simp; omega) | (simp [*]; done) | (simp only [ne_eq]; constructor <;> omega))), ⟨s1, (m1.row_other (by first | (simp; done) | (simp; omega) | (simp [*]; done) | (simp only [ne_eq]; constructor <;> omega))), z1⟩, ⟨_, m2.row_same, rfl⟩, (m3.row_other (by first | (simp; done) | (simp; omega) | (simp [*]; done) | (simp only [ne_eq]; constructor <;> omega))), (m4.row_other (by first | (simp; done) | (simp; omega) | (simp [*]; done) | (simp only [ne_eq]; constructor <;> omega)))⟩, (hD _ _).2 ⟨fun e => absurd e (by decide), fun _ => m2.row_same⟩, fun j hj => (hD _ _).2 ⟨fun e => (((hD _ _).1 hj).1 e).row_other (by first | (simp; done) | (simp; omega) | (simp [*]; done) | (simp only [ne_eq]; constructor <;> omega)), fun _ => m2.row_same⟩⟩
    refine wp_region_mixP I D (fun k => k == 34 || k == 35) (by kernel_rfl) (by kernel_rfl) (by kernel_rfl) hI0 hIg hDg hDt ?_
    have hne_I : Nonempty (In I) := ⟨⟨_, hI0⟩⟩
    clear hIg hDg hDt hI0
    repeat ((with_reducible refine wpMixP_step (fun K hK => ?_)); go_simp; first | ((with_reducible refine hK _ ?_); clear hK K) | (rw [if_neg (by decide)]; (with_reducible refine hK _ ?_); clear hK K) | (apply Exists.intro; refine ⟨fun g => ?_, hK _ ?_⟩; ((with_reducible refine Calls.mono (k_A g.w (iBlA g)) ?_); exact fun _ _ h => h); clear hK K) | (apply Exists.intro; refine ⟨fun g => ?_, hK _ ?_⟩; ((with_reducible refine Calls.mono (k_B g.w (iBeB g)) ?_); exact fun _ _ h => h); clear hK K) | (refine ⟨⟨rfl, fun g => ?_⟩, hK _ ?_⟩; (exact ⟨_, run_store_row _ _ _ rfl (w.heap.size + 1) 53 _ #[uv VA.b.v, uv VA.b.m, uv VA.lo, uv VA.hi, sv VA.sl, sv VA.sh] rfl rfl (((hI _).1 g.is).2.2.1).choose_spec.1 (by kernel_rfl) (((hI _).1 g.is).2.2.1).choose_spec.2 (by simp [Value.oneCell']), hS34 g⟩); clear hK K) | (refine ⟨⟨rfl, fun g => ?_⟩, hK _ ?_⟩; (exact ⟨_, run_store_row _ _ _ rfl (w.heap.size + 1 + 1) 53 _ #[uv VB.b.v, uv VB.b.m, uv VB.lo, uv VB.hi, sv VB.sl, sv VB.sh] rfl rfl (((hI _).1 g.is).2.2.2.1).choose_spec.1 (by kernel_rfl) (((hI _).1 g.is).2.2.2.1).choose_spec.2 (by simp [Value.oneCell']), hS35 g⟩); clear hK K))
    refine wpMixP_nil ?_
    intro w4 hIw hDw
    clear cXB
    clear hS34 hS35 iBc iBlA iBeB cc0 cc1 cc2 cc3 cc4 cc5 clA0
    clear hB
    obtain ⟨hB, Bc, _, _, BlA, BeB⟩ := (hI _).1 hIw
    have Bx := ((hD _ _).1 (hDw 34 (by decide))).1 rfl
    have By := ((hD _ _).1 (hDw 35 (by decide))).2 rfl
    clear hne_I; clear hIw hDw hI hD I D lc lx ly llA leB
    obtain ⟨cc0, cc1, cc2, cc3, cc4, cc5⟩ := cells6 Bc
    have fc := Bc.frozen; have lc := Bc.lt
    obtain ⟨cx0, cx1, cx2, cx3, cx4, cx5⟩ := cells6 Bx
    have fx := Bx.frozen; have lx := Bx.lt
    obtain ⟨cy0, cy1, cy2, cy3, cy4, cy5⟩ := cells6 By
    have fy := By.frozen; have ly := By.lt
    have clA0 : w4.cell? ⟨glA, 0, none⟩ = some (.int .u64 5) := BlA.cell 0
    have flA := BlA.frozen; have llA := BlA.lt
    have feB := BeB.frozen; have leB := BeB.lt
    go_wp2
    exact bodyPost_ret (v := .tuple #[rv VA, rv VB, uv 5#64, uv XB]) (by simp [results, Try.results21, go_sem, cx0, cx1, cx2, cx3, cx4, cx5, cy0, cy1, cy2, cy3, cy4, cy5, lx, ly, show T 5#64 = 5 from rfl]) rfl ⟨rfl, by repeat (first | (with_reducible exact hB) | (with_reducible refine Bl_set ?_ (by first | omega | (simp; done) | (simp; omega)) _) | with_reducible apply Bl_alloc)⟩
set_option maxRecDepth 100000 in
set_option maxHeartbeats 3200000 in
theorem ranges_nn (aoA : Option Addr) (capA : Nat) (aoB : Option Addr) (capB : Nat) (p q : Int) (m0 m1 : W) (w : World)   : Calls Try.prog 21 #[.agg #[.slice aoA 0 capA, .slice aoB 0 capB, .int .i64 p, .int .i64 q, uv m0, uv m1]] w fun e w' => e = .returned (.tuple #[rv (PlainScalar.around [5#64] m0), rv (PlainScalar.around [3#64] m1), uv ([5#64].getD (idx p 1) 0#64), uv ([3#64].getD (idx q 1) 0#64)]) ∧ Below w.heap.size w w' := by
  have hm0 : min (0 : Int) 8 = 0 := rfl
  obtain ⟨i0, hi, hz0, hz1, hz2⟩ := info_parts info_u64
  obtain ⟨ix, e_ix⟩ : ∃ z', z' = idx p 1 := ⟨_, rfl⟩; obtain ⟨iy, e_iy⟩ : ∃ z', z' = idx q 1 := ⟨_, rfl⟩
  have h_ix : IntKind.i64.wrap ((IntKind.u64.wrap p).tmod 1) = (ix : Int) := by rw [e_ix]; exact idx_is p 1 (by omega) (by omega)
  have l_ix : ix < 1 := by rw [e_ix]; exact idx_lt _ (by omega)
  have h_iy : IntKind.i64.wrap ((IntKind.u64.wrap q).tmod 1) = (iy : Int) := by rw [e_iy]; exact idx_is q 1 (by omega) (by omega)
  have l_iy : iy < 1 := by rw [e_iy]; exact idx_lt _ (by omega)
  rw [← e_ix, ← e_iy]; clear e_ix e_iy
  obtain rfl : ix = 0 := by omega
  obtain ⟨VA, e_VA⟩ : ∃ z', z' = PlainScalar.around [5#64] m0 := ⟨_, rfl⟩; obtain ⟨XA, e_XA⟩ : ∃ z', z' = [5#64].getD 0 0#64 := ⟨_, rfl⟩
  rw [← e_VA, ← e_XA]
  obtain rfl : XA = 5#64 := e_XA
  have HVA := Lib.hid e_VA; clear e_VA
  obtain rfl : iy = 0 := by omega
  obtain ⟨VB, e_VB⟩ : ∃ z', z' = PlainScalar.around [3#64] m1 := ⟨_, rfl⟩; obtain ⟨XB, e_XB⟩ : ∃ z', z' = [3#64].getD 0 0#64 := ⟨_, rfl⟩
  rw [← e_VB, ← e_XB]
  obtain rfl : XB = 3#64 := e_XB
  have HVB := Lib.hid e_VB; clear e_VB
  have Hx := Lib.hid h_ix; have Hy := Lib.hid h_iy; clear h_ix h_iy
  go_enter Try.func21, Try.ntmps21
  go_upto_region 1 with fail
  obtain ⟨gc, hgc⟩ : ∃ g, g = w.heap.size := ⟨_, rfl⟩
  obtain ⟨gx, hgx⟩ : ∃ g, g = w.heap.size + 1 := ⟨_, rfl⟩
  obtain ⟨gy, hgy⟩ : ∃ g, g = w.heap.size + 1 + 1 := ⟨_, rfl⟩
  have Bc : Blk (((w.alloc (.cells #[.slice aoA 0 capA, .slice aoB 0 capB, .int .i64 p, .int .i64 q, uv m0, uv m1] 49)).alloc (.cells #[.int .u64 0, .int .u64 0, .int .u64 0, .int .u64 0, .int .i64 0, .int .i64 0] 53)).alloc (.cells #[.int .u64 0, .int .u64 0, .int .u64 0, .int .u64 0, .int .i64 0, .int .i64 0] 53)) (w.heap.size) 49 #[.slice aoA 0 capA, .slice aoB 0 capB, .int .i64 p, .int .i64 q, uv m0, uv m1] := (((Blk.new w 49 #[.slice aoA 0 capA, .slice aoB 0 capB, .int .i64 p, .int .i64 q, uv m0, uv m1])).alloc _).alloc _
  have Bx : Blk (((w.alloc (.cells #[.slice aoA 0 capA, .slice aoB 0 capB, .int .i64 p, .int .i64 q, uv m0, uv m1] 49)).alloc (.cells #[.int .u64 0, .int .u64 0, .int .u64 0, .int .u64 0, .int .i64 0, .int .i64 0] 53)).alloc (.cells #[.int .u64 0, .int .u64 0, .int .u64 0, .int .u64 0, .int .i64 0, .int .i64 0] 53)) (w.heap.size + 1) 53 #[.int .u64 0, .int .u64 0, .int .u64 0, .int .u64 0, .int .i64 0, .int .i64 0] := ((by simpa using Blk.new (w.alloc (.cells #[.slice aoA 0 capA, .slice aoB 0 capB, .int .i64 p, .int .i64 q, uv m0, uv m1] 49)) 53 #[.int .u64 0, .int .u64 0, .int .u64 0, .int .u64 0, .int .i64 0, .int .i64 0] : Blk _ (w.heap.size + 1) 53 #[.int .u64 0, .int .u64 0, .int .u64 0, .int .u64 0, .int .i64 0, .int .i64 0])).alloc _
  have By : Blk (((w.alloc (.cells #[.slice aoA 0 capA, .slice aoB 0 capB, .int .i64 p, .int .i64 q, uv m0, uv m1] 49)).alloc (.cells #[.int .u64 0, .int .u64 0, .int .u64 0, .int .u64 0, .int .i64 0, .int .i64 0] 53)).alloc (.cells #[.int .u64 0, .int .u64 0, .int .u64 0, .int .u64 0, .int .i64 0, .int .i64 0] 53)) (w.heap.size + 1 + 1) 53 #[.int .u64 0, .int .u64 0, .int .u64 0, .int .u64 0, .int .i64 0, .int .i64 0] := (by simpa using Blk.new ((w.alloc (.cells #[.slice aoA 0 capA, .slice aoB 0 capB, .int .i64 p, .int .i64 q, uv m0, uv m1] 49)).alloc (.cells #[.int .u64 0, .int .u64 0, .int .u64 0, .int .u64 0, .int .i64 0, .int .i64 0] 53)) 53 #[.int .u64 0, .int .u64 0, .int .u64 0, .int .u64 0, .int .i64 0, .int .i64 0] : Blk _ (w.heap.size + 1 + 1) 53 #[.int .u64 0, .int .u64 0, .int .u64 0, .int .u64 0, .int .i64 0, .int .i64 0])
  have hB : Below w.heap.size w (((w.alloc (.cells #[.slice aoA 0 capA, .slice aoB 0 capB, .int .i64 p, .int .i64 q, uv m0, uv m1] 49)).alloc (.cells #[.int .u64 0, .int .u64 0, .int .u64 0, .int .u64 0, .int .i64 0, .int .i64 0] 53)).alloc (.cells #[.int .u64 0, .int .u64 0, .int .u64 0, .int .u64 0, .int .i64 0, .int .i64 0] 53)) := (Bl_alloc (Bl_alloc (Bl_alloc (Bl_refl w) _) _) _)
  clear hgc
  clear gc
  clear hgx
  clear gx
  clear hgy
  clear gy
  generalize (((w.alloc (.cells #[.slice aoA 0 capA, .slice aoB 0 capB, .int .i64 p, .int .i64 q, uv m0, uv m1] 49)).alloc (.cells #[.int .u64 0, .int .u64 0, .int .u64 0, .int .u64 0, .int .i64 0, .int .i64 0] 53)).alloc (.cells #[.int .u64 0, .int .u64 0, .int .u64 0, .int .u64 0, .int .i64 0, .int .i64 0] 53)) = w1 at *
  obtain ⟨cc0, cc1, cc2, cc3, cc4, cc5⟩ := cells6 Bc
  have fc := Bc.frozen; have lc := Bc.lt
  obtain ⟨cx0, cx1, cx2, cx3, cx4, cx5⟩ := cells6 Bx
  have fx := Bx.frozen; have lx := Bx.lt
  obtain ⟨cy0, cy1, cy2, cy3, cy4, cy5⟩ := cells6 By
  have fy := By.frozen; have ly := By.lt
  go_upto_region 2 with (at_builtin; refine wpList_append_empty rfl (.tmp 8) (.tmp 15) 46 rfl 22 i0 Try.underlying46 hi w1.heap.size 0 1 1 rfl (by omega) aoA capA rfl ?_)
  clear cc0 cc1 cc2 cc3 cc4 cc5 fc lc
  clear cx0 cx1 cx2 cx3 cx4 cx5 fx lx
  clear cy0 cy1 cy2 cy3 cy4 cy5 fy ly
  have BlA := Blk.new w1 22 #[.int .u64 5]
  have hglA := hB.size
  have hnclA := Nat.ne_of_lt Bc.lt; have hltclA := Bc.lt
  have hnxlA := Nat.ne_of_lt Bx.lt; have hltxlA := Bx.lt
  have hnylA := Nat.ne_of_lt By.lt; have hltylA := By.lt
  replace Bc : Blk (w1.alloc (.cells #[.int .u64 5] 22)) (w.heap.size) 49 #[.slice aoA 0 capA, .slice aoB 0 capB, .int .i64 p, .int .i64 q, uv m0, uv m1] := Bc.alloc _
  replace Bx : Blk (w1.alloc (.cells #[.int .u64 5] 22)) (w.heap.size + 1) 53 #[.int .u64 0, .int .u64 0, .int .u64 0, .int .u64 0, .int .i64 0, .int .i64 0] := Bx.alloc _
  replace By : Blk (w1.alloc (.cells #[.int .u64 5] 22)) (w.heap.size + 1 + 1) 53 #[.int .u64 0, .int .u64 0, .int .u64 0, .int .u64 0, .int .i64 0, .int .i64 0] := By.alloc _
  replace hB : Below w.heap.size w (w1.alloc (.cells #[.int .u64 5] 22)) := Bl_alloc hB _
  generalize (w1.alloc (.cells #[.int .u64 5] 22)) = w2 at *
  generalize w1.heap.size = glA at *
  obtain ⟨cc0, cc1, cc2, cc3, cc4, cc5⟩ := cells6 Bc
  have fc := Bc.frozen; have lc := Bc.lt
  obtain ⟨cx0, cx1, cx2, cx3, cx4, cx5⟩ := cells6 Bx
  have fx := Bx.frozen; have lx := Bx.lt
  obtain ⟨cy0, cy1, cy2, cy3, cy4, cy5⟩ := cells6 By
  have fy := By.frozen; have ly := By.lt
  have clA0 : w2.cell? ⟨glA, 0, none⟩ = some (.int .u64 5) := BlA.cell 0
  have flA := BlA.frozen; have llA := BlA.lt
  go_upto_region 3 with (at_builtin; refine wpList_append_empty rfl (.tmp 17) (.tmp 24) 46 rfl 22 i0 Try.underlying46 hi w2.heap.size 0 1 1 rfl (by omega) aoB capB rfl ?_)
  clear cc0 cc1 cc2 cc3 cc4 cc5 fc lc
  clear cx0 cx1 cx2 cx3 cx4 cx5 fx lx
  clear cy0 cy1 cy2 cy3 cy4 cy5 fy ly
  clear clA0 flA llA
  have BlB := Blk.new w2 22 #[.int .u64 3]
  have hglB := hB.size
  have hnclB := Nat.ne_of_lt Bc.lt; have hltclB := Bc.lt
  have hnxlB := Nat.ne_of_lt Bx.lt; have hltxlB := Bx.lt
  have hnylB := Nat.ne_of_lt By.lt; have hltylB := By.lt
  have hnlAlB := Nat.ne_of_lt BlA.lt; have hltlAlB := BlA.lt
  replace Bc : Blk (w2.alloc (.cells #[.int .u64 3] 22)) (w.heap.size) 49 #[.slice aoA 0 capA, .slice aoB 0 capB, .int .i64 p, .int .i64 q, uv m0, uv m1] := Bc.alloc _
  replace Bx : Blk (w2.alloc (.cells #[.int .u64 3] 22)) (w.heap.size + 1) 53 #[.int .u64 0, .int .u64 0, .int .u64 0, .int .u64 0, .int .i64 0, .int .i64 0] := Bx.alloc _
  replace By : Blk (w2.alloc (.cells #[.int .u64 3] 22)) (w.heap.size + 1 + 1) 53 #[.int .u64 0, .int .u64 0, .int .u64 0, .int .u64 0, .int .i64 0, .int .i64 0] := By.alloc _
  replace BlA : Blk (w2.alloc (.cells #[.int .u64 3] 22)) (glA) 22 #[.int .u64 5] := BlA.alloc _
  replace hB : Below w.heap.size w (w2.alloc (.cells #[.int .u64 3] 22)) := Bl_alloc hB _
  generalize (w2.alloc (.cells #[.int .u64 3] 22)) = w3 at *
  generalize w2.heap.size = glB at *
  obtain ⟨cc0, cc1, cc2, cc3, cc4, cc5⟩ := cells6 Bc
  have fc := Bc.frozen; have lc := Bc.lt
  obtain ⟨cx0, cx1, cx2, cx3, cx4, cx5⟩ := cells6 Bx
  have fx := Bx.frozen; have lx := Bx.lt
  obtain ⟨cy0, cy1, cy2, cy3, cy4, cy5⟩ := cells6 By
  have fy := By.frozen; have ly := By.lt
  have clA0 : w3.cell? ⟨glA, 0, none⟩ = some (.int .u64 5) := BlA.cell 0
  have flA := BlA.frozen; have llA := BlA.lt
  have clB0 : w3.cell? ⟨glB, 0, none⟩ = some (.int .u64 3) := BlB.cell 0
  have flB := BlB.frozen; have llB := BlB.lt
  go_upto_region 7 with fail
  have k_A : ∀ w : World, Blk w glA 22 #[.int .u64 5] → Calls Try.prog 42 #[.slice (some ⟨glA, 0, none⟩) 1 1, uv m0] w fun e w' => e = .returned (rv VA) ∧ Below w.heap.size w w' := fun w h => by rw [HVA.out]; exact around_c [5#64] 1 rfl (by omega) (by omega) glA 0 1 m0 w (one_at (h.cell 0))
  have k_B : ∀ w : World, Blk w glB 22 #[.int .u64 3] → Calls Try.prog 42 #[.slice (some ⟨glB, 0, none⟩) 1 1, uv m1] w fun e w' => e = .returned (rv VB) ∧ Below w.heap.size w w' := fun w h => by rw [HVB.out]; exact around_c [3#64] 1 rfl (by omega) (by omega) glB 0 1 m1 w (one_at (h.cell 0))
  have h_ix := Hx.out; have h_iy := Hy.out; clear Hx Hy
  have hwk1 : IntKind.u64.wrap 1 = 1 := by rw [IntKind.wrap_u64]; rfl
  have ht1 : IntKind.i64.wrap 0 = 0 := by rw [IntKind.wrap_i64]; rfl
  go_wp2_with fail
  clear cc0 cc1 cc2 cc3 cc4 cc5 fc lc
  clear cx0 cx1 cx2 cx3 cx4 cx5 fx lx
  clear cy0 cy1 cy2 cy3 cy4 cy5 fy ly
  clear clA0 flA llA
  clear clB0 flB llB
  obtain ⟨I, hI⟩ : ∃ I : World → Prop, ∀ x, I x ↔ (Below w.heap.size w x ∧ Blk x (w.heap.size) 49 #[.slice aoA 0 capA, .slice aoB 0 capB, .int .i64 p, .int .i64 q, uv m0, uv m1] ∧ (∃ cs, Blk x (w.heap.size + 1) 53 cs ∧ cs.size = 6) ∧ (∃ cs, Blk x (w.heap.size + 1 + 1) 53 cs ∧ cs.size = 6) ∧ Blk x (glA) 22 #[.int .u64 5] ∧ Blk x (glB) 22 #[.int .u64 3]) := ⟨_, fun _ => Iff.rfl⟩
  obtain ⟨D, hD⟩ : ∃ D : Nat → World → Prop, ∀ k x, D k x ↔ ((k = 34 → Blk x (w.heap.size + 1) 53 #[uv VA.b.v, uv VA.b.m, uv VA.lo, uv VA.hi, sv VA.sl, sv VA.sh]) ∧ (k = 35 → Blk x (w.heap.size + 1 + 1) 53 #[uv VB.b.v, uv VB.b.m, uv VB.lo, uv VB.hi, sv VB.sl, sv VB.sh])) := ⟨_, fun _ _ => Iff.rfl⟩
  have hI0 : I w3 := (hI _).2 ⟨hB, Bc, ⟨_, Bx, rfl⟩, ⟨_, By, rfl⟩, BlA, BlB⟩
  have lc := Bc.lt; clear Bc
  have iBc : ∀ g : In I, Blk g.w (w.heap.size) 49 #[.slice aoA 0 capA, .slice aoB 0 capB, .int .i64 p, .int .i64 q, uv m0, uv m1] := fun g => ((hI _).1 g.is).2.1
  have cc0 : ∀ g : In I, g.w.cell? ⟨w.heap.size, 0, none⟩ = some (.slice aoA 0 capA) := fun g => (iBc g).cell 0
  have cc1 : ∀ g : In I, g.w.cell? ⟨w.heap.size, 1, none⟩ = some (.slice aoB 0 capB) := fun g => (iBc g).cell 1
  have cc2 : ∀ g : In I, g.w.cell? ⟨w.heap.size, 2, none⟩ = some (.int .i64 p) := fun g => (iBc g).cell 2
  have cc3 : ∀ g : In I, g.w.cell? ⟨w.heap.size, 3, none⟩ = some (.int .i64 q) := fun g => (iBc g).cell 3
  have cc4 : ∀ g : In I, g.w.cell? ⟨w.heap.size, 4, none⟩ = some (uv m0) := fun g => (iBc g).cell 4
  have cc5 : ∀ g : In I, g.w.cell? ⟨w.heap.size, 5, none⟩ = some (uv m1) := fun g => (iBc g).cell 5
  have lx := Bx.lt; clear Bx
  have ly := By.lt; clear By
  have llA := BlA.lt; clear BlA
  have iBlA : ∀ g : In I, Blk g.w (glA) 22 #[.int .u64 5] := fun g => ((hI _).1 g.is).2.2.2.2.1
  have clA0 : ∀ g : In I, g.w.cell? ⟨glA, 0, none⟩ = some (.int .u64 5) := fun g => (iBlA g).cell 0
  have llB := BlB.lt; clear BlB
  have iBlB : ∀ g : In I, Blk g.w (glB) 22 #[.int .u64 3] := fun g => ((hI _).1 g.is).2.2.2.2.2
  have clB0 : ∀ g : In I, g.w.cell? ⟨glB, 0, none⟩ = some (.int .u64 3) := fun g => (iBlB g).cell 0
  have hIg : ∀ x y, Grows x y → I x → I y := fun x y hg hx => by
    obtain ⟨hb, m0, ⟨s1, m1, z1⟩, ⟨s2, m2, z2⟩, m3, m4⟩ := (hI _).1 hx
    exact (hI _).2 ⟨Bl_trans hb hg, m0.next hg, ⟨s1, m1.next hg, z1⟩, ⟨s2, m2.next hg, z2⟩, m3.next hg, m4.next hg⟩
  have hDg : ∀ k x y, Grows x y → D k x → D k y := fun k x y hg hx => by
    obtain ⟨d34, d35⟩ := (hD _ _).1 hx
    exact (hD _ _).2 ⟨fun e => (d34 e).next hg, fun e => (d35 e).next hg⟩
  have hDt : ∀ k, (k == 34 || k == 35) = false → ∀ x, D k x := fun k hk x => (hD _ _).2 ⟨fun e => by subst e; simp at hk, fun e => by subst e; simp at hk⟩
  have hS34 : ∀ g : In I, I (g.w.setRow (w.heap.size + 1) #[uv VA.b.v, uv VA.b.m, uv VA.lo, uv VA.hi, sv VA.sl, sv VA.sh]) ∧ D 34 (g.w.setRow (w.heap.size + 1) #[uv VA.b.v, uv VA.b.m, uv VA.lo, uv VA.hi, sv VA.sl, sv VA.sh]) ∧ ∀ j, D j g.w → D j (g.w.setRow (w.heap.size + 1) #[uv VA.b.v, uv VA.b.m, uv VA.lo, uv VA.hi, sv VA.sl, sv VA.sh]) := fun g => by
    obtain ⟨hb, m0, ⟨s1, m1, z1⟩, ⟨s2, m2, z2⟩, m3, m4⟩ := (hI _).1 g.is
    refine ⟨(hI _).2 ⟨Bl_row hb (by first | omega | (simp; omega)) _, (m0.row_other (by first | (simp; done) | (simp; omega) | (simp [*]; done) | (simp only [ne_eq]; constructor <;> omega))), ⟨_, m1.row_same, rfl⟩, ⟨s2, (m2.row_other (by first | (simp; done) | (simp; omega) | (simp [*]; done) | (simp only [ne_eq]; constructor <;> omega))), z2⟩, (m3.row_other (by first | (simp; done) | (simp; omega) | (simp [*]; done) | (simp only [ne_eq]; constructor <;> omega))), (m4.row_other (by first | (simp; done) | (simp; omega) | (simp [*]; done) | (simp only [ne_eq]; constructor <;> omega)))⟩, (hD _ _).2 ⟨fun _ => m1.row_same, fun e => absurd e (by decide)⟩, fun j hj => (hD _ _).2 ⟨fun _ => m1.row_same, fun e => (((hD _ _).1 hj).2 e).row_other (by first | (simp; done) | (simp; omega) | (simp [*]; done) | (simp only [ne_eq]; constructor <;> omega))⟩⟩
  have hS35 : ∀ g : In I, I (g.w.setRow (w.heap.size + 1 + 1) #[uv VB.b.v, uv VB.b.m, uv VB.lo, uv VB.hi, sv VB.sl, sv VB.sh]) ∧ D 35 (g.w.setRow (w.heap.size + 1 + 1) #[uv VB.b.v, uv VB.b.m, uv VB.lo, uv VB.hi, sv VB.sl, sv VB.sh]) ∧ ∀ j, D j g.w → D j (g.w.setRow (w.heap.size + 1 + 1) #[uv VB.b.v, uv VB.b.m, uv VB.lo, uv VB.hi, sv VB.sl, sv VB.sh]) := fun g => by
    obtain ⟨hb, m0, ⟨s1, m1, z1⟩, ⟨s2, m2, z2⟩, m3, m4⟩ := (hI _).1 g.is
    refine ⟨(hI _).2 ⟨Bl_row hb (by first | omega | (simp; omega)) _, (m0.row_other (by first | (simp; done) | (simp; omega) | (simp [*]; done) | (simp only [ne_eq]; constructor <;> omega))), ⟨s1, (m1.row_other (by first | (simp; done) | (simp; omega) | (simp [*]; done) | (simp only [ne_eq]; constructor <;> omega))), z1⟩, ⟨_, m2.row_same, rfl⟩, (m3.row_other (by first | (simp; done) | (simp; omega) | (simp [*]; done) | (simp only [ne_eq]; constructor <;> omega))), (m4.row_other (by first | (simp; done) | (simp; omega) | (simp [*]; done) | (simp only [ne_eq]; constructor <;> omega)))⟩, (hD _ _).2 ⟨fun e => absurd e (by decide), fun _ => m2.row_same⟩, fun j hj => (hD _ _).2 ⟨fun e => (((hD _ _).1 hj).1 e).row_other (by first | (simp; done) | (simp; omega) | (simp [*]; done) | (simp only [ne_eq]; constructor <;> omega)), fun _ => m2.row_same⟩⟩
  refine wp_region_mixP I D (fun k => k == 34 || k == 35) (by kernel_rfl) (by kernel_rfl) (by kernel_rfl) hI0 hIg hDg hDt ?_
  have hne_I : Nonempty (In I) := ⟨⟨_, hI0⟩⟩
  clear hIg hDg hDt hI0
  repeat ((with_reducible refine wpMixP_step (fun K hK => ?_)); go_simp; first | ((with_reducible refine hK _ ?_); clear hK K) | (rw [if_neg (by decide)]; (with_reducible refine hK _ ?_); clear hK K) | (apply Exists.intro; refine ⟨fun g => ?_, hK _ ?_⟩; ((with_reducible refine Calls.mono (k_A g.w (iBlA g)) ?_); exact fun _ _ h => h); clear hK K) | (apply Exists.intro; refine ⟨fun g => ?_, hK _ ?_⟩; ((with_reducible refine Calls.mono (k_B g.w (iBlB g)) ?_); exact fun _ _ h => h); clear hK K) | (refine ⟨⟨rfl, fun g => ?_⟩, hK _ ?_⟩; (exact ⟨_, run_store_row _ _ _ rfl (w.heap.size + 1) 53 _ #[uv VA.b.v, uv VA.b.m, uv VA.lo, uv VA.hi, sv VA.sl, sv VA.sh] rfl rfl (((hI _).1 g.is).2.2.1).choose_spec.1 (by kernel_rfl) (((hI _).1 g.is).2.2.1).choose_spec.2 (by simp [Value.oneCell']), hS34 g⟩); clear hK K) | (refine ⟨⟨rfl, fun g => ?_⟩, hK _ ?_⟩; (exact ⟨_, run_store_row _ _ _ rfl (w.heap.size + 1 + 1) 53 _ #[uv VB.b.v, uv VB.b.m, uv VB.lo, uv VB.hi, sv VB.sl, sv VB.sh] rfl rfl (((hI _).1 g.is).2.2.2.1).choose_spec.1 (by kernel_rfl) (((hI _).1 g.is).2.2.2.1).choose_spec.2 (by simp [Value.oneCell']), hS35 g⟩); clear hK K))
  refine wpMixP_nil ?_
  intro w4 hIw hDw
  clear hS34 hS35 iBc iBlA iBlB cc0 cc1 cc2 cc3 cc4 cc5 clA0 clB0
  clear hB
  obtain ⟨hB, Bc, _, _, BlA, BlB⟩ := (hI _).1 hIw
  have Bx := ((hD _ _).1 (hDw 34 (by decide))).1 rfl
  have By := ((hD _ _).1 (hDw 35 (by decide))).2 rfl
  clear hne_I; clear hIw hDw hI hD I D lc lx ly llA llB
  obtain ⟨cc0, cc1, cc2, cc3, cc4, cc5⟩ := cells6 Bc
  have fc := Bc.frozen; have lc := Bc.lt
  obtain ⟨cx0, cx1, cx2, cx3, cx4, cx5⟩ := cells6 Bx
  have fx := Bx.frozen; have lx := Bx.lt
  obtain ⟨cy0, cy1, cy2, cy3, cy4, cy5⟩ := cells6 By
  have fy := By.frozen; have ly := By.lt
  have clA0 : w4.cell? ⟨glA, 0, none⟩ = some (.int .u64 5) := BlA.cell 0
  have flA := BlA.frozen; have llA := BlA.lt
  have clB0 : w4.cell? ⟨glB, 0, none⟩ = some (.int .u64 3) := BlB.cell 0
  have flB := BlB.frozen; have llB := BlB.lt
  go_wp2
  exact bodyPost_ret (v := .tuple #[rv VA, rv VB, uv 5#64, uv 3#64]) (by simp [results, Try.results21, go_sem, cx0, cx1, cx2, cx3, cx4, cx5, cy0, cy1, cy2, cy3, cy4, cy5, lx, ly, show T 5#64 = 5 from rfl, show T 3#64 = 3 from rfl]) rfl ⟨rfl, by repeat (first | (with_reducible exact hB) | (with_reducible refine Bl_set ?_ (by first | omega | (simp; done) | (simp; omega)) _) | with_reducible apply Bl_alloc)⟩
/-- A list of numbers that came in, cut at eight; of an empty one a number of the law's own. -/
def Came (w : World) (v : Value) (five : W) (L : List W) : Prop :=
  (∃ ao cap, v = .slice ao 0 cap ∧ L = [five]) ∨
    ∃ g off n cap, v = .slice (some ⟨g, off, none⟩) n cap ∧ 0 < n ∧ n ≤ cap ∧ L.length = min n 8 ∧ ∀ j, j < min n 8 → w.cell? ⟨g, off + j, none⟩ = some (uv (L.getD j 0#64))
theorem Came.pos {w : World} {v : Value} {five : W} {L : List W} (h : Came w v five L) : 0 < L.length := by
  rcases h with ⟨_, _, _, rfl⟩ | ⟨g, off, n, cap, _, h1, _, h2, _⟩
  · simp
  · omega
theorem Raw.came {w : World} {v : Value} {L : List W} (h : Raw w v L) (five : W) : ∃ L', Came w v five L' := by
  rcases h with ⟨ao, cap, e, _⟩ | h
  · exact ⟨_, .inl ⟨ao, cap, e, rfl⟩⟩
  · exact ⟨L, .inr h⟩
theorem Came.next {w w' : World} {v : Value} {five : W} {L : List W} (h : Came w v five L) (hb : Below w.heap.size w w') : Came w' v five L := by
  rcases h with h | ⟨g, off, n, cap, e, h1, h2, h3, h4⟩
  · exact .inl h
  · exact .inr ⟨g, off, n, cap, e, h1, h2, h3, fun j hj => (hb.cell (p := ⟨g, off + j, none⟩) (World.block_lt_of_cell? w _ (h4 j hj))).trans (h4 j hj)⟩
theorem ranges_c (A B : Value) (L M : List W) (p q : Int) (m0 m1 : W) (w : World) (hA : Came w A 5#64 L) (hB : Came w B 3#64 M) : Calls Try.prog 21 #[.agg #[A, B, .int .i64 p, .int .i64 q, uv m0, uv m1]] w fun e w' => e = .returned (.tuple #[rv (PlainScalar.around L m0), rv (PlainScalar.around M m1), uv (L.getD (idx p L.length) 0#64), uv (M.getD (idx q M.length) 0#64)]) ∧ Below w.heap.size w w' := by
  rcases hA with ⟨ao, c, rfl, rfl⟩ | ⟨g, off, n, cap, rfl, h1, h2, h3, h4⟩ <;> rcases hB with ⟨ao', c', rfl, rfl⟩ | ⟨g', off', n', cap', rfl, h1', h2', h3', h4'⟩
  · exact ranges_nn ao c ao' c' p q m0 m1 w
  · have := ranges_nf ao c g' off' n' cap' _ rfl M h3' h1' h2' p q m0 m1 w h4'
    rw [h3']; exact this
  · have := ranges_fn g off n cap _ rfl L h3 h1 h2 ao' c' p q m0 m1 w h4
    rw [h3]; exact this
  · have := ranges_ff g off n cap _ rfl L h3 h1 h2 g' off' n' cap' _ rfl M h3' h1' h2' p q m0 m1 w h4 h4'
    rw [h3, h3']; exact this
end Go.Proofs.Ytmghpoagpiljhab
