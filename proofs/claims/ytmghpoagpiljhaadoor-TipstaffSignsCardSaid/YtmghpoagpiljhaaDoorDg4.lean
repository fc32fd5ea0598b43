/- The walks of package digest: a length in eight bytes; appends of bytes. -/
import Derived.Test.YtmghpoagpiljhaaDoorDg3
import Derived.OwnWalk
import Derived.RangeFuncBox
set_option linter.unusedSimpArgs false
set_option linter.unusedVariables false
namespace Go.Proofs.YtmghpoagpiljhaaDoor
open Go.RowKit
theorem info_u8 : (Tryd.prog.info? 5).map (fun i => (i.zero, i.size, i.bytes)) = some (some (.int .u8 0), 1, 1) := by kernel_rfl
/-- A slice of bytes that the call made. -/
abbrev OwnB (w : World) (base : Nat) (v : Value) (n : Nat) (l : List (BitVec 8)) : Prop := w.ownsRow base 5 1 v n (l.map fun c => bv c)
theorem bvs_one (l : List (BitVec 8)) : ∀ u ∈ l.map (fun c => bv c), u.oneCell' = true := by
  intro u hu
  obtain ⟨c, _, rfl⟩ := List.mem_map.1 hu
  rfl
/-- Bytes are appended to such a one. -/
theorem wpList_app {ops : Array Oper} {rest : List Oper} {o : Oper} {a : Act} {w : World} {Q : Exit → Act → World → Prop} (hgd : o.guard = none) (s x : Operand) (ho : o.op = .call { callee := .builtin .append, args := #[s, x], argTypes := #[22, 22] })
    (base : Nat) (v : Value) (n : Nat) (l : List (BitVec 8)) (hs : a.eval s = v) (hown : OwnB w base v n l) (ad : Addr) (m c : Nat) (news : List (BitVec 8)) (hx : a.eval x = .slice (some ad) m c) (hl : news.length = m)
    (hnews : ∀ j, j < m → w.cell? (ad.add j) = some (bv (news.getD j 0))) (hb : n + m ≤ 140737488355328) (hbase : base ≤ w.heap.size)
    (h : ∀ v' w', OwnB w' base v' (n + m) (l ++ news) → w.grownBy w' v.ownBlock → wpList Tryd.prog ops Q rest (a.put o.dst v') w') : wpList Tryd.prog ops Q (o :: rest) a w := by
  obtain ⟨i0, hi, hz0, hz1, hz2⟩ := info_parts info_u8
  refine wpList_append_own w hgd s x 22 ho base 5 i0 (.int .u8 0) 1 1 Tryd.underlying22 hi hz0 hz1 hz2 rfl (by decide) v n _ hs hown ad m c (news.map fun c => bv c) hx (by simpa using hl) ?_ (bvs_one _) (by unfold maxLen; omega) (by omega) hbase ?_
  · intro j u hj
    have hlt : j < news.length := by
      have := (List.getElem?_eq_some_iff.1 hj).1
      simpa using this
    rw [hnews j (by omega), ← hj, List.getElem?_map, List.getD_eq_getElem?_getD, List.getElem?_eq_getElem hlt]
    rfl
  · intro v' w' h1 h2 _
    exact h v' w' (by rw [← List.map_append] at h1; exact h1) h2
theorem OwnB.at {w : World} {base : Nat} {v : Value} {n : Nat} {l : List (BitVec 8)} (h : OwnB w base v n l) (hn : 0 < n) : ∃ g cap, v = .slice (some ⟨g, 0, none⟩) n cap ∧ base ≤ g ∧ g < w.heap.size ∧ n ≤ cap ∧ (∀ j, j < n → w.cell? ⟨g, j, none⟩ = some (bv (l.getD j 0))) ∧ l.length = n := by
  have hl : l.length = n := by have := h.1; simpa using this
  rcases h.2 with ⟨_, h0⟩ | ⟨g, cap, cur, rfl, hb, hg, hnc, hcm, hcs, ht⟩
  · omega
  · refine ⟨g, cap, rfl, hb, ?_, hnc, fun j hj => ?_, hl⟩
    · rcases Nat.lt_or_ge g w.heap.size with hlt | hge
      · exact hlt
      · rw [Array.getElem?_eq_none hge] at hg; cases hg
    · rw [h.cellAt j (by omega), List.getElem?_map, List.getD_eq_getElem?_getD, List.getElem?_eq_getElem (by omega)]
      rfl
theorem OwnB.next {w w' : World} {base : Nat} {v : Value} {n : Nat} {l : List (BitVec 8)} (h : OwnB w base v n l) (hb : Below w.heap.size w w') : OwnB w' base v n l := by
  refine ⟨h.1, ?_⟩
  rcases h.2 with h0 | ⟨g, cap, cur, hv, hbg, hg, hr⟩
  · exact .inl h0
  · refine .inr ⟨g, cap, cur, hv, hbg, ?_, hr⟩
    rw [hb.block g ?_, hg]
    rcases Nat.lt_or_ge g w.heap.size with hlt | hge
    · exact hlt
    · rw [Array.getElem?_eq_none hge] at hg; cases hg
theorem OwnB.low {w : World} {base b : Nat} {v : Value} {n : Nat} {l : List (BitVec 8)} (h : OwnB w base v n l) (hb : b ≤ base) : OwnB w b v n l := by
  refine ⟨h.1, ?_⟩
  rcases h.2 with h0 | ⟨g, cap, cur, hv, hbg, hr⟩
  · exact .inl h0
  · exact .inr ⟨g, cap, cur, hv, by omega, hr⟩
/-- Behind an append: what was there ahead of the row is as it was. -/
theorem Bl_grown {w0 w w' : World} {v : Value} {n : Nat} {l : List (BitVec 8)} {base : Nat} (hB : Below w0.heap.size w0 w) (hbase : w0.heap.size ≤ base) (ho : OwnB w base v n l) (hg : w.grownBy w' v.ownBlock) : Below w0.heap.size w0 w' :=
  hB.grown hg hB.size fun k e => by
    rcases ho.2 with ⟨rfl, _⟩ | ⟨g, cap, cur, rfl, hb, _⟩
    · cases e
    · obtain rfl : g = k := Option.some.inj e
      omega
theorem len8_at (x : W) : ∀ k, k < 8 → (PlainSha.len8 x.toNat).getD k 0 = (x >>> (8 * (7 - k))).setWidth 8 := by
  intro k hk
  have e : ∀ s, BitVec.ofNat 8 (x.toNat >>> s) = (x >>> s).setWidth 8 := fun s => by
    apply BitVec.eq_of_toNat_eq
    rw [BitVec.toNat_ofNat, BitVec.toNat_setWidth, BitVec.toNat_ushiftRight]
  match k, hk with
  | 0, _ => exact e 56
  | 1, _ => exact e 48
  | 2, _ => exact e 40
  | 3, _ => exact e 32
  | 4, _ => exact e 24
  | 5, _ => exact e 16
  | 6, _ => exact e 8
  | 7, _ => exact e 0
theorem new1 (w : World) (c : BitVec 8) (t : TypeId) : ∀ j, j < 1 → (w.alloc (.cells #[bv c] t)).cell? ((⟨w.heap.size, 0, none⟩ : Addr).add j) = some (bv ([c].getD j 0)) := by
  intro j hj
  obtain rfl : j = 0 := by omega
  rw [add_off, (Blk.new w t #[bv c]).cell]
  rfl
/-- A call hands back a new slice of bytes. -/
def RetB (w : World) (n : Nat) (l : List (BitVec 8)) (e : Ending) (w' : World) : Prop :=
  ∃ g cap, e = .returned (.slice (some ⟨g, 0, none⟩) n cap) ∧ Below w.heap.size w w' ∧ w.heap.size ≤ g ∧ g < w'.heap.size ∧ n ≤ cap ∧ (∀ j, j < n → w'.cell? ⟨g, j, none⟩ = some (bv (l.getD j 0))) ∧ l.length = n
theorem take_next {α : Type} (l : List α) (d : α) (k : Nat) (h : k < l.length) : l.take (k + 1) = l.take k ++ [l.getD k d] := by
  rw [List.take_add_one, List.getD_eq_getElem?_getD, List.getElem?_eq_getElem h]
  rfl
set_option maxRecDepth 100000 in
set_option maxHeartbeats 800000 in
theorem length_c (x : W) (w : World) : Calls Tryd.prog 24 #[.int .u64 (T x)] w (RetB w 8 (PlainSha.len8 x.toNat)) := by
  obtain ⟨l, hl⟩ : ∃ l, l = PlainSha.len8 x.toNat := ⟨_, rfl⟩
  have HL := Lib.hid (show ∀ k, k < 8 → l.getD k 0 = (x >>> (8 * (7 - k))).setWidth 8 by rw [hl]; exact len8_at x)
  have hll : l.length = 8 := by rw [hl]; rfl
  rw [← hl]; clear hl; have HLL := Lib.hid hll; clear hll
  go_enter Tryd.func24, Tryd.ntmps24
  go_wp2_with fail
  go_loopg [3, 4] 8 (fun m' v i wr => ∃ k : Nat, k ≤ 8 ∧ m' + k = 8 ∧ i = .int .i64 (7 - (k : Int)) ∧ Below w.heap.size w wr ∧ OwnB wr w.heap.size v k (l.take k))
  case atStart => exact ⟨0, Nat.zero_le _, rfl, rfl, Bl_refl w, World.ownsRow_nil _ _ _ _⟩
  case round =>
    obtain ⟨k, hk, hgk, rfl, hB, hO⟩ := hrel
    by_cases h : k < 8
    · have h1 : 0 ≤ 7 - (k : Int) := by omega
      have h2 : ¬ 7 - (k : Int) < 0 := by omega
      obtain ⟨s, hs⟩ : ∃ s, s = 8 * (7 - k) := ⟨_, rfl⟩
      have h3 : IntKind.i64.wrap (8 * (7 - (k : Int))) = (s : Int) := by rw [IntWalk.i64_in _ (by constructor <;> omega)]; omega
      have h4 : wrap64 (8 * (7 - (k : Int))) = (s : Int) := by rw [IntWalk.wrap64_in _ (by constructor <;> omega)]; omega
      have h5 : wrap64 (7 - (k : Int) - 1) = 7 - ((k + 1 : Nat) : Int) := by rw [IntWalk.wrap64_in _ (by constructor <;> omega)]; omega
      obtain ⟨c, hc⟩ : ∃ c, c = (x >>> s).setWidth 8 := ⟨_, rfl⟩
      have HT := Lib.hid (show l.take (k + 1) = l.take k ++ [c] by rw [take_next l 0 k (by rw [HLL.out]; exact h), HL.out k h, hc, hs])
      have HJ := Lib.hid h; have HG := Lib.hid hgk; have H5 := Lib.hid h5; have HC := Lib.hid hc; clear hs hc hgk hk h5
      have hO2 := hO.next (Bl_alloc (Bl_refl _) (.cells #[.int .u8 (T1 ((x >>> s).setWidth 8))] 5))
      go_wp2_with (first | (refine wpList_app rfl (.tmp 9) (.tmp 15) rfl w.heap.size _ k (l.take k) rfl hO2 ⟨wr.heap.size, 0, none⟩ 1 1 [c] rfl rfl (by rw [HC.out]; exact new1 _ _ _) (by omega) (by have := hB.size; simp; omega) ?_))
      intro v' w' h1' hg
      replace hB := Bl_grown (Bl_alloc hB _) (Nat.le_refl _) hO2 hg
      clear hO hO2 hg
      have hO : OwnB w' w.heap.size v' (k + 1) (l.take (k + 1)) := by rw [HT.out]; exact h1'
      clear h1'
      go_wp2_with fail
      go_roundg (8 - 1 - k)
      case measure => exact dg_sr1 HG.out HJ.out
      case rel => exact ⟨k + 1, HJ.out, dg_sr2 HJ.out, by first | go_num | (rw [H5.out]), hB, hO⟩
    · obtain rfl := dg_sr3 hk h
      have h1 : ¬ 0 ≤ (7 : Int) - ((8 : Nat) : Int) := by omega
      obtain ⟨g, cap, rfl, hbg, hgl, hnc, hcell, _⟩ := hO.at (by omega)
      rw [List.take_of_length_le (Nat.le_of_eq HLL.out)] at hcell
      have HC := Lib.hid hcell; clear hcell hO h hk hgk
      go_wp2
      go_ret
      exact ⟨g, cap, rfl, hB, hbg, hgl, hnc, HC.out, HLL.out⟩
end Go.Proofs.YtmghpoagpiljhaaDoor
