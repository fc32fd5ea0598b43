/- Of the reference of layer 14: a range that has some numbers. -/
import Derived.Test.YtmghpoagpiljhabJoin13
import Derived.Test.YtmghpoagpiljhabSc3
set_option linter.unusedSimpArgs false
namespace Go.Proofs.Ytmghpoagpiljhab
namespace PlainScalar
/-- The range that has the first j numbers of a list. -/
def aroundN (L : List W) : Nat → Rng
  | 0 => const (L.getD 0 0#64)
  | j + 1 => join (aroundN L j) (const (L.getD j 0#64))
def wider (a : Rng) (more : W) : Rng := { a with b := ⟨a.b.v &&& ~~~more, a.b.m ||| more⟩ }
def around (L : List W) (more : W) : Rng := wider (aroundN L L.length) more
theorem aroundN_has (L : List W) : ∀ j i, i < j → Has (aroundN L j) (L.getD i 0#64)
  | 0, i, h => by omega
  | j + 1, i, h => by
    by_cases e : i = j
    · subst e; exact join_has_r (const_has _)
    · exact join_has_l (aroundN_has L j i (by omega))
theorem aroundN_R (L : List W) (j : Nat) : PlainTnum.R (aroundN L j).b := by
  cases j with
  | zero => exact PlainTnum.R_const _
  | succ j => exact PlainTnum.R_of _ _
theorem wider_has {a : Rng} {x : W} (h : Has a x) (more : W) : Has (wider a more) x := by
  have hR := PlainTnum.R_has h.b
  have hw := PlainTnum.within_wide a.b more hR
  have e : PlainTnum.right ⟨a.b.v, a.b.m ||| more⟩ = (wider a more).b := by
    unfold PlainTnum.right wider
    congr 1
    apply PlainTnum.ext64
    intro i hi
    have := hR i hi
    simp only [BitVec.getLsbD_and, BitVec.getLsbD_or, BitVec.getLsbD_not, hi, decide_true, Bool.true_and]
    revert this
    cases a.b.v.getLsbD i <;> cases a.b.m.getLsbD i <;> simp
  rw [e] at hw
  exact { h with b := PlainTnum.within_has hw h.b }
theorem around_has {L : List W} {i : Nat} (h : i < L.length) (more : W) : Has (around L more) (L.getD i 0#64) := wider_has (aroundN_has L _ i h) more
theorem around_R {L : List W} (h : 0 < L.length) (more : W) : PlainTnum.R (around L more).b := PlainTnum.R_has (around_has h more).b
end PlainScalar
open Go.RowKit
open PlainTnum (N May)
open PlainScalar (Rng)
theorem new_rr {o : Oper} (h : isAlloc o = some 53) (ρ : Operand → Value) (w : World) : (execOp ρ o).run Try.prog w = .ok (.value (.pointer (some ⟨w.heap.size, 0, none⟩))) (w.alloc (.cells #[.int .u64 0, .int .u64 0, .int .u64 0, .int .u64 0, .int .i64 0, .int .i64 0] 53)) := by
  obtain ⟨dst, op, type, pos, after, guard⟩ := o
  have := alloc_is h
  simp only at this
  subst this
  go_simp
set_option maxRecDepth 100000 in
set_option maxHeartbeats 3200000 in
theorem around_c (L : List W) (n : Nat) (hn : L.length = n) (hn0 : 0 < n) (hn9 : n ≤ 9) (g off cap : Nat) (more : W) (w : World) (hc : ∀ j, j < n → w.cell? ⟨g, off + j, none⟩ = some (uv (L.getD j 0#64))) : Calls Try.prog 42 #[.slice (some ⟨g, off, none⟩) n cap, uv more] w fun e w' => e = .returned (rv (PlainScalar.around L more)) ∧ Below w.heap.size w w' := by
  have hg : g < w.heap.size := World.block_lt_of_cell? w _ (hc 0 hn0)
  obtain ⟨A, e_A⟩ : ∃ z' : Nat → Rng, z' = PlainScalar.aroundN L := ⟨_, rfl⟩
  obtain ⟨X, e_X⟩ : ∃ z' : Nat → W, z' = fun j => L.getD j 0#64 := ⟨_, rfl⟩
  have h0 : A 0 = ⟨⟨X 0, 0#64⟩, X 0, X 0, X 0, X 0⟩ := by rw [e_A, e_X]; rfl
  have hs : ∀ j, A (j + 1) = PlainScalar.join (A j) (PlainScalar.const (X j)) := fun j => by rw [e_A, e_X]; rfl
  have hR : ∀ j, PlainTnum.R (A j).b := fun j => by rw [e_A]; exact PlainScalar.aroundN_R L j
  replace hc : ∀ j, j < n → w.cell? ⟨g, off + j, none⟩ = some (uv (X j)) := by rw [e_X]; exact hc
  obtain ⟨Y, e_Y⟩ : ∃ z', z' = PlainScalar.around L more := ⟨_, rfl⟩
  have hY : Y = PlainScalar.wider (A n) more := by rw [e_Y, e_A, ← hn]; rfl
  rw [← e_Y]; clear e_Y e_A e_X hn L
  have Hs := Lib.hid hs; have HR := Lib.hid hR; have HY := Lib.hid hY; have H0 := Lib.hid h0; have HC := Lib.hid hc; clear hs hR hY h0 hc
  have hlt0 : (0 : Int) < (n : Int) := by omega
  go_enter Try.func42, Try.ntmps42
  go_wp2_with fail
  obtain ⟨gr, hgr⟩ : ∃ g, g = w.heap.size := ⟨_, rfl⟩
  have Br : Blk (w.alloc (.cells #[.int .u64 0, .int .u64 0, .int .u64 0, .int .u64 0, .int .i64 0, .int .i64 0] 53)) (w.heap.size) 53 #[.int .u64 0, .int .u64 0, .int .u64 0, .int .u64 0, .int .i64 0, .int .i64 0] := (Blk.new w 53 #[.int .u64 0, .int .u64 0, .int .u64 0, .int .u64 0, .int .i64 0, .int .i64 0])
  have hB : Below w.heap.size w (w.alloc (.cells #[.int .u64 0, .int .u64 0, .int .u64 0, .int .u64 0, .int .i64 0, .int .i64 0] 53)) := (Bl_alloc (Bl_refl w) _)
  clear hgr
  clear gr
  generalize (w.alloc (.cells #[.int .u64 0, .int .u64 0, .int .u64 0, .int .u64 0, .int .i64 0, .int .i64 0] 53)) = w1 at *
  obtain ⟨cr0, cr1, cr2, cr3, cr4, cr5⟩ := cells6 Br
  have fr := Br.frozen; have lr := Br.lt
  have cx : ∀ x : Later w1, x.w.cell? ⟨g, off, none⟩ = some (uv (X 0)) := fun x => x.cell ((hB.cell (p := ⟨g, off, none⟩) hg).trans (HC.out 0 hn0))
  go_wp2_with fail
  clear cr0 cr1 cr2 cr3 cr4 cr5; obtain ⟨cr0, cr1, cr2, cr3, cr4, cr5⟩ := lcells6 Br
  refine wp_region_mix 20 (fun _ => #[.int .u64 0, .int .u64 0, .int .u64 0, .int .u64 0, .int .i64 0, .int .i64 0]) (by kernel_rfl) (by kernel_rfl) (fun o t ho ht => by
    simp at ho
    rcases ho with rfl | rfl | rfl | rfl | rfl | rfl | rfl | rfl | rfl | rfl | rfl | rfl | rfl | rfl | rfl | rfl | rfl | rfl | rfl | rfl <;> first | (cases ht; done) | (obtain rfl := Option.some.inj ht; exact fun ρ w => new_rr ht ρ w)) ?_
  simp only [List.take_succ_cons, List.take_zero, List.drop_succ_cons, List.drop_zero]
  repeat (refine wpMix_step (fun K hK => ?_); go_simp; first | (refine hK _ ?_; clear hK K))
  refine wpMix_nil ?_
  intro G w2 hgr hblk hdist
  have hb : Below w1.heap.size w1 w2 := hgr
  replace Br := Br.next hb
  obtain ⟨Bo, hlo⟩ := hblk 19 _ rfl
  have hgo : w.heap.size ≤ G 19 := Nat.le_trans hB.size hlo
  have hnro : w.heap.size ≠ G 19 := Nat.ne_of_lt (Nat.lt_of_lt_of_le lr hlo)
  clear hlo
  clear cr0 cr1 cr2 cr3 cr4 cr5 fr lr
  replace hB : Below w.heap.size w w2 := Bl_trans hB hb
  simp only [putAll, isAlloc, Act.put]
  generalize G 19 = go at *
  clear hb hgr hblk hdist
  obtain ⟨cr0, cr1, cr2, cr3, cr4, cr5⟩ := cells6 Br
  have fr := Br.frozen; have lr := Br.lt
  obtain ⟨co0, co1, co2, co3, co4, co5⟩ := cells6 Bo
  have fo := Bo.frozen; have lo := Bo.lt
  clear cx
  go_upto_region 2 with fail
  clear cr0 cr1 cr2 cr3 cr4 cr5 fr lr
  clear co0 co1 co2 co3 co4 co5 fo lo
  replace Br : Blk ((((((w2.setCell ⟨go, 0, none⟩ (uv (X 0))).setCell ⟨go, 1, none⟩ (.int .u64 0)).setCell ⟨go, 2, none⟩ (uv (X 0))).setCell ⟨go, 3, none⟩ (uv (X 0))).setCell ⟨go, 4, none⟩ (sv (X 0))).setCell ⟨go, 5, none⟩ (sv (X 0))) (w.heap.size) 53 #[.int .u64 0, .int .u64 0, .int .u64 0, .int .u64 0, .int .i64 0, .int .i64 0] := ((((((Br.far (by first | (simp; done) | (simp; omega) | (simp [*]; done) | (simp only [ne_eq]; constructor <;> omega)) _).far (by first | (simp; done) | (simp; omega) | (simp [*]; done) | (simp only [ne_eq]; constructor <;> omega)) _).far (by first | (simp; done) | (simp; omega) | (simp [*]; done) | (simp only [ne_eq]; constructor <;> omega)) _).far (by first | (simp; done) | (simp; omega) | (simp [*]; done) | (simp only [ne_eq]; constructor <;> omega)) _).far (by first | (simp; done) | (simp; omega) | (simp [*]; done) | (simp only [ne_eq]; constructor <;> omega)) _).far (by first | (simp; done) | (simp; omega) | (simp [*]; done) | (simp only [ne_eq]; constructor <;> omega)) _)
  replace Bo : Blk ((((((w2.setCell ⟨go, 0, none⟩ (uv (X 0))).setCell ⟨go, 1, none⟩ (.int .u64 0)).setCell ⟨go, 2, none⟩ (uv (X 0))).setCell ⟨go, 3, none⟩ (uv (X 0))).setCell ⟨go, 4, none⟩ (sv (X 0))).setCell ⟨go, 5, none⟩ (sv (X 0))) (go) 53 #[uv (X 0), .int .u64 0, uv (X 0), uv (X 0), sv (X 0), sv (X 0)] := ((((((Bo.set_ 0 _).set_ 1 _).set_ 2 _).set_ 3 _).set_ 4 _).set_ 5 _)
  replace hB : Below w.heap.size w ((((((w2.setCell ⟨go, 0, none⟩ (uv (X 0))).setCell ⟨go, 1, none⟩ (.int .u64 0)).setCell ⟨go, 2, none⟩ (uv (X 0))).setCell ⟨go, 3, none⟩ (uv (X 0))).setCell ⟨go, 4, none⟩ (sv (X 0))).setCell ⟨go, 5, none⟩ (sv (X 0))) := (Bl_set (Bl_set (Bl_set (Bl_set (Bl_set (Bl_set hB (by first | omega | (simp; done) | (simp; omega)) _) (by first | omega | (simp; done) | (simp; omega)) _) (by first | omega | (simp; done) | (simp; omega)) _) (by first | omega | (simp; done) | (simp; omega)) _) (by first | omega | (simp; done) | (simp; omega)) _) (by first | omega | (simp; done) | (simp; omega)) _)
  generalize ((((((w2.setCell ⟨go, 0, none⟩ (uv (X 0))).setCell ⟨go, 1, none⟩ (.int .u64 0)).setCell ⟨go, 2, none⟩ (uv (X 0))).setCell ⟨go, 3, none⟩ (uv (X 0))).setCell ⟨go, 4, none⟩ (sv (X 0))).setCell ⟨go, 5, none⟩ (sv (X 0))) = w3 at *
  obtain ⟨cr0, cr1, cr2, cr3, cr4, cr5⟩ := cells6 Br
  have fr := Br.frozen; have lr := Br.lt
  obtain ⟨co0, co1, co2, co3, co4, co5⟩ := cells6 Bo
  have fo := Bo.frozen; have lo := Bo.lt
  go_wp2_with fail
  clear cr0 cr1 cr2 cr3 cr4 cr5 fr lr
  clear co0 co1 co2 co3 co4 co5 fo lo
  go_loopg [6] n (fun m i wr => ∃ j : Nat, j ≤ n ∧ m + j = n ∧ i = .int .i64 (j : Int) ∧ Below w.heap.size w wr ∧ Blk wr (w.heap.size) 53 #[.int .u64 0, .int .u64 0, .int .u64 0, .int .u64 0, .int .i64 0, .int .i64 0] ∧ Blk wr (go) 53 #[uv (A j).b.v, uv (A j).b.m, uv (A j).lo, uv (A j).hi, sv (A j).sl, sv (A j).sh])
  case atStart => exact ⟨0, by omega, by omega, rfl, hB, Br, by rw [H0.out]; exact Bo⟩
  case round =>
    clear hB Br Bo
    obtain ⟨j, hj, hgk, rfl, hB, Br, Bo⟩ := hrel
    obtain ⟨cr0, cr1, cr2, cr3, cr4, cr5⟩ := cells6 Br
    have fr := Br.frozen; have lr := Br.lt
    obtain ⟨co0, co1, co2, co3, co4, co5⟩ := cells6 Bo
    have fo := Bo.frozen; have lo := Bo.lt
    cases q : decide (j < n)
    · have eA : A j = A n := by have := of_decide_eq_false q; rw [show j = n by omega]
      rw [eA] at co0 co1 co2 co3 co4 co5 Bo; clear eA
      go_upto_region 10 with fail
      clear cr0 cr1 cr2 cr3 cr4 cr5 fr lr
      clear co0 co1 co2 co3 co4 co5 fo lo
      replace Br : Blk ((wr.setCell ⟨go, 0, none⟩ (uv ((A n).b.v &&& ~~~more))).setCell ⟨go, 1, none⟩ (uv ((A n).b.m ||| more))) (w.heap.size) 53 #[.int .u64 0, .int .u64 0, .int .u64 0, .int .u64 0, .int .i64 0, .int .i64 0] := ((Br.far (by first | (simp; done) | (simp; omega) | (simp [*]; done) | (simp only [ne_eq]; constructor <;> omega)) _).far (by first | (simp; done) | (simp; omega) | (simp [*]; done) | (simp only [ne_eq]; constructor <;> omega)) _)
      replace Bo : Blk ((wr.setCell ⟨go, 0, none⟩ (uv ((A n).b.v &&& ~~~more))).setCell ⟨go, 1, none⟩ (uv ((A n).b.m ||| more))) (go) 53 #[uv ((A n).b.v &&& ~~~more), uv ((A n).b.m ||| more), uv (A n).lo, uv (A n).hi, sv (A n).sl, sv (A n).sh] := ((Bo.set_ 0 _).set_ 1 _)
      replace hB : Below w.heap.size w ((wr.setCell ⟨go, 0, none⟩ (uv ((A n).b.v &&& ~~~more))).setCell ⟨go, 1, none⟩ (uv ((A n).b.m ||| more))) := (Bl_set (Bl_set hB (by first | omega | (simp; done) | (simp; omega)) _) (by first | omega | (simp; done) | (simp; omega)) _)
      generalize ((wr.setCell ⟨go, 0, none⟩ (uv ((A n).b.v &&& ~~~more))).setCell ⟨go, 1, none⟩ (uv ((A n).b.m ||| more))) = w4 at *
      obtain ⟨cr0, cr1, cr2, cr3, cr4, cr5⟩ := cells6 Br
      have fr := Br.frozen; have lr := Br.lt
      obtain ⟨co0, co1, co2, co3, co4, co5⟩ := cells6 Bo
      have fo := Bo.frozen; have lo := Bo.lt
      go_wp2
      exact bodyPost_ret (v := rv (PlainScalar.wider (A n) more)) (by simp [results, Try.results42, go_sem, cr0, cr1, cr2, cr3, cr4, cr5, co0, co1, co2, co3, co4, co5, lr, lo, PlainScalar.wider]) rfl ⟨by rw [HY.out], by repeat (first | (with_reducible exact hB) | (with_reducible refine Bl_set ?_ (by first | omega | (simp; done) | (simp; omega)) _) | with_reducible apply Bl_alloc)⟩
    · have hltn : j < n := of_decide_eq_true q; have hlt : (j : Int) < (n : Int) := by omega
      have hcj := (hB.cell (p := ⟨g, off + j, none⟩) hg).trans (HC.out j hltn)
      have k_j : ∀ w : World, Calls Try.prog 65 #[nv (A j).b, .agg #[uv (X j), .int .u64 0]] w fun e w' => e = .returned (nv (PlainTnum.join (A j).b (PlainTnum.const (X j)))) ∧ Below w.heap.size w w' := fun w => by rw [PlainTnum.join_eq (HR.out j) (PlainTnum.R_const _)]; exact rjoin_c _ _ w
      have e1 : A (j + 1) = ⟨PlainTnum.join (A j).b (PlainTnum.const (X j)), PlainScalar.minU (A j).lo (X j), PlainScalar.maxU (A j).hi (X j), PlainScalar.minS (A j).sl (X j), PlainScalar.maxS (A j).sh (X j)⟩ := Hs.out j
      generalize PlainTnum.join (A j).b (PlainTnum.const (X j)) = J at k_j e1; generalize X j = x at hcj k_j e1
      have E1 := Lib.hid e1; clear e1
      go_wp2_with fail
      refine (k_j _).mono ?_
      rintro e w4 ⟨rfl, hb⟩
      clear cr0 cr1 cr2 cr3 cr4 cr5 fr lr
      clear co0 co1 co2 co3 co4 co5 fo lo
      replace Br := (Br).next hb
      replace Bo := (Bo).next hb
      replace hB : Below w.heap.size w w4 := by repeat (first | exact hB | (refine Bl_set ?_ (by first | omega | (simp; omega)) _) | apply Bl_alloc | (refine Bl_trans ?_ hb))
      clear hb
      obtain ⟨cr0, cr1, cr2, cr3, cr4, cr5⟩ := cells6 Br
      have fr := Br.frozen; have lr := Br.lt
      obtain ⟨co0, co1, co2, co3, co4, co5⟩ := cells6 Bo
      have fo := Bo.frozen; have lo := Bo.lt
      go_upto_region 4 with fail
      clear cr0 cr1 cr2 cr3 cr4 cr5 fr lr
      clear co0 co1 co2 co3 co4 co5 fo lo
      replace Br : Blk ((((((w4.setCell ⟨go, 0, none⟩ (uv J.v)).setCell ⟨go, 1, none⟩ (uv J.m)).setCell ⟨go, 2, none⟩ (uv (PlainScalar.minU (A j).lo x))).setCell ⟨go, 3, none⟩ (uv (PlainScalar.maxU (A j).hi x))).setCell ⟨go, 4, none⟩ (sv (PlainScalar.minS (A j).sl x))).setCell ⟨go, 5, none⟩ (sv (PlainScalar.maxS (A j).sh x))) (w.heap.size) 53 #[.int .u64 0, .int .u64 0, .int .u64 0, .int .u64 0, .int .i64 0, .int .i64 0] := ((((((Br.far (by first | (simp; done) | (simp; omega) | (simp [*]; done) | (simp only [ne_eq]; constructor <;> omega)) _).far (by first | (simp; done) | (simp; omega) | (simp [*]; done) | (simp only [ne_eq]; constructor <;> omega)) _).far (by first | (simp; done) | (simp; omega) | (simp [*]; done) | (simp only [ne_eq]; constructor <;> omega)) _).far (by first | (simp; done) | (simp; omega) | (simp [*]; done) | (simp only [ne_eq]; constructor <;> omega)) _).far (by first | (simp; done) | (simp; omega) | (simp [*]; done) | (simp only [ne_eq]; constructor <;> omega)) _).far (by first | (simp; done) | (simp; omega) | (simp [*]; done) | (simp only [ne_eq]; constructor <;> omega)) _)
      replace Bo : Blk ((((((w4.setCell ⟨go, 0, none⟩ (uv J.v)).setCell ⟨go, 1, none⟩ (uv J.m)).setCell ⟨go, 2, none⟩ (uv (PlainScalar.minU (A j).lo x))).setCell ⟨go, 3, none⟩ (uv (PlainScalar.maxU (A j).hi x))).setCell ⟨go, 4, none⟩ (sv (PlainScalar.minS (A j).sl x))).setCell ⟨go, 5, none⟩ (sv (PlainScalar.maxS (A j).sh x))) (go) 53 #[uv J.v, uv J.m, uv (PlainScalar.minU (A j).lo x), uv (PlainScalar.maxU (A j).hi x), sv (PlainScalar.minS (A j).sl x), sv (PlainScalar.maxS (A j).sh x)] := ((((((Bo.set_ 0 _).set_ 1 _).set_ 2 _).set_ 3 _).set_ 4 _).set_ 5 _)
      replace hB : Below w.heap.size w ((((((w4.setCell ⟨go, 0, none⟩ (uv J.v)).setCell ⟨go, 1, none⟩ (uv J.m)).setCell ⟨go, 2, none⟩ (uv (PlainScalar.minU (A j).lo x))).setCell ⟨go, 3, none⟩ (uv (PlainScalar.maxU (A j).hi x))).setCell ⟨go, 4, none⟩ (sv (PlainScalar.minS (A j).sl x))).setCell ⟨go, 5, none⟩ (sv (PlainScalar.maxS (A j).sh x))) := (Bl_set (Bl_set (Bl_set (Bl_set (Bl_set (Bl_set hB (by first | omega | (simp; done) | (simp; omega)) _) (by first | omega | (simp; done) | (simp; omega)) _) (by first | omega | (simp; done) | (simp; omega)) _) (by first | omega | (simp; done) | (simp; omega)) _) (by first | omega | (simp; done) | (simp; omega)) _) (by first | omega | (simp; done) | (simp; omega)) _)
      generalize ((((((w4.setCell ⟨go, 0, none⟩ (uv J.v)).setCell ⟨go, 1, none⟩ (uv J.m)).setCell ⟨go, 2, none⟩ (uv (PlainScalar.minU (A j).lo x))).setCell ⟨go, 3, none⟩ (uv (PlainScalar.maxU (A j).hi x))).setCell ⟨go, 4, none⟩ (sv (PlainScalar.minS (A j).sl x))).setCell ⟨go, 5, none⟩ (sv (PlainScalar.maxS (A j).sh x))) = w5 at *
      obtain ⟨cr0, cr1, cr2, cr3, cr4, cr5⟩ := cells6 Br
      have fr := Br.frozen; have lr := Br.lt
      obtain ⟨co0, co1, co2, co3, co4, co5⟩ := cells6 Bo
      have fo := Bo.frozen; have lo := Bo.lt
      go_wp2_with fail
      go_roundg (n - 1 - j)
      case measure => omega
      case rel => exact ⟨j + 1, by omega, by omega, by go_num, hB, Br, by rw [E1.out]; exact Bo⟩
end Go.Proofs.Ytmghpoagpiljhab
