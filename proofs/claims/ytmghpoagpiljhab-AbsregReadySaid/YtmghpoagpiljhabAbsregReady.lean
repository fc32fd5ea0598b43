/- AbsregReady: for all places, counts and questions the law returns true, and its arguments read as before. No condition. -/
import Derived.Test.YtmghpoagpiljhabOpen
import Derived.Test.YtmghpoagpiljhabAbs7
import Derived.Test.YtmghpoagpiljhabMixR
set_option linter.unusedSimpArgs false
namespace Go.Proofs.Ytmghpoagpiljhab
open Go.ChangeShapes Go.WideShapes Go.ChangeAt Go.RowKit
open PlainTnum (N)
open PlainScalar (Rng)
open PlainAbs (Rg St zr zs upd)
set_option linter.unusedVariables false
section
variable {P : Program} {w : World} {r : Reach} {base : Nat}
theorem open_ii {t u : TypeId} {v : Value} (hu : P.underlying u = some (.int .i64)) (hs : (match P.underlying t with | some (.struct _) | some (.array _ _) => true | _ => false) = true)
    (hc : P.cellTypes P.depth t = some [u, u]) (hn : P.cellsOf t = 2) (hv : Value.okWide P w r base t v) : ∃ x y : Int, v = .agg #[.int .i64 x, .int .i64 y] := by
  obtain ⟨cs, rfl, hsz, hcell⟩ := open_flat hs hc hn hv
  obtain ⟨l⟩ := cs
  match l, hsz with
  | [c0, c1], _ =>
    obtain ⟨x, rfl, _, _⟩ := cell_int hu (hcell 0 c0 u rfl rfl)
    obtain ⟨y, rfl, _, _⟩ := cell_int hu (hcell 1 c1 u rfl rfl)
    exact ⟨x, y, rfl⟩
theorem open_iii {t u : TypeId} {v : Value} (hu : P.underlying u = some (.int .i64)) (hs : (match P.underlying t with | some (.struct _) | some (.array _ _) => true | _ => false) = true)
    (hc : P.cellTypes P.depth t = some [u, u, u]) (hn : P.cellsOf t = 3) (hv : Value.okWide P w r base t v) : ∃ x y z : Int, v = .agg #[.int .i64 x, .int .i64 y, .int .i64 z] := by
  obtain ⟨cs, rfl, hsz, hcell⟩ := open_flat hs hc hn hv
  obtain ⟨l⟩ := cs
  match l, hsz with
  | [c0, c1, c2], _ =>
    obtain ⟨x, rfl, _, _⟩ := cell_int hu (hcell 0 c0 u rfl rfl)
    obtain ⟨y, rfl, _, _⟩ := cell_int hu (hcell 1 c1 u rfl rfl)
    obtain ⟨z, rfl, _, _⟩ := cell_int hu (hcell 2 c2 u rfl rfl)
    exact ⟨x, y, z, rfl⟩
end
theorem rem2_is (m : Nat) (h0 : 0 < m) (hm : m < 100) (k : Int) : ∃ n : Nat, n < m ∧ wrap64 ((IntKind.u64.wrap k).tmod m) = (n : Int) ∧ IntKind.i64.wrap ((IntKind.u64.wrap k).tmod m) = (n : Int) := by
  have h : 0 ≤ IntKind.u64.wrap k := by rw [wrap_u]; exact T_lo _
  obtain ⟨x, hx⟩ : ∃ x : Nat, IntKind.u64.wrap k = (x : Int) := ⟨_, (Int.toNat_of_nonneg h).symm⟩
  have hl := Nat.mod_lt x h0
  have e : (IntKind.u64.wrap k).tmod (m : Int) = ((x % m : Nat) : Int) := by rw [hx, Int.tmod_eq_emod_of_nonneg (by omega)]; exact (Int.natCast_emod _ _).symm
  refine ⟨x % m, hl, ?_, ?_⟩
  · rw [e]; exact IntWalk.wrap64_in _ (by constructor <;> omega)
  · rw [e]; exact IntWalk.i64_in _ (by constructor <;> omega)
namespace PlainAbs
/-- The states of the law: so many bytes from k on were written as numbers. -/
def rows (k : Nat) : Nat → St
  | 0 => start
  | j + 1 => (save (rows k j) ((k : Int) + (j : Int) - 64) 1 (number (PlainScalar.const 3#64))).1
theorem rows_is (k : Nat) : ∀ j, k + j ≤ 64 → (∀ i, (rows k j).what i = (decide (k ≤ i) && decide (i < k + j))) ∧ (∀ i, ((rows k j).kept i).kind = 0)
  | 0, _ => ⟨fun i => by show false = _; cases h : decide (k ≤ i); rfl; simp at h ⊢; omega, fun i => rfl⟩
  | j + 1, h => by
    obtain ⟨h1, h2⟩ := rows_is k j (by omega)
    have hok : saveOk ((k : Int) + (j : Int) - 64) 1 (number (PlainScalar.const 3#64)) = true := by
      unfold saveOk sized firstOk number; simp; omega
    have e : rows k (j + 1) = { (rows k j) with what := upd (rows k j).what (k + j) true } := by
      show (save (rows k j) ((k : Int) + (j : Int) - 64) 1 (number (PlainScalar.const 3#64))).1 = _
      unfold save; rw [if_pos hok]
      show saved (rows k j) ((k : Int) + (j : Int) - 64) 1 (number (PlainScalar.const 3#64)) = _
      have hf : ((k : Int) + (j : Int) - 64 + 64).toNat = k + j := by omega
      unfold saved
      simp only []
      rw [if_pos (show (number (PlainScalar.const 3#64)).kind = 1 from rfl), hf]
      show mark (clr (rows k j) ((k + j + 0) / 8)) (k + j) (decide (1 = 1)) 1 = _
      rw [show clr (rows k j) ((k + j + 0) / 8) = rows k j by unfold clr; rw [if_pos (h2 _)]]
      rfl
    rw [e]
    refine ⟨fun i => ?_, h2⟩
    simp only [upd]
    by_cases he : i = k + j
    · rw [if_pos he]; simp; omega
    · rw [if_neg he, h1]; congr 1; simp; omega
theorem rows_ok (k j : Nat) (h : k + j < 64) : (save (rows k j) ((k : Int) + (j : Int) - 64) 1 (number (PlainScalar.const 3#64))).2 = true := by
  unfold save; rw [if_pos (by unfold saveOk sized firstOk number; simp; omega)]
theorem rows_ready (k J a m : Nat) (hk : k + J ≤ 64) (ha : a < 64) : ready (rows k J) ((a : Int) - 64) (m : Int) = ((decide (k ≤ a) && decide (a + m ≤ k + J)) || (m == 0)) := by
  obtain ⟨h1, _⟩ := rows_is k J hk
  rw [Bool.eq_iff_iff]
  unfold ready
  rw [show ((a : Int) - 64 + 64).toNat = a by omega, show ((m : Int)).toNat = m by omega, Bool.and_eq_true, readyN_iff]
  unfold firstOk
  simp only [Bool.and_eq_true, Bool.or_eq_true, decide_eq_true_eq, beq_iff_eq, h1]
  constructor
  · rintro ⟨⟨⟨⟨_, _⟩, _⟩, h5⟩, h6⟩
    by_cases h0 : m = 0
    · exact .inr h0
    · refine .inl ?_
      have a1 := h6 0 (by omega)
      have a2 := h6 (m - 1) (by omega)
      omega
  · rintro (⟨g1, g2⟩ | rfl)
    · exact ⟨⟨⟨⟨by omega, by omega⟩, by omega⟩, by omega⟩, fun j hj => by omega⟩
    · exact ⟨⟨⟨⟨by omega, by omega⟩, by omega⟩, by omega⟩, fun j hj => by omega⟩
end PlainAbs
theorem rdy_j (k c J j s : Nat) (hk : k < 64) (hc : c ≤ 20) (hJ : J = min c (64 - k)) (hj : j < J) (hs : s = k + j) : decide ((j : Int) < (c : Int)) = true ∧ decide (j < c) = true ∧ wrap64 ((k : Int) + (j : Int)) = (s : Int) ∧ IntKind.i64.wrap ((k : Int) + (j : Int)) = (s : Int) ∧ decide ((s : Int) < 64) = true ∧ decide (s < 64) = true ∧ wrap64 ((s : Int) - 64) = (s : Int) - 64 ∧ IntKind.i64.wrap ((s : Int) - 64) = (s : Int) - 64 ∧ wrap64 ((j : Int) + 1) = ((j + 1 : Nat) : Int) := by
  refine ⟨?_, ?_, ?_, ?_, ?_, ?_, ?_, ?_, ?_⟩ <;> first | (rw [IntWalk.i64_in _ (by constructor <;> omega)]; omega) | (rw [IntWalk.wrap64_in _ (by constructor <;> omega)]; omega) | (rw [IntWalk.i64_in _ (by constructor <;> omega)]) | (rw [IntWalk.wrap64_in _ (by constructor <;> omega)]) | (simp <;> omega)
theorem rdy_t (k c J s : Nat) (hk : k < 64) (hc : c ≤ 20) (hJ : J = min c (64 - k)) (hs : s = k + J) : wrap64 ((k : Int) + (J : Int)) = (s : Int) ∧ ((¬ (J : Int) < (c : Int) ∧ ¬ J < c) ∨ ((J : Int) < (c : Int) ∧ J < c ∧ ¬ (s : Int) < 64 ∧ ¬ s < 64)) := by
  refine ⟨by rw [IntWalk.wrap64_in _ (by constructor <;> omega)]; omega, ?_⟩
  omega
theorem rd1 {m j J : Nat} (h : m + j = J) (hj : j < J) : J - 1 - j < m := by omega
theorem rd2 {j J : Nat} (hj : j < J) : J - 1 - j + (j + 1) = J := by omega
theorem rdy_e (k c J p m e L u : Nat) (hk : k < 64) (hc : c ≤ 20) (hp : p < 64) (hm : m < 30) (hJ : J = min c (64 - k)) (he : e = k + c) (hL : L = k + J) (hu : u = p + m) : wrap64 ((k : Int) + (c : Int)) = (e : Int) ∧ min (e : Int) 64 = (L : Int) ∧ min e 64 = L ∧ wrap64 ((p : Int) + (m : Int)) = (u : Int) ∧ wrap64 ((p : Int) - 64) = (p : Int) - 64 := by
  refine ⟨?_, ?_, ?_, ?_, ?_⟩ <;> first | omega | (rw [IntWalk.wrap64_in _ (by constructor <;> omega)]; omega) | (rw [IntWalk.wrap64_in _ (by constructor <;> omega)])
set_option maxRecDepth 100000 in
set_option maxHeartbeats 12000000 in
theorem walk_AbsregReady (z n x y : Int) (k c0 c J p m : Nat) (hk : k < 64) (hp : p < 64) (hm : m < 30) (hc : c ≤ 20) (hJ : J = min c (64 - k)) (b1 : wrap64 (1 + (c0 : Int)) = (c : Int)) (rk : wrap64 ((IntKind.u64.wrap z).tmod 64) = (k : Int)) (sk : IntKind.i64.wrap ((IntKind.u64.wrap z).tmod 64) = (k : Int)) (rc0 : wrap64 ((IntKind.u64.wrap n).tmod 20) = (c0 : Int)) (sc0 : IntKind.i64.wrap ((IntKind.u64.wrap n).tmod 20) = (c0 : Int)) (rp : wrap64 ((IntKind.u64.wrap x).tmod 64) = (p : Int)) (sp : IntKind.i64.wrap ((IntKind.u64.wrap x).tmod 64) = (p : Int)) (rm : wrap64 ((IntKind.u64.wrap y).tmod 30) = (m : Int)) (sm : IntKind.i64.wrap ((IntKind.u64.wrap y).tmod 30) = (m : Int)) (w : World) : Calls Try.prog 4 #[.int .i64 z, .int .i64 n, .agg #[.int .i64 x, .int .i64 y]] w fun e w' => e = .returned (.bool true) ∧ Below w.heap.size w w' := by
  have hkJ : k + J ≤ 64 := (by omega)
  obtain ⟨e, he⟩ : ∃ e, e = k + c := ⟨_, rfl⟩; obtain ⟨L, hL⟩ : ∃ L, L = k + J := ⟨_, rfl⟩; obtain ⟨u, hu⟩ : ∃ u, u = p + m := ⟨_, rfl⟩
  have E1 := Lib.hid (rdy_e k c J p m e L u hk hc hp hm hJ he hL hu)
  have TT := Lib.hid (rdy_t k c J L hk hc hJ hL)
  have JJ := Lib.hid (fun j s (hj : j < J) (hs : s = k + j) => rdy_j k c J j s hk hc hJ hj hs)
  obtain ⟨F, e_F⟩ : ∃ z', z' = PlainAbs.rows k := ⟨_, rfl⟩
  have HF0 := Lib.hid (show F 0 = PlainAbs.start by rw [e_F]; rfl)
  have k_n : ∀ w : World, Calls Try.prog 17 #[.int .u64 3] w fun e w' => e = .returned (gv (PlainAbs.number (PlainScalar.const 3#64))) ∧ Below w.heap.size w w' := number_c 3#64
  have k_s : ∀ j s, j < J → s = k + j → ∀ w : World, Calls Try.prog 15 #[.agg (stv (F j)), .int .i64 ((s : Int) - 64), .int .i64 1, gv (PlainAbs.number (PlainScalar.const 3#64))] w fun e w' => e = .returned (.tuple #[.agg (stv (F (j + 1))), .bool true]) ∧ Below w.heap.size w w' := fun j s hj hs w => by
    have h := save_c (F j) ((k : Int) + (j : Int) - 64) 1 (PlainAbs.number (PlainScalar.const 3#64)) w; rw [e_F] at h ⊢; rw [PlainAbs.rows_ok k j (by omega)] at h; rw [show (s : Int) = (k : Int) + (j : Int) by omega]; exact h
  generalize PlainAbs.number (PlainScalar.const 3#64) = n3 at k_n k_s
  have k_r : ∀ w : World, Calls Try.prog 20 #[.agg (stv (F J)), .int .i64 ((p : Int) - 64), .int .i64 (m : Int)] w fun e w' => e = .returned (.bool ((decide (k ≤ p) && decide (u ≤ L)) || (m == 0))) ∧ Below w.heap.size w w' := fun w => by rw [hu, hL, ← PlainAbs.rows_ready k J p m hkJ hp, ← e_F]; exact ready_c _ _ _ w
  have HS := Lib.hid k_s; have HR := Lib.hid k_r; have RP := Lib.hid (And.intro rp rm); have SP := Lib.hid (And.intro sp sm); have HL := Lib.hid hL
  clear e_F hJ k_s k_r rp rm sp sm hk hp hm hc hkJ he hL hu
  have hst := start_c
  generalize PlainAbs.start = S0 at HF0 hst
  have B1 := Lib.hid b1; clear b1
  go_enter Try.func4, Try.ntmps4
  go_wp2_with fail
  obtain ⟨gq, hgq⟩ : ∃ g, g = w.heap.size := ⟨_, rfl⟩
  have Bq : Blk (w.alloc (.cells #[.int .i64 x, .int .i64 y] 43)) (w.heap.size) 43 #[.int .i64 x, .int .i64 y] := (Blk.new w 43 #[.int .i64 x, .int .i64 y])
  have hB : Below w.heap.size w (w.alloc (.cells #[.int .i64 x, .int .i64 y] 43)) := (Bl_alloc (Bl_refl w) _)
  clear hgq
  clear gq
  generalize (w.alloc (.cells #[.int .i64 x, .int .i64 y] 43)) = w1 at *
  obtain ⟨cq0, cq1⟩ := cells2 Bq
  have fq := Bq.frozen; have lq := Bq.lt
  rw [B1.out]; clear rk rc0 sk sc0 B1
  refine (hst _).mono ?_
  rintro e w2 ⟨rfl, hb⟩
  clear cq0 cq1 fq lq
  replace Bq := (Bq).next hb
  replace hB : Below w.heap.size w w2 := by repeat (first | exact hB | (refine Bl_set ?_ (by first | omega | (simp; omega)) _) | apply Bl_alloc | (refine Bl_trans ?_ hb))
  clear hb
  obtain ⟨cq0, cq1⟩ := cells2 Bq
  have fq := Bq.frozen; have lq := Bq.lt
  go_wp2_with (refine wpList_store_whole rfl 34 (.tmp 9) (.tmp 26) rfl (w2.heap.size) (stv S0) rfl rfl 34 (stv zs) (Blk.new w2 _ _) (size_st S0) (by rw [stv_size, stv_size]) (stv_one S0) ?_)
  intro w3 hS
  clear cq0 cq1 fq lq
  have hnqs := Nat.ne_of_lt Bq.lt
  replace Bq := hS.far hnqs (Bq.alloc _)
  have hgs := hB.size
  have Bs : Blk w3 (w2.heap.size) 34 (stv S0) := hS.blk
  replace hB := hS.bel (Bl_alloc hB _) hgs
  clear hS
  generalize w2.heap.size = gs at *
  obtain ⟨cq0, cq1⟩ := cells2 Bq
  have fq := Bq.frozen; have lq := Bq.lt
  have fs := Bs.frozen; have ls := Bs.lt
  clear hst
  go_wp2_with fail
  clear cq0 cq1 fq lq
  clear  fs ls
  go_loopg [10] J (fun m' i wr => ∃ j : Nat, j ≤ J ∧ m' + j = J ∧ i = .int .i64 (j : Int) ∧ Below w.heap.size w wr ∧ Blk wr (w.heap.size) 43 #[.int .i64 x, .int .i64 y] ∧ Blk wr (gs) 34 (stv (F j)))
  case atStart => exact ⟨0, Nat.zero_le _, rfl, rfl, hB, Bq, by rw [HF0.out]; exact Bs⟩
  case round =>
    clear hB Bq Bs
    obtain ⟨j, hj, hgk, rfl, hB, Bq, Bs⟩ := hrel
    obtain ⟨wo, rfl⟩ : ∃ z : World, z = wr := ⟨_, rfl⟩
    obtain ⟨cq0, cq1⟩ := cells2 Bq
    have fq := Bq.frozen; have lq := Bq.lt
    have fs := Bs.frozen; have ls := Bs.lt
    by_cases hq : j < J
    · have HJ := Lib.hid hq; have HG := Lib.hid hgk; clear hj hgk
      obtain ⟨s, hs⟩ : ∃ s, s = k + j := ⟨_, rfl⟩
      obtain ⟨j1, j2, j3, j4, j5, j6, j7, j8, j9⟩ := JJ.out j s hq hs
      have k_s := HS.out j s hq hs
      have J9 := Lib.hid j9; clear hs hq j9
      generalize e_T : F (j + 1) = T2 at k_s; have HT := Lib.hid e_T; clear e_T
      go_wp2_with fail
      clear cq0 cq1; obtain ⟨cq0, cq1⟩ := lcells2 Bq
      refine wp_region_mixL 11 (fun k => k == 9) (fun _ => stv zs) (by kernel_rfl) (by kernel_rfl) (fun d _ _ _ _ h => by cases d <;> exact h) (fun o t ho ht => by
        simp at ho
        rcases ho with rfl | rfl | rfl | rfl | rfl | rfl | rfl | rfl | rfl | rfl | rfl <;> first | (cases ht; done) | (obtain rfl := Option.some.inj ht; exact fun ρ w => new_st ht ρ w)) ?_
      simp only [List.take_succ_cons, List.take_zero, List.drop_succ_cons, List.drop_zero]
      repeat (first | (refine wpMixL_row rfl 34 (.tmp 9) rfl (gs) rfl 34 (stv (F j)) _ Bs Try.underlying34 rfl (size_st _) rfl ?_) | ((with_reducible refine wpMixL_step (fun K hK => ?_)); go_simp; first | ((with_reducible refine hK _ ?_); clear hK K) | (rw [if_neg (by decide)]; (with_reducible refine hK _ ?_); clear hK K) | (apply Exists.intro; refine ⟨fun g => ?_, hK _ ?_⟩; ((with_reducible refine Calls.mono (k_n g.w) ?_); exact fun _ _ h => h); clear hK K) | (apply Exists.intro; refine ⟨fun g => ?_, hK _ ?_⟩; ((with_reducible refine Calls.mono (k_s g.w) ?_); exact fun _ _ h => h); clear hK K)))
      refine wpMixL_nil ?_
      intro G w4 hgr hblk hdist
      have hb : Below wo.heap.size wo w4 := hgr
      replace Bq := Bq.next hb
      replace Bs := Bs.next hb
      obtain ⟨Bt, hlt⟩ := hblk 10 _ rfl
      have hgt : w.heap.size ≤ G 10 := Nat.le_trans hB.size hlt
      have hnqt : w.heap.size ≠ G 10 := Nat.ne_of_lt (Nat.lt_of_lt_of_le lq hlt)
      have hnst : gs ≠ G 10 := Nat.ne_of_lt (Nat.lt_of_lt_of_le ls hlt)
      clear hlt
      clear cq0 cq1 fq lq
      clear  fs ls
      replace hB : Below w.heap.size w w4 := Bl_trans hB hb
      simp only [putAll, isAlloc, Act.put]
      generalize G 10 = gt at *
      clear hb hgr hblk hdist
      obtain ⟨cq0, cq1⟩ := cells2 Bq
      have fq := Bq.frozen; have lq := Bq.lt
      have fs := Bs.frozen; have ls := Bs.lt
      have ft := Bt.frozen; have lt := Bt.lt
      go_wp2_with (refine wpList_store_whole rfl 34 (.tmp 11) (.tmp 46) rfl (gt) (stv T2) rfl rfl 34 (stv zs) Bt (size_st T2) (by rw [stv_size, stv_size]) (stv_one T2) ?_)
      intro w5 hS
      clear cq0 cq1 fq lq
      clear  fs ls
      clear  ft lt
      replace Bq := hS.far (by first | (simp; done) | (simp; omega) | (simp [*]; done) | (simp only [ne_eq]; constructor <;> omega)) Bq
      replace Bs := hS.far (by first | (simp; done) | (simp; omega) | (simp [*]; done) | (simp only [ne_eq]; constructor <;> omega)) Bs
      replace Bt : Blk w5 (gt) 34 (stv T2) := hS.blk
      replace hB := hS.bel hB (by first | omega | (simp; omega))
      clear hS
      obtain ⟨cq0, cq1⟩ := cells2 Bq
      have fq := Bq.frozen; have lq := Bq.lt
      have fs := Bs.frozen; have ls := Bs.lt
      have ft := Bt.frozen; have lt := Bt.lt
      go_wp2_with (first | (refine wpList_load_whole rfl 34 (.tmp 11) rfl (gt) rfl 34 (stv T2) _ Bt Try.underlying34 rfl (size_st T2) ?_) | (refine wpList_store_whole rfl 34 (.tmp 9) (.tmp 50) rfl (gs) (stv T2) rfl rfl 34 (stv (F j)) Bs (size_st T2) (by rw [stv_size, stv_size]) (stv_one T2) ?_))
      intro w6 hS
      clear cq0 cq1 fq lq
      clear  fs ls
      clear  ft lt
      replace Bq := hS.far (by first | (simp; done) | (simp; omega) | (simp [*]; done) | (simp only [ne_eq]; constructor <;> omega)) Bq
      replace Bs : Blk w6 (gs) 34 (stv T2) := hS.blk
      replace Bt := hS.far (by first | (simp; done) | (simp; omega) | (simp [*]; done) | (simp only [ne_eq]; constructor <;> omega)) Bt
      replace hB := hS.bel hB (by first | omega | (simp; omega))
      clear hS
      obtain ⟨cq0, cq1⟩ := cells2 Bq
      have fq := Bq.frozen; have lq := Bq.lt
      have fs := Bs.frozen; have ls := Bs.lt
      have ft := Bt.frozen; have lt := Bt.lt
      go_wp2_with fail
      have j9 := J9.out
      go_roundg (J - 1 - j)
      case measure => exact rd1 HG.out HJ.out
      case rel => exact ⟨j + 1, HJ.out, rd2 HJ.out, (by first | (rw [j9]) | go_num), hB, Bq, by rw [HT.out]; exact Bs⟩
    · obtain rfl : j = J := Nat.le_antisymm hj (Nat.le_of_not_lt hq)
      clear hq hgk hj HS JJ k_n
      obtain ⟨d0, hor⟩ := TT.out
      obtain ⟨e1, e2, e3, e4, e5⟩ := E1.out
      clear TT E1 HF0
      have hsv := saves_c
      have k_r := HR.out; clear HR
      rcases hor with ⟨d1, d2⟩ | ⟨d1, d2, d3, d4⟩
      all_goals
        go_upto_region 10 with fail
        go_upto_region 11 with fail
        obtain ⟨rp, rm⟩ := RP.out; obtain ⟨sp, sm⟩ := SP.out; clear RP SP
        go_wp2_with fail
        clear cq0 cq1; obtain ⟨cq0, cq1⟩ := lcells2 Bq
        refine wp_region_mix 12 (fun _ => #[]) (by kernel_rfl) (by kernel_rfl) (no_alloc (by kernel_rfl)) ?_
        simp only [List.take_succ_cons, List.take_zero, List.drop_succ_cons, List.drop_zero]
        repeat ((with_reducible refine wpMix_step (fun K hK => ?_)); go_simp; first | ((with_reducible refine hK _ ?_); clear hK K) | (rw [if_neg (by decide)]; (with_reducible refine hK _ ?_); clear hK K))
        refine wpMix_nil ?_
        intro G w4 hgr hblk hdist
        have hb : Below wo.heap.size wo w4 := hgr
        replace Bq := Bq.next hb
        replace Bs := Bs.next hb
        clear cq0 cq1 fq lq
        clear  fs ls
        replace hB : Below w.heap.size w w4 := Bl_trans hB hb
        simp only [putAll, isAlloc]
        clear hb hgr hblk hdist
        obtain ⟨cq0, cq1⟩ := cells2 Bq
        have fq := Bq.frozen; have lq := Bq.lt
        have fs := Bs.frozen; have ls := Bs.lt
        clear rp rm sp sm d0 e1 e2 e3
        cases q1 : decide (k ≤ p)
        · cases q3 : (m == 0)
          all_goals
            have q1i := q1; rw [show decide (k ≤ p) = decide ((k : Int) ≤ (p : Int)) by simp] at q1i
            have q3i := q3; rw [show (m == 0) = ((m : Int) == 0) by rw [Bool.eq_iff_iff]; simp] at q3i
            rw [q1, q3] at k_r
            go_wp2_with fail
            refine (hsv _).mono ?_
            rintro e w5 ⟨rfl, hb⟩
            clear cq0 cq1 fq lq
            clear  fs ls
            replace Bq := (Bq).next hb
            replace Bs := (Bs).next hb
            replace hB : Below w.heap.size w w5 := by repeat (first | exact hB | (refine Bl_set ?_ (by first | omega | (simp; omega)) _) | apply Bl_alloc | (refine Bl_trans ?_ hb))
            clear hb
            obtain ⟨cq0, cq1⟩ := cells2 Bq
            have fq := Bq.frozen; have lq := Bq.lt
            have fs := Bs.frozen; have ls := Bs.lt
            go_wp2_with fail
            refine wp_load_row 34 (.tmp 9) rfl (gs) rfl 34 (stv (F j)) (0, 0) _ Bs Try.underlying34 rfl (size_st (F j)) ?_
            go_wp2_with fail
            refine (k_r _).mono ?_
            rintro e w6 ⟨rfl, hb⟩
            clear cq0 cq1 fq lq
            clear  fs ls
            replace Bq := (Bq).next hb
            replace Bs := (Bs).next hb
            replace hB : Below w.heap.size w w6 := by repeat (first | exact hB | (refine Bl_set ?_ (by first | omega | (simp; omega)) _) | apply Bl_alloc | (refine Bl_trans ?_ hb))
            clear hb
            obtain ⟨cq0, cq1⟩ := cells2 Bq
            have fq := Bq.frozen; have lq := Bq.lt
            have fs := Bs.frozen; have ls := Bs.lt
            go_wp2
            go_ret
            exact ⟨rfl, by repeat (first | exact hB | (refine Bl_set ?_ (by first | omega | (simp; omega)) _) | apply Bl_alloc)⟩
        · cases q2 : decide (u ≤ L)
          · cases q3 : (m == 0)
            all_goals
              have q1i := q1; rw [show decide (k ≤ p) = decide ((k : Int) ≤ (p : Int)) by simp] at q1i
              have q2i := q2; rw [show decide (u ≤ L) = decide ((u : Int) ≤ (L : Int)) by simp] at q2i
              have q3i := q3; rw [show (m == 0) = ((m : Int) == 0) by rw [Bool.eq_iff_iff]; simp] at q3i
              rw [q1, q2, q3] at k_r
              go_wp2_with fail
              refine (hsv _).mono ?_
              rintro e w5 ⟨rfl, hb⟩
              clear cq0 cq1 fq lq
              clear  fs ls
              replace Bq := (Bq).next hb
              replace Bs := (Bs).next hb
              replace hB : Below w.heap.size w w5 := by repeat (first | exact hB | (refine Bl_set ?_ (by first | omega | (simp; omega)) _) | apply Bl_alloc | (refine Bl_trans ?_ hb))
              clear hb
              obtain ⟨cq0, cq1⟩ := cells2 Bq
              have fq := Bq.frozen; have lq := Bq.lt
              have fs := Bs.frozen; have ls := Bs.lt
              go_wp2_with fail
              refine wp_load_row 34 (.tmp 9) rfl (gs) rfl 34 (stv (F j)) (0, 0) _ Bs Try.underlying34 rfl (size_st (F j)) ?_
              go_wp2_with fail
              refine (k_r _).mono ?_
              rintro e w6 ⟨rfl, hb⟩
              clear cq0 cq1 fq lq
              clear  fs ls
              replace Bq := (Bq).next hb
              replace Bs := (Bs).next hb
              replace hB : Below w.heap.size w w6 := by repeat (first | exact hB | (refine Bl_set ?_ (by first | omega | (simp; omega)) _) | apply Bl_alloc | (refine Bl_trans ?_ hb))
              clear hb
              obtain ⟨cq0, cq1⟩ := cells2 Bq
              have fq := Bq.frozen; have lq := Bq.lt
              have fs := Bs.frozen; have ls := Bs.lt
              go_wp2
              go_ret
              exact ⟨rfl, by repeat (first | exact hB | (refine Bl_set ?_ (by first | omega | (simp; omega)) _) | apply Bl_alloc)⟩
          · have q1i := q1; rw [show decide (k ≤ p) = decide ((k : Int) ≤ (p : Int)) by simp] at q1i
            have q2i := q2; rw [show decide (u ≤ L) = decide ((u : Int) ≤ (L : Int)) by simp] at q2i
            rw [q1, q2] at k_r
            go_wp2_with fail
            refine (hsv _).mono ?_
            rintro e w5 ⟨rfl, hb⟩
            clear cq0 cq1 fq lq
            clear  fs ls
            replace Bq := (Bq).next hb
            replace Bs := (Bs).next hb
            replace hB : Below w.heap.size w w5 := by repeat (first | exact hB | (refine Bl_set ?_ (by first | omega | (simp; omega)) _) | apply Bl_alloc | (refine Bl_trans ?_ hb))
            clear hb
            obtain ⟨cq0, cq1⟩ := cells2 Bq
            have fq := Bq.frozen; have lq := Bq.lt
            have fs := Bs.frozen; have ls := Bs.lt
            go_wp2_with fail
            refine wp_load_row 34 (.tmp 9) rfl (gs) rfl 34 (stv (F j)) (0, 0) _ Bs Try.underlying34 rfl (size_st (F j)) ?_
            go_wp2_with fail
            refine (k_r _).mono ?_
            rintro e w6 ⟨rfl, hb⟩
            clear cq0 cq1 fq lq
            clear  fs ls
            replace Bq := (Bq).next hb
            replace Bs := (Bs).next hb
            replace hB : Below w.heap.size w w6 := by repeat (first | exact hB | (refine Bl_set ?_ (by first | omega | (simp; omega)) _) | apply Bl_alloc | (refine Bl_trans ?_ hb))
            clear hb
            obtain ⟨cq0, cq1⟩ := cells2 Bq
            have fq := Bq.frozen; have lq := Bq.lt
            have fs := Bs.frozen; have ls := Bs.lt
            go_wp2
            go_ret
            exact ⟨rfl, by repeat (first | exact hB | (refine Bl_set ?_ (by first | omega | (simp; omega)) _) | apply Bl_alloc)⟩
theorem walkN_AbsregReady (z : Int) (l0 : -9223372036854775808 ≤ z) (h0 : z ≤ 9223372036854775807) (n : Int) (l1 : -9223372036854775808 ≤ n) (h1 : n ≤ 9223372036854775807) (x y : Int) (w : World) : Calls Try.prog 4 #[.int .i64 z, .int .i64 n, .agg #[.int .i64 x, .int .i64 y]] w fun e w' => e = .returned (.bool true) ∧ Below w.heap.size w w' := by
  obtain ⟨k, hk, rk, sk⟩ := rem2_is 64 (by decide) (by decide) z
  obtain ⟨c0, hc0, rc0, sc0⟩ := rem2_is 20 (by decide) (by decide) n
  obtain ⟨p, hp, rp, sp⟩ := rem2_is 64 (by decide) (by decide) x
  obtain ⟨m, hm, rm, sm⟩ := rem2_is 30 (by decide) (by decide) y
  exact walk_AbsregReady z n x y k c0 (1 + c0) (min (1 + c0) (64 - k)) p m hk hp hm (by omega) rfl (by rw [IntWalk.wrap64_in _ (by constructor <;> omega)]; omega) rk sk rc0 sc0 rp sp rm sm w
namespace absregReady
set_option maxRecDepth 100000 in
theorem lifted (os : Os) (started : os.Started) (H : Type) (enc : TypeId × Value → H) :
    ReturnsInHanded {} Try.checked os 4 .any (Rows.absregReadySpec.pre6 enc Try.prog Try.f4 Rows.absregReadyRow.domain false) (Rows.absregReadySpec.post enc Try.prog Try.f4 false true false false) := by
  refine returnsInHanded_of_change (C := Try.checked) own started (by kernel_rfl) Try.func4
    (ChangeSpec.witness6 (enc := enc) (C := Try.checked) false ⟨#[], #[.int .i64 0, .int .i64 0, .agg #[.int .i64 0, .int .i64 0]], []⟩ 8 (by kernel_rfl) (by kernel_rfl) (by kernel_rfl) (by kernel_rfl)) ?_
  intro W base args ds gs before hval0 hW hcnd _
  have hval : ∀ (j : Nat) t v, Try.f4.params[j]? = some t → args[j]? = some v → Value.okWide Try.prog W .any base t v := hval0
  have hW' := hW
  obtain ⟨p, q, hA0, hV, rfl, hfz, hnd⟩ := hW
  have hA : DataW.TrodAll enc Try.prog W 0 (fun _ => true) true Try.f4.params.toList args.toList ds p := hA0
  rw [Try.params4] at hA hval
  obtain ⟨v0, vs0, d0, ds0, p0, q0, hargs, rfl, rfl, h0, r0⟩ := trodAll_cons hA
  obtain ⟨v1, vs1, d1, ds1, p1, q1, rfl, rfl, rfl, h1, r1⟩ := trodAll_cons r0
  obtain ⟨v2, vs2, d2, ds2, p2, q2, rfl, rfl, rfl, h2, r2⟩ := trodAll_cons r1
  obtain ⟨rfl, rfl, rfl⟩ := trodAll_nil r2
  obtain rfl : args = #[v0, v1, v2] := by cases args; simp_all
  obtain ⟨rfl, rfl⟩ := trodVars_none hV
  have lt0 : ∀ x ∈ p0, x.block < W.heap.size := by obtain ⟨m, hm⟩ := h0; exact DataW.trod_lt m _ _ _ hm
  obtain ⟨x0, rfl, lo0, hi0⟩ := open_i64 Try.underlying3 (hval 0 3 v0 rfl rfl)
  have lt1 : ∀ x ∈ p1, x.block < W.heap.size := by obtain ⟨m, hm⟩ := h1; exact DataW.trod_lt m _ _ _ hm
  obtain ⟨x1, rfl, lo1, hi1⟩ := open_i64 Try.underlying3 (hval 1 3 v1 rfl rfl)
  have lt2 : ∀ x ∈ p2, x.block < W.heap.size := by obtain ⟨m, hm⟩ := h2; exact DataW.trod_lt m _ _ _ hm
  obtain ⟨x2, y2, rfl⟩ := open_ii Try.underlying3 (by rw [Try.underlying43]) (by kernel_rfl) (by kernel_rfl) (hval 2 43 v2 rfl rfl)
  refine (walkN_AbsregReady x0 lo0 hi0 x1 lo1 hi1 x2 y2 W).mono fun e W' ⟨he, bel⟩ => ?_
  subst he
  exact ⟨_, rfl, _, _, _, [], _, [], hW', trodAll_mk1 (shut_bool Try.underlying4 _), (trodAll_cons_mk (Below.trod laidOut (by kernel_rfl) (of_decide_eq_true (by kernel_rfl)) h0 bel lt0) (trodAll_cons_mk (Below.trod laidOut (by kernel_rfl) (of_decide_eq_true (by kernel_rfl)) h1 bel lt1) (trodAll_cons_mk (Below.trod laidOut (by kernel_rfl) (of_decide_eq_true (by kernel_rfl)) h2 bel lt2) trodAll_mk0))), rfl, bel.frame _, fun h => by cases h⟩
theorem over : Rows.absregReadyRow.holds Try.pinned (OpenSpec.ofChange Rows.absregReadySpec) :=
  OpenClaim.holds_of_wide 4 Try.f4 rfl rfl rfl rfl rfl rfl rfl ⟨rfl, rfl, rfl, rfl, rfl⟩ rfl rfl rfl rfl rfl (by kernel_rfl) Try.func4 (by kernel_rfl)
    (of_decide_eq_true (by kernel_rfl)) (by unfold Func.isWrapper; first | (rw [if_pos (by decide +kernel)]; kernel_rfl) | (rw [if_neg (by decide +kernel)]; exact ⟨rfl, rfl⟩))
    (fun os started H enc _ => lifted os started H enc)
/-- The given statement. -/
theorem proved : Rows.AbsregReadySaid := over
#print axioms proved
end absregReady
end Go.Proofs.Ytmghpoagpiljhab
