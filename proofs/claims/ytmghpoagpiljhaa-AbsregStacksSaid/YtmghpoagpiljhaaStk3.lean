/- AbsregStacks' own walk. -/
import Derived.Test.YtmghpoagpiljhaaStk2
import Derived.Test.YtmghpoagpiljhaaStkEq
import Derived.Test.YtmghpoagpiljhaaOpenA
import Derived.Test.YtmghpoagpiljhaaMixR
import Derived.Deep.CutBlock
import Derived.Deep.QuietTactic
import Derived.BigQuiet
import Derived.Deep.DeepCutAuto
set_option linter.unusedSimpArgs false
set_option linter.unusedVariables false
namespace Go.Proofs.Ytmghpoagpiljhaa
open Go.RowKit
open PlainTnum (N)
open PlainScalar (Rng)
open PlainAbs (Rg St zr zs upd Sk)
theorem rem2_is (m : Nat) (h0 : 0 < m) (hm : m < 100) (k : Int) : ∃ n : Nat, n < m ∧ wrap64 ((IntKind.u64.wrap k).tmod m) = (n : Int) ∧ IntKind.i64.wrap ((IntKind.u64.wrap k).tmod m) = (n : Int) := by
  have h : 0 ≤ IntKind.u64.wrap k := by rw [wrap_u]; exact T_lo _
  obtain ⟨x, hx⟩ : ∃ x : Nat, IntKind.u64.wrap k = (x : Int) := ⟨_, (Int.toNat_of_nonneg h).symm⟩
  have hl := Nat.mod_lt x h0
  have e : (IntKind.u64.wrap k).tmod (m : Int) = ((x % m : Nat) : Int) := by rw [hx, Int.tmod_eq_emod_of_nonneg (by omega)]; exact (Int.natCast_emod _ _).symm
  refine ⟨x % m, hl, ?_, ?_⟩
  · rw [e]; exact IntWalk.wrap64_in _ (by constructor <;> omega)
  · rw [e]; exact IntWalk.i64_in _ (by constructor <;> omega)

theorem build_sk (w : World) : (Instr.build 74 #[]).run Try.prog w = .ok (.agg (skv PlainAbs.sk0)) w := by kernel_rfl
theorem wpList_val {P : Program} {ops : Array Oper} {rest : List Oper} {o : Oper} {a : Act} {w w' : World} {Q : Exit → Act → World → Prop} (hgd : o.guard = none) (v : Value) (hrun : (execOp a.eval o).run P w = .ok (.value v) w') (h : wpList P ops Q rest (a.put o.dst v) w') : wpList P ops Q (o :: rest) a w :=
  wpList_plain hgd fun _ hK => by
    unfold Oper.wp
    rw [hrun]
    exact hK _ _ h
theorem wpList_build_sk {ops : Array Oper} {rest : List Oper} {o : Oper} {a : Act} {w : World} {Q : Exit → Act → World → Prop} (hgd : o.guard = none) (ho : o.op = .build 74 #[]) (q : Sk) (hq : q = PlainAbs.sk0) (h : wpList Try.prog ops Q rest (a.put o.dst (.agg (skv q))) w) : wpList Try.prog ops Q (o :: rest) a w := by
  obtain ⟨dst, op, type, pos, after, guard⟩ := o
  simp only at ho hgd
  subst ho; subst hgd; subst hq
  refine wpList_val rfl (.agg (skv PlainAbs.sk0)) ?_ h
  go_simp
  kernel_rfl
theorem box_sk (q : Sk) (w : World) : (Instr.box 74 (.agg (skv q))).run Try.prog w = .ok (.pointer (some ⟨w.heap.size, 0, none⟩)) (w.alloc (.cells (skv q) 74)) := by go_simp
theorem wpList_box_sk {ops : Array Oper} {rest : List Oper} {o : Oper} {a : Act} {w : World} {Q : Exit → Act → World → Prop} (hgd : o.guard = none) (x : Operand) (ho : o.op = .box 74 x) (q : Sk) (hx : a.eval x = .agg (skv q)) (h : wpList Try.prog ops Q rest (a.put o.dst (.pointer (some ⟨w.heap.size, 0, none⟩))) (w.alloc (.cells (skv q) 74))) : wpList Try.prog ops Q (o :: rest) a w := by
  obtain ⟨dst, op, type, pos, after, guard⟩ := o
  simp only at ho hgd
  subst ho; subst hgd
  refine wpList_val rfl (.pointer (some ⟨w.heap.size, 0, none⟩)) ?_ h
  have hb := box_sk q w
  unfold execOp
  simp only [hx]
  go_simp
theorem wpList_new_st {ops : Array Oper} {rest : List Oper} {o : Oper} {a : Act} {w : World} {Q : Exit → Act → World → Prop} (hgd : o.guard = none) (ho : isAlloc o = some 69) (g : Nat) (hg : g = w.heap.size) (h : wpList Try.prog ops Q rest (a.put o.dst (.pointer (some ⟨g, 0, none⟩))) (w.alloc (.cells (stv zs) 69))) : wpList Try.prog ops Q (o :: rest) a w :=
  wpList_val hgd _ (by rw [hg]; exact new_st ho _ _) h
theorem rsave_same {q Q2 : Sk} {z : Int} {n v : Nat} (h : (Q2, false) = PlainAbs.rsave q z n v) : Q2 = q := by
  unfold PlainAbs.rsave at h
  split at h
  · simp at h
  · exact (Prod.mk.inj h).1
theorem wpList_load_whole_g {P : Program} {ops : Array Oper} {rest : List Oper} {o : Oper} {a : Act} {w : World} {Q : Exit → Act → World → Prop} (hw : Region.wanted o (yielded ops a.tmps) = true) (ty : TypeId) (x : Operand) (ho : o.op = .load ty x)
    (g : Nat) (hx : a.eval x = .pointer (some ⟨g, 0, none⟩)) (t : TypeId) (cs : Array Value) (d : TypeDesc) (hB : Blk w g t cs)
    (hu : P.underlying ty = some d) (hd : (match d with | .struct _ | .array _ _ => true | _ => false) = true) (hi : (P.info? ty).map (·.size) = some cs.size)
    (h : wpList P ops Q rest (a.put o.dst (.agg cs)) w) : wpList P ops Q (o :: rest) a w :=
  wpList_step fun K hK => by
    simp only [hw, if_true]
    exact wp_load_row ty x ho g hx t cs (0, 0) d hB hu hd hi (hK _ _ h)
theorem run_neq_st (o : Oper) (ρ : Operand → Value) (w : World) (x y : Operand) (u : TypeId) (ho : o.op = .binOp .neq 69 x y u) (s : St) (hx : ρ x = .agg (stv s)) (hy : ρ y = .agg (stv s)) : (execOp ρ o).run Try.prog w = .ok (.value (.bool false)) w := by
  unfold execOp
  simp only [ho, hx, hy, Sem.run_bind, eqG_st, neq_st, Result.andThen_ok]
  simp
theorem wpList_neq_st {ops : Array Oper} {rest : List Oper} {o : Oper} {a : Act} {w : World} {Q : Exit → Act → World → Prop} (hw : Region.wanted o (yielded ops a.tmps) = true) (x y : Operand) (u : TypeId) (ho : o.op = .binOp .neq 69 x y u) (s : St) (hx : a.eval x = .agg (stv s)) (hy : a.eval y = .agg (stv s))
    (h : wpList Try.prog ops Q rest (a.put o.dst (.bool false)) w) : wpList Try.prog ops Q (o :: rest) a w :=
  wpList_step fun K hK => by
    simp only [hw, if_true]
    unfold Oper.wp
    rw [run_neq_st o a.eval w x y u ho s hx hy]
    exact hK _ _ h
theorem sizes5 (m : Nat) (hm : m < 5) : ∃ nn : Nat, (nn = 1 ∨ nn = 2 ∨ nn = 4 ∨ nn = 8) ∧ ([.int .i64 1, .int .i64 2, .int .i64 4, .int .i64 8, .int .i64 8] : List Value)[m]'(by simpa using hm) = .int .i64 (nn : Int) := by
  match m, hm with
  | 0, _ => exact ⟨1, by omega, rfl⟩
  | 1, _ => exact ⟨2, by omega, rfl⟩
  | 2, _ => exact ⟨4, by omega, rfl⟩
  | 3, _ => exact ⟨8, by omega, rfl⟩
  | 4, _ => exact ⟨8, by omega, rfl⟩
theorem stk_j (j : Nat) (h : j < 40) : wrap64 ((j : Int) + 1) = ((j + 1 : Nat) : Int) := by rw [IntWalk.wrap64_in _ (by constructor <;> omega)]; omega
theorem stk_f (k f : Nat) (hk : k < 8) (hf : f = 8 * k) : wrap64 (8 * (k : Int)) = (f : Int) ∧ IntKind.i64.wrap (8 * (k : Int)) = (f : Int) ∧ wrap64 ((f : Int) - 64) = (f : Int) - 64 ∧ IntKind.i64.wrap ((f : Int) - 64) = (f : Int) - 64 ∧ wrap64 ((f : Int) + 8) = (f : Int) + 8 ∧ (k : Int) < 8 := by
  refine ⟨?_, ?_, ?_, ?_, ?_, ?_⟩ <;> first | omega | (rw [IntWalk.i64_in _ (by constructor <;> omega)]; omega) | (rw [IntWalk.wrap64_in _ (by constructor <;> omega)]; omega) | (rw [IntWalk.i64_in _ (by constructor <;> omega)]) | (rw [IntWalk.wrap64_in _ (by constructor <;> omega)])
theorem stk_g (k f j s : Nat) (hk : k < 8) (hf : f = 8 * k) (hj : j < 8) (hs : s = f + j) : wrap64 ((s : Int) - 64) = (s : Int) - 64 ∧ IntKind.i64.wrap ((s : Int) - 64) = (s : Int) - 64 ∧ (s : Int) < (f : Int) + 8 ∧ s < f + 8 ∧ (s : Int) < 64 ∧ s < 64 ∧ wrap64 ((s : Int) + 1) = ((s + 1 : Nat) : Int) := by
  refine ⟨?_, ?_, ?_, ?_, ?_, ?_, ?_⟩ <;> first | omega | (rw [IntWalk.i64_in _ (by constructor <;> omega)]; omega) | (rw [IntWalk.wrap64_in _ (by constructor <;> omega)]; omega) | (rw [IntWalk.i64_in _ (by constructor <;> omega)]) | (rw [IntWalk.wrap64_in _ (by constructor <;> omega)])
theorem sr1 {m j J : Nat} (h : m + j = J) (hj : j < J) : J - 1 - j < m := by omega
theorem sr2 {j J : Nat} (hj : j < J) : J - 1 - j + (j + 1) = J := by omega
theorem sr3 {j : Nat} (h : j ≤ 8) (h2 : ¬ j < 8) : j = 8 := by omega
set_option maxRecDepth 100000 in
set_option maxHeartbeats 20000000 in
theorem walk_AbsregStacks (ao : Option Addr) (n cap : Nat) (w : World) (hA : Acts w ao n) : Calls Try.prog 12 #[.slice ao n cap] w fun e w' => e = .returned (.bool true) ∧ Below w.heap.size w w' := by
  obtain ⟨J, hJ⟩ : ∃ J, J = min n 40 := ⟨_, rfl⟩
  have JJ := Lib.hid (show ∀ j, j < J → (j : Int) < (n : Int) ∧ j < n ∧ (j : Int) < 40 ∧ j < 40 from fun j h => by refine ⟨?_, ?_, ?_, ?_⟩ <;> omega)
  have JT := Lib.hid (show ((¬ (J : Int) < (n : Int) ∧ ¬ J < n) ∨ ((J : Int) < (n : Int) ∧ J < n ∧ ¬ (J : Int) < 40 ∧ ¬ J < 40)) by omega)
  have HA := Lib.hid hA; clear hA hJ
  have k_n : ∀ w : World, Calls Try.prog 47 #[.int .u64 7] w fun e w' => e = .returned (gv (PlainAbs.number (PlainScalar.const 7#64))) ∧ Below w.heap.size w w' := number_c 7#64
  obtain ⟨c7, e_c7⟩ : ∃ c7, c7 = PlainScalar.const 7#64 := ⟨_, rfl⟩; rw [← e_c7] at k_n; clear e_c7
  obtain ⟨N7, e_N7⟩ : ∃ N7, N7 = PlainAbs.number c7 := ⟨_, rfl⟩; rw [← e_N7] at k_n; have HN7 := Lib.hid e_N7; clear e_N7
  have KN := Lib.hid k_n; clear k_n
  have hst := start_c; rw [← PlainAbs.ofS_0] at hst; obtain ⟨Q0, e_Q0⟩ : ∃ Q, Q = PlainAbs.sk0 := ⟨_, rfl⟩; rw [← e_Q0] at hst
  obtain ⟨S0, e_S0⟩ : ∃ S, S = PlainAbs.ofS Q0 := ⟨_, rfl⟩; rw [← e_S0] at hst; have HS0 := Lib.hid e_S0
  have T0 : PlainAbs.Top Q0 40 := by rw [e_Q0]; exact PlainAbs.top_0 40
  have EQ0 := Lib.hid e_Q0; clear e_Q0 e_S0
  go_enter Try.func12, Try.ntmps12
  go_wp2_with fail
  have hB : Below w.heap.size w w := (Bl_refl w)
  refine (hst _).mono ?_
  rintro e w2 ⟨rfl, hb⟩
  replace hB : Below w.heap.size w w2 := by repeat (first | exact hB | (refine Bl_set ?_ (by first | omega | (simp; omega)) _) | apply Bl_alloc | (refine Bl_trans ?_ hb))
  clear hb
  have hgq := hB.size; have hgs : w.heap.size ≤ w2.heap.size + 1 := by have := hB.size; omega
  have hdqs : w2.heap.size ≠ w2.heap.size + 1 := by omega
  have Bn : Blk ((w2.alloc (.cells (skv Q0) 74)).alloc (.cells (stv zs) 69)) (w2.heap.size + 1) 69 (stv zs) := by simpa using Blk.new (w2.alloc (.cells (skv Q0) 74)) 69 (stv zs)
  go_wp2_with (first | (refine wpList_build_sk rfl rfl Q0 EQ0.out ?_) | (refine wpList_box_sk rfl (.tmp 24) rfl Q0 rfl ?_) | (refine wpList_new_st rfl rfl (w2.heap.size + 1) (by simp) ?_) | (refine wpList_store_whole rfl 69 (.tmp 3) (.tmp 23) rfl (w2.heap.size + 1) (stv S0) rfl rfl 69 (stv zs) Bn (size_st S0) (by rw [stv_size, stv_size]) (stv_one S0) ?_))
  intro w3 hS
  have Bq : Blk w3 (w2.heap.size) 74 (skv Q0) := hS.far hdqs ((Blk.new w2 74 (skv Q0)).alloc _)
  have Bs : Blk w3 (w2.heap.size + 1) 69 (stv S0) := hS.blk
  replace hB := hS.bel (Bl_alloc (Bl_alloc hB _) _) hgs
  clear hS Bn hst EQ0
  generalize w2.heap.size + 1 = gs at *; generalize w2.heap.size = gq at *
  have fq := Bq.frozen; have lq := Bq.lt
  have fs := Bs.frozen; have ls := Bs.lt
  have hsv := saves_c
  go_wp2_with fail
  refine (hsv _).mono ?_
  rintro e w4 ⟨rfl, hb⟩
  clear  fq lq
  clear  fs ls
  replace Bq := (Bq).next hb
  replace Bs := (Bs).next hb
  replace hB : Below w.heap.size w w4 := by repeat (first | exact hB | (refine Bl_set ?_ (by first | omega | (simp; omega)) _) | apply Bl_alloc | (refine Bl_trans ?_ hb))
  clear hb
  have fq := Bq.frozen; have lq := Bq.lt
  have fs := Bs.frozen; have ls := Bs.lt
  clear hsv
  go_upto_block 0 with fail
  go_cut [] (fun wr => ∃ q : Sk, Below w.heap.size w wr ∧ Blk wr (gq) 74 (skv q) ∧ Blk wr (gs) 69 (stv (PlainAbs.ofS q)))
  case first =>
    have fz := True.intro
    clear fz
    go_wp2_with fail
    clear  fq lq
    clear  fs ls
    go_loopg [5] J (fun m' i wr => ∃ (j : Nat) (q : Sk), j ≤ J ∧ m' + j = J ∧ i = .int .i64 (j : Int) ∧ Below w.heap.size w wr ∧ PlainAbs.Top q 40 ∧ Blk wr (gq) 74 (skv q) ∧ Blk wr (gs) 69 (stv (PlainAbs.ofS q)))
    case atStart => exact ⟨0, Q0, Nat.zero_le _, rfl, rfl, hB, T0, Bq, by rw [← HS0.out]; exact Bs⟩
    case round =>
      clear hB Bq Bs T0 HS0
      obtain ⟨j, q, hj, hgk, rfl, hB, hT, Bq, Bs⟩ := hrel
      obtain ⟨wo, rfl⟩ : ∃ z : World, z = wr := ⟨_, rfl⟩
      obtain ⟨S, e_S⟩ : ∃ S, S = PlainAbs.ofS q := ⟨_, rfl⟩; rw [← e_S] at Bs; have HS := Lib.hid e_S; clear e_S
      have fq := Bq.frozen; have lq := Bq.lt
      have fs := Bs.frozen; have ls := Bs.lt
      by_cases hq : j < J
      · have HJ := Lib.hid hq; have HG := Lib.hid hgk; have HT := Lib.hid hT; clear hj hgk hT
        obtain ⟨j1, j2, j3, j4⟩ := JJ.out j hq
        obtain ⟨g, off, z, zz, b, e_ao, z0, z1, c0, c1, c2⟩ := HA.out j j2
        subst e_ao
        replace c0 := (hB.cell (World.block_lt_of_cell? w _ c0)).trans c0; replace c1 := (hB.cell (World.block_lt_of_cell? w _ c1)).trans c1; replace c2 := (hB.cell (World.block_lt_of_cell? w _ c2)).trans c2
        obtain ⟨m, hm, rz0, sz0⟩ := rem2_is 5 (by decide) (by decide) zz
        have rz : wrap64 ((IntKind.u64.wrap zz).tmod 5) = (m : Int) := rz0; have sz : IntKind.i64.wrap ((IntKind.u64.wrap zz).tmod 5) = (m : Int) := sz0; clear rz0 sz0
        obtain ⟨nn, hnn, hnl⟩ := sizes5 m hm
        have hmi : (m : Int) < 5 := Int.ofNat_lt.2 hm
        have J4 := Lib.hid j4; have HN := Lib.hid hnn; have HL := Lib.hid hnl; have Z0 := Lib.hid z0; have Z1 := Lib.hid z1; clear hnn hnl j4 hq z0 z1
        obtain ⟨v, e_v⟩ : ∃ v, v = PlainAbs.vact b j := ⟨_, rfl⟩; obtain ⟨X, e_X⟩ : ∃ X, X = PlainAbs.xact b j c7 := ⟨_, rfl⟩
        obtain ⟨p2, e_p⟩ : ∃ p, p = PlainAbs.rsave q z nn v := ⟨_, rfl⟩
        obtain ⟨Q2, ok⟩ := p2
        obtain ⟨S2, e_S2⟩ : ∃ S, S = PlainAbs.ofS Q2 := ⟨_, rfl⟩
        have k_s : ∀ w : World, Calls Try.prog 48 #[.agg (stv S), .int .i64 z, .int .i64 (nn : Int), gv X] w fun e w' => e = .returned (.tuple #[.agg (stv S2), .bool ok]) ∧ Below w.heap.size w w' := fun w => by
          have h := save_c S z (nn : Int) X w; rw [HS.out, e_X, PlainAbs.save_is q z nn b j c7 HN.out, ← e_v, ← e_p] at h; rw [e_S2, e_X, HS.out]; exact h
        have k_r : ∀ w : World, Blk w (gq) 74 (skv q) → Calls Try.prog 49 #[.pointer (some ⟨gq, 0, none⟩), .int .i64 (PlainAbs.atz z), .int .i64 (nn : Int), .int .i64 (v : Int)] w fun e w' => e = .returned (.bool ok) ∧ Blk w' (gq) 74 (skv Q2) ∧ Over gq w w' := fun w B => by
          have h := rsave_c q gq z nn v HN.out w B; rw [← e_p] at h; exact h
        have HT2 := Lib.hid (show PlainAbs.Top Q2 40 by have h := PlainAbs.top_save HT.out z nn b j (show j + 1 ≤ 40 from J4.out); rw [← e_v, ← e_p] at h; exact h)
        have HSS := Lib.hid (show ok = false → S2 = S from fun h => by subst h; rw [e_S2, HS.out, rsave_same e_p])
        have HV := Lib.hid e_v; have HX := Lib.hid e_X; have HS2 := Lib.hid e_S2; have KS := Lib.hid k_s; have KR := Lib.hid k_r; clear e_v e_X e_p e_S2 k_s k_r
        go_upto_region 8 with fail
        clear j1 j2 c0 c1 c2
        clear  fq lq
        clear  fs ls
        have Ba := Blk.new wo 76 #[.int .i64 z, .int .i64 zz, .bool b]
        have hga := hB.size
        have hnqa := Nat.ne_of_lt Bq.lt; have hltqa := Bq.lt
        have hnsa := Nat.ne_of_lt Bs.lt; have hltsa := Bs.lt
        replace Bq : Blk (wo.alloc (.cells #[.int .i64 z, .int .i64 zz, .bool b] 76)) (gq) 74 ((skv q)) := Bq.alloc _
        replace Bs : Blk (wo.alloc (.cells #[.int .i64 z, .int .i64 zz, .bool b] 76)) (gs) 69 (stv S) := Bs.alloc _
        replace hB : Below w.heap.size w (wo.alloc (.cells #[.int .i64 z, .int .i64 zz, .bool b] 76)) := Bl_alloc hB _
        generalize (wo.alloc (.cells #[.int .i64 z, .int .i64 zz, .bool b] 76)) = w5 at *
        generalize wo.heap.size = ga at *
        have fq := Bq.frozen; have lq := Bq.lt
        have fs := Bs.frozen; have ls := Bs.lt
        have ca0 : w5.cell? ⟨ga, 0, none⟩ = some (.int .i64 z) := Ba.cell 0
        have ca1 : w5.cell? ⟨ga, 1, none⟩ = some (.int .i64 zz) := Ba.cell 1
        have ca2 : w5.cell? ⟨ga, 2, none⟩ = some (.bool b) := Ba.cell 2
        have fa := Ba.frozen; have la := Ba.lt
        go_upto_region 9 with fail
        have hnl := HL.out; rw [hnl]; clear hnl
        clear  fq lq
        clear  fs ls
        clear ca0 ca1 ca2 fa la
        have Bl := Blk.new w5 3 #[.int .i64 1, .int .i64 2, .int .i64 4, .int .i64 8, .int .i64 8]
        have hgl := hB.size
        have hnql := Nat.ne_of_lt Bq.lt; have hltql := Bq.lt
        have hnsl := Nat.ne_of_lt Bs.lt; have hltsl := Bs.lt
        have hnal := Nat.ne_of_lt Ba.lt; have hltal := Ba.lt
        replace Bq : Blk (w5.alloc (.cells #[.int .i64 1, .int .i64 2, .int .i64 4, .int .i64 8, .int .i64 8] 3)) (gq) 74 ((skv q)) := Bq.alloc _
        replace Bs : Blk (w5.alloc (.cells #[.int .i64 1, .int .i64 2, .int .i64 4, .int .i64 8, .int .i64 8] 3)) (gs) 69 (stv S) := Bs.alloc _
        replace Ba : Blk (w5.alloc (.cells #[.int .i64 1, .int .i64 2, .int .i64 4, .int .i64 8, .int .i64 8] 3)) (ga) 76 #[.int .i64 z, .int .i64 zz, .bool b] := Ba.alloc _
        replace hB : Below w.heap.size w (w5.alloc (.cells #[.int .i64 1, .int .i64 2, .int .i64 4, .int .i64 8, .int .i64 8] 3)) := Bl_alloc hB _
        generalize (w5.alloc (.cells #[.int .i64 1, .int .i64 2, .int .i64 4, .int .i64 8, .int .i64 8] 3)) = w6 at *
        generalize w5.heap.size = gl at *
        have fq := Bq.frozen; have lq := Bq.lt
        have fs := Bs.frozen; have ls := Bs.lt
        have ca0 : w6.cell? ⟨ga, 0, none⟩ = some (.int .i64 z) := Ba.cell 0
        have ca1 : w6.cell? ⟨ga, 1, none⟩ = some (.int .i64 zz) := Ba.cell 1
        have ca2 : w6.cell? ⟨ga, 2, none⟩ = some (.bool b) := Ba.cell 2
        have fa := Ba.frozen; have la := Ba.lt
        have cl0 : w6.cell? ⟨gl, 0, none⟩ = some (.int .i64 1) := Bl.cell 0
        have cl1 : w6.cell? ⟨gl, 1, none⟩ = some (.int .i64 2) := Bl.cell 1
        have cl2 : w6.cell? ⟨gl, 2, none⟩ = some (.int .i64 4) := Bl.cell 2
        have cl3 : w6.cell? ⟨gl, 3, none⟩ = some (.int .i64 8) := Bl.cell 3
        have cl4 : w6.cell? ⟨gl, 4, none⟩ = some (.int .i64 8) := Bl.cell 4
        have fl := Bl.frozen; have ll := Bl.lt
        clear  fq lq
        clear  fs ls
        clear ca0 ca1 ca2 fa la
        clear cl0 cl1 cl2 cl3 cl4 fl ll
        clear Bl
        have fq := Bq.frozen; have lq := Bq.lt
        have fs := Bs.frozen; have ls := Bs.lt
        have ca0 : w6.cell? ⟨ga, 0, none⟩ = some (.int .i64 z) := Ba.cell 0
        have ca1 : w6.cell? ⟨ga, 1, none⟩ = some (.int .i64 zz) := Ba.cell 1
        have ca2 : w6.cell? ⟨ga, 2, none⟩ = some (.bool b) := Ba.cell 2
        have fa := Ba.frozen; have la := Ba.lt
        clear rz sz hmi hm HL HN
        go_upto_region 10 with fail
        obtain ⟨D, e_D⟩ : ∃ D, D = (decide (-64 ≤ z) && decide (z < 0)) := ⟨_, rfl⟩; have HD := Lib.hid e_D; clear e_D
        go_cut [57] (fun s57 wr => s57 = .bool D ∧ w6 = wr)
        case first =>
          by_cases h1 : -64 ≤ z
          · by_cases h2 : z < 0
            · have h3 := True.intro; clear h3
              have E := Lib.hid (show D = true by rw [HD.out]; rw [decide_eq_true h1, decide_eq_true h2]; rfl)
              go_wp2_with fail
              go_meet
              case rel => exact ⟨by rw [E.out], rfl⟩
            · have h3 := True.intro; clear h3
              have E := Lib.hid (show D = false by rw [HD.out]; rw [decide_eq_false h2, Bool.and_false])
              go_wp2_with fail
              go_meet
              case rel => exact ⟨by rw [E.out], rfl⟩
          · have h3 := True.intro; clear h3
            have E := Lib.hid (show D = false by rw [HD.out]; rw [decide_eq_false h1, Bool.false_and])
            go_wp2_with fail
            go_meet
            case rel => exact ⟨by rw [E.out], rfl⟩
        case rest =>
          obtain ⟨rfl, rfl⟩ := hcut
          go_upto_if 57 with fail
          go_cut [8] (fun s8 wr => s8 = .int .i64 (PlainAbs.atz z) ∧ w6 = wr)
          case first =>
            cases D
            · have HAT := Lib.hid (show PlainAbs.atz z = -1 by unfold PlainAbs.atz; rw [if_neg (fun h => by have g := HD.out; rw [decide_eq_true h.1, decide_eq_true h.2] at g; cases g)])
              go_wp2_with fail
              go_meet
              case rel => exact ⟨by rw [HAT.out], rfl⟩
            · have hd : -64 ≤ z ∧ z < 0 := by have g := HD.out; rw [eq_comm, Bool.and_eq_true, decide_eq_true_eq, decide_eq_true_eq] at g; exact g
              have HAT := Lib.hid (show PlainAbs.atz z = z + 64 by unfold PlainAbs.atz; rw [if_pos hd])
              have zw : wrap64 (z + 64) = z + 64 := IntWalk.wrap64_in _ (by constructor <;> omega)
              have zi : IntKind.i64.wrap (z + 64) = z + 64 := IntWalk.i64_in _ (by constructor <;> omega)
              clear hd
              go_wp2_with fail
              go_meet
              case rel => exact ⟨by rw [HAT.out], rfl⟩
          case rest =>
            obtain ⟨rfl, rfl⟩ := hcut
            clear HD
            have k_n := KN.out
            go_wp2_with fail
            refine (k_n _).mono ?_
            rintro e w7 ⟨rfl, hb⟩
            clear  fq lq
            clear  fs ls
            clear ca0 ca1 ca2 fa la
            replace Bq := (Bq).next hb
            replace Bs := (Bs).next hb
            replace Ba := (Ba).next hb
            replace hB : Below w.heap.size w w7 := by repeat (first | exact hB | (refine Bl_set ?_ (by first | omega | (simp; omega)) _) | apply Bl_alloc | (refine Bl_trans ?_ hb))
            clear hb
            have fq := Bq.frozen; have lq := Bq.lt
            have fs := Bs.frozen; have ls := Bs.lt
            have ca0 : w7.cell? ⟨ga, 0, none⟩ = some (.int .i64 z) := Ba.cell 0
            have ca1 : w7.cell? ⟨ga, 1, none⟩ = some (.int .i64 zz) := Ba.cell 1
            have ca2 : w7.cell? ⟨ga, 2, none⟩ = some (.bool b) := Ba.cell 2
            have fa := Ba.frozen; have la := Ba.lt
            clear k_n
            go_upto_if 63 with fail
            clear  fq lq
            clear  fs ls
            clear ca0 ca1 ca2 fa la
            have Br := Blk.new w7 64 #[.int .i64 N7.kind, uv N7.r.b.v, uv N7.r.b.m, uv N7.r.lo, uv N7.r.hi, sv N7.r.sl, sv N7.r.sh, .int .i64 N7.slot, .int .i64 N7.id, .int .i64 N7.low, .int .i64 N7.high]
            have hgr := hB.size
            have hnqr := Nat.ne_of_lt Bq.lt; have hltqr := Bq.lt
            have hnsr := Nat.ne_of_lt Bs.lt; have hltsr := Bs.lt
            have hnar := Nat.ne_of_lt Ba.lt; have hltar := Ba.lt
            replace Bq : Blk (w7.alloc (.cells #[.int .i64 N7.kind, uv N7.r.b.v, uv N7.r.b.m, uv N7.r.lo, uv N7.r.hi, sv N7.r.sl, sv N7.r.sh, .int .i64 N7.slot, .int .i64 N7.id, .int .i64 N7.low, .int .i64 N7.high] 64)) (gq) 74 ((skv q)) := Bq.alloc _
            replace Bs : Blk (w7.alloc (.cells #[.int .i64 N7.kind, uv N7.r.b.v, uv N7.r.b.m, uv N7.r.lo, uv N7.r.hi, sv N7.r.sl, sv N7.r.sh, .int .i64 N7.slot, .int .i64 N7.id, .int .i64 N7.low, .int .i64 N7.high] 64)) (gs) 69 (stv S) := Bs.alloc _
            replace Ba : Blk (w7.alloc (.cells #[.int .i64 N7.kind, uv N7.r.b.v, uv N7.r.b.m, uv N7.r.lo, uv N7.r.hi, sv N7.r.sl, sv N7.r.sh, .int .i64 N7.slot, .int .i64 N7.id, .int .i64 N7.low, .int .i64 N7.high] 64)) (ga) 76 #[.int .i64 z, .int .i64 zz, .bool b] := Ba.alloc _
            replace hB : Below w.heap.size w (w7.alloc (.cells #[.int .i64 N7.kind, uv N7.r.b.v, uv N7.r.b.m, uv N7.r.lo, uv N7.r.hi, sv N7.r.sl, sv N7.r.sh, .int .i64 N7.slot, .int .i64 N7.id, .int .i64 N7.low, .int .i64 N7.high] 64)) := Bl_alloc hB _
            generalize (w7.alloc (.cells #[.int .i64 N7.kind, uv N7.r.b.v, uv N7.r.b.m, uv N7.r.lo, uv N7.r.hi, sv N7.r.sl, sv N7.r.sh, .int .i64 N7.slot, .int .i64 N7.id, .int .i64 N7.low, .int .i64 N7.high] 64)) = w8 at *
            generalize w7.heap.size = gr at *
            have fq := Bq.frozen; have lq := Bq.lt
            have fs := Bs.frozen; have ls := Bs.lt
            have ca0 : w8.cell? ⟨ga, 0, none⟩ = some (.int .i64 z) := Ba.cell 0
            have ca1 : w8.cell? ⟨ga, 1, none⟩ = some (.int .i64 zz) := Ba.cell 1
            have ca2 : w8.cell? ⟨ga, 2, none⟩ = some (.bool b) := Ba.cell 2
            have fa := Ba.frozen; have la := Ba.lt
            have cr0 : w8.cell? ⟨gr, 0, none⟩ = some (.int .i64 N7.kind) := Br.cell 0
            have cr1 : w8.cell? ⟨gr, 1, none⟩ = some (uv N7.r.b.v) := Br.cell 1
            have cr2 : w8.cell? ⟨gr, 2, none⟩ = some (uv N7.r.b.m) := Br.cell 2
            have cr3 : w8.cell? ⟨gr, 3, none⟩ = some (uv N7.r.lo) := Br.cell 3
            have cr4 : w8.cell? ⟨gr, 4, none⟩ = some (uv N7.r.hi) := Br.cell 4
            have cr5 : w8.cell? ⟨gr, 5, none⟩ = some (sv N7.r.sl) := Br.cell 5
            have cr6 : w8.cell? ⟨gr, 6, none⟩ = some (sv N7.r.sh) := Br.cell 6
            have cr7 : w8.cell? ⟨gr, 7, none⟩ = some (.int .i64 N7.slot) := Br.cell 7
            have cr8 : w8.cell? ⟨gr, 8, none⟩ = some (.int .i64 N7.id) := Br.cell 8
            have cr9 : w8.cell? ⟨gr, 9, none⟩ = some (.int .i64 N7.low) := Br.cell 9
            have cr10 : w8.cell? ⟨gr, 10, none⟩ = some (.int .i64 N7.high) := Br.cell 10
            have fr := Br.frozen; have lr := Br.lt
            go_cut [10] (fun s10 wr => s10 = .int .i64 (v : Int) ∧ Below w.heap.size w wr ∧ Blk wr (gq) 74 (skv q) ∧ Blk wr (gs) 69 (stv S) ∧ Blk wr (ga) 76 #[.int .i64 z, .int .i64 zz, .bool b] ∧ Blk wr (gr) 64 #[.int .i64 X.kind, uv X.r.b.v, uv X.r.b.m, uv X.r.lo, uv X.r.hi, sv X.r.sl, sv X.r.sh, .int .i64 X.slot, .int .i64 X.id, .int .i64 X.low, .int .i64 X.high])
            case first => as_aux_lemma =>
              cases b
              · have EV := Lib.hid (show v = 0 from HV.out); have EX := Lib.hid (show X = N7 by rw [HN7.out]; exact HX.out)
                go_wp2_with fail
                go_meet
                case rel => exact ⟨by rw [EV.out]; rfl, hB, Bq, Bs, Ba, by rw [EX.out]; exact Br⟩
              · have EV := Lib.hid (show v = j + 1 from HV.out); have EX := Lib.hid (show X = { zr with kind := 5, low := (j : Int), high := (j : Int) } by rw [HX.out]; show PlainAbs.kreg (j + 1) = _; unfold PlainAbs.kreg; rw [if_neg (by omega), show ((j + 1 : Nat) : Int) - 1 = (j : Int) by omega])
                have jw := stk_j j J4.out
                go_wp2_with (refine wpList_store_whole rfl 64 (.tmp 9) (.tmp 66) rfl (gr) #[.int .i64 5, .int .u64 0, .int .u64 0, .int .u64 0, .int .u64 0, .int .i64 0, .int .i64 0, .int .i64 0, .int .i64 0, .int .i64 (j : Int), .int .i64 (j : Int)] rfl rfl 64 _ Br (size_re _ _ _ _ _ _ _ _ _ _ _) rfl (by simp [Value.oneCell']) ?_)
                intro w9 hS
                clear  fq lq
                clear  fs ls
                clear ca0 ca1 ca2 fa la
                clear cr0 cr1 cr2 cr3 cr4 cr5 cr6 cr7 cr8 cr9 cr10 fr lr
                replace Bq := hS.far (by first | (simp; done) | (simp; omega) | (simp [*]; done) | (simp only [ne_eq]; constructor <;> omega)) Bq
                replace Bs := hS.far (by first | (simp; done) | (simp; omega) | (simp [*]; done) | (simp only [ne_eq]; constructor <;> omega)) Bs
                replace Ba := hS.far (by first | (simp; done) | (simp; omega) | (simp [*]; done) | (simp only [ne_eq]; constructor <;> omega)) Ba
                replace Br : Blk w9 (gr) 64 #[.int .i64 5, .int .u64 0, .int .u64 0, .int .u64 0, .int .u64 0, .int .i64 0, .int .i64 0, .int .i64 0, .int .i64 0, .int .i64 (j : Int), .int .i64 (j : Int)] := hS.blk
                replace hB := hS.bel hB (by first | omega | (simp; omega))
                clear hS
                have fq := Bq.frozen; have lq := Bq.lt
                have fs := Bs.frozen; have ls := Bs.lt
                have ca0 : w9.cell? ⟨ga, 0, none⟩ = some (.int .i64 z) := Ba.cell 0
                have ca1 : w9.cell? ⟨ga, 1, none⟩ = some (.int .i64 zz) := Ba.cell 1
                have ca2 : w9.cell? ⟨ga, 2, none⟩ = some (.bool true) := Ba.cell 2
                have fa := Ba.frozen; have la := Ba.lt
                have cr0 : w9.cell? ⟨gr, 0, none⟩ = some (.int .i64 5) := Br.cell 0
                have cr1 : w9.cell? ⟨gr, 1, none⟩ = some (.int .u64 0) := Br.cell 1
                have cr2 : w9.cell? ⟨gr, 2, none⟩ = some (.int .u64 0) := Br.cell 2
                have cr3 : w9.cell? ⟨gr, 3, none⟩ = some (.int .u64 0) := Br.cell 3
                have cr4 : w9.cell? ⟨gr, 4, none⟩ = some (.int .u64 0) := Br.cell 4
                have cr5 : w9.cell? ⟨gr, 5, none⟩ = some (.int .i64 0) := Br.cell 5
                have cr6 : w9.cell? ⟨gr, 6, none⟩ = some (.int .i64 0) := Br.cell 6
                have cr7 : w9.cell? ⟨gr, 7, none⟩ = some (.int .i64 0) := Br.cell 7
                have cr8 : w9.cell? ⟨gr, 8, none⟩ = some (.int .i64 0) := Br.cell 8
                have cr9 : w9.cell? ⟨gr, 9, none⟩ = some (.int .i64 (j : Int)) := Br.cell 9
                have cr10 : w9.cell? ⟨gr, 10, none⟩ = some (.int .i64 (j : Int)) := Br.cell 10
                have fr := Br.frozen; have lr := Br.lt
                go_wp2_with fail
                go_meet
                case rel => exact ⟨by rw [EV.out]; first | rfl | (rw [jw]; done) | simp, hB, Bq, Bs, Ba, by rw [EX.out]; exact Br⟩
            case rest =>
              clear  fq lq
              clear  fs ls
              clear ca0 ca1 ca2 fa la
              clear cr0 cr1 cr2 cr3 cr4 cr5 cr6 cr7 cr8 cr9 cr10 fr lr
              clear hB Bq Bs Ba Br
              obtain ⟨rfl, hB, Bq, Bs, Ba, Br⟩ := hcut
              have fq := Bq.frozen; have lq := Bq.lt
              have fs := Bs.frozen; have ls := Bs.lt
              have ca0 : wc.cell? ⟨ga, 0, none⟩ = some (.int .i64 z) := Ba.cell 0
              have ca1 : wc.cell? ⟨ga, 1, none⟩ = some (.int .i64 zz) := Ba.cell 1
              have ca2 : wc.cell? ⟨ga, 2, none⟩ = some (.bool b) := Ba.cell 2
              have fa := Ba.frozen; have la := Ba.lt
              have cr0 : wc.cell? ⟨gr, 0, none⟩ = some (.int .i64 X.kind) := Br.cell 0
              have cr1 : wc.cell? ⟨gr, 1, none⟩ = some (uv X.r.b.v) := Br.cell 1
              have cr2 : wc.cell? ⟨gr, 2, none⟩ = some (uv X.r.b.m) := Br.cell 2
              have cr3 : wc.cell? ⟨gr, 3, none⟩ = some (uv X.r.lo) := Br.cell 3
              have cr4 : wc.cell? ⟨gr, 4, none⟩ = some (uv X.r.hi) := Br.cell 4
              have cr5 : wc.cell? ⟨gr, 5, none⟩ = some (sv X.r.sl) := Br.cell 5
              have cr6 : wc.cell? ⟨gr, 6, none⟩ = some (sv X.r.sh) := Br.cell 6
              have cr7 : wc.cell? ⟨gr, 7, none⟩ = some (.int .i64 X.slot) := Br.cell 7
              have cr8 : wc.cell? ⟨gr, 8, none⟩ = some (.int .i64 X.id) := Br.cell 8
              have cr9 : wc.cell? ⟨gr, 9, none⟩ = some (.int .i64 X.low) := Br.cell 9
              have cr10 : wc.cell? ⟨gr, 10, none⟩ = some (.int .i64 X.high) := Br.cell 10
              have fr := Br.frozen; have lr := Br.lt
              go_wp2_with (first | (refine wpList_load_whole rfl 69 (.tmp 3) rfl (gs) rfl 69 (stv S) _ Bs Try.underlying69 rfl (size_st S) ?_) | (refine wpList_store_whole rfl 69 (.tmp 11) (.tmp 69) rfl (wc.heap.size) (stv S) rfl rfl 69 (stv zs) (Blk.new wc _ _) (size_st S) (by rw [stv_size, stv_size]) (stv_one S) ?_))
              intro w9 hS
              clear  fq lq
              clear  fs ls
              clear ca0 ca1 ca2 fa la
              clear cr0 cr1 cr2 cr3 cr4 cr5 cr6 cr7 cr8 cr9 cr10 fr lr
              have hnqy := Nat.ne_of_lt Bq.lt
              replace Bq := hS.far hnqy (Bq.alloc _)
              have hnsy := Nat.ne_of_lt Bs.lt
              replace Bs := hS.far hnsy (Bs.alloc _)
              have hnay := Nat.ne_of_lt Ba.lt
              replace Ba := hS.far hnay (Ba.alloc _)
              have hnry := Nat.ne_of_lt Br.lt
              replace Br := hS.far hnry (Br.alloc _)
              have hgy := hB.size
              have By : Blk w9 (wc.heap.size) 69 (stv S) := hS.blk
              replace hB := hS.bel (Bl_alloc hB _) hgy
              clear hS
              generalize wc.heap.size = gy at *
              have fq := Bq.frozen; have lq := Bq.lt
              have fs := Bs.frozen; have ls := Bs.lt
              have ca0 : w9.cell? ⟨ga, 0, none⟩ = some (.int .i64 z) := Ba.cell 0
              have ca1 : w9.cell? ⟨ga, 1, none⟩ = some (.int .i64 zz) := Ba.cell 1
              have ca2 : w9.cell? ⟨ga, 2, none⟩ = some (.bool b) := Ba.cell 2
              have fa := Ba.frozen; have la := Ba.lt
              have cr0 : w9.cell? ⟨gr, 0, none⟩ = some (.int .i64 X.kind) := Br.cell 0
              have cr1 : w9.cell? ⟨gr, 1, none⟩ = some (uv X.r.b.v) := Br.cell 1
              have cr2 : w9.cell? ⟨gr, 2, none⟩ = some (uv X.r.b.m) := Br.cell 2
              have cr3 : w9.cell? ⟨gr, 3, none⟩ = some (uv X.r.lo) := Br.cell 3
              have cr4 : w9.cell? ⟨gr, 4, none⟩ = some (uv X.r.hi) := Br.cell 4
              have cr5 : w9.cell? ⟨gr, 5, none⟩ = some (sv X.r.sl) := Br.cell 5
              have cr6 : w9.cell? ⟨gr, 6, none⟩ = some (sv X.r.sh) := Br.cell 6
              have cr7 : w9.cell? ⟨gr, 7, none⟩ = some (.int .i64 X.slot) := Br.cell 7
              have cr8 : w9.cell? ⟨gr, 8, none⟩ = some (.int .i64 X.id) := Br.cell 8
              have cr9 : w9.cell? ⟨gr, 9, none⟩ = some (.int .i64 X.low) := Br.cell 9
              have cr10 : w9.cell? ⟨gr, 10, none⟩ = some (.int .i64 X.high) := Br.cell 10
              have fr := Br.frozen; have lr := Br.lt
              have fy := By.frozen; have ly := By.lt
              have k_s := KS.out; clear KS
              go_wp2_with (first | (refine wpList_load_whole rfl 69 (.tmp 3) rfl (gs) rfl 69 (stv S) _ Bs Try.underlying69 rfl (size_st S) ?_) | (refine wpList_load_whole rfl 64 (.tmp 9) rfl (gr) rfl 64 #[.int .i64 X.kind, uv X.r.b.v, uv X.r.b.m, uv X.r.lo, uv X.r.hi, sv X.r.sl, sv X.r.sh, .int .i64 X.slot, .int .i64 X.id, .int .i64 X.low, .int .i64 X.high] _ Br Try.underlying64 rfl (size_re _ _ _ _ _ _ _ _ _ _ _) ?_))
              refine (k_s _).mono ?_
              rintro e w10 ⟨rfl, hb⟩
              clear  fq lq
              clear  fs ls
              clear ca0 ca1 ca2 fa la
              clear cr0 cr1 cr2 cr3 cr4 cr5 cr6 cr7 cr8 cr9 cr10 fr lr
              clear  fy ly
              replace Bq := (Bq).next hb
              replace Bs := (Bs).next hb
              replace Ba := (Ba).next hb
              replace Br := (Br).next hb
              replace By := (By).next hb
              replace hB : Below w.heap.size w w10 := by repeat (first | exact hB | (refine Bl_set ?_ (by first | omega | (simp; omega)) _) | apply Bl_alloc | (refine Bl_trans ?_ hb))
              clear hb
              have fq := Bq.frozen; have lq := Bq.lt
              have fs := Bs.frozen; have ls := Bs.lt
              have ca0 : w10.cell? ⟨ga, 0, none⟩ = some (.int .i64 z) := Ba.cell 0
              have ca1 : w10.cell? ⟨ga, 1, none⟩ = some (.int .i64 zz) := Ba.cell 1
              have ca2 : w10.cell? ⟨ga, 2, none⟩ = some (.bool b) := Ba.cell 2
              have fa := Ba.frozen; have la := Ba.lt
              have cr0 : w10.cell? ⟨gr, 0, none⟩ = some (.int .i64 X.kind) := Br.cell 0
              have cr1 : w10.cell? ⟨gr, 1, none⟩ = some (uv X.r.b.v) := Br.cell 1
              have cr2 : w10.cell? ⟨gr, 2, none⟩ = some (uv X.r.b.m) := Br.cell 2
              have cr3 : w10.cell? ⟨gr, 3, none⟩ = some (uv X.r.lo) := Br.cell 3
              have cr4 : w10.cell? ⟨gr, 4, none⟩ = some (uv X.r.hi) := Br.cell 4
              have cr5 : w10.cell? ⟨gr, 5, none⟩ = some (sv X.r.sl) := Br.cell 5
              have cr6 : w10.cell? ⟨gr, 6, none⟩ = some (sv X.r.sh) := Br.cell 6
              have cr7 : w10.cell? ⟨gr, 7, none⟩ = some (.int .i64 X.slot) := Br.cell 7
              have cr8 : w10.cell? ⟨gr, 8, none⟩ = some (.int .i64 X.id) := Br.cell 8
              have cr9 : w10.cell? ⟨gr, 9, none⟩ = some (.int .i64 X.low) := Br.cell 9
              have cr10 : w10.cell? ⟨gr, 10, none⟩ = some (.int .i64 X.high) := Br.cell 10
              have fr := Br.frozen; have lr := Br.lt
              have fy := By.frozen; have ly := By.lt
              clear k_s
              go_wp2_with (refine wpList_store_whole rfl 69 (.tmp 12) (.tmp 77) rfl (w10.heap.size) (stv S2) rfl rfl 69 (stv zs) (Blk.new w10 _ _) (size_st S2) (by rw [stv_size, stv_size]) (stv_one S2) ?_)
              intro w11 hS
              clear  fq lq
              clear  fs ls
              clear ca0 ca1 ca2 fa la
              clear cr0 cr1 cr2 cr3 cr4 cr5 cr6 cr7 cr8 cr9 cr10 fr lr
              clear  fy ly
              have hnqt := Nat.ne_of_lt Bq.lt
              replace Bq := hS.far hnqt (Bq.alloc _)
              have hnst := Nat.ne_of_lt Bs.lt
              replace Bs := hS.far hnst (Bs.alloc _)
              have hnat := Nat.ne_of_lt Ba.lt
              replace Ba := hS.far hnat (Ba.alloc _)
              have hnrt := Nat.ne_of_lt Br.lt
              replace Br := hS.far hnrt (Br.alloc _)
              have hnyt := Nat.ne_of_lt By.lt
              replace By := hS.far hnyt (By.alloc _)
              have hgt := hB.size
              have Bt : Blk w11 (w10.heap.size) 69 (stv S2) := hS.blk
              replace hB := hS.bel (Bl_alloc hB _) hgt
              clear hS
              generalize w10.heap.size = gt at *
              have fq := Bq.frozen; have lq := Bq.lt
              have fs := Bs.frozen; have ls := Bs.lt
              have ca0 : w11.cell? ⟨ga, 0, none⟩ = some (.int .i64 z) := Ba.cell 0
              have ca1 : w11.cell? ⟨ga, 1, none⟩ = some (.int .i64 zz) := Ba.cell 1
              have ca2 : w11.cell? ⟨ga, 2, none⟩ = some (.bool b) := Ba.cell 2
              have fa := Ba.frozen; have la := Ba.lt
              have cr0 : w11.cell? ⟨gr, 0, none⟩ = some (.int .i64 X.kind) := Br.cell 0
              have cr1 : w11.cell? ⟨gr, 1, none⟩ = some (uv X.r.b.v) := Br.cell 1
              have cr2 : w11.cell? ⟨gr, 2, none⟩ = some (uv X.r.b.m) := Br.cell 2
              have cr3 : w11.cell? ⟨gr, 3, none⟩ = some (uv X.r.lo) := Br.cell 3
              have cr4 : w11.cell? ⟨gr, 4, none⟩ = some (uv X.r.hi) := Br.cell 4
              have cr5 : w11.cell? ⟨gr, 5, none⟩ = some (sv X.r.sl) := Br.cell 5
              have cr6 : w11.cell? ⟨gr, 6, none⟩ = some (sv X.r.sh) := Br.cell 6
              have cr7 : w11.cell? ⟨gr, 7, none⟩ = some (.int .i64 X.slot) := Br.cell 7
              have cr8 : w11.cell? ⟨gr, 8, none⟩ = some (.int .i64 X.id) := Br.cell 8
              have cr9 : w11.cell? ⟨gr, 9, none⟩ = some (.int .i64 X.low) := Br.cell 9
              have cr10 : w11.cell? ⟨gr, 10, none⟩ = some (.int .i64 X.high) := Br.cell 10
              have fr := Br.frozen; have lr := Br.lt
              have fy := By.frozen; have ly := By.lt
              have ft := Bt.frozen; have lt := Bt.lt
              clear  fq lq
              clear  fs ls
              clear ca0 ca1 ca2 fa la
              clear cr0 cr1 cr2 cr3 cr4 cr5 cr6 cr7 cr8 cr9 cr10 fr lr
              clear  fy ly
              clear  ft lt
              clear Ba
              clear Br
              have fq := Bq.frozen; have lq := Bq.lt
              have fs := Bs.frozen; have ls := Bs.lt
              have fy := By.frozen; have ly := By.lt
              have ft := Bt.frozen; have lt := Bt.lt
              go_upto_region 17 with fail
              go_cut [99] (fun s99 wr => s99 = .bool false ∧ Below w.heap.size w wr ∧ Blk wr (gq) 74 (skv Q2) ∧ Blk wr (gs) 69 (stv S) ∧ Blk wr (gt) 69 (stv S2))
              case first => as_aux_lemma =>
                have k_r := KR.out _ Bq; clear KR
                cases ok
                · obtain rfl := HSS.out rfl
                  go_wp2_with (first | (refine wpList_load_whole rfl 69 (.tmp 3) rfl (gs) rfl 69 _ _ Bs Try.underlying69 rfl (size_st _) ?_) | (refine wpList_load_whole rfl 69 (.tmp 11) rfl (gy) rfl 69 _ _ By Try.underlying69 rfl (size_st _) ?_) | (refine wpList_neq_st rfl (.tmp 79) (.tmp 80) _ rfl _ rfl rfl ?_))
                  refine k_r.mono ?_
                  rintro e w12 ⟨rfl, Bq2, ho⟩
                  clear  fq lq
                  clear  fs ls
                  clear  fy ly
                  clear  ft lt
                  replace Bs := ho.far (by first | (simp; done) | (simp; omega) | (simp [*]; done) | (simp only [ne_eq]; constructor <;> omega)) Bs
                  replace By := ho.far (by first | (simp; done) | (simp; omega) | (simp [*]; done) | (simp only [ne_eq]; constructor <;> omega)) By
                  replace Bt := ho.far (by first | (simp; done) | (simp; omega) | (simp [*]; done) | (simp only [ne_eq]; constructor <;> omega)) Bt
                  replace Bq := Bq2; replace hB := ho.bel hB hgq; clear Bq2 ho k_r
                  have fq := Bq.frozen; have lq := Bq.lt
                  have fs := Bs.frozen; have ls := Bs.lt
                  have fy := By.frozen; have ly := By.lt
                  have ft := Bt.frozen; have lt := Bt.lt
                  go_wp2_with (first | (refine wpList_load_whole_g rfl 69 (.tmp 12) rfl (gt) rfl 69 _ _ Bt Try.underlying69 rfl (size_st _) ?_) | (refine wpList_load_whole_g rfl 69 (.tmp 3) rfl (gs) rfl 69 _ _ Bs Try.underlying69 rfl (size_st _) ?_) | (refine wpList_neq_st rfl (.tmp 95) (.tmp 96) _ rfl _ rfl rfl ?_))
                  go_meet
                  case rel => exact ⟨rfl, hB, Bq, Bs, Bt⟩
                · go_wp2_with (first | (refine wpList_load_whole rfl 69 (.tmp 3) rfl (gs) rfl 69 _ _ Bs Try.underlying69 rfl (size_st _) ?_) | (refine wpList_load_whole rfl 69 (.tmp 11) rfl (gy) rfl 69 _ _ By Try.underlying69 rfl (size_st _) ?_) | (refine wpList_neq_st rfl (.tmp 79) (.tmp 80) _ rfl _ rfl rfl ?_))
                  refine k_r.mono ?_
                  rintro e w12 ⟨rfl, Bq2, ho⟩
                  clear  fq lq
                  clear  fs ls
                  clear  fy ly
                  clear  ft lt
                  replace Bs := ho.far (by first | (simp; done) | (simp; omega) | (simp [*]; done) | (simp only [ne_eq]; constructor <;> omega)) Bs
                  replace By := ho.far (by first | (simp; done) | (simp; omega) | (simp [*]; done) | (simp only [ne_eq]; constructor <;> omega)) By
                  replace Bt := ho.far (by first | (simp; done) | (simp; omega) | (simp [*]; done) | (simp only [ne_eq]; constructor <;> omega)) Bt
                  replace Bq := Bq2; replace hB := ho.bel hB hgq; clear Bq2 ho k_r
                  have fq := Bq.frozen; have lq := Bq.lt
                  have fs := Bs.frozen; have ls := Bs.lt
                  have fy := By.frozen; have ly := By.lt
                  have ft := Bt.frozen; have lt := Bt.lt
                  go_wp2_with fail
                  go_meet
                  case rel => exact ⟨rfl, hB, Bq, Bs, Bt⟩
              case rest =>
                clear  fq lq
                clear  fs ls
                clear  fy ly
                clear  ft lt
                clear hB Bq Bs Bt By KR HSS HX HV
                obtain ⟨rfl, hB, Bq, Bs, Bt⟩ := hcut
                obtain ⟨wd, rfl⟩ : ∃ z : World, z = wc := ⟨_, rfl⟩
                have fq := Bq.frozen; have lq := Bq.lt
                have fs := Bs.frozen; have ls := Bs.lt
                have ft := Bt.frozen; have lt := Bt.lt
                go_wp2_with (first | (refine wpList_load_whole rfl 69 (.tmp 12) rfl (gt) rfl 69 (stv S2) _ Bt Try.underlying69 rfl (size_st S2) ?_) | (refine wpList_store_whole rfl 69 (.tmp 3) (.tmp 100) rfl (gs) (stv S2) rfl rfl 69 (stv S) Bs (size_st S2) (by rw [stv_size, stv_size]) (stv_one S2) ?_))
                intro w12 hS
                clear  fq lq
                clear  fs ls
                clear  ft lt
                replace Bq := hS.far (by first | (simp; done) | (simp; omega) | (simp [*]; done) | (simp only [ne_eq]; constructor <;> omega)) Bq
                replace Bs : Blk w12 (gs) 69 (stv S2) := hS.blk
                replace Bt := hS.far (by first | (simp; done) | (simp; omega) | (simp [*]; done) | (simp only [ne_eq]; constructor <;> omega)) Bt
                replace hB := hS.bel hB (by first | omega | (simp; omega))
                clear hS
                have fq := Bq.frozen; have lq := Bq.lt
                have fs := Bs.frozen; have ls := Bs.lt
                have ft := Bt.frozen; have lt := Bt.lt
                clear  fq lq
                clear  fs ls
                clear  ft lt
                clear Bt
                have fq := Bq.frozen; have lq := Bq.lt
                have fs := Bs.frozen; have ls := Bs.lt
                go_wp2_with fail
                clear  fq lq
                clear  fs ls
                go_loopg [14] 8 (fun m' i wr => ∃ k : Nat, k ≤ 8 ∧ m' + k = 8 ∧ i = .int .i64 (k : Int) ∧ Below w.heap.size w wr ∧ Blk wr (gq) 74 (skv Q2) ∧ Blk wr (gs) 69 (stv S2))
                case atStart => exact ⟨0, Nat.zero_le _, rfl, rfl, hB, Bq, Bs⟩
                case round => as_aux_lemma =>
                  clear hB Bq Bs
                  obtain ⟨k, hk, hgk, rfl, hB, Bq, Bs⟩ := hrel
                  obtain ⟨wk, rfl⟩ : ∃ z : World, z = wr := ⟨_, rfl⟩
                  have fq := Bq.frozen; have lq := Bq.lt
                  have fs := Bs.frozen; have ls := Bs.lt
                  by_cases hk8 : k < 8
                  · have HK := Lib.hid hk8; have HGk := Lib.hid hgk; clear hk hgk
                    obtain ⟨f, hf⟩ : ∃ f, f = 8 * k := ⟨_, rfl⟩; have HF := Lib.hid hf
                    obtain ⟨f1, f2, f3, f4, f5, f6⟩ := stk_f k f hk8 hf
                    have F5 := Lib.hid f5; clear f5 hf hk8
                    obtain ⟨p3, e_p⟩ : ∃ p, p = PlainAbs.load S2 ((f : Int) - 64) 8 := ⟨_, rfl⟩; obtain ⟨Y, is⟩ := p3
                    have k_l : ∀ w : World, Calls Try.prog 50 #[.agg (stv S2), .int .i64 ((f : Int) - 64), .int .i64 8] w fun e w' => e = .returned (.tuple #[gv Y, .bool is]) ∧ Below w.heap.size w w' := fun w => by have h := load_c S2 ((f : Int) - 64) 8 w; rw [← e_p] at h; exact h
                    have HP := Lib.hid (show (Y, is) = if Q2.kept k = 0 then (if PlainAbs.rdy Q2 k 8 = true then (PlainAbs.number (PlainScalar.low PlainScalar.any 8), true) else (zr, false)) else (PlainAbs.kreg (Q2.kept k), true) by rw [e_p, HS2.out, HF.out]; exact PlainAbs.load_is Q2 HK.out)
                    clear e_p
                    go_wp2_with (refine wpList_load_whole rfl 69 (.tmp 3) rfl (gs) rfl 69 (stv S2) _ Bs Try.underlying69 rfl (size_st S2) ?_)
                    refine (k_l _).mono ?_
                    rintro e w13 ⟨rfl, hb⟩
                    clear  fq lq
                    clear  fs ls
                    replace Bq := (Bq).next hb
                    replace Bs := (Bs).next hb
                    replace hB : Below w.heap.size w w13 := by repeat (first | exact hB | (refine Bl_set ?_ (by first | omega | (simp; omega)) _) | apply Bl_alloc | (refine Bl_trans ?_ hb))
                    clear hb
                    have fq := Bq.frozen; have lq := Bq.lt
                    have fs := Bs.frozen; have ls := Bs.lt
                    clear k_l f3 f4 f6
                    go_upto_region 24 with fail
                    clear  fq lq
                    clear  fs ls
                    have Bx := Blk.new w13 64 #[.int .i64 Y.kind, uv Y.r.b.v, uv Y.r.b.m, uv Y.r.lo, uv Y.r.hi, sv Y.r.sl, sv Y.r.sh, .int .i64 Y.slot, .int .i64 Y.id, .int .i64 Y.low, .int .i64 Y.high]
                    have hgx := hB.size
                    have hnqx := Nat.ne_of_lt Bq.lt; have hltqx := Bq.lt
                    have hnsx := Nat.ne_of_lt Bs.lt; have hltsx := Bs.lt
                    replace Bq : Blk (w13.alloc (.cells #[.int .i64 Y.kind, uv Y.r.b.v, uv Y.r.b.m, uv Y.r.lo, uv Y.r.hi, sv Y.r.sl, sv Y.r.sh, .int .i64 Y.slot, .int .i64 Y.id, .int .i64 Y.low, .int .i64 Y.high] 64)) (gq) 74 ((skv Q2)) := Bq.alloc _
                    replace Bs : Blk (w13.alloc (.cells #[.int .i64 Y.kind, uv Y.r.b.v, uv Y.r.b.m, uv Y.r.lo, uv Y.r.hi, sv Y.r.sl, sv Y.r.sh, .int .i64 Y.slot, .int .i64 Y.id, .int .i64 Y.low, .int .i64 Y.high] 64)) (gs) 69 (stv S2) := Bs.alloc _
                    replace hB : Below w.heap.size w (w13.alloc (.cells #[.int .i64 Y.kind, uv Y.r.b.v, uv Y.r.b.m, uv Y.r.lo, uv Y.r.hi, sv Y.r.sl, sv Y.r.sh, .int .i64 Y.slot, .int .i64 Y.id, .int .i64 Y.low, .int .i64 Y.high] 64)) := Bl_alloc hB _
                    generalize (w13.alloc (.cells #[.int .i64 Y.kind, uv Y.r.b.v, uv Y.r.b.m, uv Y.r.lo, uv Y.r.hi, sv Y.r.sl, sv Y.r.sh, .int .i64 Y.slot, .int .i64 Y.id, .int .i64 Y.low, .int .i64 Y.high] 64)) = w14 at *
                    generalize w13.heap.size = gx at *
                    have fq := Bq.frozen; have lq := Bq.lt
                    have fs := Bs.frozen; have ls := Bs.lt
                    have cx0 : w14.cell? ⟨gx, 0, none⟩ = some (.int .i64 Y.kind) := Bx.cell 0
                    have cx1 : w14.cell? ⟨gx, 1, none⟩ = some (uv Y.r.b.v) := Bx.cell 1
                    have cx2 : w14.cell? ⟨gx, 2, none⟩ = some (uv Y.r.b.m) := Bx.cell 2
                    have cx3 : w14.cell? ⟨gx, 3, none⟩ = some (uv Y.r.lo) := Bx.cell 3
                    have cx4 : w14.cell? ⟨gx, 4, none⟩ = some (uv Y.r.hi) := Bx.cell 4
                    have cx5 : w14.cell? ⟨gx, 5, none⟩ = some (sv Y.r.sl) := Bx.cell 5
                    have cx6 : w14.cell? ⟨gx, 6, none⟩ = some (sv Y.r.sh) := Bx.cell 6
                    have cx7 : w14.cell? ⟨gx, 7, none⟩ = some (.int .i64 Y.slot) := Bx.cell 7
                    have cx8 : w14.cell? ⟨gx, 8, none⟩ = some (.int .i64 Y.id) := Bx.cell 8
                    have cx9 : w14.cell? ⟨gx, 9, none⟩ = some (.int .i64 Y.low) := Bx.cell 9
                    have cx10 : w14.cell? ⟨gx, 10, none⟩ = some (.int .i64 Y.high) := Bx.cell 10
                    have fx := Bx.frozen; have lx := Bx.lt
                    obtain ⟨rd, e_rd⟩ : ∃ r, r = PlainAbs.rdy Q2 k := ⟨_, rfl⟩
                    have R0 := Lib.hid (show rd 0 = true by rw [e_rd]; exact PlainAbs.rdy_0 Q2 k); have RS := Lib.hid (show ∀ j, rd (j + 1) = (rd j && Q2.what (f + j)) from fun j => by rw [e_rd, HF.out]; exact PlainAbs.rdy_s Q2 k j); have RD := Lib.hid e_rd; clear e_rd
                    go_wp2_with fail
                    clear f1 f2
                    clear  fq lq
                    clear  fs ls
                    clear cx0 cx1 cx2 cx3 cx4 cx5 cx6 cx7 cx8 cx9 cx10 fx lx
                    go_loopg [17, 18] 8 (fun m' r i wr => ∃ jm : Nat, jm ≤ 8 ∧ m' + jm = 8 ∧ r = .bool (rd jm) ∧ i = .int .i64 ((f + jm : Nat) : Int) ∧ Below w.heap.size w wr ∧ Blk wr (gq) 74 (skv Q2) ∧ Blk wr (gs) 69 (stv S2) ∧ Blk wr (gx) 64 #[.int .i64 Y.kind, uv Y.r.b.v, uv Y.r.b.m, uv Y.r.lo, uv Y.r.hi, sv Y.r.sl, sv Y.r.sh, .int .i64 Y.slot, .int .i64 Y.id, .int .i64 Y.low, .int .i64 Y.high])
                    case atStart => exact ⟨0, Nat.zero_le _, rfl, by rw [R0.out], rfl, hB, Bq, Bs, Bx⟩
                    case round =>
                      clear hB Bq Bs Bx
                      obtain ⟨jm, hjm, hgk, rfl, rfl, hB, Bq, Bs, Bx⟩ := hrel
                      obtain ⟨wj, rfl⟩ : ∃ z : World, z = wr := ⟨_, rfl⟩
                      have fq := Bq.frozen; have lq := Bq.lt
                      have fs := Bs.frozen; have ls := Bs.lt
                      have cx0 : wj.cell? ⟨gx, 0, none⟩ = some (.int .i64 Y.kind) := Bx.cell 0
                      have cx1 : wj.cell? ⟨gx, 1, none⟩ = some (uv Y.r.b.v) := Bx.cell 1
                      have cx2 : wj.cell? ⟨gx, 2, none⟩ = some (uv Y.r.b.m) := Bx.cell 2
                      have cx3 : wj.cell? ⟨gx, 3, none⟩ = some (uv Y.r.lo) := Bx.cell 3
                      have cx4 : wj.cell? ⟨gx, 4, none⟩ = some (uv Y.r.hi) := Bx.cell 4
                      have cx5 : wj.cell? ⟨gx, 5, none⟩ = some (sv Y.r.sl) := Bx.cell 5
                      have cx6 : wj.cell? ⟨gx, 6, none⟩ = some (sv Y.r.sh) := Bx.cell 6
                      have cx7 : wj.cell? ⟨gx, 7, none⟩ = some (.int .i64 Y.slot) := Bx.cell 7
                      have cx8 : wj.cell? ⟨gx, 8, none⟩ = some (.int .i64 Y.id) := Bx.cell 8
                      have cx9 : wj.cell? ⟨gx, 9, none⟩ = some (.int .i64 Y.low) := Bx.cell 9
                      have cx10 : wj.cell? ⟨gx, 10, none⟩ = some (.int .i64 Y.high) := Bx.cell 10
                      have fx := Bx.frozen; have lx := Bx.lt
                      obtain ⟨f1, f2, _, _, f5, f6⟩ := stk_f k f HK.out HF.out
                      by_cases hj8 : jm < 8
                      · have HJm := Lib.hid hj8; have HGm := Lib.hid hgk; clear hjm hgk
                        obtain ⟨s, hs⟩ : ∃ s, s = f + jm := ⟨_, rfl⟩
                        obtain ⟨s1, s2, s3, s4, s5, s6, s7⟩ := stk_g k f jm s HK.out HF.out hj8 hs
                        rw [← hs]
                        obtain ⟨B, e_B⟩ : ∃ B, B = Q2.what s := ⟨_, rfl⟩
                        have k_d : ∀ w : World, Calls Try.prog 51 #[.agg (stv S2), .int .i64 ((s : Int) - 64), .int .i64 1] w fun e w' => e = .returned (.bool B) ∧ Below w.heap.size w w' := fun w => by have h := ready_c S2 ((s : Int) - 64) 1 w; rw [HS2.out, PlainAbs.ready_is Q2 s6, ← e_B] at h; rw [HS2.out]; exact h
                        have cw : wj.cell? ⟨gq, s, none⟩ = some (.bool B) := by rw [Bq.cell, skv_what _ s6, e_B]
                        have HR1 := Lib.hid (show rd (jm + 1) = (rd jm && B) by rw [RS.out, ← hs, e_B])
                        have KD := Lib.hid k_d; have S7 := Lib.hid s7; have HSE := Lib.hid hs; clear e_B k_d s7 hs hj8
                        obtain ⟨r1, e_r1⟩ : ∃ r, r = rd jm := ⟨_, rfl⟩; rw [← e_r1]; obtain ⟨r2, e_r2⟩ : ∃ r, r = rd (jm + 1) := ⟨_, rfl⟩; have HR2 := Lib.hid (show r2 = (r1 && B) by rw [e_r2, e_r1]; exact HR1.out); have HE2 := Lib.hid e_r2; clear e_r1 e_r2 HR1
                        go_upto_region 28 with fail
                        clear f1 f2 f5 s3 s4
                        go_cut [17] (fun s17 wr => s17 = .bool r2 ∧ wj = wr)
                        case first =>
                          cases r1
                          · have E2 := Lib.hid (show r2 = false from HR2.out)
                            go_wp2_with fail
                            go_meet
                            case rel => exact ⟨by rw [E2.out], rfl⟩
                          · have E2 := Lib.hid (show r2 = B by rw [HR2.out]; rfl)
                            go_wp2_with fail
                            go_meet
                            case rel => exact ⟨by rw [E2.out], rfl⟩
                        case rest =>
                          obtain ⟨rfl, rfl⟩ := hcut
                          replace cw : ∀ g : Later wj, g.w.cell? ⟨gq, s, none⟩ = some (.bool B) := fun g => g.cell cw
                          have k_d := KD.out
                          go_wp2_with fail
                          replace cx0 : ∀ g : Later wj, g.w.cell? ⟨gx, 0, none⟩ = some (.int .i64 Y.kind) := fun g => g.cell (Bx.cell 0)
                          replace cx1 : ∀ g : Later wj, g.w.cell? ⟨gx, 1, none⟩ = some (uv Y.r.b.v) := fun g => g.cell (Bx.cell 1)
                          replace cx2 : ∀ g : Later wj, g.w.cell? ⟨gx, 2, none⟩ = some (uv Y.r.b.m) := fun g => g.cell (Bx.cell 2)
                          replace cx3 : ∀ g : Later wj, g.w.cell? ⟨gx, 3, none⟩ = some (uv Y.r.lo) := fun g => g.cell (Bx.cell 3)
                          replace cx4 : ∀ g : Later wj, g.w.cell? ⟨gx, 4, none⟩ = some (uv Y.r.hi) := fun g => g.cell (Bx.cell 4)
                          replace cx5 : ∀ g : Later wj, g.w.cell? ⟨gx, 5, none⟩ = some (sv Y.r.sl) := fun g => g.cell (Bx.cell 5)
                          replace cx6 : ∀ g : Later wj, g.w.cell? ⟨gx, 6, none⟩ = some (sv Y.r.sh) := fun g => g.cell (Bx.cell 6)
                          replace cx7 : ∀ g : Later wj, g.w.cell? ⟨gx, 7, none⟩ = some (.int .i64 Y.slot) := fun g => g.cell (Bx.cell 7)
                          replace cx8 : ∀ g : Later wj, g.w.cell? ⟨gx, 8, none⟩ = some (.int .i64 Y.id) := fun g => g.cell (Bx.cell 8)
                          replace cx9 : ∀ g : Later wj, g.w.cell? ⟨gx, 9, none⟩ = some (.int .i64 Y.low) := fun g => g.cell (Bx.cell 9)
                          replace cx10 : ∀ g : Later wj, g.w.cell? ⟨gx, 10, none⟩ = some (.int .i64 Y.high) := fun g => g.cell (Bx.cell 10)
                          refine wp_region_mix 11 (fun _ => #[]) (by kernel_rfl) (by kernel_rfl) (no_alloc (by kernel_rfl)) ?_
                          simp only [List.take_succ_cons, List.take_zero, List.drop_succ_cons, List.drop_zero]
                          repeat (first | (refine wpMix_row rfl 69 (.tmp 3) rfl (gs) rfl 69 (stv S2) _ Bs Try.underlying69 rfl (size_st _) ?_) | ((with_reducible refine wpMix_step (fun K hK => ?_)); go_simp; first | ((with_reducible refine hK _ ?_); clear hK K) | (rw [if_neg (by decide)]; (with_reducible refine hK _ ?_); clear hK K) | (apply Exists.intro; refine ⟨fun g => ?_, hK _ ?_⟩; ((with_reducible refine Calls.mono (k_d g.w) ?_); exact fun _ _ h => h); clear hK K)))
                          refine wpMix_nil ?_
                          intro G w15 hgr hblk hdist
                          have hb : Below wj.heap.size wj w15 := hgr
                          replace Bq := Bq.next hb
                          replace Bs := Bs.next hb
                          replace Bx := Bx.next hb
                          clear  fq lq
                          clear  fs ls
                          clear cx0 cx1 cx2 cx3 cx4 cx5 cx6 cx7 cx8 cx9 cx10 fx lx
                          replace hB : Below w.heap.size w w15 := Bl_trans hB hb
                          simp only [putAll, isAlloc]
                          clear hb hgr hblk hdist
                          have fq := Bq.frozen; have lq := Bq.lt
                          have fs := Bs.frozen; have ls := Bs.lt
                          have cx0 : w15.cell? ⟨gx, 0, none⟩ = some (.int .i64 Y.kind) := Bx.cell 0
                          have cx1 : w15.cell? ⟨gx, 1, none⟩ = some (uv Y.r.b.v) := Bx.cell 1
                          have cx2 : w15.cell? ⟨gx, 2, none⟩ = some (uv Y.r.b.m) := Bx.cell 2
                          have cx3 : w15.cell? ⟨gx, 3, none⟩ = some (uv Y.r.lo) := Bx.cell 3
                          have cx4 : w15.cell? ⟨gx, 4, none⟩ = some (uv Y.r.hi) := Bx.cell 4
                          have cx5 : w15.cell? ⟨gx, 5, none⟩ = some (sv Y.r.sl) := Bx.cell 5
                          have cx6 : w15.cell? ⟨gx, 6, none⟩ = some (sv Y.r.sh) := Bx.cell 6
                          have cx7 : w15.cell? ⟨gx, 7, none⟩ = some (.int .i64 Y.slot) := Bx.cell 7
                          have cx8 : w15.cell? ⟨gx, 8, none⟩ = some (.int .i64 Y.id) := Bx.cell 8
                          have cx9 : w15.cell? ⟨gx, 9, none⟩ = some (.int .i64 Y.low) := Bx.cell 9
                          have cx10 : w15.cell? ⟨gx, 10, none⟩ = some (.int .i64 Y.high) := Bx.cell 10
                          have fx := Bx.frozen; have lx := Bx.lt
                          clear cw k_d s1 s2 s5 s6
                          cases B
                          all_goals
                            go_wp2_with fail
                            have s7 := S7.out
                            clear  fq lq
                            clear  fs ls
                            clear cx0 cx1 cx2 cx3 cx4 cx5 cx6 cx7 cx8 cx9 cx10 fx lx
                            go_roundg (8 - 1 - jm)
                            case measure => exact sr1 HGm.out HJm.out
                            case rel => exact ⟨jm + 1, HJm.out, sr2 HJm.out, by rw [HE2.out], by first | (rw [s7, HSE.out]; rfl) | (rw [HSE.out]; go_num) | (rw [HSE.out]; simp; done) | (rw [HSE.out]; simp; omega), hB, Bq, Bs, Bx⟩
                      · obtain rfl := sr3 hjm hj8
                        clear hj8 hjm hgk R0 RS
                        obtain ⟨K, e_K⟩ : ∃ K, K = Q2.kept k := ⟨_, rfl⟩
                        have cw : wj.cell? ⟨gq, 64 + k, none⟩ = some (.int .i64 (K : Int)) := by rw [Bq.cell, skv_kept _ HK.out, e_K]
                        have HK40 := Lib.hid (show K ≤ 40 by rw [e_K]; exact HT2.out k)
                        have hp := HP.out; rw [← e_K, ← RD.out] at hp; clear e_K HP
                        obtain ⟨r8, e_r8⟩ : ∃ r, r = rd 8 := ⟨_, rfl⟩; rw [← e_r8] at hp; rw [← e_r8]; clear e_r8 RD
                        clear  fq lq
                        clear  fs ls
                        clear cx0 cx1 cx2 cx3 cx4 cx5 cx6 cx7 cx8 cx9 cx10 fx lx
                        by_cases hK : K = 0
                        · subst hK; rw [if_pos rfl] at hp
                          cases r8
                          · rw [if_neg (by decide)] at hp; obtain ⟨rfl, rfl⟩ := Prod.mk.inj hp; clear hp
                            as_aux_lemma =>
                              replace Bx : Blk wj (gx) 64 #[.int .i64 0, .int .u64 0, .int .u64 0, .int .u64 0, .int .u64 0, .int .i64 0, .int .i64 0, .int .i64 0, .int .i64 0, .int .i64 0, .int .i64 0] := Bx
                              have fq := Bq.frozen; have lq := Bq.lt
                              have fs := Bs.frozen; have ls := Bs.lt
                              have cx0 : wj.cell? ⟨gx, 0, none⟩ = some (.int .i64 0) := Bx.cell 0
                              have cx1 : wj.cell? ⟨gx, 1, none⟩ = some (.int .u64 0) := Bx.cell 1
                              have cx2 : wj.cell? ⟨gx, 2, none⟩ = some (.int .u64 0) := Bx.cell 2
                              have cx3 : wj.cell? ⟨gx, 3, none⟩ = some (.int .u64 0) := Bx.cell 3
                              have cx4 : wj.cell? ⟨gx, 4, none⟩ = some (.int .u64 0) := Bx.cell 4
                              have cx5 : wj.cell? ⟨gx, 5, none⟩ = some (.int .i64 0) := Bx.cell 5
                              have cx6 : wj.cell? ⟨gx, 6, none⟩ = some (.int .i64 0) := Bx.cell 6
                              have cx7 : wj.cell? ⟨gx, 7, none⟩ = some (.int .i64 0) := Bx.cell 7
                              have cx8 : wj.cell? ⟨gx, 8, none⟩ = some (.int .i64 0) := Bx.cell 8
                              have cx9 : wj.cell? ⟨gx, 9, none⟩ = some (.int .i64 0) := Bx.cell 9
                              have cx10 : wj.cell? ⟨gx, 10, none⟩ = some (.int .i64 0) := Bx.cell 10
                              have fx := Bx.frozen; have lx := Bx.lt
                              go_upto_region 31 with fail
                              clear f1 f2 f5
                              go_quiet (fail)
                              clear cw
                              clear  fq lq
                              clear  fs ls
                              clear cx0 cx1 cx2 cx3 cx4 cx5 cx6 cx7 cx8 cx9 cx10 fx lx
                              clear Bx
                              have fq := Bq.frozen; have lq := Bq.lt
                              have fs := Bs.frozen; have ls := Bs.lt
                              go_wp2_with fail
                              clear  fq lq
                              clear  fs ls
                              go_roundg (8 - 1 - k)
                              case measure => exact sr1 HGk.out HK.out
                              case rel => exact ⟨k + 1, HK.out, sr2 HK.out, by first | rfl | go_num | (simp; done), by first | exact Bl_drewN hB _ | exact hB, by first | exact Bq.drewN _ | exact Bq, by first | exact Bs.drewN _ | exact Bs⟩
                          · rw [if_pos rfl] at hp; obtain ⟨rfl, rfl⟩ := Prod.mk.inj hp; clear hp
                            obtain ⟨V, e_V⟩ : ∃ V, V = PlainScalar.low PlainScalar.any 8 := ⟨_, rfl⟩; rw [← e_V] at Bx; clear e_V
                            as_aux_lemma =>
                              replace Bx : Blk wj (gx) 64 #[.int .i64 1, uv V.b.v, uv V.b.m, uv V.lo, uv V.hi, sv V.sl, sv V.sh, .int .i64 0, .int .i64 0, .int .i64 0, .int .i64 0] := Bx
                              have fq := Bq.frozen; have lq := Bq.lt
                              have fs := Bs.frozen; have ls := Bs.lt
                              have cx0 : wj.cell? ⟨gx, 0, none⟩ = some (.int .i64 1) := Bx.cell 0
                              have cx1 : wj.cell? ⟨gx, 1, none⟩ = some (uv V.b.v) := Bx.cell 1
                              have cx2 : wj.cell? ⟨gx, 2, none⟩ = some (uv V.b.m) := Bx.cell 2
                              have cx3 : wj.cell? ⟨gx, 3, none⟩ = some (uv V.lo) := Bx.cell 3
                              have cx4 : wj.cell? ⟨gx, 4, none⟩ = some (uv V.hi) := Bx.cell 4
                              have cx5 : wj.cell? ⟨gx, 5, none⟩ = some (sv V.sl) := Bx.cell 5
                              have cx6 : wj.cell? ⟨gx, 6, none⟩ = some (sv V.sh) := Bx.cell 6
                              have cx7 : wj.cell? ⟨gx, 7, none⟩ = some (.int .i64 0) := Bx.cell 7
                              have cx8 : wj.cell? ⟨gx, 8, none⟩ = some (.int .i64 0) := Bx.cell 8
                              have cx9 : wj.cell? ⟨gx, 9, none⟩ = some (.int .i64 0) := Bx.cell 9
                              have cx10 : wj.cell? ⟨gx, 10, none⟩ = some (.int .i64 0) := Bx.cell 10
                              have fx := Bx.frozen; have lx := Bx.lt
                              go_upto_region 31 with fail
                              clear f1 f2 f5
                              go_quiet (fail)
                              clear cw
                              clear  fq lq
                              clear  fs ls
                              clear cx0 cx1 cx2 cx3 cx4 cx5 cx6 cx7 cx8 cx9 cx10 fx lx
                              clear Bx
                              have fq := Bq.frozen; have lq := Bq.lt
                              have fs := Bs.frozen; have ls := Bs.lt
                              go_wp2_with fail
                              clear  fq lq
                              clear  fs ls
                              go_roundg (8 - 1 - k)
                              case measure => exact sr1 HGk.out HK.out
                              case rel => exact ⟨k + 1, HK.out, sr2 HK.out, by first | rfl | go_num | (simp; done), by first | exact Bl_drewN hB _ | exact hB, by first | exact Bq.drewN _ | exact Bq, by first | exact Bs.drewN _ | exact Bs⟩
                        · rw [if_neg hK] at hp; obtain ⟨rfl, rfl⟩ := Prod.mk.inj hp; clear hp
                          have eK : PlainAbs.kreg K = { zr with kind := 5, low := (K : Int) - 1, high := (K : Int) - 1 } := by unfold PlainAbs.kreg; rw [if_neg hK]
                          rw [eK] at Bx; clear eK
                          have q0 : (0 : Int) < (K : Int) := by omega
                          have q1 : 0 < K := by omega
                          have q2 : ((K : Int) == 0) = false := by simp; omega
                          have q3 : IntKind.i64.wrap ((K : Int) - 1) = (K : Int) - 1 := IntWalk.i64_in _ (by have := HK40.out; constructor <;> omega)
                          have q4 : wrap64 ((K : Int) - 1) = (K : Int) - 1 := IntWalk.wrap64_in _ (by have := HK40.out; constructor <;> omega)
                          clear hK
                          as_aux_lemma =>
                            replace Bx : Blk wj (gx) 64 #[.int .i64 5, .int .u64 0, .int .u64 0, .int .u64 0, .int .u64 0, .int .i64 0, .int .i64 0, .int .i64 0, .int .i64 0, .int .i64 ((K : Int) - 1), .int .i64 ((K : Int) - 1)] := Bx
                            have fq := Bq.frozen; have lq := Bq.lt
                            have fs := Bs.frozen; have ls := Bs.lt
                            have cx0 : wj.cell? ⟨gx, 0, none⟩ = some (.int .i64 5) := Bx.cell 0
                            have cx1 : wj.cell? ⟨gx, 1, none⟩ = some (.int .u64 0) := Bx.cell 1
                            have cx2 : wj.cell? ⟨gx, 2, none⟩ = some (.int .u64 0) := Bx.cell 2
                            have cx3 : wj.cell? ⟨gx, 3, none⟩ = some (.int .u64 0) := Bx.cell 3
                            have cx4 : wj.cell? ⟨gx, 4, none⟩ = some (.int .u64 0) := Bx.cell 4
                            have cx5 : wj.cell? ⟨gx, 5, none⟩ = some (.int .i64 0) := Bx.cell 5
                            have cx6 : wj.cell? ⟨gx, 6, none⟩ = some (.int .i64 0) := Bx.cell 6
                            have cx7 : wj.cell? ⟨gx, 7, none⟩ = some (.int .i64 0) := Bx.cell 7
                            have cx8 : wj.cell? ⟨gx, 8, none⟩ = some (.int .i64 0) := Bx.cell 8
                            have cx9 : wj.cell? ⟨gx, 9, none⟩ = some (.int .i64 ((K : Int) - 1)) := Bx.cell 9
                            have cx10 : wj.cell? ⟨gx, 10, none⟩ = some (.int .i64 ((K : Int) - 1)) := Bx.cell 10
                            have fx := Bx.frozen; have lx := Bx.lt
                            go_upto_region 31 with fail
                            clear f1 f2 f5
                            go_quiet (fail)
                            clear cw
                            clear  fq lq
                            clear  fs ls
                            clear cx0 cx1 cx2 cx3 cx4 cx5 cx6 cx7 cx8 cx9 cx10 fx lx
                            clear Bx
                            have fq := Bq.frozen; have lq := Bq.lt
                            have fs := Bs.frozen; have ls := Bs.lt
                            go_wp2_with fail
                            clear  fq lq
                            clear  fs ls
                            go_roundg (8 - 1 - k)
                            case measure => exact sr1 HGk.out HK.out
                            case rel => exact ⟨k + 1, HK.out, sr2 HK.out, by first | rfl | go_num | (simp; done), by first | exact Bl_drewN hB _ | exact hB, by first | exact Bq.drewN _ | exact Bq, by first | exact Bs.drewN _ | exact Bs⟩
                  · obtain rfl := sr3 hk hk8
                    clear hk8 hk hgk
                    have jw := stk_j j J4.out
                    go_wp2_with fail
                    clear  fq lq
                    clear  fs ls
                    go_roundg (J - 1 - j)
                    case measure => exact sr1 HG.out HJ.out
                    case rel => exact ⟨j + 1, Q2, HJ.out, sr2 HJ.out, by first | (rw [jw]) | go_num, hB, HT2.out, Bq, by rw [← HS2.out]; exact Bs⟩
      · obtain rfl : j = J := Nat.le_antisymm hj (Nat.le_of_not_lt hq)
        clear hq hj hgk
        rcases JT.out with ⟨d1, d2⟩ | ⟨d1, d2, d3, d4⟩
        all_goals
          go_wp2_with fail
          go_meet
          case rel => exact ⟨q, hB, Bq, by rw [← HS.out]; exact Bs⟩
  case rest => as_aux_lemma =>
    clear  fq lq
    clear  fs ls
    clear hB Bq Bs T0 HS0 JJ JT HA KN HN7
    obtain ⟨q, hB, Bq, Bs⟩ := hcut
    obtain ⟨wf, rfl⟩ : ∃ z : World, z = wc := ⟨_, rfl⟩
    obtain ⟨S, e_S⟩ : ∃ S, S = PlainAbs.ofS q := ⟨_, rfl⟩; rw [← e_S] at Bs; clear e_S
    have fq := Bq.frozen; have lq := Bq.lt
    have fs := Bs.frozen; have ls := Bs.lt
    have k_n : ∀ w : World, Calls Try.prog 47 #[.int .u64 1] w fun e w' => e = .returned (gv (PlainAbs.number (PlainScalar.const 1#64))) ∧ Below w.heap.size w w' := number_c 1#64
    have k_s : ∀ w : World, Calls Try.prog 48 #[.agg (stv S), .int .i64 (-8), .int .i64 3, gv (PlainAbs.number (PlainScalar.const 1#64))] w fun e w' => e = .returned (.tuple #[.agg (stv S), .bool false]) ∧ Below w.heap.size w w' := fun w => save_c S (-8) 3 (PlainAbs.number (PlainScalar.const 1#64)) w
    generalize PlainAbs.number (PlainScalar.const 1#64) = n1 at k_n k_s
    go_wp2_with fail
    refine wp_region_mixL 7 (fun k => k == 5) (fun _ => stv zs) (by kernel_rfl) (by kernel_rfl) (fun d _ _ _ _ h => by cases d <;> exact h) (fun o t ho ht => by
      simp at ho
      rcases ho with rfl | rfl | rfl | rfl | rfl | rfl | rfl <;> first | (cases ht; done) | (obtain rfl := Option.some.inj ht; exact fun ρ w => new_st ht ρ w)) ?_
    simp only [List.take_succ_cons, List.take_zero, List.drop_succ_cons, List.drop_zero]
    repeat (first | (refine wpMixL_row rfl 69 (.tmp 3) rfl (gs) rfl 69 (stv S) _ Bs Try.underlying69 rfl (size_st _) rfl ?_) | ((with_reducible refine wpMixL_step (fun K hK => ?_)); go_simp; first | ((with_reducible refine hK _ ?_); clear hK K) | (rw [if_neg (by decide)]; (with_reducible refine hK _ ?_); clear hK K) | (apply Exists.intro; refine ⟨fun g => ?_, hK _ ?_⟩; ((with_reducible refine Calls.mono (k_n g.w) ?_); exact fun _ _ h => h); clear hK K) | (apply Exists.intro; refine ⟨fun g => ?_, hK _ ?_⟩; ((with_reducible refine Calls.mono (k_s g.w) ?_); exact fun _ _ h => h); clear hK K)))
    refine wpMixL_nil ?_
    intro G w5 hgr hblk hdist
    have hb : Below wf.heap.size wf w5 := hgr
    replace Bq := Bq.next hb
    replace Bs := Bs.next hb
    obtain ⟨By, hly⟩ := hblk 6 _ rfl
    have hgy : w.heap.size ≤ G 6 := Nat.le_trans hB.size hly
    have hnqy : gq ≠ G 6 := Nat.ne_of_lt (Nat.lt_of_lt_of_le lq hly)
    have hnsy : gs ≠ G 6 := Nat.ne_of_lt (Nat.lt_of_lt_of_le ls hly)
    clear hly
    clear  fq lq
    clear  fs ls
    replace hB : Below w.heap.size w w5 := Bl_trans hB hb
    simp only [putAll, isAlloc, Act.put]
    generalize G 6 = gy at *
    clear hb hgr hblk hdist
    have fq := Bq.frozen; have lq := Bq.lt
    have fs := Bs.frozen; have ls := Bs.lt
    have fy := By.frozen; have ly := By.lt
    go_wp2_with (refine wpList_store_whole rfl 69 (.tmp 19) (.tmp 196) rfl (gy) (stv S) rfl rfl 69 (stv zs) By (size_st S) (by rw [stv_size, stv_size]) (stv_one S) ?_)
    intro w6 hS
    clear  fq lq
    clear  fs ls
    clear  fy ly
    replace Bq := hS.far (by first | (simp; done) | (simp; omega) | (simp [*]; done) | (simp only [ne_eq]; constructor <;> omega)) Bq
    replace Bs := hS.far (by first | (simp; done) | (simp; omega) | (simp [*]; done) | (simp only [ne_eq]; constructor <;> omega)) Bs
    replace By : Blk w6 (gy) 69 (stv S) := hS.blk
    replace hB := hS.bel hB (by first | omega | (simp; omega))
    clear hS
    have fq := Bq.frozen; have lq := Bq.lt
    have fs := Bs.frozen; have ls := Bs.lt
    have fy := By.frozen; have ly := By.lt
    clear  fq lq
    clear  fs ls
    clear  fy ly
    clear By
    have fq := Bq.frozen; have lq := Bq.lt
    have fs := Bs.frozen; have ls := Bs.lt
    clear k_n k_s
    have k_s : ∀ w : World, Calls Try.prog 48 #[.agg (stv S), .int .i64 (-8), .int .i64 8, .agg #[.int .i64 0, .int .u64 0, .int .u64 0, .int .u64 0, .int .u64 0, .int .i64 0, .int .i64 0, .int .i64 0, .int .i64 0, .int .i64 0, .int .i64 0]] w fun e w' => e = .returned (.tuple #[.agg (stv S), .bool false]) ∧ Below w.heap.size w w' := fun w => save_c S (-8) 8 zr w
    go_wp2_with (refine wpList_load_whole rfl 69 (.tmp 3) rfl (gs) rfl 69 (stv S) _ Bs Try.underlying69 rfl (size_st S) ?_)
    refine (k_s _).mono ?_
    rintro e w7 ⟨rfl, hb⟩
    clear  fq lq
    clear  fs ls
    replace Bq := (Bq).next hb
    replace Bs := (Bs).next hb
    replace hB : Below w.heap.size w w7 := by repeat (first | exact hB | (refine Bl_set ?_ (by first | omega | (simp; omega)) _) | apply Bl_alloc | (refine Bl_trans ?_ hb))
    clear hb
    have fq := Bq.frozen; have lq := Bq.lt
    have fs := Bs.frozen; have ls := Bs.lt
    clear k_s
    go_wp2_with (refine wpList_store_whole rfl 69 (.tmp 21) (.tmp 202) rfl (w7.heap.size) (stv S) rfl rfl 69 (stv zs) (Blk.new w7 _ _) (size_st S) (by rw [stv_size, stv_size]) (stv_one S) ?_)
    intro w8 hS
    clear  fq lq
    clear  fs ls
    have hnqy := Nat.ne_of_lt Bq.lt
    replace Bq := hS.far hnqy (Bq.alloc _)
    have hnsy := Nat.ne_of_lt Bs.lt
    replace Bs := hS.far hnsy (Bs.alloc _)
    have hgy := hB.size
    have By : Blk w8 (w7.heap.size) 69 (stv S) := hS.blk
    replace hB := hS.bel (Bl_alloc hB _) hgy
    clear hS
    generalize w7.heap.size = gy at *
    have fq := Bq.frozen; have lq := Bq.lt
    have fs := Bs.frozen; have ls := Bs.lt
    have fy := By.frozen; have ly := By.lt
    clear  fq lq
    clear  fs ls
    clear  fy ly
    clear By
    have fq := Bq.frozen; have lq := Bq.lt
    have fs := Bs.frozen; have ls := Bs.lt
    have k_d : ∀ w : World, Calls Try.prog 51 #[.agg (stv S), .int .i64 0, .int .i64 0] w fun e w' => e = .returned (.bool true) ∧ Below w.heap.size w w' := fun w => ready_c S 0 0 w
    go_wp2_with (refine wpList_load_whole_g rfl 69 (.tmp 3) rfl (gs) rfl 69 _ _ Bs Try.underlying69 rfl (size_st _) ?_)
    refine (k_d _).mono ?_
    rintro e w9 ⟨rfl, hb⟩
    clear  fq lq
    clear  fs ls
    replace Bq := (Bq).next hb
    replace Bs := (Bs).next hb
    replace hB : Below w.heap.size w w9 := by repeat (first | exact hB | (refine Bl_set ?_ (by first | omega | (simp; omega)) _) | apply Bl_alloc | (refine Bl_trans ?_ hb))
    clear hb
    have fq := Bq.frozen; have lq := Bq.lt
    have fs := Bs.frozen; have ls := Bs.lt
    clear k_d
    have k_d : ∀ w : World, Calls Try.prog 51 #[.agg (stv S), .int .i64 (-65), .int .i64 1] w fun e w' => e = .returned (.bool false) ∧ Below w.heap.size w w' := fun w => ready_c S (-65) 1 w
    go_wp2_with (refine wpList_load_whole_g rfl 69 (.tmp 3) rfl (gs) rfl 69 _ _ Bs Try.underlying69 rfl (size_st _) ?_)
    refine (k_d _).mono ?_
    rintro e w10 ⟨rfl, hb⟩
    clear  fq lq
    clear  fs ls
    replace Bq := (Bq).next hb
    replace Bs := (Bs).next hb
    replace hB : Below w.heap.size w w10 := by repeat (first | exact hB | (refine Bl_set ?_ (by first | omega | (simp; omega)) _) | apply Bl_alloc | (refine Bl_trans ?_ hb))
    clear hb
    have fq := Bq.frozen; have lq := Bq.lt
    have fs := Bs.frozen; have ls := Bs.lt
    clear k_d
    have k_d : ∀ w : World, Calls Try.prog 51 #[.agg (stv S), .int .i64 (-1), .int .i64 2] w fun e w' => e = .returned (.bool false) ∧ Below w.heap.size w w' := fun w => ready_c S (-1) 2 w
    go_wp2_with (refine wpList_load_whole_g rfl 69 (.tmp 3) rfl (gs) rfl 69 _ _ Bs Try.underlying69 rfl (size_st _) ?_)
    refine (k_d _).mono ?_
    rintro e w11 ⟨rfl, hb⟩
    clear  fq lq
    clear  fs ls
    replace Bq := (Bq).next hb
    replace Bs := (Bs).next hb
    replace hB : Below w.heap.size w w11 := by repeat (first | exact hB | (refine Bl_set ?_ (by first | omega | (simp; omega)) _) | apply Bl_alloc | (refine Bl_trans ?_ hb))
    clear hb
    have fq := Bq.frozen; have lq := Bq.lt
    have fs := Bs.frozen; have ls := Bs.lt
    clear k_d
    go_wp2
    go_ret
    exact ⟨rfl, by repeat (first | exact hB | (refine Bl_set ?_ (by first | omega | (simp; omega)) _) | apply Bl_alloc)⟩
end Go.Proofs.Ytmghpoagpiljhaa
