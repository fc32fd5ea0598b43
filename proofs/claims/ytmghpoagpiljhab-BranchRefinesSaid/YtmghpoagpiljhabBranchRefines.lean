/- BranchRefines: for every two lists of numbers, numbers of theirs, bits that are not known, comparison and width the law returns true, and its arguments read as before. No condition. -/
import Derived.Test.YtmghpoagpiljhabAround
import Derived.Test.YtmghpoagpiljhabOpenC
import Derived.Test.YtmghpoagpiljhabBr7
import Derived.ArgAppend
import Derived.OwnWalk
import Derived.Below
import Derived.Deep.AppendSrc
import Derived.Deep.DeepCutAuto
set_option linter.unusedSimpArgs false
namespace Go.Proofs.Ytmghpoagpiljhab
open Go.ChangeShapes Go.WideShapes Go.ChangeAt Go.RowKit
open PlainTnum (N)
open PlainScalar (Rng)
set_option linter.unusedVariables false
theorem within_t (a b : Rng) (h : PlainScalar.within a b = true) (w : World) : Calls Try.prog 28 #[rv a, rv b] w fun e w' => e = .returned (.bool true) ∧ Below w.heap.size w w' := by
  rw [← h]; exact swithin_c a b w
theorem info_u64 : (Try.prog.info? 22).map (fun i => (i.zero, i.size, i.bytes)) = some (some (.int .u64 0), 1, 8) := by kernel_rfl
/-- Which one of n is looked at. -/
def idx (p : Int) (n : Nat) : Nat := (IntKind.u64.wrap p).toNat % n
theorem idx_lt (p : Int) {n : Nat} (h : 0 < n) : idx p n < n := Nat.mod_lt _ h
theorem idx_is (p : Int) (n : Nat) (h9 : n ≤ 9) (h : 0 < n) : IntKind.i64.wrap ((IntKind.u64.wrap p).tmod (n : Int)) = (idx p n : Int) := by
  have h0 : 0 ≤ IntKind.u64.wrap p := by rw [wrap_u]; exact T_lo _
  have hl := idx_lt p h
  have e : (IntKind.u64.wrap p).tmod (n : Int) = (idx p n : Int) := by
    rw [Int.tmod_eq_emod_of_nonneg h0]
    unfold idx
    obtain ⟨x, hx⟩ : ∃ x : Nat, IntKind.u64.wrap p = (x : Int) := ⟨_, (Int.toNat_of_nonneg h0).symm⟩
    rw [hx, Int.toNat_natCast]; exact (Int.natCast_emod _ _).symm
  rw [e]
  exact IntWalk.i64_in _ (by constructor <;> omega)
/-- An append of nothing. -/
theorem wpList_append_empty {P : Program} {w : World} {ops : Array Oper} {rest : List Oper} {o : Oper} {a : Act} {Q : Exit → Act → World → Prop} (hgd : o.guard = none) (s x : Operand) (t : TypeId)
    (ho : o.op = .call { callee := .builtin .append, args := #[s, x], argTypes := #[t, t] }) (e : TypeId) (i : TypeInfo) (ht : P.underlying t = some (.slice e)) (hi : P.info? e = some i)
    (b off n cap : Nat) (hs : a.eval s = .slice (some ⟨b, off, none⟩) n cap) (hn : n ≤ cap) (ao : Option Addr) (c : Nat) (hx : a.eval x = .slice ao 0 c)
    (hK : wpList P ops Q rest (a.put o.dst (.slice (some ⟨b, off, none⟩) n cap)) w) : wpList P ops Q (o :: rest) a w := by
  have hsrc : Src P i.size t (.slice ao 0 c) 0 [] w := by
    cases ao with
    | none => exact Src.ofNil w ht c
    | some ad => exact Src.ofSlice w ht ad 0 c [] (by simp) (fun j u h => by simp at h) (fun u h => by cases h)
  refine wpList_plain hgd fun K hK' => ?_
  have hrun := run_append_room_src (P := P) w t t o.type e i ht hi b off n cap (.slice ao 0 c) 0 [] hsrc (by omega) (fun j h => by simp at h) (fun j h => by simp at h)
  unfold Oper.wp
  simp [execOp, ho, resolve, invoke, builtin, hs, hx, hrun, Result.andThen]
  exact hK' _ _ hK
theorem Bl_grown {w w2 : World} {o : Obj} (hg : (w.alloc o).grownBy w2 none) : Below w.heap.size w w2 := ((Below.refl _ _).alloc (Nat.le_refl _) _).grown hg (by simp) (fun k h => by cases h)
theorem news_at {L : List W} {k : Nat} (hL : L.length = k) {j : Nat} (hj : j < k) : (L.map uv)[j]? = some (uv (L.getD j 0#64)) := by
  simp [List.getD, hL, hj]
theorem one_at {w : World} {g : Nat} {x : W} (h : w.cell? ⟨g, 0, none⟩ = some (uv x)) : ∀ j, j < 1 → w.cell? ⟨g, 0 + j, none⟩ = some (uv ([x].getD j 0#64)) := by
  intro j hj
  obtain rfl : j = 0 := by omega
  exact h
theorem one_news (L : List W) : ∀ u ∈ L.map uv, u.oneCell' = true := by
  intro u hu; obtain ⟨x, _, rfl⟩ := List.mem_map.1 hu; rfl
/-- A list of the call's own: where it lies. -/
def Lies (w : World) (base : Nat) (v : Value) (L : List W) : Prop :=
  ∃ g cap cur, v = .slice (some ⟨g, 0, none⟩) L.length cap ∧ base ≤ g ∧ L.length ≤ cap ∧ Blk w g 22 cur ∧ ∀ j, j < L.length → cur[j]? = some (uv (L.getD j 0#64))
theorem own_block {w : World} {base : Nat} {e : TypeId} {size : Nat} {v : Value} {n : Nat} {xs : List Value} {k : Nat} (h : w.ownsRow base e size v n xs) (hk : v.ownBlock = some k) : base ≤ k := by
  obtain ⟨_, ⟨rfl, _⟩ | ⟨g, cap, cur, rfl, hb, _⟩⟩ := h
  · simp [Value.ownBlock] at hk
  · simp [Value.ownBlock] at hk; omega
theorem lies_own {w : World} {base base' : Nat} (hbb : base' ≤ base) {v : Value} {n : Nat} {xs : List Value} {L : List W} (h : w.ownsRow base 22 1 v n xs) (hx : xs = L.map uv) (hL : 0 < L.length) : Lies w base' v L := by
  subst hx
  obtain ⟨hl, ⟨_, h0⟩ | ⟨g, cap, cur, rfl, hb, hh, h1, h2, h3, h4⟩⟩ := h
  · simp at hl; omega
  · have hn : n = L.length := by simp at hl; omega
    subst hn
    refine ⟨g, cap, cur, rfl, Nat.le_trans hbb hb, h1, hh, fun j hj => ?_⟩
    have : (cur.toList.take (L.length * 1))[j]? = some (uv (L.getD j 0#64)) := by rw [h4]; simp [List.getD, hj]
    rw [List.getElem?_take_of_lt (by omega)] at this
    simpa using this
theorem Lies.next {w w' : World} {base : Nat} {v : Value} {L : List W} (h : Lies w base v L) (hb : Below w.heap.size w w') : Lies w' base v L := by
  obtain ⟨g, cap, cur, h1, h2, h3, h4, h5⟩ := h
  exact ⟨g, cap, cur, h1, h2, h3, h4.next hb, h5⟩
theorem Lies.call {w : World} {base : Nat} {v : Value} {L : List W} (h : Lies w base v L) (h0 : 0 < L.length) (h9 : L.length ≤ 9) (more : W) : Calls Try.prog 42 #[v, uv more] w fun e w' => e = .returned (rv (PlainScalar.around L more)) ∧ Below w.heap.size w w' := by
  obtain ⟨g, cap, cur, rfl, h2, h3, h4, h5⟩ := h
  exact around_c L L.length rfl h0 h9 g 0 cap more w (fun j hj => by rw [Nat.zero_add, h4.cell]; exact h5 j hj)
theorem Lies.first {w : World} {base : Nat} {g cap : Nat} {L : List W} {x : W} {r : List W} (h : Lies w base (.slice (some ⟨g, 0, none⟩) L.length cap) L) (e : L = x :: r) : Lies w base (.slice (some ⟨g, 0, none⟩) 1 cap) [x] := by
  obtain ⟨g', cap', cur, h1, h2, h3, h4, h5⟩ := h
  simp only [Value.slice.injEq, Option.some.injEq, Addr.mk.injEq, and_true] at h1
  obtain ⟨rfl, _, rfl⟩ := h1
  refine ⟨g, cap, cur, rfl, h2, ?_, h4, fun j hj => ?_⟩
  · subst e; simp at h3 ⊢; omega
  · have : j = 0 := by simpa using hj
    subst this; subst e; simpa using h5 0 (by simp)
/-- What the list of the law is: the first eight numbers, and one more. -/
theorem Raw.len {w : World} {v : Value} {L : List W} (h : Raw w v L) : L.length ≤ 8 := by
  rcases h with ⟨_, _, _, rfl⟩ | ⟨_, _, n, _, _, _, _, h, _⟩
  · simp
  · omega
set_option maxRecDepth 100000 in
set_option maxHeartbeats 3200000 in
theorem walk_BranchRefines (CA CB : Value) (LA LB L3 M3 M : List W) (hL3 : L3 = LA ++ [5#64]) (hM3 : M3 = LB ++ [3#64]) (i k : Int) (m0 m1 : W) (op : Int) (l : Bool) (w : World) (hA : Raw w CA LA) (hB0 : Raw w CB LB) (b1 : Bool) (hM : b1 = true ∧ (∀ ao n cap, CB = .slice ao n cap → n = 1) ∧ M = LB ∨ b1 = false ∧ (∀ ao n cap, CB = .slice ao n cap → n ≠ 1) ∧ M = M3) : Calls Try.prog 12 #[.agg #[CA, CB, .int .i64 i, .int .i64 k, uv m0, uv m1, .int .i64 op, .bool l]] w fun e w' => e = .returned (.bool true) ∧ Below w.heap.size w w' := by
  obtain ⟨i0, hi, hz0, hz1, hz2⟩ := info_parts info_u64
  have hm0 : min (0 : Int) 8 = 0 := rfl
  have hA8 := hA.len; have hB8 := hB0.len
  have hl3 : 0 < L3.length ∧ L3.length ≤ 9 := by rw [hL3]; simp; omega
  have hm3 : 0 < M3.length ∧ M3.length ≤ 9 := by rw [hM3]; simp; omega
  have HL3 := Lib.hid hL3; have HM3 := Lib.hid hM3; clear hL3 hM3
  have HM := Lib.hid hM; clear hM
  have hml : 0 < M.length ∧ M.length ≤ 9 := by
    rcases HM.out with ⟨_, h1, e⟩ | ⟨_, _, e⟩
    · rw [e]; rcases hB0 with ⟨ao, cap, e1, _⟩ | ⟨g, off, n, cap, _, h2, _, h3, _⟩
      · have := h1 _ _ _ e1; omega
      · omega
    · rw [e]; exact hm3
  obtain ⟨nL, e_nL⟩ : ∃ z, z = L3.length := ⟨_, rfl⟩; obtain ⟨nM, e_nM⟩ : ∃ z, z = M.length := ⟨_, rfl⟩
  have nL0 : 0 < nL ∧ nL ≤ 9 := by rw [e_nL]; exact hl3
  have l_ix := idx_lt i nL0.1; have h_ix := idx_is i nL nL0.2 nL0.1
  have hwknL : IntKind.u64.wrap (nL : Int) = (nL : Int) := by rw [IntKind.wrap_u64]; omega
  generalize idx i nL = ix at l_ix h_ix
  have nM0 : 0 < nM ∧ nM ≤ 9 := by rw [e_nM]; exact hml
  have l_iy := idx_lt k nM0.1; have h_iy := idx_is k nM nM0.2 nM0.1
  have hwknM : IntKind.u64.wrap (nM : Int) = (nM : Int) := by rw [IntKind.wrap_u64]; omega
  generalize idx k nM = iy at l_iy h_iy
  have hx := PlainScalar.around_has (L := L3) (i := ix) (by omega) m0; have hy := PlainScalar.around_has (L := M) (i := iy) (by omega) m1
  obtain ⟨x, e_x⟩ : ∃ z, z = L3.getD ix 0#64 := ⟨_, rfl⟩; obtain ⟨y, e_y⟩ : ∃ z, z = M.getD iy 0#64 := ⟨_, rfl⟩
  obtain ⟨a, e_a⟩ : ∃ z, z = PlainScalar.around L3 m0 := ⟨_, rfl⟩; obtain ⟨b, e_b⟩ : ∃ z, z = PlainScalar.around M m1 := ⟨_, rfl⟩
  rw [← e_a, ← e_x] at hx; rw [← e_b, ← e_y] at hy
  have Hx := Lib.hid e_x; clear e_x
  have Hy := Lib.hid e_y; clear e_y
  have Ha := Lib.hid e_a; clear e_a
  have Hb := Lib.hid e_b; clear e_b
  have HnL := Lib.hid e_nL; have HnM := Lib.hid e_nM; clear e_nL e_nM
  obtain ⟨n, hn, hby⟩ := rem_is 11 (by decide) (by decide) op
  replace hby : wrap64 ((IntKind.u64.wrap op).tmod 11) = (n : Int) := hby
  obtain ⟨K, hKo, hK⟩ : ∃ K : Int, PlainBranch.isOp K ∧ (#[.int .i64 1, .int .i64 2, .int .i64 3, .int .i64 4, .int .i64 5, .int .i64 6, .int .i64 7, .int .i64 10, .int .i64 11, .int .i64 12, .int .i64 13] : Array Value)[n]? = some (.int .i64 K) := by
    match n, hn with
    | 0, _ => exact ⟨1, by unfold PlainBranch.isOp; omega, rfl⟩
    | 1, _ => exact ⟨2, by unfold PlainBranch.isOp; omega, rfl⟩
    | 2, _ => exact ⟨3, by unfold PlainBranch.isOp; omega, rfl⟩
    | 3, _ => exact ⟨4, by unfold PlainBranch.isOp; omega, rfl⟩
    | 4, _ => exact ⟨5, by unfold PlainBranch.isOp; omega, rfl⟩
    | 5, _ => exact ⟨6, by unfold PlainBranch.isOp; omega, rfl⟩
    | 6, _ => exact ⟨7, by unfold PlainBranch.isOp; omega, rfl⟩
    | 7, _ => exact ⟨10, by unfold PlainBranch.isOp; omega, rfl⟩
    | 8, _ => exact ⟨11, by unfold PlainBranch.isOp; omega, rfl⟩
    | 9, _ => exact ⟨12, by unfold PlainBranch.isOp; omega, rfl⟩
    | 10, _ => exact ⟨13, by unfold PlainBranch.isOp; omega, rfl⟩
  have HK := Lib.hid hK; clear hK
  have k_H := rholds_c K l x y
  have r1 := PlainBranch.refine_has (op := K) (long := l) hKo hx hy
  generalize PlainBranch.holds K l x y = H at k_H r1
  have i1 := PlainBranch.refine_in r1.1
  have k_R1 := refine_c K l a b H; have k_R2 := refine_c K l a b (!H)
  have i2 := PlainBranch.refine_in (op := K) (long := l) (a := a) (b := b) (h := !H); have n2 := PlainBranch.refine_no (op := K) (long := l) (a := a) (b := b) (h := !H)
  generalize PlainBranch.refine K l a b H = R1 at k_R1 r1 i1; generalize PlainBranch.refine K l a b (!H) = R2 at k_R2 i2 n2
  obtain ⟨⟨p1, q1⟩, ok1⟩ := R1; obtain ⟨⟨p2, q2⟩, ok2⟩ := R2
  obtain ⟨o1, hp, hq⟩ := r1; replace o1 : ok1 = true := o1; subst o1
  replace hp : PlainScalar.Has p1 x := hp; replace hq : PlainScalar.Has q1 y := hq
  obtain ⟨w1a, w1b⟩ := i1; replace w1a : PlainScalar.within p1 a = true := w1a; replace w1b : PlainScalar.within q1 b = true := w1b
  replace k_R1 : ∀ w : World, Calls Try.prog 38 #[.int .i64 K, .bool l, rv a, rv b, .bool H] w fun e w' => e = .returned (.tuple #[rv p1, rv q1, .bool true]) ∧ Below w.heap.size w w' := k_R1
  replace k_R2 : ∀ w : World, Calls Try.prog 38 #[.int .i64 K, .bool l, rv a, rv b, .bool (!H)] w fun e w' => e = .returned (.tuple #[rv p2, rv q2, .bool ok2]) ∧ Below w.heap.size w w' := k_R2
  have Hi2 := Lib.hid (show ok2 = true → PlainScalar.within p2 a = true ∧ PlainScalar.within q2 b = true from i2); have Hn2 := Lib.hid (show ok2 = false → (p2, q2) = PlainBranch.zero from n2); clear i2 n2
  have k_p := shast_c p1 x hp; have k_q := shast_c q1 y hq; have k_wp := within_t p1 a w1a; have k_wq := within_t q1 b w1b; clear hp hq w1a w1b hx hy hKo
  have HA := Lib.hid hA; have HB0 := Lib.hid hB0; clear hA hB0
  have Hix := Lib.hid h_ix; have Hiy := Lib.hid h_iy; clear h_ix h_iy
  go_enter Try.func12, Try.ntmps12
  go_upto_region 1 with fail
  obtain ⟨gc, hgc⟩ : ∃ g, g = w.heap.size := ⟨_, rfl⟩
  have Bc : Blk (w.alloc (.cells #[CA, CB, .int .i64 i, .int .i64 k, uv m0, uv m1, .int .i64 op, .bool l] 85)) (w.heap.size) 85 #[CA, CB, .int .i64 i, .int .i64 k, uv m0, uv m1, .int .i64 op, .bool l] := (Blk.new w 85 #[CA, CB, .int .i64 i, .int .i64 k, uv m0, uv m1, .int .i64 op, .bool l])
  have hB : Below w.heap.size w (w.alloc (.cells #[CA, CB, .int .i64 i, .int .i64 k, uv m0, uv m1, .int .i64 op, .bool l] 85)) := (Bl_alloc (Bl_refl w) _)
  clear hgc
  clear gc
  generalize (w.alloc (.cells #[CA, CB, .int .i64 i, .int .i64 k, uv m0, uv m1, .int .i64 op, .bool l] 85)) = w1 at *
  have cc0 : w1.cell? ⟨w.heap.size, 0, none⟩ = some (CA) := Bc.cell 0
  have cc1 : w1.cell? ⟨w.heap.size, 1, none⟩ = some (CB) := Bc.cell 1
  have cc2 : w1.cell? ⟨w.heap.size, 2, none⟩ = some (.int .i64 i) := Bc.cell 2
  have cc3 : w1.cell? ⟨w.heap.size, 3, none⟩ = some (.int .i64 k) := Bc.cell 3
  have cc4 : w1.cell? ⟨w.heap.size, 4, none⟩ = some (uv m0) := Bc.cell 4
  have cc5 : w1.cell? ⟨w.heap.size, 5, none⟩ = some (uv m1) := Bc.cell 5
  have cc6 : w1.cell? ⟨w.heap.size, 6, none⟩ = some (.int .i64 op) := Bc.cell 6
  have cc7 : w1.cell? ⟨w.heap.size, 7, none⟩ = some (.bool l) := Bc.cell 7
  have fc := Bc.frozen; have lc := Bc.lt
  go_cut [3] (fun v3 wr => Below w.heap.size w wr ∧ Blk wr (w.heap.size) 85 #[CA, CB, .int .i64 i, .int .i64 k, uv m0, uv m1, .int .i64 op, .bool l] ∧ Lies wr w.heap.size v3 L3)
  case first =>
    rcases (HA.out.next hB) with ⟨ao, cap, eC, eL⟩ | ⟨gL, offL, nn, cap, eC, hnn, hcap, hL, hc⟩
    · rw [eC] at cc0; clear eC
      have HeL := Lib.hid eL; clear eL
      go_wp2_with (first | (at_builtin; refine wpList_append_empty rfl (.tmp 18) (.tmp 25) 46 rfl 22 i0 Try.underlying46 hi w1.heap.size 0 0 0 rfl (by omega) ao cap rfl ?_) | (at_builtin; refine wpList_append_grows _ rfl (.tmp 26) (.tmp 27) 46 rfl 22 i0 (.int .u64 0) 1 8 Try.underlying46 hi hz0 hz1 hz2 rfl (by decide) (some ⟨w1.heap.size, 0, none⟩) 0 0 [] rfl (fun h => by cases h) rfl (fun b hb j u hu => by simp at hu) ⟨w1.heap.size + 1, 0, none⟩ 1 1 [.int .u64 5] rfl rfl ?cs5 (by intro u hu; simp at hu; subst hu; rfl) (by omega) (by unfold maxLen; omega) (by omega) ?rest5))
      case cs5 =>
        intro j u hu; match j, hu with | 0, hu => simp at hu; subst hu; simp [Addr.add]
      case rest5 =>
        intro v' w' hown hgrow
        have hb : Below w1.heap.size w1 w' := (((Below.refl _ _).alloc (Nat.le_refl _) _).alloc (by simp) _).grown hgrow (by simp; omega) (fun k h => by cases h)
        have hlies : Lies w' w.heap.size v' L3 := lies_own (by have := hB.size; first | omega | (simp; omega)) hown (by rw [HL3.out, HeL.out]; rfl) hl3.1
        clear cc0 cc1 cc2 cc3 cc4 cc5 cc6 cc7 fc lc
        replace Bc := Bc.next hb; replace hB : Below w.heap.size w w' := Bl_trans hB hb
        clear hb hown hgrow
        go_wp2_with fail
        go_meet
        case rel => exact ⟨hB, Bc, hlies⟩
    · rw [eC] at cc0; clear eC
      obtain ⟨kk, hkk⟩ : ∃ z, z = min nn 8 := ⟨_, rfl⟩
      rw [← hkk] at hL hc
      have hk8 : kk ≤ 8 := by omega
      have hkn : kk ≤ nn := by omega
      have hmin : min (nn : Int) 8 = (kk : Int) := by omega
      have hkc : (kk : Int) ≤ (cap : Int) := by omega
      have hkp : 0 < kk := by omega
      have Hc := Lib.hid hc; clear hc hkk
      have hgL : gL < w1.heap.size := World.block_lt_of_cell? _ _ (Hc.out 0 hkp)
      go_wp2_with (at_builtin; refine wpList_append_grows _ rfl (.tmp 18) (.tmp 25) 46 rfl 22 i0 (.int .u64 0) 1 8 Try.underlying46 hi hz0 hz1 hz2 rfl (by decide) (some ⟨w1.heap.size, 0, none⟩) 0 0 [] rfl (fun h => by cases h) rfl (fun b hb j u hu => by simp at hu) ⟨gL, offL, none⟩ kk cap (LA.map uv) rfl ?nl5 ?ct5 (one_news LA) (by omega) (by unfold maxLen; omega) (by omega) ?resu5)
      case nl5 => simp [hL]
      case ct5 =>
        intro j u hu
        have hj : j < kk := by have := (List.getElem?_eq_some_iff.1 hu).1; simpa [hL] using this
        rw [news_at hL hj] at hu; rw [← hu, Addr.add_lit, World.cell?_alloc_past _ _ _ hgL]; exact Hc.out j hj
      case resu5 =>
        intro v1 wa hown1 hgrow1
        have hba : Below w1.heap.size w1 wa := Bl_grown hgrow1
        have hown1' := hown1.alloc (.cells #[.int .u64 5] 22)
        have hsa := hba.size
        go_wp2_with (at_builtin; refine wpList_append_own _ rfl (.tmp 26) (.tmp 27) 46 rfl _ 22 i0 (.int .u64 0) 1 8 Try.underlying46 hi hz0 hz1 hz2 rfl (by decide) v1 _ _ rfl hown1' ⟨wa.heap.size, 0, none⟩ 1 1 [.int .u64 5] rfl rfl ?cu5 (by intro u hu; simp at hu; subst hu; rfl) (by unfold maxLen; omega) (by omega) ?bs5 ?resv5)
        case cu5 =>
          intro j u hu; match j, hu with | 0, hu => simp at hu; subst hu; simp [Addr.add]
        case bs5 => first | (have := (hgrow1.size); simp at this ⊢; omega) | (simp; omega)
        case resv5 =>
          intro v' w' hown hgrow _
          have hb : Below w1.heap.size w1 w' := (hba.alloc hsa _).grown hgrow (by simp; omega) (fun k h => by have := own_block hown1 h; first | omega | (simp at this; omega))
          have hlies : Lies w' w.heap.size v' L3 := lies_own (by have := hB.size; first | omega | (simp; omega)) hown (by rw [HL3.out]; simp [show (5#64).toNat = 5 from rfl]; try rfl) hl3.1
          clear cc0 cc1 cc2 cc3 cc4 cc5 cc6 cc7 fc lc
          replace Bc := Bc.next hb; replace hB : Below w.heap.size w w' := Bl_trans hB hb
          clear hb hown hgrow hown1 hown1' hgrow1 hba
          go_wp2_with fail
          go_meet
          case rel => exact ⟨hB, Bc, hlies⟩
  case rest =>
    clear cc0 cc1 cc2 cc3 cc4 cc5 cc6 cc7 fc lc
    clear hB Bc
    obtain ⟨hB, Bc, h3⟩ := hcut
    have cc0 : wc.cell? ⟨w.heap.size, 0, none⟩ = some (CA) := Bc.cell 0
    have cc1 : wc.cell? ⟨w.heap.size, 1, none⟩ = some (CB) := Bc.cell 1
    have cc2 : wc.cell? ⟨w.heap.size, 2, none⟩ = some (.int .i64 i) := Bc.cell 2
    have cc3 : wc.cell? ⟨w.heap.size, 3, none⟩ = some (.int .i64 k) := Bc.cell 3
    have cc4 : wc.cell? ⟨w.heap.size, 4, none⟩ = some (uv m0) := Bc.cell 4
    have cc5 : wc.cell? ⟨w.heap.size, 5, none⟩ = some (uv m1) := Bc.cell 5
    have cc6 : wc.cell? ⟨w.heap.size, 6, none⟩ = some (.int .i64 op) := Bc.cell 6
    have cc7 : wc.cell? ⟨w.heap.size, 7, none⟩ = some (.bool l) := Bc.cell 7
    have fc := Bc.frozen; have lc := Bc.lt
    go_upto_region 2 with fail
    go_cut [4] (fun v4 wr => Below w.heap.size w wr ∧ Blk wr (w.heap.size) 85 #[CA, CB, .int .i64 i, .int .i64 k, uv m0, uv m1, .int .i64 op, .bool l] ∧ Lies wr w.heap.size u3 L3 ∧ Lies wr w.heap.size v4 M3)
    case first =>
      rcases (HB0.out.next hB) with ⟨ao, cap, eC, eL⟩ | ⟨gL, offL, nn, cap, eC, hnn, hcap, hL, hc⟩
      · rw [eC] at cc1; clear eC
        have HeL := Lib.hid eL; clear eL
        go_wp2_with (first | (at_builtin; refine wpList_append_empty rfl (.tmp 29) (.tmp 36) 46 rfl 22 i0 Try.underlying46 hi wc.heap.size 0 0 0 rfl (by omega) ao cap rfl ?_) | (at_builtin; refine wpList_append_grows _ rfl (.tmp 37) (.tmp 38) 46 rfl 22 i0 (.int .u64 0) 1 8 Try.underlying46 hi hz0 hz1 hz2 rfl (by decide) (some ⟨wc.heap.size, 0, none⟩) 0 0 [] rfl (fun h => by cases h) rfl (fun b hb j u hu => by simp at hu) ⟨wc.heap.size + 1, 0, none⟩ 1 1 [.int .u64 3] rfl rfl ?cs3 (by intro u hu; simp at hu; subst hu; rfl) (by omega) (by unfold maxLen; omega) (by omega) ?rest3))
        case cs3 =>
          intro j u hu; match j, hu with | 0, hu => simp at hu; subst hu; simp [Addr.add]
        case rest3 =>
          intro v' w' hown hgrow
          have hb : Below wc.heap.size wc w' := (((Below.refl _ _).alloc (Nat.le_refl _) _).alloc (by simp) _).grown hgrow (by simp; omega) (fun k h => by cases h)
          have hlies : Lies w' w.heap.size v' M3 := lies_own (by have := hB.size; first | omega | (simp; omega)) hown (by rw [HM3.out, HeL.out]; rfl) hm3.1
          clear cc0 cc1 cc2 cc3 cc4 cc5 cc6 cc7 fc lc
          replace Bc := Bc.next hb; replace h3 := h3.next hb; replace hB : Below w.heap.size w w' := Bl_trans hB hb
          clear hb hown hgrow
          go_wp2_with fail
          go_meet
          case rel => exact ⟨hB, Bc, h3, hlies⟩
      · rw [eC] at cc1; clear eC
        obtain ⟨kk, hkk⟩ : ∃ z, z = min nn 8 := ⟨_, rfl⟩
        rw [← hkk] at hL hc
        have hk8 : kk ≤ 8 := by omega
        have hkn : kk ≤ nn := by omega
        have hmin : min (nn : Int) 8 = (kk : Int) := by omega
        have hkc : (kk : Int) ≤ (cap : Int) := by omega
        have hkp : 0 < kk := by omega
        have Hc := Lib.hid hc; clear hc hkk
        have hgL : gL < wc.heap.size := World.block_lt_of_cell? _ _ (Hc.out 0 hkp)
        go_wp2_with (at_builtin; refine wpList_append_grows _ rfl (.tmp 29) (.tmp 36) 46 rfl 22 i0 (.int .u64 0) 1 8 Try.underlying46 hi hz0 hz1 hz2 rfl (by decide) (some ⟨wc.heap.size, 0, none⟩) 0 0 [] rfl (fun h => by cases h) rfl (fun b hb j u hu => by simp at hu) ⟨gL, offL, none⟩ kk cap (LB.map uv) rfl ?nl3 ?ct3 (one_news LB) (by omega) (by unfold maxLen; omega) (by omega) ?resu3)
        case nl3 => simp [hL]
        case ct3 =>
          intro j u hu
          have hj : j < kk := by have := (List.getElem?_eq_some_iff.1 hu).1; simpa [hL] using this
          rw [news_at hL hj] at hu; rw [← hu, Addr.add_lit, World.cell?_alloc_past _ _ _ hgL]; exact Hc.out j hj
        case resu3 =>
          intro v1 wa hown1 hgrow1
          have hba : Below wc.heap.size wc wa := Bl_grown hgrow1
          have hown1' := hown1.alloc (.cells #[.int .u64 3] 22)
          have hsa := hba.size
          go_wp2_with (at_builtin; refine wpList_append_own _ rfl (.tmp 37) (.tmp 38) 46 rfl _ 22 i0 (.int .u64 0) 1 8 Try.underlying46 hi hz0 hz1 hz2 rfl (by decide) v1 _ _ rfl hown1' ⟨wa.heap.size, 0, none⟩ 1 1 [.int .u64 3] rfl rfl ?cu3 (by intro u hu; simp at hu; subst hu; rfl) (by unfold maxLen; omega) (by omega) ?bs3 ?resv3)
          case cu3 =>
            intro j u hu; match j, hu with | 0, hu => simp at hu; subst hu; simp [Addr.add]
          case bs3 => first | (have := (hgrow1.size); simp at this ⊢; omega) | (simp; omega)
          case resv3 =>
            intro v' w' hown hgrow _
            have hb : Below wc.heap.size wc w' := (hba.alloc hsa _).grown hgrow (by simp; omega) (fun k h => by have := own_block hown1 h; first | omega | (simp at this; omega))
            have hlies : Lies w' w.heap.size v' M3 := lies_own (by have := hB.size; first | omega | (simp; omega)) hown (by rw [HM3.out]; simp [show (5#64).toNat = 5 from rfl]; try rfl) hm3.1
            clear cc0 cc1 cc2 cc3 cc4 cc5 cc6 cc7 fc lc
            replace Bc := Bc.next hb; replace h3 := h3.next hb; replace hB : Below w.heap.size w w' := Bl_trans hB hb
            clear hb hown hgrow hown1 hown1' hgrow1 hba
            go_wp2_with fail
            go_meet
            case rel => exact ⟨hB, Bc, h3, hlies⟩
    case rest =>
      clear cc0 cc1 cc2 cc3 cc4 cc5 cc6 cc7 fc lc
      clear hB Bc
      obtain ⟨hB, Bc, h3', h4⟩ := hcut
      have cc0 : wc.cell? ⟨w.heap.size, 0, none⟩ = some (CA) := Bc.cell 0
      have cc1 : wc.cell? ⟨w.heap.size, 1, none⟩ = some (CB) := Bc.cell 1
      have cc2 : wc.cell? ⟨w.heap.size, 2, none⟩ = some (.int .i64 i) := Bc.cell 2
      have cc3 : wc.cell? ⟨w.heap.size, 3, none⟩ = some (.int .i64 k) := Bc.cell 3
      have cc4 : wc.cell? ⟨w.heap.size, 4, none⟩ = some (uv m0) := Bc.cell 4
      have cc5 : wc.cell? ⟨w.heap.size, 5, none⟩ = some (uv m1) := Bc.cell 5
      have cc6 : wc.cell? ⟨w.heap.size, 6, none⟩ = some (.int .i64 op) := Bc.cell 6
      have cc7 : wc.cell? ⟨w.heap.size, 7, none⟩ = some (.bool l) := Bc.cell 7
      have fc := Bc.frozen; have lc := Bc.lt
      replace h3 := h3'; clear h3'
      go_upto_region 3 with fail
      go_cut [43] (fun v43 wr => Below w.heap.size w wr ∧ Blk wr (w.heap.size) 85 #[CA, CB, .int .i64 i, .int .i64 k, uv m0, uv m1, .int .i64 op, .bool l] ∧ Lies wr w.heap.size u3 L3 ∧ Lies wr w.heap.size u4 M3 ∧ v43 = .bool b1)
      case first =>
        rcases HM.out with ⟨rfl, h1, eM⟩ | ⟨rfl, h1, eM⟩ <;> rcases HB0.out.next hB with ⟨ao, cap, eC, eL⟩ | ⟨gL, offL, nn, cap, eC, hnn, hcap, hL, hc⟩
        · exact absurd (h1 _ _ _ eC) (by decide)
        · obtain rfl : nn = 1 := h1 _ _ _ eC
          rw [eC] at cc1; clear eC h1 eM hc hL
          go_wp2_with fail
          go_meet
          case rel => exact ⟨hB, Bc, h3, h4, by first | rfl | trivial | simp | simp [hn1]⟩
        · rw [eC] at cc1; clear eC h1 eM eL
          go_wp2_with fail
          go_meet
          case rel => exact ⟨hB, Bc, h3, h4, by first | rfl | trivial | simp | simp [hn1]⟩
        · have hn1 : ¬ nn = 1 := h1 _ _ _ eC
          have hn2 : ((nn : Int) == 1) = false := by simp; omega
          rw [eC] at cc1; clear eC h1 eM hc hL
          go_wp2_with fail
          go_meet
          case rel => exact ⟨hB, Bc, h3, h4, by first | rfl | trivial | simp | simp [hn1]⟩
      case rest =>
        clear cc0 cc1 cc2 cc3 cc4 cc5 cc6 cc7 fc lc
        clear hB Bc h3 h4
        obtain ⟨hB, Bc, h3, h4, rfl⟩ := hcut
        have cc0 : wc.cell? ⟨w.heap.size, 0, none⟩ = some (CA) := Bc.cell 0
        have cc1 : wc.cell? ⟨w.heap.size, 1, none⟩ = some (CB) := Bc.cell 1
        have cc2 : wc.cell? ⟨w.heap.size, 2, none⟩ = some (.int .i64 i) := Bc.cell 2
        have cc3 : wc.cell? ⟨w.heap.size, 3, none⟩ = some (.int .i64 k) := Bc.cell 3
        have cc4 : wc.cell? ⟨w.heap.size, 4, none⟩ = some (uv m0) := Bc.cell 4
        have cc5 : wc.cell? ⟨w.heap.size, 5, none⟩ = some (uv m1) := Bc.cell 5
        have cc6 : wc.cell? ⟨w.heap.size, 6, none⟩ = some (.int .i64 op) := Bc.cell 6
        have cc7 : wc.cell? ⟨w.heap.size, 7, none⟩ = some (.bool l) := Bc.cell 7
        have fc := Bc.frozen; have lc := Bc.lt
        go_upto_if 43 with fail
        go_cut [4] (fun v4 wr => Below w.heap.size w wr ∧ Blk wr (w.heap.size) 85 #[CA, CB, .int .i64 i, .int .i64 k, uv m0, uv m1, .int .i64 op, .bool l] ∧ Lies wr w.heap.size u3 L3 ∧ Lies wr w.heap.size v4 M)
        case first =>
          rcases HM.out with ⟨rfl, h1, eM⟩ | ⟨rfl, h1, eM⟩
          · have hLB : LB.length = 1 := by
              rcases HB0.out with ⟨ao, cap, eC, eL⟩ | ⟨gL, offL, nn, cap, eC, hnn, hcap, hL, hc⟩
              · exact absurd (h1 _ _ _ eC) (by decide)
              · have := h1 _ _ _ eC; omega
            obtain ⟨x1, e1⟩ : ∃ x1, LB = [x1] := by match LB, hLB with | [z], _ => exact ⟨z, rfl⟩
            have hm : M3 = x1 :: [3#64] := by rw [HM3.out, e1]; rfl
            obtain ⟨g4, p4, c4, e4, b4, l4, B4, h4c⟩ := h4
            have hl2 : M3.length = 2 := by rw [hm]; rfl
            have hp4 : 2 ≤ p4 := by omega
            have hfin : Lies wc w.heap.size (.slice (some ⟨g4, 0, none⟩) 1 p4) M := by rw [eM, e1]; exact Lies.first (L := M3) (r := [3#64]) ⟨g4, p4, c4, rfl, b4, l4, B4, h4c⟩ hm
            have HF := Lib.hid hfin; clear hfin h4c eM e1 hm hLB h1
            rw [hl2] at e4; clear hl2 l4; subst e4
            go_wp2_with fail
            go_meet
            case rel => exact ⟨hB, Bc, h3, HF.out⟩
          · have HF := Lib.hid h4; rw [← eM] at HF; clear h4 eM h1
            go_wp2_with fail
            go_meet
            case rel => exact ⟨hB, Bc, h3, HF.out⟩
        case rest =>
          clear cc0 cc1 cc2 cc3 cc4 cc5 cc6 cc7 fc lc
          clear hB Bc h3 h4
          obtain ⟨hB, Bc, h3, h4⟩ := hcut
          have cc0 : wc.cell? ⟨w.heap.size, 0, none⟩ = some (CA) := Bc.cell 0
          have cc1 : wc.cell? ⟨w.heap.size, 1, none⟩ = some (CB) := Bc.cell 1
          have cc2 : wc.cell? ⟨w.heap.size, 2, none⟩ = some (.int .i64 i) := Bc.cell 2
          have cc3 : wc.cell? ⟨w.heap.size, 3, none⟩ = some (.int .i64 k) := Bc.cell 3
          have cc4 : wc.cell? ⟨w.heap.size, 4, none⟩ = some (uv m0) := Bc.cell 4
          have cc5 : wc.cell? ⟨w.heap.size, 5, none⟩ = some (uv m1) := Bc.cell 5
          have cc6 : wc.cell? ⟨w.heap.size, 6, none⟩ = some (.int .i64 op) := Bc.cell 6
          have cc7 : wc.cell? ⟨w.heap.size, 7, none⟩ = some (.bool l) := Bc.cell 7
          have fc := Bc.frozen; have lc := Bc.lt
          obtain ⟨e3, p3, c3, ev, hgeea, lpea, Bea, hc3⟩ := h3
          rw [← HnL.out] at ev lpea hc3; subst ev
          have Hhc3 := Lib.hid hc3; clear hc3
          have fea := Bea.frozen; have lea := Bea.lt
          have hkznL : ¬ nL = 0 := by omega
          obtain ⟨e4, p4, c4, ev, hgeeb, lpeb, Beb, hc4⟩ := h4
          rw [← HnM.out] at ev lpeb hc4; subst ev
          have Hhc4 := Lib.hid hc4; clear hc4
          have feb := Beb.frozen; have leb := Beb.lt
          have hkznM : ¬ nM = 0 := by omega
          have k_A : ∀ w : World, Blk w e3 22 c3 → Calls Try.prog 42 #[.slice (some ⟨e3, 0, none⟩) nL p3, uv m0] w fun e w' => e = .returned (rv a) ∧ Below w.heap.size w w' := fun w h => by rw [Ha.out]; exact around_c L3 nL HnL.out.symm (by omega) (by omega) e3 0 p3 m0 w (fun j hj => by rw [Nat.zero_add, h.cell]; exact Hhc3.out j hj)
          have k_B : ∀ w : World, Blk w e4 22 c4 → Calls Try.prog 42 #[.slice (some ⟨e4, 0, none⟩) nM p4, uv m1] w fun e w' => e = .returned (rv b) ∧ Below w.heap.size w w' := fun w h => by rw [Hb.out]; exact around_c M nM HnM.out.symm (by omega) (by omega) e4 0 p4 m1 w (fun j hj => by rw [Nat.zero_add, h.cell]; exact Hhc4.out j hj)
          have iBea : ∀ g : Later wc, Blk g.w e3 22 c3 := fun g => Bea.next g.is
          have iBeb : ∀ g : Later wc, Blk g.w e4 22 c4 := fun g => Beb.next g.is
          go_wp2_with fail
          replace cc0 : ∀ g : Later wc, g.w.cell? ⟨w.heap.size, 0, none⟩ = some (CA) := fun g => g.cell (Bc.cell 0)
          replace cc1 : ∀ g : Later wc, g.w.cell? ⟨w.heap.size, 1, none⟩ = some (CB) := fun g => g.cell (Bc.cell 1)
          replace cc2 : ∀ g : Later wc, g.w.cell? ⟨w.heap.size, 2, none⟩ = some (.int .i64 i) := fun g => g.cell (Bc.cell 2)
          replace cc3 : ∀ g : Later wc, g.w.cell? ⟨w.heap.size, 3, none⟩ = some (.int .i64 k) := fun g => g.cell (Bc.cell 3)
          replace cc4 : ∀ g : Later wc, g.w.cell? ⟨w.heap.size, 4, none⟩ = some (uv m0) := fun g => g.cell (Bc.cell 4)
          replace cc5 : ∀ g : Later wc, g.w.cell? ⟨w.heap.size, 5, none⟩ = some (uv m1) := fun g => g.cell (Bc.cell 5)
          replace cc6 : ∀ g : Later wc, g.w.cell? ⟨w.heap.size, 6, none⟩ = some (.int .i64 op) := fun g => g.cell (Bc.cell 6)
          replace cc7 : ∀ g : Later wc, g.w.cell? ⟨w.heap.size, 7, none⟩ = some (.bool l) := fun g => g.cell (Bc.cell 7)
          refine wp_region_mix 14 (fun _ => #[.int .u64 0, .int .u64 0, .int .u64 0, .int .u64 0, .int .i64 0, .int .i64 0]) (by kernel_rfl) (by kernel_rfl) (fun o t ho ht => by
            simp at ho
            rcases ho with rfl | rfl | rfl | rfl | rfl | rfl | rfl | rfl | rfl | rfl | rfl | rfl | rfl | rfl <;> first | (cases ht; done) | (obtain rfl := Option.some.inj ht; exact fun ρ w => new_rng14 ht ρ w)) ?_
          simp only [List.take_succ_cons, List.take_zero, List.drop_succ_cons, List.drop_zero]
          repeat ((with_reducible refine wpMix_step (fun K hK => ?_)); go_simp; first | ((with_reducible refine hK _ ?_); clear hK K) | (rw [if_neg (by decide)]; (with_reducible refine hK _ ?_); clear hK K) | (apply Exists.intro; refine ⟨fun g => ?_, hK _ ?_⟩; ((with_reducible refine Calls.mono (k_A g.w (iBea g)) ?_); exact fun _ _ h => h); clear hK K) | (apply Exists.intro; refine ⟨fun g => ?_, hK _ ?_⟩; ((with_reducible refine Calls.mono (k_B g.w (iBeb g)) ?_); exact fun _ _ h => h); clear hK K) | (apply Exists.intro; refine ⟨fun g => ?_, hK _ ?_⟩; ((with_reducible refine Calls.mono (to15_c a g.w) ?_); exact fun _ _ h => h); clear hK K) | (apply Exists.intro; refine ⟨fun g => ?_, hK _ ?_⟩; ((with_reducible refine Calls.mono (to15_c b g.w) ?_); exact fun _ _ h => h); clear hK K))
          refine wpMix_nil ?_
          intro G w2 hgr hblk hdist
          have hb : Below wc.heap.size wc w2 := hgr
          replace Bc := Bc.next hb
          replace Bea := Bea.next hb
          replace Beb := Beb.next hb
          obtain ⟨Ba, hla⟩ := hblk 12 _ rfl
          obtain ⟨Bb, hlb⟩ := hblk 13 _ rfl
          have hdab := hdist 12 13 _ _ rfl rfl (by decide)
          have hga : w.heap.size ≤ G 12 := Nat.le_trans hB.size hla
          have hnca : w.heap.size ≠ G 12 := Nat.ne_of_lt (Nat.lt_of_lt_of_le lc hla)
          have hneaa : e3 ≠ G 12 := Nat.ne_of_lt (Nat.lt_of_lt_of_le lea hla)
          have hneba : e4 ≠ G 12 := Nat.ne_of_lt (Nat.lt_of_lt_of_le leb hla)
          clear hla
          have hgb : w.heap.size ≤ G 13 := Nat.le_trans hB.size hlb
          have hncb : w.heap.size ≠ G 13 := Nat.ne_of_lt (Nat.lt_of_lt_of_le lc hlb)
          have hneab : e3 ≠ G 13 := Nat.ne_of_lt (Nat.lt_of_lt_of_le lea hlb)
          have hnebb : e4 ≠ G 13 := Nat.ne_of_lt (Nat.lt_of_lt_of_le leb hlb)
          clear hlb
          clear cc0 cc1 cc2 cc3 cc4 cc5 cc6 cc7 fc lc
          clear  fea lea
          clear  feb leb
          replace hB : Below w.heap.size w w2 := Bl_trans hB hb
          simp only [putAll, isAlloc, Act.put]
          generalize G 12 = ga at *
          generalize G 13 = gb at *
          clear hb hgr hblk hdist
          have cc0 : w2.cell? ⟨w.heap.size, 0, none⟩ = some (CA) := Bc.cell 0
          have cc1 : w2.cell? ⟨w.heap.size, 1, none⟩ = some (CB) := Bc.cell 1
          have cc2 : w2.cell? ⟨w.heap.size, 2, none⟩ = some (.int .i64 i) := Bc.cell 2
          have cc3 : w2.cell? ⟨w.heap.size, 3, none⟩ = some (.int .i64 k) := Bc.cell 3
          have cc4 : w2.cell? ⟨w.heap.size, 4, none⟩ = some (uv m0) := Bc.cell 4
          have cc5 : w2.cell? ⟨w.heap.size, 5, none⟩ = some (uv m1) := Bc.cell 5
          have cc6 : w2.cell? ⟨w.heap.size, 6, none⟩ = some (.int .i64 op) := Bc.cell 6
          have cc7 : w2.cell? ⟨w.heap.size, 7, none⟩ = some (.bool l) := Bc.cell 7
          have fc := Bc.frozen; have lc := Bc.lt
          have fea := Bea.frozen; have lea := Bea.lt
          have feb := Beb.frozen; have leb := Beb.lt
          obtain ⟨ca0, ca1, ca2, ca3, ca4, ca5⟩ := cells6 Ba
          have fa := Ba.frozen; have la := Ba.lt
          obtain ⟨cb0, cb1, cb2, cb3, cb4, cb5⟩ := cells6 Bb
          have fb := Bb.frozen; have lb := Bb.lt
          clear k_A k_B iBea iBeb
          go_upto_region 6 with fail
          clear cc0 cc1 cc2 cc3 cc4 cc5 cc6 cc7 fc lc
          clear  fea lea
          clear  feb leb
          clear ca0 ca1 ca2 ca3 ca4 ca5 fa la
          clear cb0 cb1 cb2 cb3 cb4 cb5 fb lb
          replace Bc : Blk ((((((w2.setCell ⟨ga, 0, none⟩ (uv a.b.v)).setCell ⟨ga, 1, none⟩ (uv a.b.m)).setCell ⟨ga, 2, none⟩ (uv a.lo)).setCell ⟨ga, 3, none⟩ (uv a.hi)).setCell ⟨ga, 4, none⟩ (sv a.sl)).setCell ⟨ga, 5, none⟩ (sv a.sh)) (w.heap.size) 85 #[CA, CB, .int .i64 i, .int .i64 k, uv m0, uv m1, .int .i64 op, .bool l] := ((((((Bc.far (by first | (simp; done) | (simp; omega) | (simp [*]; done) | (simp only [ne_eq]; constructor <;> omega)) _).far (by first | (simp; done) | (simp; omega) | (simp [*]; done) | (simp only [ne_eq]; constructor <;> omega)) _).far (by first | (simp; done) | (simp; omega) | (simp [*]; done) | (simp only [ne_eq]; constructor <;> omega)) _).far (by first | (simp; done) | (simp; omega) | (simp [*]; done) | (simp only [ne_eq]; constructor <;> omega)) _).far (by first | (simp; done) | (simp; omega) | (simp [*]; done) | (simp only [ne_eq]; constructor <;> omega)) _).far (by first | (simp; done) | (simp; omega) | (simp [*]; done) | (simp only [ne_eq]; constructor <;> omega)) _)
          replace Bea : Blk ((((((w2.setCell ⟨ga, 0, none⟩ (uv a.b.v)).setCell ⟨ga, 1, none⟩ (uv a.b.m)).setCell ⟨ga, 2, none⟩ (uv a.lo)).setCell ⟨ga, 3, none⟩ (uv a.hi)).setCell ⟨ga, 4, none⟩ (sv a.sl)).setCell ⟨ga, 5, none⟩ (sv a.sh)) (e3) 22 c3 := ((((((Bea.far (by first | (simp; done) | (simp; omega) | (simp [*]; done) | (simp only [ne_eq]; constructor <;> omega)) _).far (by first | (simp; done) | (simp; omega) | (simp [*]; done) | (simp only [ne_eq]; constructor <;> omega)) _).far (by first | (simp; done) | (simp; omega) | (simp [*]; done) | (simp only [ne_eq]; constructor <;> omega)) _).far (by first | (simp; done) | (simp; omega) | (simp [*]; done) | (simp only [ne_eq]; constructor <;> omega)) _).far (by first | (simp; done) | (simp; omega) | (simp [*]; done) | (simp only [ne_eq]; constructor <;> omega)) _).far (by first | (simp; done) | (simp; omega) | (simp [*]; done) | (simp only [ne_eq]; constructor <;> omega)) _)
          replace Beb : Blk ((((((w2.setCell ⟨ga, 0, none⟩ (uv a.b.v)).setCell ⟨ga, 1, none⟩ (uv a.b.m)).setCell ⟨ga, 2, none⟩ (uv a.lo)).setCell ⟨ga, 3, none⟩ (uv a.hi)).setCell ⟨ga, 4, none⟩ (sv a.sl)).setCell ⟨ga, 5, none⟩ (sv a.sh)) (e4) 22 c4 := ((((((Beb.far (by first | (simp; done) | (simp; omega) | (simp [*]; done) | (simp only [ne_eq]; constructor <;> omega)) _).far (by first | (simp; done) | (simp; omega) | (simp [*]; done) | (simp only [ne_eq]; constructor <;> omega)) _).far (by first | (simp; done) | (simp; omega) | (simp [*]; done) | (simp only [ne_eq]; constructor <;> omega)) _).far (by first | (simp; done) | (simp; omega) | (simp [*]; done) | (simp only [ne_eq]; constructor <;> omega)) _).far (by first | (simp; done) | (simp; omega) | (simp [*]; done) | (simp only [ne_eq]; constructor <;> omega)) _).far (by first | (simp; done) | (simp; omega) | (simp [*]; done) | (simp only [ne_eq]; constructor <;> omega)) _)
          replace Ba : Blk ((((((w2.setCell ⟨ga, 0, none⟩ (uv a.b.v)).setCell ⟨ga, 1, none⟩ (uv a.b.m)).setCell ⟨ga, 2, none⟩ (uv a.lo)).setCell ⟨ga, 3, none⟩ (uv a.hi)).setCell ⟨ga, 4, none⟩ (sv a.sl)).setCell ⟨ga, 5, none⟩ (sv a.sh)) (ga) 27 #[uv a.b.v, uv a.b.m, uv a.lo, uv a.hi, sv a.sl, sv a.sh] := ((((((Ba.set_ 0 _).set_ 1 _).set_ 2 _).set_ 3 _).set_ 4 _).set_ 5 _)
          replace Bb : Blk ((((((w2.setCell ⟨ga, 0, none⟩ (uv a.b.v)).setCell ⟨ga, 1, none⟩ (uv a.b.m)).setCell ⟨ga, 2, none⟩ (uv a.lo)).setCell ⟨ga, 3, none⟩ (uv a.hi)).setCell ⟨ga, 4, none⟩ (sv a.sl)).setCell ⟨ga, 5, none⟩ (sv a.sh)) (gb) 27 #[.int .u64 0, .int .u64 0, .int .u64 0, .int .u64 0, .int .i64 0, .int .i64 0] := ((((((Bb.far (by first | (simp; done) | (simp; omega) | (simp [*]; done) | (simp only [ne_eq]; constructor <;> omega)) _).far (by first | (simp; done) | (simp; omega) | (simp [*]; done) | (simp only [ne_eq]; constructor <;> omega)) _).far (by first | (simp; done) | (simp; omega) | (simp [*]; done) | (simp only [ne_eq]; constructor <;> omega)) _).far (by first | (simp; done) | (simp; omega) | (simp [*]; done) | (simp only [ne_eq]; constructor <;> omega)) _).far (by first | (simp; done) | (simp; omega) | (simp [*]; done) | (simp only [ne_eq]; constructor <;> omega)) _).far (by first | (simp; done) | (simp; omega) | (simp [*]; done) | (simp only [ne_eq]; constructor <;> omega)) _)
          replace hB : Below w.heap.size w ((((((w2.setCell ⟨ga, 0, none⟩ (uv a.b.v)).setCell ⟨ga, 1, none⟩ (uv a.b.m)).setCell ⟨ga, 2, none⟩ (uv a.lo)).setCell ⟨ga, 3, none⟩ (uv a.hi)).setCell ⟨ga, 4, none⟩ (sv a.sl)).setCell ⟨ga, 5, none⟩ (sv a.sh)) := (Bl_set (Bl_set (Bl_set (Bl_set (Bl_set (Bl_set hB (by first | omega | (simp; done) | (simp; omega)) _) (by first | omega | (simp; done) | (simp; omega)) _) (by first | omega | (simp; done) | (simp; omega)) _) (by first | omega | (simp; done) | (simp; omega)) _) (by first | omega | (simp; done) | (simp; omega)) _) (by first | omega | (simp; done) | (simp; omega)) _)
          replace Bc : Blk ((((((((((((w2.setCell ⟨ga, 0, none⟩ (uv a.b.v)).setCell ⟨ga, 1, none⟩ (uv a.b.m)).setCell ⟨ga, 2, none⟩ (uv a.lo)).setCell ⟨ga, 3, none⟩ (uv a.hi)).setCell ⟨ga, 4, none⟩ (sv a.sl)).setCell ⟨ga, 5, none⟩ (sv a.sh)).setCell ⟨gb, 0, none⟩ (uv b.b.v)).setCell ⟨gb, 1, none⟩ (uv b.b.m)).setCell ⟨gb, 2, none⟩ (uv b.lo)).setCell ⟨gb, 3, none⟩ (uv b.hi)).setCell ⟨gb, 4, none⟩ (sv b.sl)).setCell ⟨gb, 5, none⟩ (sv b.sh)) (w.heap.size) 85 #[CA, CB, .int .i64 i, .int .i64 k, uv m0, uv m1, .int .i64 op, .bool l] := ((((((Bc.far (by first | (simp; done) | (simp; omega) | (simp [*]; done) | (simp only [ne_eq]; constructor <;> omega)) _).far (by first | (simp; done) | (simp; omega) | (simp [*]; done) | (simp only [ne_eq]; constructor <;> omega)) _).far (by first | (simp; done) | (simp; omega) | (simp [*]; done) | (simp only [ne_eq]; constructor <;> omega)) _).far (by first | (simp; done) | (simp; omega) | (simp [*]; done) | (simp only [ne_eq]; constructor <;> omega)) _).far (by first | (simp; done) | (simp; omega) | (simp [*]; done) | (simp only [ne_eq]; constructor <;> omega)) _).far (by first | (simp; done) | (simp; omega) | (simp [*]; done) | (simp only [ne_eq]; constructor <;> omega)) _)
          replace Bea : Blk ((((((((((((w2.setCell ⟨ga, 0, none⟩ (uv a.b.v)).setCell ⟨ga, 1, none⟩ (uv a.b.m)).setCell ⟨ga, 2, none⟩ (uv a.lo)).setCell ⟨ga, 3, none⟩ (uv a.hi)).setCell ⟨ga, 4, none⟩ (sv a.sl)).setCell ⟨ga, 5, none⟩ (sv a.sh)).setCell ⟨gb, 0, none⟩ (uv b.b.v)).setCell ⟨gb, 1, none⟩ (uv b.b.m)).setCell ⟨gb, 2, none⟩ (uv b.lo)).setCell ⟨gb, 3, none⟩ (uv b.hi)).setCell ⟨gb, 4, none⟩ (sv b.sl)).setCell ⟨gb, 5, none⟩ (sv b.sh)) (e3) 22 c3 := ((((((Bea.far (by first | (simp; done) | (simp; omega) | (simp [*]; done) | (simp only [ne_eq]; constructor <;> omega)) _).far (by first | (simp; done) | (simp; omega) | (simp [*]; done) | (simp only [ne_eq]; constructor <;> omega)) _).far (by first | (simp; done) | (simp; omega) | (simp [*]; done) | (simp only [ne_eq]; constructor <;> omega)) _).far (by first | (simp; done) | (simp; omega) | (simp [*]; done) | (simp only [ne_eq]; constructor <;> omega)) _).far (by first | (simp; done) | (simp; omega) | (simp [*]; done) | (simp only [ne_eq]; constructor <;> omega)) _).far (by first | (simp; done) | (simp; omega) | (simp [*]; done) | (simp only [ne_eq]; constructor <;> omega)) _)
          replace Beb : Blk ((((((((((((w2.setCell ⟨ga, 0, none⟩ (uv a.b.v)).setCell ⟨ga, 1, none⟩ (uv a.b.m)).setCell ⟨ga, 2, none⟩ (uv a.lo)).setCell ⟨ga, 3, none⟩ (uv a.hi)).setCell ⟨ga, 4, none⟩ (sv a.sl)).setCell ⟨ga, 5, none⟩ (sv a.sh)).setCell ⟨gb, 0, none⟩ (uv b.b.v)).setCell ⟨gb, 1, none⟩ (uv b.b.m)).setCell ⟨gb, 2, none⟩ (uv b.lo)).setCell ⟨gb, 3, none⟩ (uv b.hi)).setCell ⟨gb, 4, none⟩ (sv b.sl)).setCell ⟨gb, 5, none⟩ (sv b.sh)) (e4) 22 c4 := ((((((Beb.far (by first | (simp; done) | (simp; omega) | (simp [*]; done) | (simp only [ne_eq]; constructor <;> omega)) _).far (by first | (simp; done) | (simp; omega) | (simp [*]; done) | (simp only [ne_eq]; constructor <;> omega)) _).far (by first | (simp; done) | (simp; omega) | (simp [*]; done) | (simp only [ne_eq]; constructor <;> omega)) _).far (by first | (simp; done) | (simp; omega) | (simp [*]; done) | (simp only [ne_eq]; constructor <;> omega)) _).far (by first | (simp; done) | (simp; omega) | (simp [*]; done) | (simp only [ne_eq]; constructor <;> omega)) _).far (by first | (simp; done) | (simp; omega) | (simp [*]; done) | (simp only [ne_eq]; constructor <;> omega)) _)
          replace Ba : Blk ((((((((((((w2.setCell ⟨ga, 0, none⟩ (uv a.b.v)).setCell ⟨ga, 1, none⟩ (uv a.b.m)).setCell ⟨ga, 2, none⟩ (uv a.lo)).setCell ⟨ga, 3, none⟩ (uv a.hi)).setCell ⟨ga, 4, none⟩ (sv a.sl)).setCell ⟨ga, 5, none⟩ (sv a.sh)).setCell ⟨gb, 0, none⟩ (uv b.b.v)).setCell ⟨gb, 1, none⟩ (uv b.b.m)).setCell ⟨gb, 2, none⟩ (uv b.lo)).setCell ⟨gb, 3, none⟩ (uv b.hi)).setCell ⟨gb, 4, none⟩ (sv b.sl)).setCell ⟨gb, 5, none⟩ (sv b.sh)) (ga) 27 #[uv a.b.v, uv a.b.m, uv a.lo, uv a.hi, sv a.sl, sv a.sh] := ((((((Ba.far (by first | (simp; done) | (simp; omega) | (simp [*]; done) | (simp only [ne_eq]; constructor <;> omega)) _).far (by first | (simp; done) | (simp; omega) | (simp [*]; done) | (simp only [ne_eq]; constructor <;> omega)) _).far (by first | (simp; done) | (simp; omega) | (simp [*]; done) | (simp only [ne_eq]; constructor <;> omega)) _).far (by first | (simp; done) | (simp; omega) | (simp [*]; done) | (simp only [ne_eq]; constructor <;> omega)) _).far (by first | (simp; done) | (simp; omega) | (simp [*]; done) | (simp only [ne_eq]; constructor <;> omega)) _).far (by first | (simp; done) | (simp; omega) | (simp [*]; done) | (simp only [ne_eq]; constructor <;> omega)) _)
          replace Bb : Blk ((((((((((((w2.setCell ⟨ga, 0, none⟩ (uv a.b.v)).setCell ⟨ga, 1, none⟩ (uv a.b.m)).setCell ⟨ga, 2, none⟩ (uv a.lo)).setCell ⟨ga, 3, none⟩ (uv a.hi)).setCell ⟨ga, 4, none⟩ (sv a.sl)).setCell ⟨ga, 5, none⟩ (sv a.sh)).setCell ⟨gb, 0, none⟩ (uv b.b.v)).setCell ⟨gb, 1, none⟩ (uv b.b.m)).setCell ⟨gb, 2, none⟩ (uv b.lo)).setCell ⟨gb, 3, none⟩ (uv b.hi)).setCell ⟨gb, 4, none⟩ (sv b.sl)).setCell ⟨gb, 5, none⟩ (sv b.sh)) (gb) 27 #[uv b.b.v, uv b.b.m, uv b.lo, uv b.hi, sv b.sl, sv b.sh] := ((((((Bb.set_ 0 _).set_ 1 _).set_ 2 _).set_ 3 _).set_ 4 _).set_ 5 _)
          replace hB : Below w.heap.size w ((((((((((((w2.setCell ⟨ga, 0, none⟩ (uv a.b.v)).setCell ⟨ga, 1, none⟩ (uv a.b.m)).setCell ⟨ga, 2, none⟩ (uv a.lo)).setCell ⟨ga, 3, none⟩ (uv a.hi)).setCell ⟨ga, 4, none⟩ (sv a.sl)).setCell ⟨ga, 5, none⟩ (sv a.sh)).setCell ⟨gb, 0, none⟩ (uv b.b.v)).setCell ⟨gb, 1, none⟩ (uv b.b.m)).setCell ⟨gb, 2, none⟩ (uv b.lo)).setCell ⟨gb, 3, none⟩ (uv b.hi)).setCell ⟨gb, 4, none⟩ (sv b.sl)).setCell ⟨gb, 5, none⟩ (sv b.sh)) := (Bl_set (Bl_set (Bl_set (Bl_set (Bl_set (Bl_set hB (by first | omega | (simp; done) | (simp; omega)) _) (by first | omega | (simp; done) | (simp; omega)) _) (by first | omega | (simp; done) | (simp; omega)) _) (by first | omega | (simp; done) | (simp; omega)) _) (by first | omega | (simp; done) | (simp; omega)) _) (by first | omega | (simp; done) | (simp; omega)) _)
          generalize ((((((((((((w2.setCell ⟨ga, 0, none⟩ (uv a.b.v)).setCell ⟨ga, 1, none⟩ (uv a.b.m)).setCell ⟨ga, 2, none⟩ (uv a.lo)).setCell ⟨ga, 3, none⟩ (uv a.hi)).setCell ⟨ga, 4, none⟩ (sv a.sl)).setCell ⟨ga, 5, none⟩ (sv a.sh)).setCell ⟨gb, 0, none⟩ (uv b.b.v)).setCell ⟨gb, 1, none⟩ (uv b.b.m)).setCell ⟨gb, 2, none⟩ (uv b.lo)).setCell ⟨gb, 3, none⟩ (uv b.hi)).setCell ⟨gb, 4, none⟩ (sv b.sl)).setCell ⟨gb, 5, none⟩ (sv b.sh)) = w3 at *
          have cc0 : w3.cell? ⟨w.heap.size, 0, none⟩ = some (CA) := Bc.cell 0
          have cc1 : w3.cell? ⟨w.heap.size, 1, none⟩ = some (CB) := Bc.cell 1
          have cc2 : w3.cell? ⟨w.heap.size, 2, none⟩ = some (.int .i64 i) := Bc.cell 2
          have cc3 : w3.cell? ⟨w.heap.size, 3, none⟩ = some (.int .i64 k) := Bc.cell 3
          have cc4 : w3.cell? ⟨w.heap.size, 4, none⟩ = some (uv m0) := Bc.cell 4
          have cc5 : w3.cell? ⟨w.heap.size, 5, none⟩ = some (uv m1) := Bc.cell 5
          have cc6 : w3.cell? ⟨w.heap.size, 6, none⟩ = some (.int .i64 op) := Bc.cell 6
          have cc7 : w3.cell? ⟨w.heap.size, 7, none⟩ = some (.bool l) := Bc.cell 7
          have fc := Bc.frozen; have lc := Bc.lt
          have fea := Bea.frozen; have lea := Bea.lt
          have feb := Beb.frozen; have leb := Beb.lt
          obtain ⟨ca0, ca1, ca2, ca3, ca4, ca5⟩ := cells6 Ba
          have fa := Ba.frozen; have la := Ba.lt
          obtain ⟨cb0, cb1, cb2, cb3, cb4, cb5⟩ := cells6 Bb
          have fb := Bb.frozen; have lb := Bb.lt
          have h_ix := Hix.out; have h_iy := Hiy.out; have li_ix : (ix : Int) < (nL : Int) := by omega
          have li_iy : (iy : Int) < (nM : Int) := by omega
          have cX : ∀ g : Later w3, g.w.cell? ⟨e3, ix, none⟩ = some (uv x) := fun g => g.cell (by rw [Bea.cell, Hx.out]; exact Hhc3.out ix l_ix)
          have cY : ∀ g : Later w3, g.w.cell? ⟨e4, iy, none⟩ = some (uv y) := fun g => g.cell (by rw [Beb.cell, Hy.out]; exact Hhc4.out iy l_iy)
          go_wp2_with fail
          replace cc0 : ∀ g : Later w3, g.w.cell? ⟨w.heap.size, 0, none⟩ = some (CA) := fun g => g.cell (Bc.cell 0)
          replace cc1 : ∀ g : Later w3, g.w.cell? ⟨w.heap.size, 1, none⟩ = some (CB) := fun g => g.cell (Bc.cell 1)
          replace cc2 : ∀ g : Later w3, g.w.cell? ⟨w.heap.size, 2, none⟩ = some (.int .i64 i) := fun g => g.cell (Bc.cell 2)
          replace cc3 : ∀ g : Later w3, g.w.cell? ⟨w.heap.size, 3, none⟩ = some (.int .i64 k) := fun g => g.cell (Bc.cell 3)
          replace cc4 : ∀ g : Later w3, g.w.cell? ⟨w.heap.size, 4, none⟩ = some (uv m0) := fun g => g.cell (Bc.cell 4)
          replace cc5 : ∀ g : Later w3, g.w.cell? ⟨w.heap.size, 5, none⟩ = some (uv m1) := fun g => g.cell (Bc.cell 5)
          replace cc6 : ∀ g : Later w3, g.w.cell? ⟨w.heap.size, 6, none⟩ = some (.int .i64 op) := fun g => g.cell (Bc.cell 6)
          replace cc7 : ∀ g : Later w3, g.w.cell? ⟨w.heap.size, 7, none⟩ = some (.bool l) := fun g => g.cell (Bc.cell 7)
          clear ca0 ca1 ca2 ca3 ca4 ca5; obtain ⟨ca0, ca1, ca2, ca3, ca4, ca5⟩ := lcells6 Ba
          clear cb0 cb1 cb2 cb3 cb4 cb5; obtain ⟨cb0, cb1, cb2, cb3, cb4, cb5⟩ := lcells6 Bb
          refine wp_region_mix 26 (fun _ => #[]) (by kernel_rfl) (by kernel_rfl) (no_alloc (by kernel_rfl)) ?_
          simp only [List.take_succ_cons, List.take_zero, List.drop_succ_cons, List.drop_zero]
          repeat ((with_reducible refine wpMix_step (fun K hK => ?_)); go_simp; first | ((with_reducible refine hK _ ?_); clear hK K) | (rw [if_neg (by decide)]; (with_reducible refine hK _ ?_); clear hK K))
          refine wpMix_nil ?_
          intro G w4 hgr hblk hdist
          have hb : Below w3.heap.size w3 w4 := hgr
          replace Bc := Bc.next hb
          replace Bea := Bea.next hb
          replace Beb := Beb.next hb
          replace Ba := Ba.next hb
          replace Bb := Bb.next hb
          clear cc0 cc1 cc2 cc3 cc4 cc5 cc6 cc7 fc lc
          clear  fea lea
          clear  feb leb
          clear ca0 ca1 ca2 ca3 ca4 ca5 fa la
          clear cb0 cb1 cb2 cb3 cb4 cb5 fb lb
          replace hB : Below w.heap.size w w4 := Bl_trans hB hb
          simp only [putAll, isAlloc]
          clear hb hgr hblk hdist
          have cc0 : w4.cell? ⟨w.heap.size, 0, none⟩ = some (CA) := Bc.cell 0
          have cc1 : w4.cell? ⟨w.heap.size, 1, none⟩ = some (CB) := Bc.cell 1
          have cc2 : w4.cell? ⟨w.heap.size, 2, none⟩ = some (.int .i64 i) := Bc.cell 2
          have cc3 : w4.cell? ⟨w.heap.size, 3, none⟩ = some (.int .i64 k) := Bc.cell 3
          have cc4 : w4.cell? ⟨w.heap.size, 4, none⟩ = some (uv m0) := Bc.cell 4
          have cc5 : w4.cell? ⟨w.heap.size, 5, none⟩ = some (uv m1) := Bc.cell 5
          have cc6 : w4.cell? ⟨w.heap.size, 6, none⟩ = some (.int .i64 op) := Bc.cell 6
          have cc7 : w4.cell? ⟨w.heap.size, 7, none⟩ = some (.bool l) := Bc.cell 7
          have fc := Bc.frozen; have lc := Bc.lt
          have fea := Bea.frozen; have lea := Bea.lt
          have feb := Beb.frozen; have leb := Beb.lt
          obtain ⟨ca0, ca1, ca2, ca3, ca4, ca5⟩ := cells6 Ba
          have fa := Ba.frozen; have la := Ba.lt
          obtain ⟨cb0, cb1, cb2, cb3, cb4, cb5⟩ := cells6 Bb
          have fb := Bb.frozen; have lb := Bb.lt
          clear cX cY h_ix h_iy li_ix li_iy
          go_upto_region 8 with fail
          clear cc0 cc1 cc2 cc3 cc4 cc5 cc6 cc7 fc lc
          clear  fea lea
          clear  feb leb
          clear ca0 ca1 ca2 ca3 ca4 ca5 fa la
          clear cb0 cb1 cb2 cb3 cb4 cb5 fb lb
          have Bs := Blk.new w4 3 #[.int .i64 1, .int .i64 2, .int .i64 3, .int .i64 4, .int .i64 5, .int .i64 6, .int .i64 7, .int .i64 10, .int .i64 11, .int .i64 12, .int .i64 13]
          have hgs := hB.size
          have hncs := Nat.ne_of_lt Bc.lt; have hltcs := Bc.lt
          have hneas := Nat.ne_of_lt Bea.lt; have hlteas := Bea.lt
          have hnebs := Nat.ne_of_lt Beb.lt; have hltebs := Beb.lt
          have hnas := Nat.ne_of_lt Ba.lt; have hltas := Ba.lt
          have hnbs := Nat.ne_of_lt Bb.lt; have hltbs := Bb.lt
          replace Bc : Blk (w4.alloc (.cells #[.int .i64 1, .int .i64 2, .int .i64 3, .int .i64 4, .int .i64 5, .int .i64 6, .int .i64 7, .int .i64 10, .int .i64 11, .int .i64 12, .int .i64 13] 3)) (w.heap.size) 85 #[CA, CB, .int .i64 i, .int .i64 k, uv m0, uv m1, .int .i64 op, .bool l] := Bc.alloc _
          replace Bea : Blk (w4.alloc (.cells #[.int .i64 1, .int .i64 2, .int .i64 3, .int .i64 4, .int .i64 5, .int .i64 6, .int .i64 7, .int .i64 10, .int .i64 11, .int .i64 12, .int .i64 13] 3)) (e3) 22 c3 := Bea.alloc _
          replace Beb : Blk (w4.alloc (.cells #[.int .i64 1, .int .i64 2, .int .i64 3, .int .i64 4, .int .i64 5, .int .i64 6, .int .i64 7, .int .i64 10, .int .i64 11, .int .i64 12, .int .i64 13] 3)) (e4) 22 c4 := Beb.alloc _
          replace Ba : Blk (w4.alloc (.cells #[.int .i64 1, .int .i64 2, .int .i64 3, .int .i64 4, .int .i64 5, .int .i64 6, .int .i64 7, .int .i64 10, .int .i64 11, .int .i64 12, .int .i64 13] 3)) (ga) 27 #[uv a.b.v, uv a.b.m, uv a.lo, uv a.hi, sv a.sl, sv a.sh] := Ba.alloc _
          replace Bb : Blk (w4.alloc (.cells #[.int .i64 1, .int .i64 2, .int .i64 3, .int .i64 4, .int .i64 5, .int .i64 6, .int .i64 7, .int .i64 10, .int .i64 11, .int .i64 12, .int .i64 13] 3)) (gb) 27 #[uv b.b.v, uv b.b.m, uv b.lo, uv b.hi, sv b.sl, sv b.sh] := Bb.alloc _
          replace hB : Below w.heap.size w (w4.alloc (.cells #[.int .i64 1, .int .i64 2, .int .i64 3, .int .i64 4, .int .i64 5, .int .i64 6, .int .i64 7, .int .i64 10, .int .i64 11, .int .i64 12, .int .i64 13] 3)) := Bl_alloc hB _
          generalize (w4.alloc (.cells #[.int .i64 1, .int .i64 2, .int .i64 3, .int .i64 4, .int .i64 5, .int .i64 6, .int .i64 7, .int .i64 10, .int .i64 11, .int .i64 12, .int .i64 13] 3)) = w5 at *
          generalize w4.heap.size = gs at *
          have cc0 : w5.cell? ⟨w.heap.size, 0, none⟩ = some (CA) := Bc.cell 0
          have cc1 : w5.cell? ⟨w.heap.size, 1, none⟩ = some (CB) := Bc.cell 1
          have cc2 : w5.cell? ⟨w.heap.size, 2, none⟩ = some (.int .i64 i) := Bc.cell 2
          have cc3 : w5.cell? ⟨w.heap.size, 3, none⟩ = some (.int .i64 k) := Bc.cell 3
          have cc4 : w5.cell? ⟨w.heap.size, 4, none⟩ = some (uv m0) := Bc.cell 4
          have cc5 : w5.cell? ⟨w.heap.size, 5, none⟩ = some (uv m1) := Bc.cell 5
          have cc6 : w5.cell? ⟨w.heap.size, 6, none⟩ = some (.int .i64 op) := Bc.cell 6
          have cc7 : w5.cell? ⟨w.heap.size, 7, none⟩ = some (.bool l) := Bc.cell 7
          have fc := Bc.frozen; have lc := Bc.lt
          have fea := Bea.frozen; have lea := Bea.lt
          have feb := Beb.frozen; have leb := Beb.lt
          obtain ⟨ca0, ca1, ca2, ca3, ca4, ca5⟩ := cells6 Ba
          have fa := Ba.frozen; have la := Ba.lt
          obtain ⟨cb0, cb1, cb2, cb3, cb4, cb5⟩ := cells6 Bb
          have fb := Bb.frozen; have lb := Bb.lt
          have cs0 : w5.cell? ⟨gs, 0, none⟩ = some (.int .i64 1) := Bs.cell 0
          have cs1 : w5.cell? ⟨gs, 1, none⟩ = some (.int .i64 2) := Bs.cell 1
          have cs2 : w5.cell? ⟨gs, 2, none⟩ = some (.int .i64 3) := Bs.cell 2
          have cs3 : w5.cell? ⟨gs, 3, none⟩ = some (.int .i64 4) := Bs.cell 3
          have cs4 : w5.cell? ⟨gs, 4, none⟩ = some (.int .i64 5) := Bs.cell 4
          have cs5 : w5.cell? ⟨gs, 5, none⟩ = some (.int .i64 6) := Bs.cell 5
          have cs6 : w5.cell? ⟨gs, 6, none⟩ = some (.int .i64 7) := Bs.cell 6
          have cs7 : w5.cell? ⟨gs, 7, none⟩ = some (.int .i64 10) := Bs.cell 7
          have cs8 : w5.cell? ⟨gs, 8, none⟩ = some (.int .i64 11) := Bs.cell 8
          have cs9 : w5.cell? ⟨gs, 9, none⟩ = some (.int .i64 12) := Bs.cell 9
          have cs10 : w5.cell? ⟨gs, 10, none⟩ = some (.int .i64 13) := Bs.cell 10
          have fs := Bs.frozen; have ls := Bs.lt
          have cK := (Bs.cell n).trans HK.out
          go_wp2_with fail
          refine (k_H _).mono ?_
          rintro e w6 ⟨rfl, hb⟩
          clear cc0 cc1 cc2 cc3 cc4 cc5 cc6 cc7 fc lc
          clear  fea lea
          clear  feb leb
          clear ca0 ca1 ca2 ca3 ca4 ca5 fa la
          clear cb0 cb1 cb2 cb3 cb4 cb5 fb lb
          clear cs0 cs1 cs2 cs3 cs4 cs5 cs6 cs7 cs8 cs9 cs10 fs ls
          replace Bc := (Bc).next hb
          replace Bea := (Bea).next hb
          replace Beb := (Beb).next hb
          replace Ba := (Ba).next hb
          replace Bb := (Bb).next hb
          replace Bs := (Bs).next hb
          replace hB : Below w.heap.size w w6 := by repeat (first | exact hB | (refine Bl_set ?_ (by first | omega | (simp; omega)) _) | apply Bl_alloc | (refine Bl_trans ?_ hb))
          clear hb
          have cc0 : w6.cell? ⟨w.heap.size, 0, none⟩ = some (CA) := Bc.cell 0
          have cc1 : w6.cell? ⟨w.heap.size, 1, none⟩ = some (CB) := Bc.cell 1
          have cc2 : w6.cell? ⟨w.heap.size, 2, none⟩ = some (.int .i64 i) := Bc.cell 2
          have cc3 : w6.cell? ⟨w.heap.size, 3, none⟩ = some (.int .i64 k) := Bc.cell 3
          have cc4 : w6.cell? ⟨w.heap.size, 4, none⟩ = some (uv m0) := Bc.cell 4
          have cc5 : w6.cell? ⟨w.heap.size, 5, none⟩ = some (uv m1) := Bc.cell 5
          have cc6 : w6.cell? ⟨w.heap.size, 6, none⟩ = some (.int .i64 op) := Bc.cell 6
          have cc7 : w6.cell? ⟨w.heap.size, 7, none⟩ = some (.bool l) := Bc.cell 7
          have fc := Bc.frozen; have lc := Bc.lt
          have fea := Bea.frozen; have lea := Bea.lt
          have feb := Beb.frozen; have leb := Beb.lt
          obtain ⟨ca0, ca1, ca2, ca3, ca4, ca5⟩ := cells6 Ba
          have fa := Ba.frozen; have la := Ba.lt
          obtain ⟨cb0, cb1, cb2, cb3, cb4, cb5⟩ := cells6 Bb
          have fb := Bb.frozen; have lb := Bb.lt
          have cs0 : w6.cell? ⟨gs, 0, none⟩ = some (.int .i64 1) := Bs.cell 0
          have cs1 : w6.cell? ⟨gs, 1, none⟩ = some (.int .i64 2) := Bs.cell 1
          have cs2 : w6.cell? ⟨gs, 2, none⟩ = some (.int .i64 3) := Bs.cell 2
          have cs3 : w6.cell? ⟨gs, 3, none⟩ = some (.int .i64 4) := Bs.cell 3
          have cs4 : w6.cell? ⟨gs, 4, none⟩ = some (.int .i64 5) := Bs.cell 4
          have cs5 : w6.cell? ⟨gs, 5, none⟩ = some (.int .i64 6) := Bs.cell 5
          have cs6 : w6.cell? ⟨gs, 6, none⟩ = some (.int .i64 7) := Bs.cell 6
          have cs7 : w6.cell? ⟨gs, 7, none⟩ = some (.int .i64 10) := Bs.cell 7
          have cs8 : w6.cell? ⟨gs, 8, none⟩ = some (.int .i64 11) := Bs.cell 8
          have cs9 : w6.cell? ⟨gs, 9, none⟩ = some (.int .i64 12) := Bs.cell 9
          have cs10 : w6.cell? ⟨gs, 10, none⟩ = some (.int .i64 13) := Bs.cell 10
          have fs := Bs.frozen; have ls := Bs.lt
          clear cK
          go_wp2_with fail
          refine (k_R1 _).mono ?_
          rintro e w7 ⟨rfl, hb⟩
          clear cc0 cc1 cc2 cc3 cc4 cc5 cc6 cc7 fc lc
          clear  fea lea
          clear  feb leb
          clear ca0 ca1 ca2 ca3 ca4 ca5 fa la
          clear cb0 cb1 cb2 cb3 cb4 cb5 fb lb
          clear cs0 cs1 cs2 cs3 cs4 cs5 cs6 cs7 cs8 cs9 cs10 fs ls
          replace Bc := (Bc).next hb
          replace Bea := (Bea).next hb
          replace Beb := (Beb).next hb
          replace Ba := (Ba).next hb
          replace Bb := (Bb).next hb
          replace Bs := (Bs).next hb
          replace hB : Below w.heap.size w w7 := by repeat (first | exact hB | (refine Bl_set ?_ (by first | omega | (simp; omega)) _) | apply Bl_alloc | (refine Bl_trans ?_ hb))
          clear hb
          have cc0 : w7.cell? ⟨w.heap.size, 0, none⟩ = some (CA) := Bc.cell 0
          have cc1 : w7.cell? ⟨w.heap.size, 1, none⟩ = some (CB) := Bc.cell 1
          have cc2 : w7.cell? ⟨w.heap.size, 2, none⟩ = some (.int .i64 i) := Bc.cell 2
          have cc3 : w7.cell? ⟨w.heap.size, 3, none⟩ = some (.int .i64 k) := Bc.cell 3
          have cc4 : w7.cell? ⟨w.heap.size, 4, none⟩ = some (uv m0) := Bc.cell 4
          have cc5 : w7.cell? ⟨w.heap.size, 5, none⟩ = some (uv m1) := Bc.cell 5
          have cc6 : w7.cell? ⟨w.heap.size, 6, none⟩ = some (.int .i64 op) := Bc.cell 6
          have cc7 : w7.cell? ⟨w.heap.size, 7, none⟩ = some (.bool l) := Bc.cell 7
          have fc := Bc.frozen; have lc := Bc.lt
          have fea := Bea.frozen; have lea := Bea.lt
          have feb := Beb.frozen; have leb := Beb.lt
          obtain ⟨ca0, ca1, ca2, ca3, ca4, ca5⟩ := cells6 Ba
          have fa := Ba.frozen; have la := Ba.lt
          obtain ⟨cb0, cb1, cb2, cb3, cb4, cb5⟩ := cells6 Bb
          have fb := Bb.frozen; have lb := Bb.lt
          have cs0 : w7.cell? ⟨gs, 0, none⟩ = some (.int .i64 1) := Bs.cell 0
          have cs1 : w7.cell? ⟨gs, 1, none⟩ = some (.int .i64 2) := Bs.cell 1
          have cs2 : w7.cell? ⟨gs, 2, none⟩ = some (.int .i64 3) := Bs.cell 2
          have cs3 : w7.cell? ⟨gs, 3, none⟩ = some (.int .i64 4) := Bs.cell 3
          have cs4 : w7.cell? ⟨gs, 4, none⟩ = some (.int .i64 5) := Bs.cell 4
          have cs5 : w7.cell? ⟨gs, 5, none⟩ = some (.int .i64 6) := Bs.cell 5
          have cs6 : w7.cell? ⟨gs, 6, none⟩ = some (.int .i64 7) := Bs.cell 6
          have cs7 : w7.cell? ⟨gs, 7, none⟩ = some (.int .i64 10) := Bs.cell 7
          have cs8 : w7.cell? ⟨gs, 8, none⟩ = some (.int .i64 11) := Bs.cell 8
          have cs9 : w7.cell? ⟨gs, 9, none⟩ = some (.int .i64 12) := Bs.cell 9
          have cs10 : w7.cell? ⟨gs, 10, none⟩ = some (.int .i64 13) := Bs.cell 10
          have fs := Bs.frozen; have ls := Bs.lt
          go_upto_region 11 with fail
          clear cc0 cc1 cc2 cc3 cc4 cc5 cc6 cc7 fc lc
          clear  fea lea
          clear  feb leb
          clear ca0 ca1 ca2 ca3 ca4 ca5 fa la
          clear cb0 cb1 cb2 cb3 cb4 cb5 fb lb
          clear cs0 cs1 cs2 cs3 cs4 cs5 cs6 cs7 cs8 cs9 cs10 fs ls
          have hncp := Nat.ne_of_lt Bc.lt
          have hncq : w.heap.size ≠ w7.heap.size + 1 := by have := Bc.lt; omega
          have hneap := Nat.ne_of_lt Bea.lt
          have hneaq : e3 ≠ w7.heap.size + 1 := by have := Bea.lt; omega
          have hnebp := Nat.ne_of_lt Beb.lt
          have hnebq : e4 ≠ w7.heap.size + 1 := by have := Beb.lt; omega
          have hnap := Nat.ne_of_lt Ba.lt
          have hnaq : ga ≠ w7.heap.size + 1 := by have := Ba.lt; omega
          have hnbp := Nat.ne_of_lt Bb.lt
          have hnbq : gb ≠ w7.heap.size + 1 := by have := Bb.lt; omega
          have hnsp := Nat.ne_of_lt Bs.lt
          have hnsq : gs ≠ w7.heap.size + 1 := by have := Bs.lt; omega
          have hdpq : w7.heap.size ≠ w7.heap.size + 1 := by omega
          have hgp := hB.size
          have hgq : w.heap.size ≤ w7.heap.size + 1 := by omega
          replace Bc : Blk ((w7.alloc (.cells #[uv p1.b.v, uv p1.b.m, uv p1.lo, uv p1.hi, sv p1.sl, sv p1.sh] 27)).alloc (.cells #[uv q1.b.v, uv q1.b.m, uv q1.lo, uv q1.hi, sv q1.sl, sv q1.sh] 27)) (w.heap.size) 85 #[CA, CB, .int .i64 i, .int .i64 k, uv m0, uv m1, .int .i64 op, .bool l] := (Bc.alloc _).alloc _
          replace Bea : Blk ((w7.alloc (.cells #[uv p1.b.v, uv p1.b.m, uv p1.lo, uv p1.hi, sv p1.sl, sv p1.sh] 27)).alloc (.cells #[uv q1.b.v, uv q1.b.m, uv q1.lo, uv q1.hi, sv q1.sl, sv q1.sh] 27)) (e3) 22 c3 := (Bea.alloc _).alloc _
          replace Beb : Blk ((w7.alloc (.cells #[uv p1.b.v, uv p1.b.m, uv p1.lo, uv p1.hi, sv p1.sl, sv p1.sh] 27)).alloc (.cells #[uv q1.b.v, uv q1.b.m, uv q1.lo, uv q1.hi, sv q1.sl, sv q1.sh] 27)) (e4) 22 c4 := (Beb.alloc _).alloc _
          replace Ba : Blk ((w7.alloc (.cells #[uv p1.b.v, uv p1.b.m, uv p1.lo, uv p1.hi, sv p1.sl, sv p1.sh] 27)).alloc (.cells #[uv q1.b.v, uv q1.b.m, uv q1.lo, uv q1.hi, sv q1.sl, sv q1.sh] 27)) (ga) 27 #[uv a.b.v, uv a.b.m, uv a.lo, uv a.hi, sv a.sl, sv a.sh] := (Ba.alloc _).alloc _
          replace Bb : Blk ((w7.alloc (.cells #[uv p1.b.v, uv p1.b.m, uv p1.lo, uv p1.hi, sv p1.sl, sv p1.sh] 27)).alloc (.cells #[uv q1.b.v, uv q1.b.m, uv q1.lo, uv q1.hi, sv q1.sl, sv q1.sh] 27)) (gb) 27 #[uv b.b.v, uv b.b.m, uv b.lo, uv b.hi, sv b.sl, sv b.sh] := (Bb.alloc _).alloc _
          replace Bs : Blk ((w7.alloc (.cells #[uv p1.b.v, uv p1.b.m, uv p1.lo, uv p1.hi, sv p1.sl, sv p1.sh] 27)).alloc (.cells #[uv q1.b.v, uv q1.b.m, uv q1.lo, uv q1.hi, sv q1.sl, sv q1.sh] 27)) (gs) 3 #[.int .i64 1, .int .i64 2, .int .i64 3, .int .i64 4, .int .i64 5, .int .i64 6, .int .i64 7, .int .i64 10, .int .i64 11, .int .i64 12, .int .i64 13] := (Bs.alloc _).alloc _
          have Bp : Blk ((w7.alloc (.cells #[uv p1.b.v, uv p1.b.m, uv p1.lo, uv p1.hi, sv p1.sl, sv p1.sh] 27)).alloc (.cells #[uv q1.b.v, uv q1.b.m, uv q1.lo, uv q1.hi, sv q1.sl, sv q1.sh] 27)) (w7.heap.size) 27 #[uv p1.b.v, uv p1.b.m, uv p1.lo, uv p1.hi, sv p1.sl, sv p1.sh] := (Blk.new w7 _ _).alloc _
          have Bq : Blk ((w7.alloc (.cells #[uv p1.b.v, uv p1.b.m, uv p1.lo, uv p1.hi, sv p1.sl, sv p1.sh] 27)).alloc (.cells #[uv q1.b.v, uv q1.b.m, uv q1.lo, uv q1.hi, sv q1.sl, sv q1.sh] 27)) (w7.heap.size + 1) 27 #[uv q1.b.v, uv q1.b.m, uv q1.lo, uv q1.hi, sv q1.sl, sv q1.sh] := by simpa using Blk.new (w7.alloc (.cells #[uv p1.b.v, uv p1.b.m, uv p1.lo, uv p1.hi, sv p1.sl, sv p1.sh] 27)) 27 #[uv q1.b.v, uv q1.b.m, uv q1.lo, uv q1.hi, sv q1.sl, sv q1.sh]
          replace hB : Below w.heap.size w ((w7.alloc (.cells #[uv p1.b.v, uv p1.b.m, uv p1.lo, uv p1.hi, sv p1.sl, sv p1.sh] 27)).alloc (.cells #[uv q1.b.v, uv q1.b.m, uv q1.lo, uv q1.hi, sv q1.sl, sv q1.sh] 27)) := Bl_alloc (Bl_alloc hB _) _
          generalize ((w7.alloc (.cells #[uv p1.b.v, uv p1.b.m, uv p1.lo, uv p1.hi, sv p1.sl, sv p1.sh] 27)).alloc (.cells #[uv q1.b.v, uv q1.b.m, uv q1.lo, uv q1.hi, sv q1.sl, sv q1.sh] 27)) = w8 at *
          generalize w7.heap.size + 1 = gq at *
          generalize w7.heap.size = gp at *
          have cc0 : w8.cell? ⟨w.heap.size, 0, none⟩ = some (CA) := Bc.cell 0
          have cc1 : w8.cell? ⟨w.heap.size, 1, none⟩ = some (CB) := Bc.cell 1
          have cc2 : w8.cell? ⟨w.heap.size, 2, none⟩ = some (.int .i64 i) := Bc.cell 2
          have cc3 : w8.cell? ⟨w.heap.size, 3, none⟩ = some (.int .i64 k) := Bc.cell 3
          have cc4 : w8.cell? ⟨w.heap.size, 4, none⟩ = some (uv m0) := Bc.cell 4
          have cc5 : w8.cell? ⟨w.heap.size, 5, none⟩ = some (uv m1) := Bc.cell 5
          have cc6 : w8.cell? ⟨w.heap.size, 6, none⟩ = some (.int .i64 op) := Bc.cell 6
          have cc7 : w8.cell? ⟨w.heap.size, 7, none⟩ = some (.bool l) := Bc.cell 7
          have fc := Bc.frozen; have lc := Bc.lt
          have fea := Bea.frozen; have lea := Bea.lt
          have feb := Beb.frozen; have leb := Beb.lt
          obtain ⟨ca0, ca1, ca2, ca3, ca4, ca5⟩ := cells6 Ba
          have fa := Ba.frozen; have la := Ba.lt
          obtain ⟨cb0, cb1, cb2, cb3, cb4, cb5⟩ := cells6 Bb
          have fb := Bb.frozen; have lb := Bb.lt
          have cs0 : w8.cell? ⟨gs, 0, none⟩ = some (.int .i64 1) := Bs.cell 0
          have cs1 : w8.cell? ⟨gs, 1, none⟩ = some (.int .i64 2) := Bs.cell 1
          have cs2 : w8.cell? ⟨gs, 2, none⟩ = some (.int .i64 3) := Bs.cell 2
          have cs3 : w8.cell? ⟨gs, 3, none⟩ = some (.int .i64 4) := Bs.cell 3
          have cs4 : w8.cell? ⟨gs, 4, none⟩ = some (.int .i64 5) := Bs.cell 4
          have cs5 : w8.cell? ⟨gs, 5, none⟩ = some (.int .i64 6) := Bs.cell 5
          have cs6 : w8.cell? ⟨gs, 6, none⟩ = some (.int .i64 7) := Bs.cell 6
          have cs7 : w8.cell? ⟨gs, 7, none⟩ = some (.int .i64 10) := Bs.cell 7
          have cs8 : w8.cell? ⟨gs, 8, none⟩ = some (.int .i64 11) := Bs.cell 8
          have cs9 : w8.cell? ⟨gs, 9, none⟩ = some (.int .i64 12) := Bs.cell 9
          have cs10 : w8.cell? ⟨gs, 10, none⟩ = some (.int .i64 13) := Bs.cell 10
          have fs := Bs.frozen; have ls := Bs.lt
          obtain ⟨cp0, cp1, cp2, cp3, cp4, cp5⟩ := cells6 Bp
          have fp := Bp.frozen; have lp := Bp.lt
          obtain ⟨cq0, cq1, cq2, cq3, cq4, cq5⟩ := cells6 Bq
          have fq := Bq.frozen; have lq := Bq.lt
          go_wp2_with fail
          refine (k_R2 _).mono ?_
          rintro e w9 ⟨rfl, hb⟩
          clear cc0 cc1 cc2 cc3 cc4 cc5 cc6 cc7 fc lc
          clear  fea lea
          clear  feb leb
          clear ca0 ca1 ca2 ca3 ca4 ca5 fa la
          clear cb0 cb1 cb2 cb3 cb4 cb5 fb lb
          clear cs0 cs1 cs2 cs3 cs4 cs5 cs6 cs7 cs8 cs9 cs10 fs ls
          clear cp0 cp1 cp2 cp3 cp4 cp5 fp lp
          clear cq0 cq1 cq2 cq3 cq4 cq5 fq lq
          replace Bc := (Bc).next hb
          replace Bea := (Bea).next hb
          replace Beb := (Beb).next hb
          replace Ba := (Ba).next hb
          replace Bb := (Bb).next hb
          replace Bs := (Bs).next hb
          replace Bp := (Bp).next hb
          replace Bq := (Bq).next hb
          replace hB : Below w.heap.size w w9 := by repeat (first | exact hB | (refine Bl_set ?_ (by first | omega | (simp; omega)) _) | apply Bl_alloc | (refine Bl_trans ?_ hb))
          clear hb
          have cc0 : w9.cell? ⟨w.heap.size, 0, none⟩ = some (CA) := Bc.cell 0
          have cc1 : w9.cell? ⟨w.heap.size, 1, none⟩ = some (CB) := Bc.cell 1
          have cc2 : w9.cell? ⟨w.heap.size, 2, none⟩ = some (.int .i64 i) := Bc.cell 2
          have cc3 : w9.cell? ⟨w.heap.size, 3, none⟩ = some (.int .i64 k) := Bc.cell 3
          have cc4 : w9.cell? ⟨w.heap.size, 4, none⟩ = some (uv m0) := Bc.cell 4
          have cc5 : w9.cell? ⟨w.heap.size, 5, none⟩ = some (uv m1) := Bc.cell 5
          have cc6 : w9.cell? ⟨w.heap.size, 6, none⟩ = some (.int .i64 op) := Bc.cell 6
          have cc7 : w9.cell? ⟨w.heap.size, 7, none⟩ = some (.bool l) := Bc.cell 7
          have fc := Bc.frozen; have lc := Bc.lt
          have fea := Bea.frozen; have lea := Bea.lt
          have feb := Beb.frozen; have leb := Beb.lt
          obtain ⟨ca0, ca1, ca2, ca3, ca4, ca5⟩ := cells6 Ba
          have fa := Ba.frozen; have la := Ba.lt
          obtain ⟨cb0, cb1, cb2, cb3, cb4, cb5⟩ := cells6 Bb
          have fb := Bb.frozen; have lb := Bb.lt
          have cs0 : w9.cell? ⟨gs, 0, none⟩ = some (.int .i64 1) := Bs.cell 0
          have cs1 : w9.cell? ⟨gs, 1, none⟩ = some (.int .i64 2) := Bs.cell 1
          have cs2 : w9.cell? ⟨gs, 2, none⟩ = some (.int .i64 3) := Bs.cell 2
          have cs3 : w9.cell? ⟨gs, 3, none⟩ = some (.int .i64 4) := Bs.cell 3
          have cs4 : w9.cell? ⟨gs, 4, none⟩ = some (.int .i64 5) := Bs.cell 4
          have cs5 : w9.cell? ⟨gs, 5, none⟩ = some (.int .i64 6) := Bs.cell 5
          have cs6 : w9.cell? ⟨gs, 6, none⟩ = some (.int .i64 7) := Bs.cell 6
          have cs7 : w9.cell? ⟨gs, 7, none⟩ = some (.int .i64 10) := Bs.cell 7
          have cs8 : w9.cell? ⟨gs, 8, none⟩ = some (.int .i64 11) := Bs.cell 8
          have cs9 : w9.cell? ⟨gs, 9, none⟩ = some (.int .i64 12) := Bs.cell 9
          have cs10 : w9.cell? ⟨gs, 10, none⟩ = some (.int .i64 13) := Bs.cell 10
          have fs := Bs.frozen; have ls := Bs.lt
          obtain ⟨cp0, cp1, cp2, cp3, cp4, cp5⟩ := cells6 Bp
          have fp := Bp.frozen; have lp := Bp.lt
          obtain ⟨cq0, cq1, cq2, cq3, cq4, cq5⟩ := cells6 Bq
          have fq := Bq.frozen; have lq := Bq.lt
          go_upto_region 12 with fail
          clear cc0 cc1 cc2 cc3 cc4 cc5 cc6 cc7 fc lc
          clear  fea lea
          clear  feb leb
          clear ca0 ca1 ca2 ca3 ca4 ca5 fa la
          clear cb0 cb1 cb2 cb3 cb4 cb5 fb lb
          clear cs0 cs1 cs2 cs3 cs4 cs5 cs6 cs7 cs8 cs9 cs10 fs ls
          clear cp0 cp1 cp2 cp3 cp4 cp5 fp lp
          clear cq0 cq1 cq2 cq3 cq4 cq5 fq lq
          have hnct := Nat.ne_of_lt Bc.lt
          have hncz : w.heap.size ≠ w9.heap.size + 1 := by have := Bc.lt; omega
          have hneat := Nat.ne_of_lt Bea.lt
          have hneaz : e3 ≠ w9.heap.size + 1 := by have := Bea.lt; omega
          have hnebt := Nat.ne_of_lt Beb.lt
          have hnebz : e4 ≠ w9.heap.size + 1 := by have := Beb.lt; omega
          have hnat := Nat.ne_of_lt Ba.lt
          have hnaz : ga ≠ w9.heap.size + 1 := by have := Ba.lt; omega
          have hnbt := Nat.ne_of_lt Bb.lt
          have hnbz : gb ≠ w9.heap.size + 1 := by have := Bb.lt; omega
          have hnst := Nat.ne_of_lt Bs.lt
          have hnsz : gs ≠ w9.heap.size + 1 := by have := Bs.lt; omega
          have hnpt := Nat.ne_of_lt Bp.lt
          have hnpz : gp ≠ w9.heap.size + 1 := by have := Bp.lt; omega
          have hnqt := Nat.ne_of_lt Bq.lt
          have hnqz : gq ≠ w9.heap.size + 1 := by have := Bq.lt; omega
          have hdtz : w9.heap.size ≠ w9.heap.size + 1 := by omega
          have hgt := hB.size
          have hgz : w.heap.size ≤ w9.heap.size + 1 := by omega
          replace Bc : Blk ((w9.alloc (.cells #[uv p2.b.v, uv p2.b.m, uv p2.lo, uv p2.hi, sv p2.sl, sv p2.sh] 27)).alloc (.cells #[uv q2.b.v, uv q2.b.m, uv q2.lo, uv q2.hi, sv q2.sl, sv q2.sh] 27)) (w.heap.size) 85 #[CA, CB, .int .i64 i, .int .i64 k, uv m0, uv m1, .int .i64 op, .bool l] := (Bc.alloc _).alloc _
          replace Bea : Blk ((w9.alloc (.cells #[uv p2.b.v, uv p2.b.m, uv p2.lo, uv p2.hi, sv p2.sl, sv p2.sh] 27)).alloc (.cells #[uv q2.b.v, uv q2.b.m, uv q2.lo, uv q2.hi, sv q2.sl, sv q2.sh] 27)) (e3) 22 c3 := (Bea.alloc _).alloc _
          replace Beb : Blk ((w9.alloc (.cells #[uv p2.b.v, uv p2.b.m, uv p2.lo, uv p2.hi, sv p2.sl, sv p2.sh] 27)).alloc (.cells #[uv q2.b.v, uv q2.b.m, uv q2.lo, uv q2.hi, sv q2.sl, sv q2.sh] 27)) (e4) 22 c4 := (Beb.alloc _).alloc _
          replace Ba : Blk ((w9.alloc (.cells #[uv p2.b.v, uv p2.b.m, uv p2.lo, uv p2.hi, sv p2.sl, sv p2.sh] 27)).alloc (.cells #[uv q2.b.v, uv q2.b.m, uv q2.lo, uv q2.hi, sv q2.sl, sv q2.sh] 27)) (ga) 27 #[uv a.b.v, uv a.b.m, uv a.lo, uv a.hi, sv a.sl, sv a.sh] := (Ba.alloc _).alloc _
          replace Bb : Blk ((w9.alloc (.cells #[uv p2.b.v, uv p2.b.m, uv p2.lo, uv p2.hi, sv p2.sl, sv p2.sh] 27)).alloc (.cells #[uv q2.b.v, uv q2.b.m, uv q2.lo, uv q2.hi, sv q2.sl, sv q2.sh] 27)) (gb) 27 #[uv b.b.v, uv b.b.m, uv b.lo, uv b.hi, sv b.sl, sv b.sh] := (Bb.alloc _).alloc _
          replace Bs : Blk ((w9.alloc (.cells #[uv p2.b.v, uv p2.b.m, uv p2.lo, uv p2.hi, sv p2.sl, sv p2.sh] 27)).alloc (.cells #[uv q2.b.v, uv q2.b.m, uv q2.lo, uv q2.hi, sv q2.sl, sv q2.sh] 27)) (gs) 3 #[.int .i64 1, .int .i64 2, .int .i64 3, .int .i64 4, .int .i64 5, .int .i64 6, .int .i64 7, .int .i64 10, .int .i64 11, .int .i64 12, .int .i64 13] := (Bs.alloc _).alloc _
          replace Bp : Blk ((w9.alloc (.cells #[uv p2.b.v, uv p2.b.m, uv p2.lo, uv p2.hi, sv p2.sl, sv p2.sh] 27)).alloc (.cells #[uv q2.b.v, uv q2.b.m, uv q2.lo, uv q2.hi, sv q2.sl, sv q2.sh] 27)) (gp) 27 #[uv p1.b.v, uv p1.b.m, uv p1.lo, uv p1.hi, sv p1.sl, sv p1.sh] := (Bp.alloc _).alloc _
          replace Bq : Blk ((w9.alloc (.cells #[uv p2.b.v, uv p2.b.m, uv p2.lo, uv p2.hi, sv p2.sl, sv p2.sh] 27)).alloc (.cells #[uv q2.b.v, uv q2.b.m, uv q2.lo, uv q2.hi, sv q2.sl, sv q2.sh] 27)) (gq) 27 #[uv q1.b.v, uv q1.b.m, uv q1.lo, uv q1.hi, sv q1.sl, sv q1.sh] := (Bq.alloc _).alloc _
          have Bt : Blk ((w9.alloc (.cells #[uv p2.b.v, uv p2.b.m, uv p2.lo, uv p2.hi, sv p2.sl, sv p2.sh] 27)).alloc (.cells #[uv q2.b.v, uv q2.b.m, uv q2.lo, uv q2.hi, sv q2.sl, sv q2.sh] 27)) (w9.heap.size) 27 #[uv p2.b.v, uv p2.b.m, uv p2.lo, uv p2.hi, sv p2.sl, sv p2.sh] := (Blk.new w9 _ _).alloc _
          have Bz : Blk ((w9.alloc (.cells #[uv p2.b.v, uv p2.b.m, uv p2.lo, uv p2.hi, sv p2.sl, sv p2.sh] 27)).alloc (.cells #[uv q2.b.v, uv q2.b.m, uv q2.lo, uv q2.hi, sv q2.sl, sv q2.sh] 27)) (w9.heap.size + 1) 27 #[uv q2.b.v, uv q2.b.m, uv q2.lo, uv q2.hi, sv q2.sl, sv q2.sh] := by simpa using Blk.new (w9.alloc (.cells #[uv p2.b.v, uv p2.b.m, uv p2.lo, uv p2.hi, sv p2.sl, sv p2.sh] 27)) 27 #[uv q2.b.v, uv q2.b.m, uv q2.lo, uv q2.hi, sv q2.sl, sv q2.sh]
          replace hB : Below w.heap.size w ((w9.alloc (.cells #[uv p2.b.v, uv p2.b.m, uv p2.lo, uv p2.hi, sv p2.sl, sv p2.sh] 27)).alloc (.cells #[uv q2.b.v, uv q2.b.m, uv q2.lo, uv q2.hi, sv q2.sl, sv q2.sh] 27)) := Bl_alloc (Bl_alloc hB _) _
          generalize ((w9.alloc (.cells #[uv p2.b.v, uv p2.b.m, uv p2.lo, uv p2.hi, sv p2.sl, sv p2.sh] 27)).alloc (.cells #[uv q2.b.v, uv q2.b.m, uv q2.lo, uv q2.hi, sv q2.sl, sv q2.sh] 27)) = w10 at *
          generalize w9.heap.size + 1 = gz at *
          generalize w9.heap.size = gt at *
          have cc0 : w10.cell? ⟨w.heap.size, 0, none⟩ = some (CA) := Bc.cell 0
          have cc1 : w10.cell? ⟨w.heap.size, 1, none⟩ = some (CB) := Bc.cell 1
          have cc2 : w10.cell? ⟨w.heap.size, 2, none⟩ = some (.int .i64 i) := Bc.cell 2
          have cc3 : w10.cell? ⟨w.heap.size, 3, none⟩ = some (.int .i64 k) := Bc.cell 3
          have cc4 : w10.cell? ⟨w.heap.size, 4, none⟩ = some (uv m0) := Bc.cell 4
          have cc5 : w10.cell? ⟨w.heap.size, 5, none⟩ = some (uv m1) := Bc.cell 5
          have cc6 : w10.cell? ⟨w.heap.size, 6, none⟩ = some (.int .i64 op) := Bc.cell 6
          have cc7 : w10.cell? ⟨w.heap.size, 7, none⟩ = some (.bool l) := Bc.cell 7
          have fc := Bc.frozen; have lc := Bc.lt
          have fea := Bea.frozen; have lea := Bea.lt
          have feb := Beb.frozen; have leb := Beb.lt
          obtain ⟨ca0, ca1, ca2, ca3, ca4, ca5⟩ := cells6 Ba
          have fa := Ba.frozen; have la := Ba.lt
          obtain ⟨cb0, cb1, cb2, cb3, cb4, cb5⟩ := cells6 Bb
          have fb := Bb.frozen; have lb := Bb.lt
          have cs0 : w10.cell? ⟨gs, 0, none⟩ = some (.int .i64 1) := Bs.cell 0
          have cs1 : w10.cell? ⟨gs, 1, none⟩ = some (.int .i64 2) := Bs.cell 1
          have cs2 : w10.cell? ⟨gs, 2, none⟩ = some (.int .i64 3) := Bs.cell 2
          have cs3 : w10.cell? ⟨gs, 3, none⟩ = some (.int .i64 4) := Bs.cell 3
          have cs4 : w10.cell? ⟨gs, 4, none⟩ = some (.int .i64 5) := Bs.cell 4
          have cs5 : w10.cell? ⟨gs, 5, none⟩ = some (.int .i64 6) := Bs.cell 5
          have cs6 : w10.cell? ⟨gs, 6, none⟩ = some (.int .i64 7) := Bs.cell 6
          have cs7 : w10.cell? ⟨gs, 7, none⟩ = some (.int .i64 10) := Bs.cell 7
          have cs8 : w10.cell? ⟨gs, 8, none⟩ = some (.int .i64 11) := Bs.cell 8
          have cs9 : w10.cell? ⟨gs, 9, none⟩ = some (.int .i64 12) := Bs.cell 9
          have cs10 : w10.cell? ⟨gs, 10, none⟩ = some (.int .i64 13) := Bs.cell 10
          have fs := Bs.frozen; have ls := Bs.lt
          obtain ⟨cp0, cp1, cp2, cp3, cp4, cp5⟩ := cells6 Bp
          have fp := Bp.frozen; have lp := Bp.lt
          obtain ⟨cq0, cq1, cq2, cq3, cq4, cq5⟩ := cells6 Bq
          have fq := Bq.frozen; have lq := Bq.lt
          obtain ⟨ct0, ct1, ct2, ct3, ct4, ct5⟩ := cells6 Bt
          have ft := Bt.frozen; have lt := Bt.lt
          obtain ⟨cz0, cz1, cz2, cz3, cz4, cz5⟩ := cells6 Bz
          have fz := Bz.frozen; have lz := Bz.lt
          go_wp2_with fail
          refine (tells_c _).mono ?_
          rintro e w11 ⟨rfl, hb⟩
          clear cc0 cc1 cc2 cc3 cc4 cc5 cc6 cc7 fc lc
          clear  fea lea
          clear  feb leb
          clear ca0 ca1 ca2 ca3 ca4 ca5 fa la
          clear cb0 cb1 cb2 cb3 cb4 cb5 fb lb
          clear cs0 cs1 cs2 cs3 cs4 cs5 cs6 cs7 cs8 cs9 cs10 fs ls
          clear cp0 cp1 cp2 cp3 cp4 cp5 fp lp
          clear cq0 cq1 cq2 cq3 cq4 cq5 fq lq
          clear ct0 ct1 ct2 ct3 ct4 ct5 ft lt
          clear cz0 cz1 cz2 cz3 cz4 cz5 fz lz
          replace Bc := (Bc).next hb
          replace Bea := (Bea).next hb
          replace Beb := (Beb).next hb
          replace Ba := (Ba).next hb
          replace Bb := (Bb).next hb
          replace Bs := (Bs).next hb
          replace Bp := (Bp).next hb
          replace Bq := (Bq).next hb
          replace Bt := (Bt).next hb
          replace Bz := (Bz).next hb
          replace hB : Below w.heap.size w w11 := by repeat (first | exact hB | (refine Bl_set ?_ (by first | omega | (simp; omega)) _) | apply Bl_alloc | (refine Bl_trans ?_ hb))
          clear hb
          have cc0 : w11.cell? ⟨w.heap.size, 0, none⟩ = some (CA) := Bc.cell 0
          have cc1 : w11.cell? ⟨w.heap.size, 1, none⟩ = some (CB) := Bc.cell 1
          have cc2 : w11.cell? ⟨w.heap.size, 2, none⟩ = some (.int .i64 i) := Bc.cell 2
          have cc3 : w11.cell? ⟨w.heap.size, 3, none⟩ = some (.int .i64 k) := Bc.cell 3
          have cc4 : w11.cell? ⟨w.heap.size, 4, none⟩ = some (uv m0) := Bc.cell 4
          have cc5 : w11.cell? ⟨w.heap.size, 5, none⟩ = some (uv m1) := Bc.cell 5
          have cc6 : w11.cell? ⟨w.heap.size, 6, none⟩ = some (.int .i64 op) := Bc.cell 6
          have cc7 : w11.cell? ⟨w.heap.size, 7, none⟩ = some (.bool l) := Bc.cell 7
          have fc := Bc.frozen; have lc := Bc.lt
          have fea := Bea.frozen; have lea := Bea.lt
          have feb := Beb.frozen; have leb := Beb.lt
          obtain ⟨ca0, ca1, ca2, ca3, ca4, ca5⟩ := cells6 Ba
          have fa := Ba.frozen; have la := Ba.lt
          obtain ⟨cb0, cb1, cb2, cb3, cb4, cb5⟩ := cells6 Bb
          have fb := Bb.frozen; have lb := Bb.lt
          have cs0 : w11.cell? ⟨gs, 0, none⟩ = some (.int .i64 1) := Bs.cell 0
          have cs1 : w11.cell? ⟨gs, 1, none⟩ = some (.int .i64 2) := Bs.cell 1
          have cs2 : w11.cell? ⟨gs, 2, none⟩ = some (.int .i64 3) := Bs.cell 2
          have cs3 : w11.cell? ⟨gs, 3, none⟩ = some (.int .i64 4) := Bs.cell 3
          have cs4 : w11.cell? ⟨gs, 4, none⟩ = some (.int .i64 5) := Bs.cell 4
          have cs5 : w11.cell? ⟨gs, 5, none⟩ = some (.int .i64 6) := Bs.cell 5
          have cs6 : w11.cell? ⟨gs, 6, none⟩ = some (.int .i64 7) := Bs.cell 6
          have cs7 : w11.cell? ⟨gs, 7, none⟩ = some (.int .i64 10) := Bs.cell 7
          have cs8 : w11.cell? ⟨gs, 8, none⟩ = some (.int .i64 11) := Bs.cell 8
          have cs9 : w11.cell? ⟨gs, 9, none⟩ = some (.int .i64 12) := Bs.cell 9
          have cs10 : w11.cell? ⟨gs, 10, none⟩ = some (.int .i64 13) := Bs.cell 10
          have fs := Bs.frozen; have ls := Bs.lt
          obtain ⟨cp0, cp1, cp2, cp3, cp4, cp5⟩ := cells6 Bp
          have fp := Bp.frozen; have lp := Bp.lt
          obtain ⟨cq0, cq1, cq2, cq3, cq4, cq5⟩ := cells6 Bq
          have fq := Bq.frozen; have lq := Bq.lt
          obtain ⟨ct0, ct1, ct2, ct3, ct4, ct5⟩ := cells6 Bt
          have ft := Bt.frozen; have lt := Bt.lt
          obtain ⟨cz0, cz1, cz2, cz3, cz4, cz5⟩ := cells6 Bz
          have fz := Bz.frozen; have lz := Bz.lt
          go_wp2_with fail
          refine (k_p _).mono ?_
          rintro e w12 ⟨rfl, hb⟩
          clear cc0 cc1 cc2 cc3 cc4 cc5 cc6 cc7 fc lc
          clear  fea lea
          clear  feb leb
          clear ca0 ca1 ca2 ca3 ca4 ca5 fa la
          clear cb0 cb1 cb2 cb3 cb4 cb5 fb lb
          clear cs0 cs1 cs2 cs3 cs4 cs5 cs6 cs7 cs8 cs9 cs10 fs ls
          clear cp0 cp1 cp2 cp3 cp4 cp5 fp lp
          clear cq0 cq1 cq2 cq3 cq4 cq5 fq lq
          clear ct0 ct1 ct2 ct3 ct4 ct5 ft lt
          clear cz0 cz1 cz2 cz3 cz4 cz5 fz lz
          replace Bc := (Bc).next hb
          replace Bea := (Bea).next hb
          replace Beb := (Beb).next hb
          replace Ba := (Ba).next hb
          replace Bb := (Bb).next hb
          replace Bs := (Bs).next hb
          replace Bp := (Bp).next hb
          replace Bq := (Bq).next hb
          replace Bt := (Bt).next hb
          replace Bz := (Bz).next hb
          replace hB : Below w.heap.size w w12 := by repeat (first | exact hB | (refine Bl_set ?_ (by first | omega | (simp; omega)) _) | apply Bl_alloc | (refine Bl_trans ?_ hb))
          clear hb
          have cc0 : w12.cell? ⟨w.heap.size, 0, none⟩ = some (CA) := Bc.cell 0
          have cc1 : w12.cell? ⟨w.heap.size, 1, none⟩ = some (CB) := Bc.cell 1
          have cc2 : w12.cell? ⟨w.heap.size, 2, none⟩ = some (.int .i64 i) := Bc.cell 2
          have cc3 : w12.cell? ⟨w.heap.size, 3, none⟩ = some (.int .i64 k) := Bc.cell 3
          have cc4 : w12.cell? ⟨w.heap.size, 4, none⟩ = some (uv m0) := Bc.cell 4
          have cc5 : w12.cell? ⟨w.heap.size, 5, none⟩ = some (uv m1) := Bc.cell 5
          have cc6 : w12.cell? ⟨w.heap.size, 6, none⟩ = some (.int .i64 op) := Bc.cell 6
          have cc7 : w12.cell? ⟨w.heap.size, 7, none⟩ = some (.bool l) := Bc.cell 7
          have fc := Bc.frozen; have lc := Bc.lt
          have fea := Bea.frozen; have lea := Bea.lt
          have feb := Beb.frozen; have leb := Beb.lt
          obtain ⟨ca0, ca1, ca2, ca3, ca4, ca5⟩ := cells6 Ba
          have fa := Ba.frozen; have la := Ba.lt
          obtain ⟨cb0, cb1, cb2, cb3, cb4, cb5⟩ := cells6 Bb
          have fb := Bb.frozen; have lb := Bb.lt
          have cs0 : w12.cell? ⟨gs, 0, none⟩ = some (.int .i64 1) := Bs.cell 0
          have cs1 : w12.cell? ⟨gs, 1, none⟩ = some (.int .i64 2) := Bs.cell 1
          have cs2 : w12.cell? ⟨gs, 2, none⟩ = some (.int .i64 3) := Bs.cell 2
          have cs3 : w12.cell? ⟨gs, 3, none⟩ = some (.int .i64 4) := Bs.cell 3
          have cs4 : w12.cell? ⟨gs, 4, none⟩ = some (.int .i64 5) := Bs.cell 4
          have cs5 : w12.cell? ⟨gs, 5, none⟩ = some (.int .i64 6) := Bs.cell 5
          have cs6 : w12.cell? ⟨gs, 6, none⟩ = some (.int .i64 7) := Bs.cell 6
          have cs7 : w12.cell? ⟨gs, 7, none⟩ = some (.int .i64 10) := Bs.cell 7
          have cs8 : w12.cell? ⟨gs, 8, none⟩ = some (.int .i64 11) := Bs.cell 8
          have cs9 : w12.cell? ⟨gs, 9, none⟩ = some (.int .i64 12) := Bs.cell 9
          have cs10 : w12.cell? ⟨gs, 10, none⟩ = some (.int .i64 13) := Bs.cell 10
          have fs := Bs.frozen; have ls := Bs.lt
          obtain ⟨cp0, cp1, cp2, cp3, cp4, cp5⟩ := cells6 Bp
          have fp := Bp.frozen; have lp := Bp.lt
          obtain ⟨cq0, cq1, cq2, cq3, cq4, cq5⟩ := cells6 Bq
          have fq := Bq.frozen; have lq := Bq.lt
          obtain ⟨ct0, ct1, ct2, ct3, ct4, ct5⟩ := cells6 Bt
          have ft := Bt.frozen; have lt := Bt.lt
          obtain ⟨cz0, cz1, cz2, cz3, cz4, cz5⟩ := cells6 Bz
          have fz := Bz.frozen; have lz := Bz.lt
          go_wp2_with fail
          refine (k_q _).mono ?_
          rintro e w13 ⟨rfl, hb⟩
          clear cc0 cc1 cc2 cc3 cc4 cc5 cc6 cc7 fc lc
          clear  fea lea
          clear  feb leb
          clear ca0 ca1 ca2 ca3 ca4 ca5 fa la
          clear cb0 cb1 cb2 cb3 cb4 cb5 fb lb
          clear cs0 cs1 cs2 cs3 cs4 cs5 cs6 cs7 cs8 cs9 cs10 fs ls
          clear cp0 cp1 cp2 cp3 cp4 cp5 fp lp
          clear cq0 cq1 cq2 cq3 cq4 cq5 fq lq
          clear ct0 ct1 ct2 ct3 ct4 ct5 ft lt
          clear cz0 cz1 cz2 cz3 cz4 cz5 fz lz
          replace Bc := (Bc).next hb
          replace Bea := (Bea).next hb
          replace Beb := (Beb).next hb
          replace Ba := (Ba).next hb
          replace Bb := (Bb).next hb
          replace Bs := (Bs).next hb
          replace Bp := (Bp).next hb
          replace Bq := (Bq).next hb
          replace Bt := (Bt).next hb
          replace Bz := (Bz).next hb
          replace hB : Below w.heap.size w w13 := by repeat (first | exact hB | (refine Bl_set ?_ (by first | omega | (simp; omega)) _) | apply Bl_alloc | (refine Bl_trans ?_ hb))
          clear hb
          have cc0 : w13.cell? ⟨w.heap.size, 0, none⟩ = some (CA) := Bc.cell 0
          have cc1 : w13.cell? ⟨w.heap.size, 1, none⟩ = some (CB) := Bc.cell 1
          have cc2 : w13.cell? ⟨w.heap.size, 2, none⟩ = some (.int .i64 i) := Bc.cell 2
          have cc3 : w13.cell? ⟨w.heap.size, 3, none⟩ = some (.int .i64 k) := Bc.cell 3
          have cc4 : w13.cell? ⟨w.heap.size, 4, none⟩ = some (uv m0) := Bc.cell 4
          have cc5 : w13.cell? ⟨w.heap.size, 5, none⟩ = some (uv m1) := Bc.cell 5
          have cc6 : w13.cell? ⟨w.heap.size, 6, none⟩ = some (.int .i64 op) := Bc.cell 6
          have cc7 : w13.cell? ⟨w.heap.size, 7, none⟩ = some (.bool l) := Bc.cell 7
          have fc := Bc.frozen; have lc := Bc.lt
          have fea := Bea.frozen; have lea := Bea.lt
          have feb := Beb.frozen; have leb := Beb.lt
          obtain ⟨ca0, ca1, ca2, ca3, ca4, ca5⟩ := cells6 Ba
          have fa := Ba.frozen; have la := Ba.lt
          obtain ⟨cb0, cb1, cb2, cb3, cb4, cb5⟩ := cells6 Bb
          have fb := Bb.frozen; have lb := Bb.lt
          have cs0 : w13.cell? ⟨gs, 0, none⟩ = some (.int .i64 1) := Bs.cell 0
          have cs1 : w13.cell? ⟨gs, 1, none⟩ = some (.int .i64 2) := Bs.cell 1
          have cs2 : w13.cell? ⟨gs, 2, none⟩ = some (.int .i64 3) := Bs.cell 2
          have cs3 : w13.cell? ⟨gs, 3, none⟩ = some (.int .i64 4) := Bs.cell 3
          have cs4 : w13.cell? ⟨gs, 4, none⟩ = some (.int .i64 5) := Bs.cell 4
          have cs5 : w13.cell? ⟨gs, 5, none⟩ = some (.int .i64 6) := Bs.cell 5
          have cs6 : w13.cell? ⟨gs, 6, none⟩ = some (.int .i64 7) := Bs.cell 6
          have cs7 : w13.cell? ⟨gs, 7, none⟩ = some (.int .i64 10) := Bs.cell 7
          have cs8 : w13.cell? ⟨gs, 8, none⟩ = some (.int .i64 11) := Bs.cell 8
          have cs9 : w13.cell? ⟨gs, 9, none⟩ = some (.int .i64 12) := Bs.cell 9
          have cs10 : w13.cell? ⟨gs, 10, none⟩ = some (.int .i64 13) := Bs.cell 10
          have fs := Bs.frozen; have ls := Bs.lt
          obtain ⟨cp0, cp1, cp2, cp3, cp4, cp5⟩ := cells6 Bp
          have fp := Bp.frozen; have lp := Bp.lt
          obtain ⟨cq0, cq1, cq2, cq3, cq4, cq5⟩ := cells6 Bq
          have fq := Bq.frozen; have lq := Bq.lt
          obtain ⟨ct0, ct1, ct2, ct3, ct4, ct5⟩ := cells6 Bt
          have ft := Bt.frozen; have lt := Bt.lt
          obtain ⟨cz0, cz1, cz2, cz3, cz4, cz5⟩ := cells6 Bz
          have fz := Bz.frozen; have lz := Bz.lt
          go_wp2_with fail
          refine (k_wp _).mono ?_
          rintro e w14 ⟨rfl, hb⟩
          clear cc0 cc1 cc2 cc3 cc4 cc5 cc6 cc7 fc lc
          clear  fea lea
          clear  feb leb
          clear ca0 ca1 ca2 ca3 ca4 ca5 fa la
          clear cb0 cb1 cb2 cb3 cb4 cb5 fb lb
          clear cs0 cs1 cs2 cs3 cs4 cs5 cs6 cs7 cs8 cs9 cs10 fs ls
          clear cp0 cp1 cp2 cp3 cp4 cp5 fp lp
          clear cq0 cq1 cq2 cq3 cq4 cq5 fq lq
          clear ct0 ct1 ct2 ct3 ct4 ct5 ft lt
          clear cz0 cz1 cz2 cz3 cz4 cz5 fz lz
          replace Bc := (Bc).next hb
          replace Bea := (Bea).next hb
          replace Beb := (Beb).next hb
          replace Ba := (Ba).next hb
          replace Bb := (Bb).next hb
          replace Bs := (Bs).next hb
          replace Bp := (Bp).next hb
          replace Bq := (Bq).next hb
          replace Bt := (Bt).next hb
          replace Bz := (Bz).next hb
          replace hB : Below w.heap.size w w14 := by repeat (first | exact hB | (refine Bl_set ?_ (by first | omega | (simp; omega)) _) | apply Bl_alloc | (refine Bl_trans ?_ hb))
          clear hb
          have cc0 : w14.cell? ⟨w.heap.size, 0, none⟩ = some (CA) := Bc.cell 0
          have cc1 : w14.cell? ⟨w.heap.size, 1, none⟩ = some (CB) := Bc.cell 1
          have cc2 : w14.cell? ⟨w.heap.size, 2, none⟩ = some (.int .i64 i) := Bc.cell 2
          have cc3 : w14.cell? ⟨w.heap.size, 3, none⟩ = some (.int .i64 k) := Bc.cell 3
          have cc4 : w14.cell? ⟨w.heap.size, 4, none⟩ = some (uv m0) := Bc.cell 4
          have cc5 : w14.cell? ⟨w.heap.size, 5, none⟩ = some (uv m1) := Bc.cell 5
          have cc6 : w14.cell? ⟨w.heap.size, 6, none⟩ = some (.int .i64 op) := Bc.cell 6
          have cc7 : w14.cell? ⟨w.heap.size, 7, none⟩ = some (.bool l) := Bc.cell 7
          have fc := Bc.frozen; have lc := Bc.lt
          have fea := Bea.frozen; have lea := Bea.lt
          have feb := Beb.frozen; have leb := Beb.lt
          obtain ⟨ca0, ca1, ca2, ca3, ca4, ca5⟩ := cells6 Ba
          have fa := Ba.frozen; have la := Ba.lt
          obtain ⟨cb0, cb1, cb2, cb3, cb4, cb5⟩ := cells6 Bb
          have fb := Bb.frozen; have lb := Bb.lt
          have cs0 : w14.cell? ⟨gs, 0, none⟩ = some (.int .i64 1) := Bs.cell 0
          have cs1 : w14.cell? ⟨gs, 1, none⟩ = some (.int .i64 2) := Bs.cell 1
          have cs2 : w14.cell? ⟨gs, 2, none⟩ = some (.int .i64 3) := Bs.cell 2
          have cs3 : w14.cell? ⟨gs, 3, none⟩ = some (.int .i64 4) := Bs.cell 3
          have cs4 : w14.cell? ⟨gs, 4, none⟩ = some (.int .i64 5) := Bs.cell 4
          have cs5 : w14.cell? ⟨gs, 5, none⟩ = some (.int .i64 6) := Bs.cell 5
          have cs6 : w14.cell? ⟨gs, 6, none⟩ = some (.int .i64 7) := Bs.cell 6
          have cs7 : w14.cell? ⟨gs, 7, none⟩ = some (.int .i64 10) := Bs.cell 7
          have cs8 : w14.cell? ⟨gs, 8, none⟩ = some (.int .i64 11) := Bs.cell 8
          have cs9 : w14.cell? ⟨gs, 9, none⟩ = some (.int .i64 12) := Bs.cell 9
          have cs10 : w14.cell? ⟨gs, 10, none⟩ = some (.int .i64 13) := Bs.cell 10
          have fs := Bs.frozen; have ls := Bs.lt
          obtain ⟨cp0, cp1, cp2, cp3, cp4, cp5⟩ := cells6 Bp
          have fp := Bp.frozen; have lp := Bp.lt
          obtain ⟨cq0, cq1, cq2, cq3, cq4, cq5⟩ := cells6 Bq
          have fq := Bq.frozen; have lq := Bq.lt
          obtain ⟨ct0, ct1, ct2, ct3, ct4, ct5⟩ := cells6 Bt
          have ft := Bt.frozen; have lt := Bt.lt
          obtain ⟨cz0, cz1, cz2, cz3, cz4, cz5⟩ := cells6 Bz
          have fz := Bz.frozen; have lz := Bz.lt
          go_wp2_with fail
          refine (k_wq _).mono ?_
          rintro e w15 ⟨rfl, hb⟩
          clear cc0 cc1 cc2 cc3 cc4 cc5 cc6 cc7 fc lc
          clear  fea lea
          clear  feb leb
          clear ca0 ca1 ca2 ca3 ca4 ca5 fa la
          clear cb0 cb1 cb2 cb3 cb4 cb5 fb lb
          clear cs0 cs1 cs2 cs3 cs4 cs5 cs6 cs7 cs8 cs9 cs10 fs ls
          clear cp0 cp1 cp2 cp3 cp4 cp5 fp lp
          clear cq0 cq1 cq2 cq3 cq4 cq5 fq lq
          clear ct0 ct1 ct2 ct3 ct4 ct5 ft lt
          clear cz0 cz1 cz2 cz3 cz4 cz5 fz lz
          replace Bc := (Bc).next hb
          replace Bea := (Bea).next hb
          replace Beb := (Beb).next hb
          replace Ba := (Ba).next hb
          replace Bb := (Bb).next hb
          replace Bs := (Bs).next hb
          replace Bp := (Bp).next hb
          replace Bq := (Bq).next hb
          replace Bt := (Bt).next hb
          replace Bz := (Bz).next hb
          replace hB : Below w.heap.size w w15 := by repeat (first | exact hB | (refine Bl_set ?_ (by first | omega | (simp; omega)) _) | apply Bl_alloc | (refine Bl_trans ?_ hb))
          clear hb
          have cc0 : w15.cell? ⟨w.heap.size, 0, none⟩ = some (CA) := Bc.cell 0
          have cc1 : w15.cell? ⟨w.heap.size, 1, none⟩ = some (CB) := Bc.cell 1
          have cc2 : w15.cell? ⟨w.heap.size, 2, none⟩ = some (.int .i64 i) := Bc.cell 2
          have cc3 : w15.cell? ⟨w.heap.size, 3, none⟩ = some (.int .i64 k) := Bc.cell 3
          have cc4 : w15.cell? ⟨w.heap.size, 4, none⟩ = some (uv m0) := Bc.cell 4
          have cc5 : w15.cell? ⟨w.heap.size, 5, none⟩ = some (uv m1) := Bc.cell 5
          have cc6 : w15.cell? ⟨w.heap.size, 6, none⟩ = some (.int .i64 op) := Bc.cell 6
          have cc7 : w15.cell? ⟨w.heap.size, 7, none⟩ = some (.bool l) := Bc.cell 7
          have fc := Bc.frozen; have lc := Bc.lt
          have fea := Bea.frozen; have lea := Bea.lt
          have feb := Beb.frozen; have leb := Beb.lt
          obtain ⟨ca0, ca1, ca2, ca3, ca4, ca5⟩ := cells6 Ba
          have fa := Ba.frozen; have la := Ba.lt
          obtain ⟨cb0, cb1, cb2, cb3, cb4, cb5⟩ := cells6 Bb
          have fb := Bb.frozen; have lb := Bb.lt
          have cs0 : w15.cell? ⟨gs, 0, none⟩ = some (.int .i64 1) := Bs.cell 0
          have cs1 : w15.cell? ⟨gs, 1, none⟩ = some (.int .i64 2) := Bs.cell 1
          have cs2 : w15.cell? ⟨gs, 2, none⟩ = some (.int .i64 3) := Bs.cell 2
          have cs3 : w15.cell? ⟨gs, 3, none⟩ = some (.int .i64 4) := Bs.cell 3
          have cs4 : w15.cell? ⟨gs, 4, none⟩ = some (.int .i64 5) := Bs.cell 4
          have cs5 : w15.cell? ⟨gs, 5, none⟩ = some (.int .i64 6) := Bs.cell 5
          have cs6 : w15.cell? ⟨gs, 6, none⟩ = some (.int .i64 7) := Bs.cell 6
          have cs7 : w15.cell? ⟨gs, 7, none⟩ = some (.int .i64 10) := Bs.cell 7
          have cs8 : w15.cell? ⟨gs, 8, none⟩ = some (.int .i64 11) := Bs.cell 8
          have cs9 : w15.cell? ⟨gs, 9, none⟩ = some (.int .i64 12) := Bs.cell 9
          have cs10 : w15.cell? ⟨gs, 10, none⟩ = some (.int .i64 13) := Bs.cell 10
          have fs := Bs.frozen; have ls := Bs.lt
          obtain ⟨cp0, cp1, cp2, cp3, cp4, cp5⟩ := cells6 Bp
          have fp := Bp.frozen; have lp := Bp.lt
          obtain ⟨cq0, cq1, cq2, cq3, cq4, cq5⟩ := cells6 Bq
          have fq := Bq.frozen; have lq := Bq.lt
          obtain ⟨ct0, ct1, ct2, ct3, ct4, ct5⟩ := cells6 Bt
          have ft := Bt.frozen; have lt := Bt.lt
          obtain ⟨cz0, cz1, cz2, cz3, cz4, cz5⟩ := cells6 Bz
          have fz := Bz.frozen; have lz := Bz.lt
          cases ok2
          · have e2 := Hn2.out rfl; obtain ⟨rfl, rfl⟩ := Prod.mk.inj e2; clear e2
            have z0 : T PlainScalar.none_.b.v = 0 := by decide
            have z1 : T PlainScalar.none_.b.m = 0 := by decide
            have z2 : T PlainScalar.none_.lo = 0 := by decide
            have z3 : T PlainScalar.none_.hi = 0 := by decide
            have z4 : S PlainScalar.none_.sl = 0 := by decide
            have z5 : S PlainScalar.none_.sh = 0 := by decide
            go_wp2
            go_ret
            exact ⟨rfl, by repeat (first | exact hB | (refine Bl_set ?_ (by first | omega | (simp; omega)) _) | apply Bl_alloc)⟩
          · obtain ⟨wa, wb⟩ := Hi2.out rfl
            go_wp2_with fail
            refine (within_t p2 a wa _).mono ?_
            rintro e w16 ⟨rfl, hb⟩
            clear cc0 cc1 cc2 cc3 cc4 cc5 cc6 cc7 fc lc
            clear  fea lea
            clear  feb leb
            clear ca0 ca1 ca2 ca3 ca4 ca5 fa la
            clear cb0 cb1 cb2 cb3 cb4 cb5 fb lb
            clear cs0 cs1 cs2 cs3 cs4 cs5 cs6 cs7 cs8 cs9 cs10 fs ls
            clear cp0 cp1 cp2 cp3 cp4 cp5 fp lp
            clear cq0 cq1 cq2 cq3 cq4 cq5 fq lq
            clear ct0 ct1 ct2 ct3 ct4 ct5 ft lt
            clear cz0 cz1 cz2 cz3 cz4 cz5 fz lz
            replace Bc := (Bc).next hb
            replace Bea := (Bea).next hb
            replace Beb := (Beb).next hb
            replace Ba := (Ba).next hb
            replace Bb := (Bb).next hb
            replace Bs := (Bs).next hb
            replace Bp := (Bp).next hb
            replace Bq := (Bq).next hb
            replace Bt := (Bt).next hb
            replace Bz := (Bz).next hb
            replace hB : Below w.heap.size w w16 := by repeat (first | exact hB | (refine Bl_set ?_ (by first | omega | (simp; omega)) _) | apply Bl_alloc | (refine Bl_trans ?_ hb))
            clear hb
            have cc0 : w16.cell? ⟨w.heap.size, 0, none⟩ = some (CA) := Bc.cell 0
            have cc1 : w16.cell? ⟨w.heap.size, 1, none⟩ = some (CB) := Bc.cell 1
            have cc2 : w16.cell? ⟨w.heap.size, 2, none⟩ = some (.int .i64 i) := Bc.cell 2
            have cc3 : w16.cell? ⟨w.heap.size, 3, none⟩ = some (.int .i64 k) := Bc.cell 3
            have cc4 : w16.cell? ⟨w.heap.size, 4, none⟩ = some (uv m0) := Bc.cell 4
            have cc5 : w16.cell? ⟨w.heap.size, 5, none⟩ = some (uv m1) := Bc.cell 5
            have cc6 : w16.cell? ⟨w.heap.size, 6, none⟩ = some (.int .i64 op) := Bc.cell 6
            have cc7 : w16.cell? ⟨w.heap.size, 7, none⟩ = some (.bool l) := Bc.cell 7
            have fc := Bc.frozen; have lc := Bc.lt
            have fea := Bea.frozen; have lea := Bea.lt
            have feb := Beb.frozen; have leb := Beb.lt
            obtain ⟨ca0, ca1, ca2, ca3, ca4, ca5⟩ := cells6 Ba
            have fa := Ba.frozen; have la := Ba.lt
            obtain ⟨cb0, cb1, cb2, cb3, cb4, cb5⟩ := cells6 Bb
            have fb := Bb.frozen; have lb := Bb.lt
            have cs0 : w16.cell? ⟨gs, 0, none⟩ = some (.int .i64 1) := Bs.cell 0
            have cs1 : w16.cell? ⟨gs, 1, none⟩ = some (.int .i64 2) := Bs.cell 1
            have cs2 : w16.cell? ⟨gs, 2, none⟩ = some (.int .i64 3) := Bs.cell 2
            have cs3 : w16.cell? ⟨gs, 3, none⟩ = some (.int .i64 4) := Bs.cell 3
            have cs4 : w16.cell? ⟨gs, 4, none⟩ = some (.int .i64 5) := Bs.cell 4
            have cs5 : w16.cell? ⟨gs, 5, none⟩ = some (.int .i64 6) := Bs.cell 5
            have cs6 : w16.cell? ⟨gs, 6, none⟩ = some (.int .i64 7) := Bs.cell 6
            have cs7 : w16.cell? ⟨gs, 7, none⟩ = some (.int .i64 10) := Bs.cell 7
            have cs8 : w16.cell? ⟨gs, 8, none⟩ = some (.int .i64 11) := Bs.cell 8
            have cs9 : w16.cell? ⟨gs, 9, none⟩ = some (.int .i64 12) := Bs.cell 9
            have cs10 : w16.cell? ⟨gs, 10, none⟩ = some (.int .i64 13) := Bs.cell 10
            have fs := Bs.frozen; have ls := Bs.lt
            obtain ⟨cp0, cp1, cp2, cp3, cp4, cp5⟩ := cells6 Bp
            have fp := Bp.frozen; have lp := Bp.lt
            obtain ⟨cq0, cq1, cq2, cq3, cq4, cq5⟩ := cells6 Bq
            have fq := Bq.frozen; have lq := Bq.lt
            obtain ⟨ct0, ct1, ct2, ct3, ct4, ct5⟩ := cells6 Bt
            have ft := Bt.frozen; have lt := Bt.lt
            obtain ⟨cz0, cz1, cz2, cz3, cz4, cz5⟩ := cells6 Bz
            have fz := Bz.frozen; have lz := Bz.lt
            go_wp2_with fail
            refine (within_t q2 b wb _).mono ?_
            rintro e w17 ⟨rfl, hb⟩
            clear cc0 cc1 cc2 cc3 cc4 cc5 cc6 cc7 fc lc
            clear  fea lea
            clear  feb leb
            clear ca0 ca1 ca2 ca3 ca4 ca5 fa la
            clear cb0 cb1 cb2 cb3 cb4 cb5 fb lb
            clear cs0 cs1 cs2 cs3 cs4 cs5 cs6 cs7 cs8 cs9 cs10 fs ls
            clear cp0 cp1 cp2 cp3 cp4 cp5 fp lp
            clear cq0 cq1 cq2 cq3 cq4 cq5 fq lq
            clear ct0 ct1 ct2 ct3 ct4 ct5 ft lt
            clear cz0 cz1 cz2 cz3 cz4 cz5 fz lz
            replace Bc := (Bc).next hb
            replace Bea := (Bea).next hb
            replace Beb := (Beb).next hb
            replace Ba := (Ba).next hb
            replace Bb := (Bb).next hb
            replace Bs := (Bs).next hb
            replace Bp := (Bp).next hb
            replace Bq := (Bq).next hb
            replace Bt := (Bt).next hb
            replace Bz := (Bz).next hb
            replace hB : Below w.heap.size w w17 := by repeat (first | exact hB | (refine Bl_set ?_ (by first | omega | (simp; omega)) _) | apply Bl_alloc | (refine Bl_trans ?_ hb))
            clear hb
            have cc0 : w17.cell? ⟨w.heap.size, 0, none⟩ = some (CA) := Bc.cell 0
            have cc1 : w17.cell? ⟨w.heap.size, 1, none⟩ = some (CB) := Bc.cell 1
            have cc2 : w17.cell? ⟨w.heap.size, 2, none⟩ = some (.int .i64 i) := Bc.cell 2
            have cc3 : w17.cell? ⟨w.heap.size, 3, none⟩ = some (.int .i64 k) := Bc.cell 3
            have cc4 : w17.cell? ⟨w.heap.size, 4, none⟩ = some (uv m0) := Bc.cell 4
            have cc5 : w17.cell? ⟨w.heap.size, 5, none⟩ = some (uv m1) := Bc.cell 5
            have cc6 : w17.cell? ⟨w.heap.size, 6, none⟩ = some (.int .i64 op) := Bc.cell 6
            have cc7 : w17.cell? ⟨w.heap.size, 7, none⟩ = some (.bool l) := Bc.cell 7
            have fc := Bc.frozen; have lc := Bc.lt
            have fea := Bea.frozen; have lea := Bea.lt
            have feb := Beb.frozen; have leb := Beb.lt
            obtain ⟨ca0, ca1, ca2, ca3, ca4, ca5⟩ := cells6 Ba
            have fa := Ba.frozen; have la := Ba.lt
            obtain ⟨cb0, cb1, cb2, cb3, cb4, cb5⟩ := cells6 Bb
            have fb := Bb.frozen; have lb := Bb.lt
            have cs0 : w17.cell? ⟨gs, 0, none⟩ = some (.int .i64 1) := Bs.cell 0
            have cs1 : w17.cell? ⟨gs, 1, none⟩ = some (.int .i64 2) := Bs.cell 1
            have cs2 : w17.cell? ⟨gs, 2, none⟩ = some (.int .i64 3) := Bs.cell 2
            have cs3 : w17.cell? ⟨gs, 3, none⟩ = some (.int .i64 4) := Bs.cell 3
            have cs4 : w17.cell? ⟨gs, 4, none⟩ = some (.int .i64 5) := Bs.cell 4
            have cs5 : w17.cell? ⟨gs, 5, none⟩ = some (.int .i64 6) := Bs.cell 5
            have cs6 : w17.cell? ⟨gs, 6, none⟩ = some (.int .i64 7) := Bs.cell 6
            have cs7 : w17.cell? ⟨gs, 7, none⟩ = some (.int .i64 10) := Bs.cell 7
            have cs8 : w17.cell? ⟨gs, 8, none⟩ = some (.int .i64 11) := Bs.cell 8
            have cs9 : w17.cell? ⟨gs, 9, none⟩ = some (.int .i64 12) := Bs.cell 9
            have cs10 : w17.cell? ⟨gs, 10, none⟩ = some (.int .i64 13) := Bs.cell 10
            have fs := Bs.frozen; have ls := Bs.lt
            obtain ⟨cp0, cp1, cp2, cp3, cp4, cp5⟩ := cells6 Bp
            have fp := Bp.frozen; have lp := Bp.lt
            obtain ⟨cq0, cq1, cq2, cq3, cq4, cq5⟩ := cells6 Bq
            have fq := Bq.frozen; have lq := Bq.lt
            obtain ⟨ct0, ct1, ct2, ct3, ct4, ct5⟩ := cells6 Bt
            have ft := Bt.frozen; have lt := Bt.lt
            obtain ⟨cz0, cz1, cz2, cz3, cz4, cz5⟩ := cells6 Bz
            have fz := Bz.frozen; have lz := Bz.lt
            go_wp2
            go_ret
            exact ⟨rfl, by repeat (first | exact hB | (refine Bl_set ?_ (by first | omega | (simp; omega)) _) | apply Bl_alloc)⟩
theorem walkN_BranchRefines (CA CB : Value) (LA LB : List W) (i k : Int) (m0 m1 : W) (op : Int) (l : Bool) (w : World) (hA : Raw w CA LA) (hB : Raw w CB LB) : Calls Try.prog 12 #[.agg #[CA, CB, .int .i64 i, .int .i64 k, .int .u64 (T m0), .int .u64 (T m1), .int .i64 op, .bool l]] w fun e w' => e = .returned (.bool true) ∧ Below w.heap.size w w' := by
  by_cases h : ∃ ao cap, CB = .slice ao 1 cap
  · obtain ⟨ao, cap, e⟩ := h
    exact walk_BranchRefines CA CB LA LB _ _ LB rfl rfl i k m0 m1 op l w hA hB true (.inl ⟨rfl, fun ao' n cap' e' => by rw [e] at e'; injection e' with _ h2 _; exact h2.symm, rfl⟩)
  · exact walk_BranchRefines CA CB LA LB _ _ _ rfl rfl i k m0 m1 op l w hA hB false (.inr ⟨rfl, fun ao n cap e hn => h ⟨ao, cap, by rw [e, hn]⟩, rfl⟩)
namespace branchRefines
set_option maxRecDepth 100000 in
theorem lifted (os : Os) (started : os.Started) (H : Type) (enc : TypeId × Value → H) :
    ReturnsInHanded {} Try.checked os 12 .any (Rows.branchRefinesSpec.pre6 enc Try.prog Try.f12 Rows.branchRefinesRow.domain false) (Rows.branchRefinesSpec.post enc Try.prog Try.f12 false true false false) := by
  refine returnsInHanded_of_change (C := Try.checked) own started (by kernel_rfl) Try.func12
    (ChangeSpec.witness6 (enc := enc) (C := Try.checked) false ⟨#[], #[.agg #[.slice none 0 0, .slice none 0 0, .int .i64 0, .int .i64 0, .int .u64 0, .int .u64 0, .int .i64 0, .bool false]], []⟩ 8 (by kernel_rfl) (by kernel_rfl) (by kernel_rfl) (by kernel_rfl)) ?_
  intro W base args ds gs before hval0 hW hcnd _
  have hval : ∀ (j : Nat) t v, Try.f12.params[j]? = some t → args[j]? = some v → Value.okWide Try.prog W .any base t v := hval0
  have hW' := hW
  obtain ⟨p, q, hA0, hV, rfl, hfz, hnd⟩ := hW
  have hA : DataW.TrodAll enc Try.prog W 0 (fun _ => true) true Try.f12.params.toList args.toList ds p := hA0
  rw [Try.params12] at hA hval
  obtain ⟨v0, vs0, d0, ds0, p0, q0, hargs, rfl, rfl, h0, r0⟩ := trodAll_cons hA
  obtain ⟨rfl, rfl, rfl⟩ := trodAll_nil r0
  obtain rfl : args = #[v0] := by cases args; simp_all
  obtain ⟨rfl, rfl⟩ := trodVars_none hV
  have lt0 : ∀ x ∈ p0, x.block < W.heap.size := by obtain ⟨m, hm⟩ := h0; exact DataW.trod_lt m _ _ _ hm
  obtain ⟨A0, B0, L0, M0, i0, k0, m0, n0, rest, hv0, hl0, hRA0, hRB0, hre0⟩ := open_case (ts := [3, 4]) Try.underlying85 rfl rfl rfl rfl rfl rfl (by kernel_rfl) Try.underlying46 Try.underlying22 Try.underlying3 (by kernel_rfl) (by kernel_rfl) (by kernel_rfl) (hval 0 85 v0 rfl rfl) h0
  obtain ⟨r0, r1, rfl⟩ : ∃ r0 r1, rest = [r0, r1] := by match rest, hl0 with | [a, b], _ => exact ⟨a, b, rfl⟩
  obtain ⟨op0, rfl, lo0, hi0⟩ := cell_int Try.underlying3 (hre0 0 _ _ rfl rfl)
  obtain ⟨bo0, rfl⟩ := cell_bool Try.underlying4 (hre0 1 _ _ rfl rfl)
  obtain rfl : v0 = .agg #[A0, B0, .int .i64 i0, .int .i64 k0, .int .u64 (T m0), .int .u64 (T n0), .int .i64 op0, .bool bo0] := by rw [hv0]; rfl
  refine (walkN_BranchRefines A0 B0 L0 M0 i0 k0 m0 n0 op0 bo0 W hRA0 hRB0).mono fun e W' ⟨he, bel⟩ => ?_
  subst he
  exact ⟨_, rfl, _, _, _, [], _, [], hW', trodAll_mk1 (shut_bool Try.underlying4 _), (trodAll_cons_mk (Below.trod laidOut (by kernel_rfl) (of_decide_eq_true (by kernel_rfl)) h0 bel lt0) trodAll_mk0), rfl, bel.frame _, fun h => by cases h⟩
theorem over : Rows.branchRefinesRow.holds Try.pinned (OpenSpec.ofChange Rows.branchRefinesSpec) :=
  OpenClaim.holds_of_wide 12 Try.f12 rfl rfl rfl rfl rfl rfl rfl ⟨rfl, rfl, rfl, rfl, rfl⟩ rfl rfl rfl rfl rfl (by kernel_rfl) Try.func12 (by kernel_rfl)
    (of_decide_eq_true (by kernel_rfl)) (by unfold Func.isWrapper; first | (rw [if_pos (by decide +kernel)]; kernel_rfl) | (rw [if_neg (by decide +kernel)]; exact ⟨rfl, rfl⟩))
    (fun os started H enc _ => lifted os started H enc)
/-- The given statement. -/
theorem proved : Rows.BranchRefinesSaid := over
#print axioms proved
end branchRefines
end Go.Proofs.Ytmghpoagpiljhab
