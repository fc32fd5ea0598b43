/- ScalarKnown: for all bytes and every shift the law returns true, and its arguments read as before. No condition. -/
import Derived.Test.YtmghpoagpiljhacOpen
import Derived.Test.YtmghpoagpiljhacLaw14
import Derived.Test.YtmghpoagpiljhacSc11
set_option linter.unusedSimpArgs false
namespace Go.Proofs.Ytmghpoagpiljhac
open Go.ChangeShapes Go.WideShapes Go.ChangeAt Go.RowKit
open PlainTnum (N)
open PlainScalar (Rng)
set_option linter.unusedVariables false
theorem and7N : ∀ n : Nat, n < 256 → bits .and .u8 (n : Int) 7 = ((n &&& 7 : Nat) : Int) := by decide +kernel
theorem and7 (x : W) (hx : x.toNat < 256) : bits .and .u8 (T x) 7 = T (x &&& 7#64) := by
  have := and7N x.toNat hx
  unfold T; rw [BitVec.toNat_and]; exact this
set_option maxRecDepth 100000 in
set_option maxHeartbeats 3200000 in
theorem walk_ScalarKnown (x y : W) (hx : x.toNat < 256) (hy : y.toNat < 256) (k : Int) (w : World) : Calls Try.prog 5 #[.int .u8 (T x), .int .u8 (T y), .int .i64 k] w fun e w' => e = .returned (.bool true) ∧ Below w.heap.size w w' := by
  obtain ⟨n, hn, hby⟩ := rem_is 8 (by decide) (by decide) k
  have hy0 : True := trivial
  obtain ⟨K, eK⟩ : ∃ K : W, K = BitVec.ofNat 64 n := ⟨_, rfl⟩
  have hK : K.toNat = n := by rw [eK, BitVec.toNat_ofNat]; omega
  have hnK : (n : Int) = T K := by unfold T; rw [hK]
  rw [hnK] at hby
  replace hby : wrap64 ((IntKind.u64.wrap k).tmod 8) = T K := hby
  have hK8 : K.toNat < 8 := by omega
  clear hnK eK hK hn n
  have hKn : (T K).toNat = K.toNat := by unfold T; omega
  have hK0 : ¬ (T K < 0) := by have := T_lo K; omega
  have hm10 : (T x).tmod 10 = T (x % 10#64) := by rw [Int.tmod_eq_emod_of_nonneg (T_lo x)]; unfold T; rw [BitVec.toNat_umod]; rfl
  have ha7 : bits .and .u8 (T x) 7 = T (x &&& 7#64) := and7 x hx
  obtain ⟨vA, e_vA⟩ : ∃ z, z = PlainScalar.low PlainScalar.any 1 := ⟨_, rfl⟩
  have k_vA : ∀ w : World, Calls Try.prog 14 #[rv PlainScalar.any, .int .i64 1] w fun e w' => e = .returned (rv vA) ∧ Below w.heap.size w w' := fun w => by rw [e_vA]; exact slow_c PlainScalar.any 1 w
  have HA : PlainScalar.Has vA x := by rw [e_vA]; have h := PlainScalar.low_has (PlainScalar.any_has x) 1; rwa [PlainScalar.lowW_small (.inl rfl) (by show x.toNat ≤ 255; omega)] at h
  have HY : y.toNat < 256 → PlainScalar.Has vA y := fun hy => by rw [e_vA]; have h := PlainScalar.low_has (PlainScalar.any_has y) 1; rwa [PlainScalar.lowW_small (.inl rfl) (by show y.toNat ≤ 255; omega)] at h
  obtain ⟨v7, e_v7⟩ : ∃ z, z = PlainScalar.const 7#64 := ⟨_, rfl⟩
  have k_v7 : ∀ w : World, Calls Try.prog 13 #[.int .u64 7] w fun e w' => e = .returned (rv v7) ∧ Below w.heap.size w w' := fun w => by rw [e_v7]; exact sconst_c 7#64 w
  obtain ⟨vK, e_vK⟩ : ∃ z, z = PlainScalar.const K := ⟨_, rfl⟩
  have k_vK : ∀ w : World, Calls Try.prog 13 #[.int .u64 (T K)] w fun e w' => e = .returned (rv vK) ∧ Below w.heap.size w w' := fun w => by rw [e_vK]; exact sconst_c K w
  obtain ⟨v10, e_v10⟩ : ∃ z, z = PlainScalar.const 10#64 := ⟨_, rfl⟩
  have k_v10 : ∀ w : World, Calls Try.prog 13 #[.int .u64 10] w fun e w' => e = .returned (rv v10) ∧ Below w.heap.size w w' := fun w => by rw [e_v10]; exact sconst_c 10#64 w
  obtain ⟨vS, e_vS⟩ : ∃ z, z = PlainScalar.doF 0 true vA vA := ⟨_, rfl⟩
  have k_vS : ∀ w : World, Calls Try.prog 11 #[.int .i64 0, .bool true, rv vA, rv vA] w fun e w' => e = .returned (rv vS) ∧ Below w.heap.size w w' := fun w => by rw [e_vS]; exact sdo_c 0 true vA vA w
  have H_vS : PlainScalar.Has vS (x + y) := by rw [e_vS]; have h := PlainScalar.do_has (op := 0) (is64 := true) HA (HY hy); rwa [show PlainScalar.eval 0 true x y = x + y from rfl] at h
  obtain ⟨vN, e_vN⟩ : ∃ z, z = PlainScalar.doF 5 true vA v7 := ⟨_, rfl⟩
  have k_vN : ∀ w : World, Calls Try.prog 11 #[.int .i64 5, .bool true, rv vA, rv v7] w fun e w' => e = .returned (rv vN) ∧ Below w.heap.size w w' := fun w => by rw [e_vN]; exact sdo_c 5 true vA v7 w
  have H_vN : PlainScalar.Has vN (x &&& 7#64) := by rw [e_vN, e_v7]; have h := PlainScalar.do_has (op := 5) (is64 := true) HA (PlainScalar.const_has 7#64); rwa [show PlainScalar.eval 5 true x 7#64 = x &&& 7#64 from rfl] at h
  obtain ⟨vL, e_vL⟩ : ∃ z, z = PlainScalar.doF 6 true vA vK := ⟨_, rfl⟩
  have k_vL : ∀ w : World, Calls Try.prog 11 #[.int .i64 6, .bool true, rv vA, rv vK] w fun e w' => e = .returned (rv vL) ∧ Below w.heap.size w w' := fun w => by rw [e_vL]; exact sdo_c 6 true vA vK w
  have H_vL : PlainScalar.Has vL (x <<< K.toNat) := by rw [e_vL, e_vK]; have h := PlainScalar.do_has (op := 6) (is64 := true) HA (PlainScalar.const_has K); rwa [show PlainScalar.eval 6 true x K = x <<< K.toNat from by show x <<< (K.toNat % 64) = _; rw [Nat.mod_eq_of_lt (by omega)]] at h
  obtain ⟨vR, e_vR⟩ : ∃ z, z = PlainScalar.doF 9 true vA v10 := ⟨_, rfl⟩
  have k_vR : ∀ w : World, Calls Try.prog 11 #[.int .i64 9, .bool true, rv vA, rv v10] w fun e w' => e = .returned (rv vR) ∧ Below w.heap.size w w' := fun w => by rw [e_vR]; exact sdo_c 9 true vA v10 w
  have H_vR : PlainScalar.Has vR (x % 10#64) := by rw [e_vR, e_v10]; have h := PlainScalar.do_has (op := 9) (is64 := true) HA (PlainScalar.const_has 10#64); rwa [show PlainScalar.eval 9 true x 10#64 = x % 10#64 from rfl] at h
  clear e_vA
  clear e_v7
  clear e_vK
  clear e_v10
  clear e_vS
  clear e_vN
  clear e_vL
  clear e_vR
  go_enter Try.func5, Try.ntmps5
  go_wp2_with fail
  have hB : Below w.heap.size w w := (Bl_refl w)
  go_wp2_with fail
  refine (sany_c _).mono ?_
  rintro e w2 ⟨rfl, hb⟩
  replace hB : Below w.heap.size w w2 := by repeat (first | exact hB | (refine Bl_set ?_ (by first | omega | (simp; omega)) _) | apply Bl_alloc | (refine Bl_trans ?_ hb))
  clear hb
  go_wp2_with fail
  refine (k_vA _).mono ?_
  rintro e w3 ⟨rfl, hb⟩
  replace hB : Below w.heap.size w w3 := by repeat (first | exact hB | (refine Bl_set ?_ (by first | omega | (simp; omega)) _) | apply Bl_alloc | (refine Bl_trans ?_ hb))
  clear hb
  go_upto_region 2 with fail
  have Ba := Blk.new w3 39 #[uv vA.b.v, uv vA.b.m, uv vA.lo, uv vA.hi, sv vA.sl, sv vA.sh]
  have hga := hB.size
  replace hB : Below w.heap.size w (w3.alloc (.cells #[uv vA.b.v, uv vA.b.m, uv vA.lo, uv vA.hi, sv vA.sl, sv vA.sh] 39)) := Bl_alloc hB _
  generalize (w3.alloc (.cells #[uv vA.b.v, uv vA.b.m, uv vA.lo, uv vA.hi, sv vA.sl, sv vA.sh] 39)) = w4 at *
  generalize w3.heap.size = ga at *
  have ca0 : w4.cell? ⟨ga, 0, none⟩ = some (uv vA.b.v) := Ba.cell 0
  have ca1 : w4.cell? ⟨ga, 1, none⟩ = some (uv vA.b.m) := Ba.cell 1
  have ca2 : w4.cell? ⟨ga, 2, none⟩ = some (uv vA.lo) := Ba.cell 2
  have ca3 : w4.cell? ⟨ga, 3, none⟩ = some (uv vA.hi) := Ba.cell 3
  have ca4 : w4.cell? ⟨ga, 4, none⟩ = some (sv vA.sl) := Ba.cell 4
  have ca5 : w4.cell? ⟨ga, 5, none⟩ = some (sv vA.sh) := Ba.cell 5
  have fa := Ba.frozen
  have la := Ba.lt
  go_wp2_with fail
  refine (k_vS _).mono ?_
  rintro e w5 ⟨rfl, hb⟩
  clear ca0 ca1 ca2 ca3 ca4 ca5 fa la
  replace Ba := (Ba).next hb
  replace hB : Below w.heap.size w w5 := by repeat (first | exact hB | (refine Bl_set ?_ (by first | omega | (simp; omega)) _) | apply Bl_alloc | (refine Bl_trans ?_ hb))
  clear hb
  have ca0 : w5.cell? ⟨ga, 0, none⟩ = some (uv vA.b.v) := Ba.cell 0
  have ca1 : w5.cell? ⟨ga, 1, none⟩ = some (uv vA.b.m) := Ba.cell 1
  have ca2 : w5.cell? ⟨ga, 2, none⟩ = some (uv vA.lo) := Ba.cell 2
  have ca3 : w5.cell? ⟨ga, 3, none⟩ = some (uv vA.hi) := Ba.cell 3
  have ca4 : w5.cell? ⟨ga, 4, none⟩ = some (sv vA.sl) := Ba.cell 4
  have ca5 : w5.cell? ⟨ga, 5, none⟩ = some (sv vA.sh) := Ba.cell 5
  have fa := Ba.frozen
  have la := Ba.lt
  go_upto_region 4 with fail
  clear ca0 ca1 ca2 ca3 ca4 ca5 fa la
  have Bs := Blk.new w5 39 #[uv vS.b.v, uv vS.b.m, uv vS.lo, uv vS.hi, sv vS.sl, sv vS.sh]
  have hgs := hB.size
  have hnas := Nat.ne_of_lt Ba.lt; have hltas := Ba.lt
  replace Ba : Blk (w5.alloc (.cells #[uv vS.b.v, uv vS.b.m, uv vS.lo, uv vS.hi, sv vS.sl, sv vS.sh] 39)) (ga) 39 #[uv vA.b.v, uv vA.b.m, uv vA.lo, uv vA.hi, sv vA.sl, sv vA.sh] := Ba.alloc _
  replace hB : Below w.heap.size w (w5.alloc (.cells #[uv vS.b.v, uv vS.b.m, uv vS.lo, uv vS.hi, sv vS.sl, sv vS.sh] 39)) := Bl_alloc hB _
  generalize (w5.alloc (.cells #[uv vS.b.v, uv vS.b.m, uv vS.lo, uv vS.hi, sv vS.sl, sv vS.sh] 39)) = w6 at *
  generalize w5.heap.size = gs at *
  have ca0 : w6.cell? ⟨ga, 0, none⟩ = some (uv vA.b.v) := Ba.cell 0
  have ca1 : w6.cell? ⟨ga, 1, none⟩ = some (uv vA.b.m) := Ba.cell 1
  have ca2 : w6.cell? ⟨ga, 2, none⟩ = some (uv vA.lo) := Ba.cell 2
  have ca3 : w6.cell? ⟨ga, 3, none⟩ = some (uv vA.hi) := Ba.cell 3
  have ca4 : w6.cell? ⟨ga, 4, none⟩ = some (sv vA.sl) := Ba.cell 4
  have ca5 : w6.cell? ⟨ga, 5, none⟩ = some (sv vA.sh) := Ba.cell 5
  have fa := Ba.frozen
  have la := Ba.lt
  have cs0 : w6.cell? ⟨gs, 0, none⟩ = some (uv vS.b.v) := Bs.cell 0
  have cs1 : w6.cell? ⟨gs, 1, none⟩ = some (uv vS.b.m) := Bs.cell 1
  have cs2 : w6.cell? ⟨gs, 2, none⟩ = some (uv vS.lo) := Bs.cell 2
  have cs3 : w6.cell? ⟨gs, 3, none⟩ = some (uv vS.hi) := Bs.cell 3
  have cs4 : w6.cell? ⟨gs, 4, none⟩ = some (sv vS.sl) := Bs.cell 4
  have cs5 : w6.cell? ⟨gs, 5, none⟩ = some (sv vS.sh) := Bs.cell 5
  have fs := Bs.frozen
  have ls := Bs.lt
  go_wp2_with fail
  replace ca0 : ∀ g : Later w6, g.w.cell? ⟨ga, 0, none⟩ = some (uv vA.b.v) := fun g => g.cell (Ba.cell 0)
  replace ca1 : ∀ g : Later w6, g.w.cell? ⟨ga, 1, none⟩ = some (uv vA.b.m) := fun g => g.cell (Ba.cell 1)
  replace ca2 : ∀ g : Later w6, g.w.cell? ⟨ga, 2, none⟩ = some (uv vA.lo) := fun g => g.cell (Ba.cell 2)
  replace ca3 : ∀ g : Later w6, g.w.cell? ⟨ga, 3, none⟩ = some (uv vA.hi) := fun g => g.cell (Ba.cell 3)
  replace ca4 : ∀ g : Later w6, g.w.cell? ⟨ga, 4, none⟩ = some (sv vA.sl) := fun g => g.cell (Ba.cell 4)
  replace ca5 : ∀ g : Later w6, g.w.cell? ⟨ga, 5, none⟩ = some (sv vA.sh) := fun g => g.cell (Ba.cell 5)
  replace cs0 : ∀ g : Later w6, g.w.cell? ⟨gs, 0, none⟩ = some (uv vS.b.v) := fun g => g.cell (Bs.cell 0)
  replace cs1 : ∀ g : Later w6, g.w.cell? ⟨gs, 1, none⟩ = some (uv vS.b.m) := fun g => g.cell (Bs.cell 1)
  replace cs2 : ∀ g : Later w6, g.w.cell? ⟨gs, 2, none⟩ = some (uv vS.lo) := fun g => g.cell (Bs.cell 2)
  replace cs3 : ∀ g : Later w6, g.w.cell? ⟨gs, 3, none⟩ = some (uv vS.hi) := fun g => g.cell (Bs.cell 3)
  replace cs4 : ∀ g : Later w6, g.w.cell? ⟨gs, 4, none⟩ = some (sv vS.sl) := fun g => g.cell (Bs.cell 4)
  replace cs5 : ∀ g : Later w6, g.w.cell? ⟨gs, 5, none⟩ = some (sv vS.sh) := fun g => g.cell (Bs.cell 5)
  refine wp_region_mix 4 (fun _ => #[.int .u64 0, .int .u64 0, .int .u64 0, .int .u64 0, .int .i64 0, .int .i64 0]) (by kernel_rfl) (by kernel_rfl) (fun o t ho ht => by
    simp at ho
    rcases ho with rfl | rfl | rfl | rfl <;> first | (cases ht; done) | (obtain rfl := Option.some.inj ht; exact fun ρ w => new_rng14 ht ρ w)) ?_
  simp only [List.take_succ_cons, List.take_zero, List.drop_succ_cons, List.drop_zero]
  repeat (refine wpMix_step (fun K hK => ?_); go_simp; first | (refine hK _ ?_; clear hK K) | (apply Exists.intro; refine ⟨fun g => ?_, hK _ ?_⟩; ((with_reducible refine Calls.mono (k_v7 g.w) ?_); exact fun _ _ h => h); clear hK K) | (apply Exists.intro; refine ⟨fun g => ?_, hK _ ?_⟩; ((with_reducible refine Calls.mono (k_vN g.w) ?_); exact fun _ _ h => h); clear hK K))
  refine wpMix_nil ?_
  intro G w7 hgr hblk hdist
  have hb : Below w6.heap.size w6 w7 := hgr
  replace Ba := Ba.next hb
  replace Bs := Bs.next hb
  obtain ⟨Bn, hln⟩ := hblk 3 _ rfl
  have hgn : w.heap.size ≤ G 3 := Nat.le_trans hB.size hln
  have hnan : ga ≠ G 3 := Nat.ne_of_lt (Nat.lt_of_lt_of_le la hln)
  have hnsn : gs ≠ G 3 := Nat.ne_of_lt (Nat.lt_of_lt_of_le ls hln)
  clear hln
  clear ca0 ca1 ca2 ca3 ca4 ca5 fa la
  clear cs0 cs1 cs2 cs3 cs4 cs5 fs ls
  replace hB : Below w.heap.size w w7 := Bl_trans hB hb
  simp only [putAll, isAlloc, Act.put]
  generalize G 3 = gn at *
  clear hb hgr hblk hdist
  have ca0 : w7.cell? ⟨ga, 0, none⟩ = some (uv vA.b.v) := Ba.cell 0
  have ca1 : w7.cell? ⟨ga, 1, none⟩ = some (uv vA.b.m) := Ba.cell 1
  have ca2 : w7.cell? ⟨ga, 2, none⟩ = some (uv vA.lo) := Ba.cell 2
  have ca3 : w7.cell? ⟨ga, 3, none⟩ = some (uv vA.hi) := Ba.cell 3
  have ca4 : w7.cell? ⟨ga, 4, none⟩ = some (sv vA.sl) := Ba.cell 4
  have ca5 : w7.cell? ⟨ga, 5, none⟩ = some (sv vA.sh) := Ba.cell 5
  have fa := Ba.frozen
  have la := Ba.lt
  have cs0 : w7.cell? ⟨gs, 0, none⟩ = some (uv vS.b.v) := Bs.cell 0
  have cs1 : w7.cell? ⟨gs, 1, none⟩ = some (uv vS.b.m) := Bs.cell 1
  have cs2 : w7.cell? ⟨gs, 2, none⟩ = some (uv vS.lo) := Bs.cell 2
  have cs3 : w7.cell? ⟨gs, 3, none⟩ = some (uv vS.hi) := Bs.cell 3
  have cs4 : w7.cell? ⟨gs, 4, none⟩ = some (sv vS.sl) := Bs.cell 4
  have cs5 : w7.cell? ⟨gs, 5, none⟩ = some (sv vS.sh) := Bs.cell 5
  have fs := Bs.frozen
  have ls := Bs.lt
  have cn0 : w7.cell? ⟨gn, 0, none⟩ = some (.int .u64 0) := Bn.cell 0
  have cn1 : w7.cell? ⟨gn, 1, none⟩ = some (.int .u64 0) := Bn.cell 1
  have cn2 : w7.cell? ⟨gn, 2, none⟩ = some (.int .u64 0) := Bn.cell 2
  have cn3 : w7.cell? ⟨gn, 3, none⟩ = some (.int .u64 0) := Bn.cell 3
  have cn4 : w7.cell? ⟨gn, 4, none⟩ = some (.int .i64 0) := Bn.cell 4
  have cn5 : w7.cell? ⟨gn, 5, none⟩ = some (.int .i64 0) := Bn.cell 5
  have fn := Bn.frozen
  have ln := Bn.lt
  go_upto_region 5 with fail
  clear ca0 ca1 ca2 ca3 ca4 ca5 fa la
  clear cs0 cs1 cs2 cs3 cs4 cs5 fs ls
  clear cn0 cn1 cn2 cn3 cn4 cn5 fn ln
  replace Ba : Blk ((((((w7.setCell ⟨gn, 0, none⟩ (uv vN.b.v)).setCell ⟨gn, 1, none⟩ (uv vN.b.m)).setCell ⟨gn, 2, none⟩ (uv vN.lo)).setCell ⟨gn, 3, none⟩ (uv vN.hi)).setCell ⟨gn, 4, none⟩ (sv vN.sl)).setCell ⟨gn, 5, none⟩ (sv vN.sh)) (ga) 39 #[uv vA.b.v, uv vA.b.m, uv vA.lo, uv vA.hi, sv vA.sl, sv vA.sh] := ((((((Ba.far (by first | (simp; done) | (simp; omega) | (simp [*]; done) | (simp only [ne_eq]; constructor <;> omega)) _).far (by first | (simp; done) | (simp; omega) | (simp [*]; done) | (simp only [ne_eq]; constructor <;> omega)) _).far (by first | (simp; done) | (simp; omega) | (simp [*]; done) | (simp only [ne_eq]; constructor <;> omega)) _).far (by first | (simp; done) | (simp; omega) | (simp [*]; done) | (simp only [ne_eq]; constructor <;> omega)) _).far (by first | (simp; done) | (simp; omega) | (simp [*]; done) | (simp only [ne_eq]; constructor <;> omega)) _).far (by first | (simp; done) | (simp; omega) | (simp [*]; done) | (simp only [ne_eq]; constructor <;> omega)) _)
  replace Bs : Blk ((((((w7.setCell ⟨gn, 0, none⟩ (uv vN.b.v)).setCell ⟨gn, 1, none⟩ (uv vN.b.m)).setCell ⟨gn, 2, none⟩ (uv vN.lo)).setCell ⟨gn, 3, none⟩ (uv vN.hi)).setCell ⟨gn, 4, none⟩ (sv vN.sl)).setCell ⟨gn, 5, none⟩ (sv vN.sh)) (gs) 39 #[uv vS.b.v, uv vS.b.m, uv vS.lo, uv vS.hi, sv vS.sl, sv vS.sh] := ((((((Bs.far (by first | (simp; done) | (simp; omega) | (simp [*]; done) | (simp only [ne_eq]; constructor <;> omega)) _).far (by first | (simp; done) | (simp; omega) | (simp [*]; done) | (simp only [ne_eq]; constructor <;> omega)) _).far (by first | (simp; done) | (simp; omega) | (simp [*]; done) | (simp only [ne_eq]; constructor <;> omega)) _).far (by first | (simp; done) | (simp; omega) | (simp [*]; done) | (simp only [ne_eq]; constructor <;> omega)) _).far (by first | (simp; done) | (simp; omega) | (simp [*]; done) | (simp only [ne_eq]; constructor <;> omega)) _).far (by first | (simp; done) | (simp; omega) | (simp [*]; done) | (simp only [ne_eq]; constructor <;> omega)) _)
  replace Bn : Blk ((((((w7.setCell ⟨gn, 0, none⟩ (uv vN.b.v)).setCell ⟨gn, 1, none⟩ (uv vN.b.m)).setCell ⟨gn, 2, none⟩ (uv vN.lo)).setCell ⟨gn, 3, none⟩ (uv vN.hi)).setCell ⟨gn, 4, none⟩ (sv vN.sl)).setCell ⟨gn, 5, none⟩ (sv vN.sh)) (gn) 39 #[uv vN.b.v, uv vN.b.m, uv vN.lo, uv vN.hi, sv vN.sl, sv vN.sh] := ((((((Bn.set_ 0 _).set_ 1 _).set_ 2 _).set_ 3 _).set_ 4 _).set_ 5 _)
  replace hB : Below w.heap.size w ((((((w7.setCell ⟨gn, 0, none⟩ (uv vN.b.v)).setCell ⟨gn, 1, none⟩ (uv vN.b.m)).setCell ⟨gn, 2, none⟩ (uv vN.lo)).setCell ⟨gn, 3, none⟩ (uv vN.hi)).setCell ⟨gn, 4, none⟩ (sv vN.sl)).setCell ⟨gn, 5, none⟩ (sv vN.sh)) := (Bl_set (Bl_set (Bl_set (Bl_set (Bl_set (Bl_set hB (by first | omega | (simp; done) | (simp; omega)) _) (by first | omega | (simp; done) | (simp; omega)) _) (by first | omega | (simp; done) | (simp; omega)) _) (by first | omega | (simp; done) | (simp; omega)) _) (by first | omega | (simp; done) | (simp; omega)) _) (by first | omega | (simp; done) | (simp; omega)) _)
  generalize ((((((w7.setCell ⟨gn, 0, none⟩ (uv vN.b.v)).setCell ⟨gn, 1, none⟩ (uv vN.b.m)).setCell ⟨gn, 2, none⟩ (uv vN.lo)).setCell ⟨gn, 3, none⟩ (uv vN.hi)).setCell ⟨gn, 4, none⟩ (sv vN.sl)).setCell ⟨gn, 5, none⟩ (sv vN.sh)) = w8 at *
  have ca0 : w8.cell? ⟨ga, 0, none⟩ = some (uv vA.b.v) := Ba.cell 0
  have ca1 : w8.cell? ⟨ga, 1, none⟩ = some (uv vA.b.m) := Ba.cell 1
  have ca2 : w8.cell? ⟨ga, 2, none⟩ = some (uv vA.lo) := Ba.cell 2
  have ca3 : w8.cell? ⟨ga, 3, none⟩ = some (uv vA.hi) := Ba.cell 3
  have ca4 : w8.cell? ⟨ga, 4, none⟩ = some (sv vA.sl) := Ba.cell 4
  have ca5 : w8.cell? ⟨ga, 5, none⟩ = some (sv vA.sh) := Ba.cell 5
  have fa := Ba.frozen
  have la := Ba.lt
  have cs0 : w8.cell? ⟨gs, 0, none⟩ = some (uv vS.b.v) := Bs.cell 0
  have cs1 : w8.cell? ⟨gs, 1, none⟩ = some (uv vS.b.m) := Bs.cell 1
  have cs2 : w8.cell? ⟨gs, 2, none⟩ = some (uv vS.lo) := Bs.cell 2
  have cs3 : w8.cell? ⟨gs, 3, none⟩ = some (uv vS.hi) := Bs.cell 3
  have cs4 : w8.cell? ⟨gs, 4, none⟩ = some (sv vS.sl) := Bs.cell 4
  have cs5 : w8.cell? ⟨gs, 5, none⟩ = some (sv vS.sh) := Bs.cell 5
  have fs := Bs.frozen
  have ls := Bs.lt
  have cn0 : w8.cell? ⟨gn, 0, none⟩ = some (uv vN.b.v) := Bn.cell 0
  have cn1 : w8.cell? ⟨gn, 1, none⟩ = some (uv vN.b.m) := Bn.cell 1
  have cn2 : w8.cell? ⟨gn, 2, none⟩ = some (uv vN.lo) := Bn.cell 2
  have cn3 : w8.cell? ⟨gn, 3, none⟩ = some (uv vN.hi) := Bn.cell 3
  have cn4 : w8.cell? ⟨gn, 4, none⟩ = some (sv vN.sl) := Bn.cell 4
  have cn5 : w8.cell? ⟨gn, 5, none⟩ = some (sv vN.sh) := Bn.cell 5
  have fn := Bn.frozen
  have ln := Bn.lt
  go_wp2_with fail
  replace ca0 : ∀ g : Later w8, g.w.cell? ⟨ga, 0, none⟩ = some (uv vA.b.v) := fun g => g.cell (Ba.cell 0)
  replace ca1 : ∀ g : Later w8, g.w.cell? ⟨ga, 1, none⟩ = some (uv vA.b.m) := fun g => g.cell (Ba.cell 1)
  replace ca2 : ∀ g : Later w8, g.w.cell? ⟨ga, 2, none⟩ = some (uv vA.lo) := fun g => g.cell (Ba.cell 2)
  replace ca3 : ∀ g : Later w8, g.w.cell? ⟨ga, 3, none⟩ = some (uv vA.hi) := fun g => g.cell (Ba.cell 3)
  replace ca4 : ∀ g : Later w8, g.w.cell? ⟨ga, 4, none⟩ = some (sv vA.sl) := fun g => g.cell (Ba.cell 4)
  replace ca5 : ∀ g : Later w8, g.w.cell? ⟨ga, 5, none⟩ = some (sv vA.sh) := fun g => g.cell (Ba.cell 5)
  replace cs0 : ∀ g : Later w8, g.w.cell? ⟨gs, 0, none⟩ = some (uv vS.b.v) := fun g => g.cell (Bs.cell 0)
  replace cs1 : ∀ g : Later w8, g.w.cell? ⟨gs, 1, none⟩ = some (uv vS.b.m) := fun g => g.cell (Bs.cell 1)
  replace cs2 : ∀ g : Later w8, g.w.cell? ⟨gs, 2, none⟩ = some (uv vS.lo) := fun g => g.cell (Bs.cell 2)
  replace cs3 : ∀ g : Later w8, g.w.cell? ⟨gs, 3, none⟩ = some (uv vS.hi) := fun g => g.cell (Bs.cell 3)
  replace cs4 : ∀ g : Later w8, g.w.cell? ⟨gs, 4, none⟩ = some (sv vS.sl) := fun g => g.cell (Bs.cell 4)
  replace cs5 : ∀ g : Later w8, g.w.cell? ⟨gs, 5, none⟩ = some (sv vS.sh) := fun g => g.cell (Bs.cell 5)
  replace cn0 : ∀ g : Later w8, g.w.cell? ⟨gn, 0, none⟩ = some (uv vN.b.v) := fun g => g.cell (Bn.cell 0)
  replace cn1 : ∀ g : Later w8, g.w.cell? ⟨gn, 1, none⟩ = some (uv vN.b.m) := fun g => g.cell (Bn.cell 1)
  replace cn2 : ∀ g : Later w8, g.w.cell? ⟨gn, 2, none⟩ = some (uv vN.lo) := fun g => g.cell (Bn.cell 2)
  replace cn3 : ∀ g : Later w8, g.w.cell? ⟨gn, 3, none⟩ = some (uv vN.hi) := fun g => g.cell (Bn.cell 3)
  replace cn4 : ∀ g : Later w8, g.w.cell? ⟨gn, 4, none⟩ = some (sv vN.sl) := fun g => g.cell (Bn.cell 4)
  replace cn5 : ∀ g : Later w8, g.w.cell? ⟨gn, 5, none⟩ = some (sv vN.sh) := fun g => g.cell (Bn.cell 5)
  refine wp_region_mix 6 (fun _ => #[.int .u64 0, .int .u64 0, .int .u64 0, .int .u64 0, .int .i64 0, .int .i64 0]) (by kernel_rfl) (by kernel_rfl) (fun o t ho ht => by
    simp at ho
    rcases ho with rfl | rfl | rfl | rfl | rfl | rfl <;> first | (cases ht; done) | (obtain rfl := Option.some.inj ht; exact fun ρ w => new_rng14 ht ρ w)) ?_
  simp only [List.take_succ_cons, List.take_zero, List.drop_succ_cons, List.drop_zero]
  repeat (refine wpMix_step (fun K hK => ?_); go_simp; first | (refine hK _ ?_; clear hK K) | (apply Exists.intro; refine ⟨fun g => ?_, hK _ ?_⟩; ((with_reducible refine Calls.mono (k_vK g.w) ?_); exact fun _ _ h => h); clear hK K) | (apply Exists.intro; refine ⟨fun g => ?_, hK _ ?_⟩; ((with_reducible refine Calls.mono (k_vL g.w) ?_); exact fun _ _ h => h); clear hK K))
  refine wpMix_nil ?_
  intro G w9 hgr hblk hdist
  have hb : Below w8.heap.size w8 w9 := hgr
  replace Ba := Ba.next hb
  replace Bs := Bs.next hb
  replace Bn := Bn.next hb
  obtain ⟨Bl, hll⟩ := hblk 5 _ rfl
  have hgl : w.heap.size ≤ G 5 := Nat.le_trans hB.size hll
  have hnal : ga ≠ G 5 := Nat.ne_of_lt (Nat.lt_of_lt_of_le la hll)
  have hnsl : gs ≠ G 5 := Nat.ne_of_lt (Nat.lt_of_lt_of_le ls hll)
  have hnnl : gn ≠ G 5 := Nat.ne_of_lt (Nat.lt_of_lt_of_le ln hll)
  clear hll
  clear ca0 ca1 ca2 ca3 ca4 ca5 fa la
  clear cs0 cs1 cs2 cs3 cs4 cs5 fs ls
  clear cn0 cn1 cn2 cn3 cn4 cn5 fn ln
  replace hB : Below w.heap.size w w9 := Bl_trans hB hb
  simp only [putAll, isAlloc, Act.put]
  generalize G 5 = gl at *
  clear hb hgr hblk hdist
  have ca0 : w9.cell? ⟨ga, 0, none⟩ = some (uv vA.b.v) := Ba.cell 0
  have ca1 : w9.cell? ⟨ga, 1, none⟩ = some (uv vA.b.m) := Ba.cell 1
  have ca2 : w9.cell? ⟨ga, 2, none⟩ = some (uv vA.lo) := Ba.cell 2
  have ca3 : w9.cell? ⟨ga, 3, none⟩ = some (uv vA.hi) := Ba.cell 3
  have ca4 : w9.cell? ⟨ga, 4, none⟩ = some (sv vA.sl) := Ba.cell 4
  have ca5 : w9.cell? ⟨ga, 5, none⟩ = some (sv vA.sh) := Ba.cell 5
  have fa := Ba.frozen
  have la := Ba.lt
  have cs0 : w9.cell? ⟨gs, 0, none⟩ = some (uv vS.b.v) := Bs.cell 0
  have cs1 : w9.cell? ⟨gs, 1, none⟩ = some (uv vS.b.m) := Bs.cell 1
  have cs2 : w9.cell? ⟨gs, 2, none⟩ = some (uv vS.lo) := Bs.cell 2
  have cs3 : w9.cell? ⟨gs, 3, none⟩ = some (uv vS.hi) := Bs.cell 3
  have cs4 : w9.cell? ⟨gs, 4, none⟩ = some (sv vS.sl) := Bs.cell 4
  have cs5 : w9.cell? ⟨gs, 5, none⟩ = some (sv vS.sh) := Bs.cell 5
  have fs := Bs.frozen
  have ls := Bs.lt
  have cn0 : w9.cell? ⟨gn, 0, none⟩ = some (uv vN.b.v) := Bn.cell 0
  have cn1 : w9.cell? ⟨gn, 1, none⟩ = some (uv vN.b.m) := Bn.cell 1
  have cn2 : w9.cell? ⟨gn, 2, none⟩ = some (uv vN.lo) := Bn.cell 2
  have cn3 : w9.cell? ⟨gn, 3, none⟩ = some (uv vN.hi) := Bn.cell 3
  have cn4 : w9.cell? ⟨gn, 4, none⟩ = some (sv vN.sl) := Bn.cell 4
  have cn5 : w9.cell? ⟨gn, 5, none⟩ = some (sv vN.sh) := Bn.cell 5
  have fn := Bn.frozen
  have ln := Bn.lt
  have cl0 : w9.cell? ⟨gl, 0, none⟩ = some (.int .u64 0) := Bl.cell 0
  have cl1 : w9.cell? ⟨gl, 1, none⟩ = some (.int .u64 0) := Bl.cell 1
  have cl2 : w9.cell? ⟨gl, 2, none⟩ = some (.int .u64 0) := Bl.cell 2
  have cl3 : w9.cell? ⟨gl, 3, none⟩ = some (.int .u64 0) := Bl.cell 3
  have cl4 : w9.cell? ⟨gl, 4, none⟩ = some (.int .i64 0) := Bl.cell 4
  have cl5 : w9.cell? ⟨gl, 5, none⟩ = some (.int .i64 0) := Bl.cell 5
  have fl := Bl.frozen
  have ll := Bl.lt
  go_upto_region 6 with fail
  clear ca0 ca1 ca2 ca3 ca4 ca5 fa la
  clear cs0 cs1 cs2 cs3 cs4 cs5 fs ls
  clear cn0 cn1 cn2 cn3 cn4 cn5 fn ln
  clear cl0 cl1 cl2 cl3 cl4 cl5 fl ll
  replace Ba : Blk ((((((w9.setCell ⟨gl, 0, none⟩ (uv vL.b.v)).setCell ⟨gl, 1, none⟩ (uv vL.b.m)).setCell ⟨gl, 2, none⟩ (uv vL.lo)).setCell ⟨gl, 3, none⟩ (uv vL.hi)).setCell ⟨gl, 4, none⟩ (sv vL.sl)).setCell ⟨gl, 5, none⟩ (sv vL.sh)) (ga) 39 #[uv vA.b.v, uv vA.b.m, uv vA.lo, uv vA.hi, sv vA.sl, sv vA.sh] := ((((((Ba.far (by first | (simp; done) | (simp; omega) | (simp [*]; done) | (simp only [ne_eq]; constructor <;> omega)) _).far (by first | (simp; done) | (simp; omega) | (simp [*]; done) | (simp only [ne_eq]; constructor <;> omega)) _).far (by first | (simp; done) | (simp; omega) | (simp [*]; done) | (simp only [ne_eq]; constructor <;> omega)) _).far (by first | (simp; done) | (simp; omega) | (simp [*]; done) | (simp only [ne_eq]; constructor <;> omega)) _).far (by first | (simp; done) | (simp; omega) | (simp [*]; done) | (simp only [ne_eq]; constructor <;> omega)) _).far (by first | (simp; done) | (simp; omega) | (simp [*]; done) | (simp only [ne_eq]; constructor <;> omega)) _)
  replace Bs : Blk ((((((w9.setCell ⟨gl, 0, none⟩ (uv vL.b.v)).setCell ⟨gl, 1, none⟩ (uv vL.b.m)).setCell ⟨gl, 2, none⟩ (uv vL.lo)).setCell ⟨gl, 3, none⟩ (uv vL.hi)).setCell ⟨gl, 4, none⟩ (sv vL.sl)).setCell ⟨gl, 5, none⟩ (sv vL.sh)) (gs) 39 #[uv vS.b.v, uv vS.b.m, uv vS.lo, uv vS.hi, sv vS.sl, sv vS.sh] := ((((((Bs.far (by first | (simp; done) | (simp; omega) | (simp [*]; done) | (simp only [ne_eq]; constructor <;> omega)) _).far (by first | (simp; done) | (simp; omega) | (simp [*]; done) | (simp only [ne_eq]; constructor <;> omega)) _).far (by first | (simp; done) | (simp; omega) | (simp [*]; done) | (simp only [ne_eq]; constructor <;> omega)) _).far (by first | (simp; done) | (simp; omega) | (simp [*]; done) | (simp only [ne_eq]; constructor <;> omega)) _).far (by first | (simp; done) | (simp; omega) | (simp [*]; done) | (simp only [ne_eq]; constructor <;> omega)) _).far (by first | (simp; done) | (simp; omega) | (simp [*]; done) | (simp only [ne_eq]; constructor <;> omega)) _)
  replace Bn : Blk ((((((w9.setCell ⟨gl, 0, none⟩ (uv vL.b.v)).setCell ⟨gl, 1, none⟩ (uv vL.b.m)).setCell ⟨gl, 2, none⟩ (uv vL.lo)).setCell ⟨gl, 3, none⟩ (uv vL.hi)).setCell ⟨gl, 4, none⟩ (sv vL.sl)).setCell ⟨gl, 5, none⟩ (sv vL.sh)) (gn) 39 #[uv vN.b.v, uv vN.b.m, uv vN.lo, uv vN.hi, sv vN.sl, sv vN.sh] := ((((((Bn.far (by first | (simp; done) | (simp; omega) | (simp [*]; done) | (simp only [ne_eq]; constructor <;> omega)) _).far (by first | (simp; done) | (simp; omega) | (simp [*]; done) | (simp only [ne_eq]; constructor <;> omega)) _).far (by first | (simp; done) | (simp; omega) | (simp [*]; done) | (simp only [ne_eq]; constructor <;> omega)) _).far (by first | (simp; done) | (simp; omega) | (simp [*]; done) | (simp only [ne_eq]; constructor <;> omega)) _).far (by first | (simp; done) | (simp; omega) | (simp [*]; done) | (simp only [ne_eq]; constructor <;> omega)) _).far (by first | (simp; done) | (simp; omega) | (simp [*]; done) | (simp only [ne_eq]; constructor <;> omega)) _)
  replace Bl : Blk ((((((w9.setCell ⟨gl, 0, none⟩ (uv vL.b.v)).setCell ⟨gl, 1, none⟩ (uv vL.b.m)).setCell ⟨gl, 2, none⟩ (uv vL.lo)).setCell ⟨gl, 3, none⟩ (uv vL.hi)).setCell ⟨gl, 4, none⟩ (sv vL.sl)).setCell ⟨gl, 5, none⟩ (sv vL.sh)) (gl) 39 #[uv vL.b.v, uv vL.b.m, uv vL.lo, uv vL.hi, sv vL.sl, sv vL.sh] := ((((((Bl.set_ 0 _).set_ 1 _).set_ 2 _).set_ 3 _).set_ 4 _).set_ 5 _)
  replace hB : Below w.heap.size w ((((((w9.setCell ⟨gl, 0, none⟩ (uv vL.b.v)).setCell ⟨gl, 1, none⟩ (uv vL.b.m)).setCell ⟨gl, 2, none⟩ (uv vL.lo)).setCell ⟨gl, 3, none⟩ (uv vL.hi)).setCell ⟨gl, 4, none⟩ (sv vL.sl)).setCell ⟨gl, 5, none⟩ (sv vL.sh)) := (Bl_set (Bl_set (Bl_set (Bl_set (Bl_set (Bl_set hB (by first | omega | (simp; done) | (simp; omega)) _) (by first | omega | (simp; done) | (simp; omega)) _) (by first | omega | (simp; done) | (simp; omega)) _) (by first | omega | (simp; done) | (simp; omega)) _) (by first | omega | (simp; done) | (simp; omega)) _) (by first | omega | (simp; done) | (simp; omega)) _)
  generalize ((((((w9.setCell ⟨gl, 0, none⟩ (uv vL.b.v)).setCell ⟨gl, 1, none⟩ (uv vL.b.m)).setCell ⟨gl, 2, none⟩ (uv vL.lo)).setCell ⟨gl, 3, none⟩ (uv vL.hi)).setCell ⟨gl, 4, none⟩ (sv vL.sl)).setCell ⟨gl, 5, none⟩ (sv vL.sh)) = w10 at *
  have ca0 : w10.cell? ⟨ga, 0, none⟩ = some (uv vA.b.v) := Ba.cell 0
  have ca1 : w10.cell? ⟨ga, 1, none⟩ = some (uv vA.b.m) := Ba.cell 1
  have ca2 : w10.cell? ⟨ga, 2, none⟩ = some (uv vA.lo) := Ba.cell 2
  have ca3 : w10.cell? ⟨ga, 3, none⟩ = some (uv vA.hi) := Ba.cell 3
  have ca4 : w10.cell? ⟨ga, 4, none⟩ = some (sv vA.sl) := Ba.cell 4
  have ca5 : w10.cell? ⟨ga, 5, none⟩ = some (sv vA.sh) := Ba.cell 5
  have fa := Ba.frozen
  have la := Ba.lt
  have cs0 : w10.cell? ⟨gs, 0, none⟩ = some (uv vS.b.v) := Bs.cell 0
  have cs1 : w10.cell? ⟨gs, 1, none⟩ = some (uv vS.b.m) := Bs.cell 1
  have cs2 : w10.cell? ⟨gs, 2, none⟩ = some (uv vS.lo) := Bs.cell 2
  have cs3 : w10.cell? ⟨gs, 3, none⟩ = some (uv vS.hi) := Bs.cell 3
  have cs4 : w10.cell? ⟨gs, 4, none⟩ = some (sv vS.sl) := Bs.cell 4
  have cs5 : w10.cell? ⟨gs, 5, none⟩ = some (sv vS.sh) := Bs.cell 5
  have fs := Bs.frozen
  have ls := Bs.lt
  have cn0 : w10.cell? ⟨gn, 0, none⟩ = some (uv vN.b.v) := Bn.cell 0
  have cn1 : w10.cell? ⟨gn, 1, none⟩ = some (uv vN.b.m) := Bn.cell 1
  have cn2 : w10.cell? ⟨gn, 2, none⟩ = some (uv vN.lo) := Bn.cell 2
  have cn3 : w10.cell? ⟨gn, 3, none⟩ = some (uv vN.hi) := Bn.cell 3
  have cn4 : w10.cell? ⟨gn, 4, none⟩ = some (sv vN.sl) := Bn.cell 4
  have cn5 : w10.cell? ⟨gn, 5, none⟩ = some (sv vN.sh) := Bn.cell 5
  have fn := Bn.frozen
  have ln := Bn.lt
  have cl0 : w10.cell? ⟨gl, 0, none⟩ = some (uv vL.b.v) := Bl.cell 0
  have cl1 : w10.cell? ⟨gl, 1, none⟩ = some (uv vL.b.m) := Bl.cell 1
  have cl2 : w10.cell? ⟨gl, 2, none⟩ = some (uv vL.lo) := Bl.cell 2
  have cl3 : w10.cell? ⟨gl, 3, none⟩ = some (uv vL.hi) := Bl.cell 3
  have cl4 : w10.cell? ⟨gl, 4, none⟩ = some (sv vL.sl) := Bl.cell 4
  have cl5 : w10.cell? ⟨gl, 5, none⟩ = some (sv vL.sh) := Bl.cell 5
  have fl := Bl.frozen
  have ll := Bl.lt
  go_wp2_with fail
  replace ca0 : ∀ g : Later w10, g.w.cell? ⟨ga, 0, none⟩ = some (uv vA.b.v) := fun g => g.cell (Ba.cell 0)
  replace ca1 : ∀ g : Later w10, g.w.cell? ⟨ga, 1, none⟩ = some (uv vA.b.m) := fun g => g.cell (Ba.cell 1)
  replace ca2 : ∀ g : Later w10, g.w.cell? ⟨ga, 2, none⟩ = some (uv vA.lo) := fun g => g.cell (Ba.cell 2)
  replace ca3 : ∀ g : Later w10, g.w.cell? ⟨ga, 3, none⟩ = some (uv vA.hi) := fun g => g.cell (Ba.cell 3)
  replace ca4 : ∀ g : Later w10, g.w.cell? ⟨ga, 4, none⟩ = some (sv vA.sl) := fun g => g.cell (Ba.cell 4)
  replace ca5 : ∀ g : Later w10, g.w.cell? ⟨ga, 5, none⟩ = some (sv vA.sh) := fun g => g.cell (Ba.cell 5)
  replace cs0 : ∀ g : Later w10, g.w.cell? ⟨gs, 0, none⟩ = some (uv vS.b.v) := fun g => g.cell (Bs.cell 0)
  replace cs1 : ∀ g : Later w10, g.w.cell? ⟨gs, 1, none⟩ = some (uv vS.b.m) := fun g => g.cell (Bs.cell 1)
  replace cs2 : ∀ g : Later w10, g.w.cell? ⟨gs, 2, none⟩ = some (uv vS.lo) := fun g => g.cell (Bs.cell 2)
  replace cs3 : ∀ g : Later w10, g.w.cell? ⟨gs, 3, none⟩ = some (uv vS.hi) := fun g => g.cell (Bs.cell 3)
  replace cs4 : ∀ g : Later w10, g.w.cell? ⟨gs, 4, none⟩ = some (sv vS.sl) := fun g => g.cell (Bs.cell 4)
  replace cs5 : ∀ g : Later w10, g.w.cell? ⟨gs, 5, none⟩ = some (sv vS.sh) := fun g => g.cell (Bs.cell 5)
  replace cn0 : ∀ g : Later w10, g.w.cell? ⟨gn, 0, none⟩ = some (uv vN.b.v) := fun g => g.cell (Bn.cell 0)
  replace cn1 : ∀ g : Later w10, g.w.cell? ⟨gn, 1, none⟩ = some (uv vN.b.m) := fun g => g.cell (Bn.cell 1)
  replace cn2 : ∀ g : Later w10, g.w.cell? ⟨gn, 2, none⟩ = some (uv vN.lo) := fun g => g.cell (Bn.cell 2)
  replace cn3 : ∀ g : Later w10, g.w.cell? ⟨gn, 3, none⟩ = some (uv vN.hi) := fun g => g.cell (Bn.cell 3)
  replace cn4 : ∀ g : Later w10, g.w.cell? ⟨gn, 4, none⟩ = some (sv vN.sl) := fun g => g.cell (Bn.cell 4)
  replace cn5 : ∀ g : Later w10, g.w.cell? ⟨gn, 5, none⟩ = some (sv vN.sh) := fun g => g.cell (Bn.cell 5)
  replace cl0 : ∀ g : Later w10, g.w.cell? ⟨gl, 0, none⟩ = some (uv vL.b.v) := fun g => g.cell (Bl.cell 0)
  replace cl1 : ∀ g : Later w10, g.w.cell? ⟨gl, 1, none⟩ = some (uv vL.b.m) := fun g => g.cell (Bl.cell 1)
  replace cl2 : ∀ g : Later w10, g.w.cell? ⟨gl, 2, none⟩ = some (uv vL.lo) := fun g => g.cell (Bl.cell 2)
  replace cl3 : ∀ g : Later w10, g.w.cell? ⟨gl, 3, none⟩ = some (uv vL.hi) := fun g => g.cell (Bl.cell 3)
  replace cl4 : ∀ g : Later w10, g.w.cell? ⟨gl, 4, none⟩ = some (sv vL.sl) := fun g => g.cell (Bl.cell 4)
  replace cl5 : ∀ g : Later w10, g.w.cell? ⟨gl, 5, none⟩ = some (sv vL.sh) := fun g => g.cell (Bl.cell 5)
  refine wp_region_mix 4 (fun _ => #[.int .u64 0, .int .u64 0, .int .u64 0, .int .u64 0, .int .i64 0, .int .i64 0]) (by kernel_rfl) (by kernel_rfl) (fun o t ho ht => by
    simp at ho
    rcases ho with rfl | rfl | rfl | rfl <;> first | (cases ht; done) | (obtain rfl := Option.some.inj ht; exact fun ρ w => new_rng14 ht ρ w)) ?_
  simp only [List.take_succ_cons, List.take_zero, List.drop_succ_cons, List.drop_zero]
  repeat (refine wpMix_step (fun K hK => ?_); go_simp; first | (refine hK _ ?_; clear hK K) | (apply Exists.intro; refine ⟨fun g => ?_, hK _ ?_⟩; ((with_reducible refine Calls.mono (k_v10 g.w) ?_); exact fun _ _ h => h); clear hK K) | (apply Exists.intro; refine ⟨fun g => ?_, hK _ ?_⟩; ((with_reducible refine Calls.mono (k_vR g.w) ?_); exact fun _ _ h => h); clear hK K))
  refine wpMix_nil ?_
  intro G w11 hgr hblk hdist
  have hb : Below w10.heap.size w10 w11 := hgr
  replace Ba := Ba.next hb
  replace Bs := Bs.next hb
  replace Bn := Bn.next hb
  replace Bl := Bl.next hb
  obtain ⟨Bq, hlq⟩ := hblk 3 _ rfl
  have hgq : w.heap.size ≤ G 3 := Nat.le_trans hB.size hlq
  have hnaq : ga ≠ G 3 := Nat.ne_of_lt (Nat.lt_of_lt_of_le la hlq)
  have hnsq : gs ≠ G 3 := Nat.ne_of_lt (Nat.lt_of_lt_of_le ls hlq)
  have hnnq : gn ≠ G 3 := Nat.ne_of_lt (Nat.lt_of_lt_of_le ln hlq)
  have hnlq : gl ≠ G 3 := Nat.ne_of_lt (Nat.lt_of_lt_of_le ll hlq)
  clear hlq
  clear ca0 ca1 ca2 ca3 ca4 ca5 fa la
  clear cs0 cs1 cs2 cs3 cs4 cs5 fs ls
  clear cn0 cn1 cn2 cn3 cn4 cn5 fn ln
  clear cl0 cl1 cl2 cl3 cl4 cl5 fl ll
  replace hB : Below w.heap.size w w11 := Bl_trans hB hb
  simp only [putAll, isAlloc, Act.put]
  generalize G 3 = gq at *
  clear hb hgr hblk hdist
  have ca0 : w11.cell? ⟨ga, 0, none⟩ = some (uv vA.b.v) := Ba.cell 0
  have ca1 : w11.cell? ⟨ga, 1, none⟩ = some (uv vA.b.m) := Ba.cell 1
  have ca2 : w11.cell? ⟨ga, 2, none⟩ = some (uv vA.lo) := Ba.cell 2
  have ca3 : w11.cell? ⟨ga, 3, none⟩ = some (uv vA.hi) := Ba.cell 3
  have ca4 : w11.cell? ⟨ga, 4, none⟩ = some (sv vA.sl) := Ba.cell 4
  have ca5 : w11.cell? ⟨ga, 5, none⟩ = some (sv vA.sh) := Ba.cell 5
  have fa := Ba.frozen
  have la := Ba.lt
  have cs0 : w11.cell? ⟨gs, 0, none⟩ = some (uv vS.b.v) := Bs.cell 0
  have cs1 : w11.cell? ⟨gs, 1, none⟩ = some (uv vS.b.m) := Bs.cell 1
  have cs2 : w11.cell? ⟨gs, 2, none⟩ = some (uv vS.lo) := Bs.cell 2
  have cs3 : w11.cell? ⟨gs, 3, none⟩ = some (uv vS.hi) := Bs.cell 3
  have cs4 : w11.cell? ⟨gs, 4, none⟩ = some (sv vS.sl) := Bs.cell 4
  have cs5 : w11.cell? ⟨gs, 5, none⟩ = some (sv vS.sh) := Bs.cell 5
  have fs := Bs.frozen
  have ls := Bs.lt
  have cn0 : w11.cell? ⟨gn, 0, none⟩ = some (uv vN.b.v) := Bn.cell 0
  have cn1 : w11.cell? ⟨gn, 1, none⟩ = some (uv vN.b.m) := Bn.cell 1
  have cn2 : w11.cell? ⟨gn, 2, none⟩ = some (uv vN.lo) := Bn.cell 2
  have cn3 : w11.cell? ⟨gn, 3, none⟩ = some (uv vN.hi) := Bn.cell 3
  have cn4 : w11.cell? ⟨gn, 4, none⟩ = some (sv vN.sl) := Bn.cell 4
  have cn5 : w11.cell? ⟨gn, 5, none⟩ = some (sv vN.sh) := Bn.cell 5
  have fn := Bn.frozen
  have ln := Bn.lt
  have cl0 : w11.cell? ⟨gl, 0, none⟩ = some (uv vL.b.v) := Bl.cell 0
  have cl1 : w11.cell? ⟨gl, 1, none⟩ = some (uv vL.b.m) := Bl.cell 1
  have cl2 : w11.cell? ⟨gl, 2, none⟩ = some (uv vL.lo) := Bl.cell 2
  have cl3 : w11.cell? ⟨gl, 3, none⟩ = some (uv vL.hi) := Bl.cell 3
  have cl4 : w11.cell? ⟨gl, 4, none⟩ = some (sv vL.sl) := Bl.cell 4
  have cl5 : w11.cell? ⟨gl, 5, none⟩ = some (sv vL.sh) := Bl.cell 5
  have fl := Bl.frozen
  have ll := Bl.lt
  have cq0 : w11.cell? ⟨gq, 0, none⟩ = some (.int .u64 0) := Bq.cell 0
  have cq1 : w11.cell? ⟨gq, 1, none⟩ = some (.int .u64 0) := Bq.cell 1
  have cq2 : w11.cell? ⟨gq, 2, none⟩ = some (.int .u64 0) := Bq.cell 2
  have cq3 : w11.cell? ⟨gq, 3, none⟩ = some (.int .u64 0) := Bq.cell 3
  have cq4 : w11.cell? ⟨gq, 4, none⟩ = some (.int .i64 0) := Bq.cell 4
  have cq5 : w11.cell? ⟨gq, 5, none⟩ = some (.int .i64 0) := Bq.cell 5
  have fq := Bq.frozen
  have lq := Bq.lt
  go_upto_region 7 with fail
  clear ca0 ca1 ca2 ca3 ca4 ca5 fa la
  clear cs0 cs1 cs2 cs3 cs4 cs5 fs ls
  clear cn0 cn1 cn2 cn3 cn4 cn5 fn ln
  clear cl0 cl1 cl2 cl3 cl4 cl5 fl ll
  clear cq0 cq1 cq2 cq3 cq4 cq5 fq lq
  replace Ba : Blk ((((((w11.setCell ⟨gq, 0, none⟩ (uv vR.b.v)).setCell ⟨gq, 1, none⟩ (uv vR.b.m)).setCell ⟨gq, 2, none⟩ (uv vR.lo)).setCell ⟨gq, 3, none⟩ (uv vR.hi)).setCell ⟨gq, 4, none⟩ (sv vR.sl)).setCell ⟨gq, 5, none⟩ (sv vR.sh)) (ga) 39 #[uv vA.b.v, uv vA.b.m, uv vA.lo, uv vA.hi, sv vA.sl, sv vA.sh] := ((((((Ba.far (by first | (simp; done) | (simp; omega) | (simp [*]; done) | (simp only [ne_eq]; constructor <;> omega)) _).far (by first | (simp; done) | (simp; omega) | (simp [*]; done) | (simp only [ne_eq]; constructor <;> omega)) _).far (by first | (simp; done) | (simp; omega) | (simp [*]; done) | (simp only [ne_eq]; constructor <;> omega)) _).far (by first | (simp; done) | (simp; omega) | (simp [*]; done) | (simp only [ne_eq]; constructor <;> omega)) _).far (by first | (simp; done) | (simp; omega) | (simp [*]; done) | (simp only [ne_eq]; constructor <;> omega)) _).far (by first | (simp; done) | (simp; omega) | (simp [*]; done) | (simp only [ne_eq]; constructor <;> omega)) _)
  replace Bs : Blk ((((((w11.setCell ⟨gq, 0, none⟩ (uv vR.b.v)).setCell ⟨gq, 1, none⟩ (uv vR.b.m)).setCell ⟨gq, 2, none⟩ (uv vR.lo)).setCell ⟨gq, 3, none⟩ (uv vR.hi)).setCell ⟨gq, 4, none⟩ (sv vR.sl)).setCell ⟨gq, 5, none⟩ (sv vR.sh)) (gs) 39 #[uv vS.b.v, uv vS.b.m, uv vS.lo, uv vS.hi, sv vS.sl, sv vS.sh] := ((((((Bs.far (by first | (simp; done) | (simp; omega) | (simp [*]; done) | (simp only [ne_eq]; constructor <;> omega)) _).far (by first | (simp; done) | (simp; omega) | (simp [*]; done) | (simp only [ne_eq]; constructor <;> omega)) _).far (by first | (simp; done) | (simp; omega) | (simp [*]; done) | (simp only [ne_eq]; constructor <;> omega)) _).far (by first | (simp; done) | (simp; omega) | (simp [*]; done) | (simp only [ne_eq]; constructor <;> omega)) _).far (by first | (simp; done) | (simp; omega) | (simp [*]; done) | (simp only [ne_eq]; constructor <;> omega)) _).far (by first | (simp; done) | (simp; omega) | (simp [*]; done) | (simp only [ne_eq]; constructor <;> omega)) _)
  replace Bn : Blk ((((((w11.setCell ⟨gq, 0, none⟩ (uv vR.b.v)).setCell ⟨gq, 1, none⟩ (uv vR.b.m)).setCell ⟨gq, 2, none⟩ (uv vR.lo)).setCell ⟨gq, 3, none⟩ (uv vR.hi)).setCell ⟨gq, 4, none⟩ (sv vR.sl)).setCell ⟨gq, 5, none⟩ (sv vR.sh)) (gn) 39 #[uv vN.b.v, uv vN.b.m, uv vN.lo, uv vN.hi, sv vN.sl, sv vN.sh] := ((((((Bn.far (by first | (simp; done) | (simp; omega) | (simp [*]; done) | (simp only [ne_eq]; constructor <;> omega)) _).far (by first | (simp; done) | (simp; omega) | (simp [*]; done) | (simp only [ne_eq]; constructor <;> omega)) _).far (by first | (simp; done) | (simp; omega) | (simp [*]; done) | (simp only [ne_eq]; constructor <;> omega)) _).far (by first | (simp; done) | (simp; omega) | (simp [*]; done) | (simp only [ne_eq]; constructor <;> omega)) _).far (by first | (simp; done) | (simp; omega) | (simp [*]; done) | (simp only [ne_eq]; constructor <;> omega)) _).far (by first | (simp; done) | (simp; omega) | (simp [*]; done) | (simp only [ne_eq]; constructor <;> omega)) _)
  replace Bl : Blk ((((((w11.setCell ⟨gq, 0, none⟩ (uv vR.b.v)).setCell ⟨gq, 1, none⟩ (uv vR.b.m)).setCell ⟨gq, 2, none⟩ (uv vR.lo)).setCell ⟨gq, 3, none⟩ (uv vR.hi)).setCell ⟨gq, 4, none⟩ (sv vR.sl)).setCell ⟨gq, 5, none⟩ (sv vR.sh)) (gl) 39 #[uv vL.b.v, uv vL.b.m, uv vL.lo, uv vL.hi, sv vL.sl, sv vL.sh] := ((((((Bl.far (by first | (simp; done) | (simp; omega) | (simp [*]; done) | (simp only [ne_eq]; constructor <;> omega)) _).far (by first | (simp; done) | (simp; omega) | (simp [*]; done) | (simp only [ne_eq]; constructor <;> omega)) _).far (by first | (simp; done) | (simp; omega) | (simp [*]; done) | (simp only [ne_eq]; constructor <;> omega)) _).far (by first | (simp; done) | (simp; omega) | (simp [*]; done) | (simp only [ne_eq]; constructor <;> omega)) _).far (by first | (simp; done) | (simp; omega) | (simp [*]; done) | (simp only [ne_eq]; constructor <;> omega)) _).far (by first | (simp; done) | (simp; omega) | (simp [*]; done) | (simp only [ne_eq]; constructor <;> omega)) _)
  replace Bq : Blk ((((((w11.setCell ⟨gq, 0, none⟩ (uv vR.b.v)).setCell ⟨gq, 1, none⟩ (uv vR.b.m)).setCell ⟨gq, 2, none⟩ (uv vR.lo)).setCell ⟨gq, 3, none⟩ (uv vR.hi)).setCell ⟨gq, 4, none⟩ (sv vR.sl)).setCell ⟨gq, 5, none⟩ (sv vR.sh)) (gq) 39 #[uv vR.b.v, uv vR.b.m, uv vR.lo, uv vR.hi, sv vR.sl, sv vR.sh] := ((((((Bq.set_ 0 _).set_ 1 _).set_ 2 _).set_ 3 _).set_ 4 _).set_ 5 _)
  replace hB : Below w.heap.size w ((((((w11.setCell ⟨gq, 0, none⟩ (uv vR.b.v)).setCell ⟨gq, 1, none⟩ (uv vR.b.m)).setCell ⟨gq, 2, none⟩ (uv vR.lo)).setCell ⟨gq, 3, none⟩ (uv vR.hi)).setCell ⟨gq, 4, none⟩ (sv vR.sl)).setCell ⟨gq, 5, none⟩ (sv vR.sh)) := (Bl_set (Bl_set (Bl_set (Bl_set (Bl_set (Bl_set hB (by first | omega | (simp; done) | (simp; omega)) _) (by first | omega | (simp; done) | (simp; omega)) _) (by first | omega | (simp; done) | (simp; omega)) _) (by first | omega | (simp; done) | (simp; omega)) _) (by first | omega | (simp; done) | (simp; omega)) _) (by first | omega | (simp; done) | (simp; omega)) _)
  generalize ((((((w11.setCell ⟨gq, 0, none⟩ (uv vR.b.v)).setCell ⟨gq, 1, none⟩ (uv vR.b.m)).setCell ⟨gq, 2, none⟩ (uv vR.lo)).setCell ⟨gq, 3, none⟩ (uv vR.hi)).setCell ⟨gq, 4, none⟩ (sv vR.sl)).setCell ⟨gq, 5, none⟩ (sv vR.sh)) = w12 at *
  have ca0 : w12.cell? ⟨ga, 0, none⟩ = some (uv vA.b.v) := Ba.cell 0
  have ca1 : w12.cell? ⟨ga, 1, none⟩ = some (uv vA.b.m) := Ba.cell 1
  have ca2 : w12.cell? ⟨ga, 2, none⟩ = some (uv vA.lo) := Ba.cell 2
  have ca3 : w12.cell? ⟨ga, 3, none⟩ = some (uv vA.hi) := Ba.cell 3
  have ca4 : w12.cell? ⟨ga, 4, none⟩ = some (sv vA.sl) := Ba.cell 4
  have ca5 : w12.cell? ⟨ga, 5, none⟩ = some (sv vA.sh) := Ba.cell 5
  have fa := Ba.frozen
  have la := Ba.lt
  have cs0 : w12.cell? ⟨gs, 0, none⟩ = some (uv vS.b.v) := Bs.cell 0
  have cs1 : w12.cell? ⟨gs, 1, none⟩ = some (uv vS.b.m) := Bs.cell 1
  have cs2 : w12.cell? ⟨gs, 2, none⟩ = some (uv vS.lo) := Bs.cell 2
  have cs3 : w12.cell? ⟨gs, 3, none⟩ = some (uv vS.hi) := Bs.cell 3
  have cs4 : w12.cell? ⟨gs, 4, none⟩ = some (sv vS.sl) := Bs.cell 4
  have cs5 : w12.cell? ⟨gs, 5, none⟩ = some (sv vS.sh) := Bs.cell 5
  have fs := Bs.frozen
  have ls := Bs.lt
  have cn0 : w12.cell? ⟨gn, 0, none⟩ = some (uv vN.b.v) := Bn.cell 0
  have cn1 : w12.cell? ⟨gn, 1, none⟩ = some (uv vN.b.m) := Bn.cell 1
  have cn2 : w12.cell? ⟨gn, 2, none⟩ = some (uv vN.lo) := Bn.cell 2
  have cn3 : w12.cell? ⟨gn, 3, none⟩ = some (uv vN.hi) := Bn.cell 3
  have cn4 : w12.cell? ⟨gn, 4, none⟩ = some (sv vN.sl) := Bn.cell 4
  have cn5 : w12.cell? ⟨gn, 5, none⟩ = some (sv vN.sh) := Bn.cell 5
  have fn := Bn.frozen
  have ln := Bn.lt
  have cl0 : w12.cell? ⟨gl, 0, none⟩ = some (uv vL.b.v) := Bl.cell 0
  have cl1 : w12.cell? ⟨gl, 1, none⟩ = some (uv vL.b.m) := Bl.cell 1
  have cl2 : w12.cell? ⟨gl, 2, none⟩ = some (uv vL.lo) := Bl.cell 2
  have cl3 : w12.cell? ⟨gl, 3, none⟩ = some (uv vL.hi) := Bl.cell 3
  have cl4 : w12.cell? ⟨gl, 4, none⟩ = some (sv vL.sl) := Bl.cell 4
  have cl5 : w12.cell? ⟨gl, 5, none⟩ = some (sv vL.sh) := Bl.cell 5
  have fl := Bl.frozen
  have ll := Bl.lt
  have cq0 : w12.cell? ⟨gq, 0, none⟩ = some (uv vR.b.v) := Bq.cell 0
  have cq1 : w12.cell? ⟨gq, 1, none⟩ = some (uv vR.b.m) := Bq.cell 1
  have cq2 : w12.cell? ⟨gq, 2, none⟩ = some (uv vR.lo) := Bq.cell 2
  have cq3 : w12.cell? ⟨gq, 3, none⟩ = some (uv vR.hi) := Bq.cell 3
  have cq4 : w12.cell? ⟨gq, 4, none⟩ = some (sv vR.sl) := Bq.cell 4
  have cq5 : w12.cell? ⟨gq, 5, none⟩ = some (sv vR.sh) := Bq.cell 5
  have fq := Bq.frozen
  have lq := Bq.lt
  go_wp2_with fail
  replace ca0 : ∀ g : Later w12, g.w.cell? ⟨ga, 0, none⟩ = some (uv vA.b.v) := fun g => g.cell (Ba.cell 0)
  replace ca1 : ∀ g : Later w12, g.w.cell? ⟨ga, 1, none⟩ = some (uv vA.b.m) := fun g => g.cell (Ba.cell 1)
  replace ca2 : ∀ g : Later w12, g.w.cell? ⟨ga, 2, none⟩ = some (uv vA.lo) := fun g => g.cell (Ba.cell 2)
  replace ca3 : ∀ g : Later w12, g.w.cell? ⟨ga, 3, none⟩ = some (uv vA.hi) := fun g => g.cell (Ba.cell 3)
  replace ca4 : ∀ g : Later w12, g.w.cell? ⟨ga, 4, none⟩ = some (sv vA.sl) := fun g => g.cell (Ba.cell 4)
  replace ca5 : ∀ g : Later w12, g.w.cell? ⟨ga, 5, none⟩ = some (sv vA.sh) := fun g => g.cell (Ba.cell 5)
  replace cs0 : ∀ g : Later w12, g.w.cell? ⟨gs, 0, none⟩ = some (uv vS.b.v) := fun g => g.cell (Bs.cell 0)
  replace cs1 : ∀ g : Later w12, g.w.cell? ⟨gs, 1, none⟩ = some (uv vS.b.m) := fun g => g.cell (Bs.cell 1)
  replace cs2 : ∀ g : Later w12, g.w.cell? ⟨gs, 2, none⟩ = some (uv vS.lo) := fun g => g.cell (Bs.cell 2)
  replace cs3 : ∀ g : Later w12, g.w.cell? ⟨gs, 3, none⟩ = some (uv vS.hi) := fun g => g.cell (Bs.cell 3)
  replace cs4 : ∀ g : Later w12, g.w.cell? ⟨gs, 4, none⟩ = some (sv vS.sl) := fun g => g.cell (Bs.cell 4)
  replace cs5 : ∀ g : Later w12, g.w.cell? ⟨gs, 5, none⟩ = some (sv vS.sh) := fun g => g.cell (Bs.cell 5)
  replace cn0 : ∀ g : Later w12, g.w.cell? ⟨gn, 0, none⟩ = some (uv vN.b.v) := fun g => g.cell (Bn.cell 0)
  replace cn1 : ∀ g : Later w12, g.w.cell? ⟨gn, 1, none⟩ = some (uv vN.b.m) := fun g => g.cell (Bn.cell 1)
  replace cn2 : ∀ g : Later w12, g.w.cell? ⟨gn, 2, none⟩ = some (uv vN.lo) := fun g => g.cell (Bn.cell 2)
  replace cn3 : ∀ g : Later w12, g.w.cell? ⟨gn, 3, none⟩ = some (uv vN.hi) := fun g => g.cell (Bn.cell 3)
  replace cn4 : ∀ g : Later w12, g.w.cell? ⟨gn, 4, none⟩ = some (sv vN.sl) := fun g => g.cell (Bn.cell 4)
  replace cn5 : ∀ g : Later w12, g.w.cell? ⟨gn, 5, none⟩ = some (sv vN.sh) := fun g => g.cell (Bn.cell 5)
  replace cl0 : ∀ g : Later w12, g.w.cell? ⟨gl, 0, none⟩ = some (uv vL.b.v) := fun g => g.cell (Bl.cell 0)
  replace cl1 : ∀ g : Later w12, g.w.cell? ⟨gl, 1, none⟩ = some (uv vL.b.m) := fun g => g.cell (Bl.cell 1)
  replace cl2 : ∀ g : Later w12, g.w.cell? ⟨gl, 2, none⟩ = some (uv vL.lo) := fun g => g.cell (Bl.cell 2)
  replace cl3 : ∀ g : Later w12, g.w.cell? ⟨gl, 3, none⟩ = some (uv vL.hi) := fun g => g.cell (Bl.cell 3)
  replace cl4 : ∀ g : Later w12, g.w.cell? ⟨gl, 4, none⟩ = some (sv vL.sl) := fun g => g.cell (Bl.cell 4)
  replace cl5 : ∀ g : Later w12, g.w.cell? ⟨gl, 5, none⟩ = some (sv vL.sh) := fun g => g.cell (Bl.cell 5)
  replace cq0 : ∀ g : Later w12, g.w.cell? ⟨gq, 0, none⟩ = some (uv vR.b.v) := fun g => g.cell (Bq.cell 0)
  replace cq1 : ∀ g : Later w12, g.w.cell? ⟨gq, 1, none⟩ = some (uv vR.b.m) := fun g => g.cell (Bq.cell 1)
  replace cq2 : ∀ g : Later w12, g.w.cell? ⟨gq, 2, none⟩ = some (uv vR.lo) := fun g => g.cell (Bq.cell 2)
  replace cq3 : ∀ g : Later w12, g.w.cell? ⟨gq, 3, none⟩ = some (uv vR.hi) := fun g => g.cell (Bq.cell 3)
  replace cq4 : ∀ g : Later w12, g.w.cell? ⟨gq, 4, none⟩ = some (sv vR.sl) := fun g => g.cell (Bq.cell 4)
  replace cq5 : ∀ g : Later w12, g.w.cell? ⟨gq, 5, none⟩ = some (sv vR.sh) := fun g => g.cell (Bq.cell 5)
  refine wp_region_mix 38 (fun _ => #[]) (by kernel_rfl) (by kernel_rfl) (no_alloc (by kernel_rfl)) ?_
  simp only [List.take_succ_cons, List.take_zero, List.drop_succ_cons, List.drop_zero]
  repeat (refine wpMix_step (fun K hK => ?_); go_simp; first | (refine hK _ ?_; clear hK K) | (apply Exists.intro; refine ⟨fun g => ?_, hK _ ?_⟩; ((with_reducible refine Calls.mono (evals_c g.w) ?_); exact fun _ _ h => h); clear hK K) | (apply Exists.intro; refine ⟨fun g => ?_, hK _ ?_⟩; ((with_reducible refine Calls.mono (shast_c vA x HA g.w) ?_); exact fun _ _ h => h); clear hK K) | (apply Exists.intro; refine ⟨fun g => ?_, hK _ ?_⟩; ((with_reducible refine Calls.mono (shast_c vS _ H_vS g.w) ?_); exact fun _ _ h => h); clear hK K) | (apply Exists.intro; refine ⟨fun g => ?_, hK _ ?_⟩; ((with_reducible refine Calls.mono (shast_c vN _ H_vN g.w) ?_); exact fun _ _ h => h); clear hK K) | (apply Exists.intro; refine ⟨fun g => ?_, hK _ ?_⟩; ((with_reducible refine Calls.mono (shast_c vL _ H_vL g.w) ?_); exact fun _ _ h => h); clear hK K) | (apply Exists.intro; refine ⟨fun g => ?_, hK _ ?_⟩; ((with_reducible refine Calls.mono (shast_c vR _ H_vR g.w) ?_); exact fun _ _ h => h); clear hK K))
  refine wpMix_nil ?_
  intro G w13 hgr hblk hdist
  have hb : Below w12.heap.size w12 w13 := hgr
  replace Ba := Ba.next hb
  replace Bs := Bs.next hb
  replace Bn := Bn.next hb
  replace Bl := Bl.next hb
  replace Bq := Bq.next hb
  clear ca0 ca1 ca2 ca3 ca4 ca5 fa la
  clear cs0 cs1 cs2 cs3 cs4 cs5 fs ls
  clear cn0 cn1 cn2 cn3 cn4 cn5 fn ln
  clear cl0 cl1 cl2 cl3 cl4 cl5 fl ll
  clear cq0 cq1 cq2 cq3 cq4 cq5 fq lq
  replace hB : Below w.heap.size w w13 := Bl_trans hB hb
  simp only [putAll, isAlloc]
  clear hb hgr hblk hdist
  have ca0 : w13.cell? ⟨ga, 0, none⟩ = some (uv vA.b.v) := Ba.cell 0
  have ca1 : w13.cell? ⟨ga, 1, none⟩ = some (uv vA.b.m) := Ba.cell 1
  have ca2 : w13.cell? ⟨ga, 2, none⟩ = some (uv vA.lo) := Ba.cell 2
  have ca3 : w13.cell? ⟨ga, 3, none⟩ = some (uv vA.hi) := Ba.cell 3
  have ca4 : w13.cell? ⟨ga, 4, none⟩ = some (sv vA.sl) := Ba.cell 4
  have ca5 : w13.cell? ⟨ga, 5, none⟩ = some (sv vA.sh) := Ba.cell 5
  have fa := Ba.frozen
  have la := Ba.lt
  have cs0 : w13.cell? ⟨gs, 0, none⟩ = some (uv vS.b.v) := Bs.cell 0
  have cs1 : w13.cell? ⟨gs, 1, none⟩ = some (uv vS.b.m) := Bs.cell 1
  have cs2 : w13.cell? ⟨gs, 2, none⟩ = some (uv vS.lo) := Bs.cell 2
  have cs3 : w13.cell? ⟨gs, 3, none⟩ = some (uv vS.hi) := Bs.cell 3
  have cs4 : w13.cell? ⟨gs, 4, none⟩ = some (sv vS.sl) := Bs.cell 4
  have cs5 : w13.cell? ⟨gs, 5, none⟩ = some (sv vS.sh) := Bs.cell 5
  have fs := Bs.frozen
  have ls := Bs.lt
  have cn0 : w13.cell? ⟨gn, 0, none⟩ = some (uv vN.b.v) := Bn.cell 0
  have cn1 : w13.cell? ⟨gn, 1, none⟩ = some (uv vN.b.m) := Bn.cell 1
  have cn2 : w13.cell? ⟨gn, 2, none⟩ = some (uv vN.lo) := Bn.cell 2
  have cn3 : w13.cell? ⟨gn, 3, none⟩ = some (uv vN.hi) := Bn.cell 3
  have cn4 : w13.cell? ⟨gn, 4, none⟩ = some (sv vN.sl) := Bn.cell 4
  have cn5 : w13.cell? ⟨gn, 5, none⟩ = some (sv vN.sh) := Bn.cell 5
  have fn := Bn.frozen
  have ln := Bn.lt
  have cl0 : w13.cell? ⟨gl, 0, none⟩ = some (uv vL.b.v) := Bl.cell 0
  have cl1 : w13.cell? ⟨gl, 1, none⟩ = some (uv vL.b.m) := Bl.cell 1
  have cl2 : w13.cell? ⟨gl, 2, none⟩ = some (uv vL.lo) := Bl.cell 2
  have cl3 : w13.cell? ⟨gl, 3, none⟩ = some (uv vL.hi) := Bl.cell 3
  have cl4 : w13.cell? ⟨gl, 4, none⟩ = some (sv vL.sl) := Bl.cell 4
  have cl5 : w13.cell? ⟨gl, 5, none⟩ = some (sv vL.sh) := Bl.cell 5
  have fl := Bl.frozen
  have ll := Bl.lt
  have cq0 : w13.cell? ⟨gq, 0, none⟩ = some (uv vR.b.v) := Bq.cell 0
  have cq1 : w13.cell? ⟨gq, 1, none⟩ = some (uv vR.b.m) := Bq.cell 1
  have cq2 : w13.cell? ⟨gq, 2, none⟩ = some (uv vR.lo) := Bq.cell 2
  have cq3 : w13.cell? ⟨gq, 3, none⟩ = some (uv vR.hi) := Bq.cell 3
  have cq4 : w13.cell? ⟨gq, 4, none⟩ = some (sv vR.sl) := Bq.cell 4
  have cq5 : w13.cell? ⟨gq, 5, none⟩ = some (sv vR.sh) := Bq.cell 5
  have fq := Bq.frozen
  have lq := Bq.lt
  go_wp2
  go_ret
  exact ⟨rfl, by repeat (first | exact hB | (refine Bl_set ?_ (by first | omega | (simp; omega)) _) | apply Bl_alloc)⟩
theorem walkN_ScalarKnown (x : Int) (l0 : 0 ≤ x) (h0 : x ≤ 255) (y : Int) (l1 : 0 ≤ y) (h1 : y ≤ 255) (k : Int) (lo : -9223372036854775808 ≤ k) (hi : k ≤ 9223372036854775807) (w : World) : Calls Try.prog 5 #[.int .u8 x, .int .u8 y, .int .i64 k] w fun e w' => e = .returned (.bool true) ∧ Below w.heap.size w w' := by
  have key : ∀ z : Int, 0 ≤ z → z ≤ 255 → ∃ X : W, z = T X ∧ X.toNat < 256 := fun z a b => ⟨BitVec.ofNat 64 z.toNat, by unfold T; rw [BitVec.toNat_ofNat]; omega, by rw [BitVec.toNat_ofNat]; omega⟩
  obtain ⟨X, rfl, hX⟩ := key x l0 h0
  obtain ⟨Y, rfl, hY⟩ := key y l1 h1
  exact walk_ScalarKnown X Y hX hY k w
namespace scalarKnown
set_option maxRecDepth 100000 in
theorem lifted (os : Os) (started : os.Started) (H : Type) (enc : TypeId × Value → H) :
    ReturnsInHanded {} Try.checked os 5 .any (Rows.scalarKnownSpec.pre6 enc Try.prog Try.f5 Rows.scalarKnownRow.domain false) (Rows.scalarKnownSpec.post enc Try.prog Try.f5 false true false false) := by
  refine returnsInHanded_of_change (C := Try.checked) own started (by kernel_rfl) Try.func5
    (ChangeSpec.witness6 (enc := enc) (C := Try.checked) false ⟨#[], #[.int .u8 0, .int .u8 0, .int .i64 0], []⟩ 8 (by kernel_rfl) (by kernel_rfl) (by kernel_rfl) (by kernel_rfl)) ?_
  intro W base args ds gs before hval0 hW hcnd _
  have hval : ∀ (j : Nat) t v, Try.f5.params[j]? = some t → args[j]? = some v → Value.okWide Try.prog W .any base t v := hval0
  have hW' := hW
  obtain ⟨p, q, hA0, hV, rfl, hfz, hnd⟩ := hW
  have hA : DataW.TrodAll enc Try.prog W 0 (fun _ => true) true Try.f5.params.toList args.toList ds p := hA0
  rw [Try.params5] at hA hval
  obtain ⟨v0, vs0, d0, ds0, p0, q0, hargs, rfl, rfl, h0, r0⟩ := trodAll_cons hA
  obtain ⟨v1, vs1, d1, ds1, p1, q1, rfl, rfl, rfl, h1, r1⟩ := trodAll_cons r0
  obtain ⟨v2, vs2, d2, ds2, p2, q2, rfl, rfl, rfl, h2, r2⟩ := trodAll_cons r1
  obtain ⟨rfl, rfl, rfl⟩ := trodAll_nil r2
  obtain rfl : args = #[v0, v1, v2] := by cases args; simp_all
  obtain ⟨rfl, rfl⟩ := trodVars_none hV
  have lt0 : ∀ x ∈ p0, x.block < W.heap.size := by obtain ⟨m, hm⟩ := h0; exact DataW.trod_lt m _ _ _ hm
  obtain ⟨x0, rfl, lo0, hi0⟩ := open_u8 Try.underlying5 (hval 0 5 v0 rfl rfl)
  have lt1 : ∀ x ∈ p1, x.block < W.heap.size := by obtain ⟨m, hm⟩ := h1; exact DataW.trod_lt m _ _ _ hm
  obtain ⟨x1, rfl, lo1, hi1⟩ := open_u8 Try.underlying5 (hval 1 5 v1 rfl rfl)
  have lt2 : ∀ x ∈ p2, x.block < W.heap.size := by obtain ⟨m, hm⟩ := h2; exact DataW.trod_lt m _ _ _ hm
  obtain ⟨x2, rfl, lo2, hi2⟩ := open_i64 Try.underlying3 (hval 2 3 v2 rfl rfl)
  refine (walkN_ScalarKnown x0 lo0 hi0 x1 lo1 hi1 x2 lo2 hi2 W).mono fun e W' ⟨he, bel⟩ => ?_
  subst he
  exact ⟨_, rfl, _, _, _, [], _, [], hW', trodAll_mk1 (shut_bool Try.underlying4 _), (trodAll_cons_mk (Below.trod laidOut (by kernel_rfl) (of_decide_eq_true (by kernel_rfl)) h0 bel lt0) (trodAll_cons_mk (Below.trod laidOut (by kernel_rfl) (of_decide_eq_true (by kernel_rfl)) h1 bel lt1) (trodAll_cons_mk (Below.trod laidOut (by kernel_rfl) (of_decide_eq_true (by kernel_rfl)) h2 bel lt2) trodAll_mk0))), rfl, bel.frame _, fun h => by cases h⟩
theorem over : Rows.scalarKnownRow.holds Try.pinned (OpenSpec.ofChange Rows.scalarKnownSpec) :=
  OpenClaim.holds_of_wide 5 Try.f5 rfl rfl rfl rfl rfl rfl rfl ⟨rfl, rfl, rfl, rfl, rfl⟩ rfl rfl rfl rfl rfl (by kernel_rfl) Try.func5 (by kernel_rfl)
    (of_decide_eq_true (by kernel_rfl)) (by unfold Func.isWrapper; first | (rw [if_pos (by decide +kernel)]; kernel_rfl) | (rw [if_neg (by decide +kernel)]; exact ⟨rfl, rfl⟩))
    (fun os started H enc _ => lifted os started H enc)
/-- The given statement. -/
theorem proved : Rows.ScalarKnownSaid := over
#print axioms proved
end scalarKnown
end Go.Proofs.Ytmghpoagpiljhac
