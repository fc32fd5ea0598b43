/- BranchBytes: for every comparison and all bytes the law returns true, and its arguments read as before. No condition. -/
import Derived.Test.YtmghpoagpiljhabOpen
import Derived.Test.YtmghpoagpiljhabBr7
set_option linter.unusedSimpArgs false
namespace Go.Proofs.Ytmghpoagpiljhab
open Go.ChangeShapes Go.WideShapes Go.ChangeAt Go.RowKit
open PlainTnum (N)
open PlainScalar (Rng)
set_option linter.unusedVariables false
set_option maxRecDepth 100000 in
set_option maxHeartbeats 3200000 in
theorem walk_BranchBytes (op : Int) (x y : W) (hx : x.toNat < 256) (hy : y.toNat < 256) (w : World) : Calls Try.prog 13 #[.int .i64 op, .int .u8 (T x), .int .u8 (T y)] w fun e w' => e = .returned (.bool true) ∧ Below w.heap.size w w' := by
  obtain ⟨n, hn, hby⟩ := rem_is 10 (by decide) (by decide) op
  replace hby : wrap64 ((IntKind.u64.wrap op).tmod 10) = (n : Int) := hby
  obtain ⟨K, hKo, hK⟩ : ∃ K : Int, PlainBranch.isOp K ∧ (#[.int .i64 1, .int .i64 2, .int .i64 3, .int .i64 5, .int .i64 6, .int .i64 7, .int .i64 10, .int .i64 11, .int .i64 12, .int .i64 13] : Array Value)[n]? = some (.int .i64 K) := by
    match n, hn with
    | 0, _ => exact ⟨1, by unfold PlainBranch.isOp; omega, rfl⟩
    | 1, _ => exact ⟨2, by unfold PlainBranch.isOp; omega, rfl⟩
    | 2, _ => exact ⟨3, by unfold PlainBranch.isOp; omega, rfl⟩
    | 3, _ => exact ⟨5, by unfold PlainBranch.isOp; omega, rfl⟩
    | 4, _ => exact ⟨6, by unfold PlainBranch.isOp; omega, rfl⟩
    | 5, _ => exact ⟨7, by unfold PlainBranch.isOp; omega, rfl⟩
    | 6, _ => exact ⟨10, by unfold PlainBranch.isOp; omega, rfl⟩
    | 7, _ => exact ⟨11, by unfold PlainBranch.isOp; omega, rfl⟩
    | 8, _ => exact ⟨12, by unfold PlainBranch.isOp; omega, rfl⟩
    | 9, _ => exact ⟨13, by unfold PlainBranch.isOp; omega, rfl⟩
  have HK := Lib.hid hK; clear hK
  obtain ⟨vA, e_vA⟩ : ∃ z' : Rng, z' = PlainScalar.low PlainScalar.any 1 := ⟨_, rfl⟩
  have k_vA : ∀ w : World, Calls Try.prog 27 #[rv PlainScalar.any, .int .i64 1] w fun e w' => e = .returned (rv vA) ∧ Below w.heap.size w w' := fun w => by rw [e_vA]; exact slow_c PlainScalar.any 1 w
  have HA : PlainScalar.Has vA x := by rw [e_vA]; have h := PlainScalar.low_has (PlainScalar.any_has x) 1; rwa [PlainScalar.lowW_small (.inl rfl) (by show x.toNat ≤ 255; omega)] at h
  obtain ⟨vY, e_vY⟩ : ∃ z' : Rng, z' = PlainScalar.const y := ⟨_, rfl⟩
  have k_vY : ∀ w : World, Calls Try.prog 34 #[uv y] w fun e w' => e = .returned (rv vY) ∧ Below w.heap.size w w' := fun w => by rw [e_vY]; exact sconst_c y w
  have HY : PlainScalar.Has vY y := by rw [e_vY]; exact PlainScalar.const_has y
  have hA9 : vA.hi.toNat ≤ 255 := by rw [e_vA]; decide +kernel
  clear e_vA e_vY
  have r1 := PlainBranch.refine_has (op := K) (long := true) hKo HA HY
  have k_H := rholds_c K true x y
  generalize PlainBranch.holds K true x y = H at *
  have i1 := PlainBranch.refine_in r1.1
  have k_R1 := refine_c K true vA vY H
  generalize PlainBranch.refine K true vA vY H = R at *
  obtain ⟨⟨u1, v1⟩, ok1⟩ := R
  obtain ⟨hok, hu, hv⟩ := r1; obtain ⟨hi, _⟩ := i1
  replace hok : ok1 = true := hok; subst hok
  replace k_R1 : ∀ w : World, Calls Try.prog 38 #[.int .i64 K, .bool true, rv vA, rv vY, .bool H] w fun e w' => e = .returned (.tuple #[rv u1, rv v1, .bool true]) ∧ Below w.heap.size w w' := k_R1
  replace hu : PlainScalar.Has u1 x := hu; replace hv : PlainScalar.Has v1 y := hv; replace hi : PlainScalar.within u1 vA = true := hi
  have hle : T u1.hi ≤ 255 := by unfold PlainScalar.within at hi; simp only [Bool.and_eq_true, decide_eq_true_eq] at hi; have := hi.1.1.2; unfold T; omega
  have uT1 := u64_T x; have uT2 := u64_T y; clear hKo
  go_enter Try.func13, Try.ntmps13
  go_upto_region 1 with fail
  have hB : Below w.heap.size w w := (Bl_refl w)
  go_upto_region 2 with fail
  have Bs := Blk.new w 3 #[.int .i64 1, .int .i64 2, .int .i64 3, .int .i64 5, .int .i64 6, .int .i64 7, .int .i64 10, .int .i64 11, .int .i64 12, .int .i64 13]
  have hgs := hB.size
  replace hB : Below w.heap.size w (w.alloc (.cells #[.int .i64 1, .int .i64 2, .int .i64 3, .int .i64 5, .int .i64 6, .int .i64 7, .int .i64 10, .int .i64 11, .int .i64 12, .int .i64 13] 3)) := Bl_alloc hB _
  generalize (w.alloc (.cells #[.int .i64 1, .int .i64 2, .int .i64 3, .int .i64 5, .int .i64 6, .int .i64 7, .int .i64 10, .int .i64 11, .int .i64 12, .int .i64 13] 3)) = w2 at *
  have cs0 : w2.cell? ⟨w.heap.size, 0, none⟩ = some (.int .i64 1) := Bs.cell 0
  have cs1 : w2.cell? ⟨w.heap.size, 1, none⟩ = some (.int .i64 2) := Bs.cell 1
  have cs2 : w2.cell? ⟨w.heap.size, 2, none⟩ = some (.int .i64 3) := Bs.cell 2
  have cs3 : w2.cell? ⟨w.heap.size, 3, none⟩ = some (.int .i64 5) := Bs.cell 3
  have cs4 : w2.cell? ⟨w.heap.size, 4, none⟩ = some (.int .i64 6) := Bs.cell 4
  have cs5 : w2.cell? ⟨w.heap.size, 5, none⟩ = some (.int .i64 7) := Bs.cell 5
  have cs6 : w2.cell? ⟨w.heap.size, 6, none⟩ = some (.int .i64 10) := Bs.cell 6
  have cs7 : w2.cell? ⟨w.heap.size, 7, none⟩ = some (.int .i64 11) := Bs.cell 7
  have cs8 : w2.cell? ⟨w.heap.size, 8, none⟩ = some (.int .i64 12) := Bs.cell 8
  have cs9 : w2.cell? ⟨w.heap.size, 9, none⟩ = some (.int .i64 13) := Bs.cell 9
  have fs := Bs.frozen; have ls := Bs.lt
  have cK := (Bs.cell n).trans HK.out
  go_wp2_with fail
  refine (sany_c _).mono ?_
  rintro e w3 ⟨rfl, hb⟩
  clear cs0 cs1 cs2 cs3 cs4 cs5 cs6 cs7 cs8 cs9 fs ls
  replace Bs := (Bs).next hb
  replace hB : Below w.heap.size w w3 := by repeat (first | exact hB | (refine Bl_set ?_ (by first | omega | (simp; omega)) _) | apply Bl_alloc | (refine Bl_trans ?_ hb))
  clear hb
  have cs0 : w3.cell? ⟨w.heap.size, 0, none⟩ = some (.int .i64 1) := Bs.cell 0
  have cs1 : w3.cell? ⟨w.heap.size, 1, none⟩ = some (.int .i64 2) := Bs.cell 1
  have cs2 : w3.cell? ⟨w.heap.size, 2, none⟩ = some (.int .i64 3) := Bs.cell 2
  have cs3 : w3.cell? ⟨w.heap.size, 3, none⟩ = some (.int .i64 5) := Bs.cell 3
  have cs4 : w3.cell? ⟨w.heap.size, 4, none⟩ = some (.int .i64 6) := Bs.cell 4
  have cs5 : w3.cell? ⟨w.heap.size, 5, none⟩ = some (.int .i64 7) := Bs.cell 5
  have cs6 : w3.cell? ⟨w.heap.size, 6, none⟩ = some (.int .i64 10) := Bs.cell 6
  have cs7 : w3.cell? ⟨w.heap.size, 7, none⟩ = some (.int .i64 11) := Bs.cell 7
  have cs8 : w3.cell? ⟨w.heap.size, 8, none⟩ = some (.int .i64 12) := Bs.cell 8
  have cs9 : w3.cell? ⟨w.heap.size, 9, none⟩ = some (.int .i64 13) := Bs.cell 9
  have fs := Bs.frozen; have ls := Bs.lt
  go_wp2_with fail
  refine (k_vA _).mono ?_
  rintro e w4 ⟨rfl, hb⟩
  clear cs0 cs1 cs2 cs3 cs4 cs5 cs6 cs7 cs8 cs9 fs ls
  replace Bs := (Bs).next hb
  replace hB : Below w.heap.size w w4 := by repeat (first | exact hB | (refine Bl_set ?_ (by first | omega | (simp; omega)) _) | apply Bl_alloc | (refine Bl_trans ?_ hb))
  clear hb
  have cs0 : w4.cell? ⟨w.heap.size, 0, none⟩ = some (.int .i64 1) := Bs.cell 0
  have cs1 : w4.cell? ⟨w.heap.size, 1, none⟩ = some (.int .i64 2) := Bs.cell 1
  have cs2 : w4.cell? ⟨w.heap.size, 2, none⟩ = some (.int .i64 3) := Bs.cell 2
  have cs3 : w4.cell? ⟨w.heap.size, 3, none⟩ = some (.int .i64 5) := Bs.cell 3
  have cs4 : w4.cell? ⟨w.heap.size, 4, none⟩ = some (.int .i64 6) := Bs.cell 4
  have cs5 : w4.cell? ⟨w.heap.size, 5, none⟩ = some (.int .i64 7) := Bs.cell 5
  have cs6 : w4.cell? ⟨w.heap.size, 6, none⟩ = some (.int .i64 10) := Bs.cell 6
  have cs7 : w4.cell? ⟨w.heap.size, 7, none⟩ = some (.int .i64 11) := Bs.cell 7
  have cs8 : w4.cell? ⟨w.heap.size, 8, none⟩ = some (.int .i64 12) := Bs.cell 8
  have cs9 : w4.cell? ⟨w.heap.size, 9, none⟩ = some (.int .i64 13) := Bs.cell 9
  have fs := Bs.frozen; have ls := Bs.lt
  go_upto_region 4 with fail
  clear cs0 cs1 cs2 cs3 cs4 cs5 cs6 cs7 cs8 cs9 fs ls
  have Ba := Blk.new w4 27 #[uv vA.b.v, uv vA.b.m, uv vA.lo, uv vA.hi, sv vA.sl, sv vA.sh]
  have hga := hB.size
  have hnsa := Nat.ne_of_lt Bs.lt; have hltsa := Bs.lt
  replace Bs : Blk (w4.alloc (.cells #[uv vA.b.v, uv vA.b.m, uv vA.lo, uv vA.hi, sv vA.sl, sv vA.sh] 27)) (w.heap.size) 3 #[.int .i64 1, .int .i64 2, .int .i64 3, .int .i64 5, .int .i64 6, .int .i64 7, .int .i64 10, .int .i64 11, .int .i64 12, .int .i64 13] := Bs.alloc _
  replace hB : Below w.heap.size w (w4.alloc (.cells #[uv vA.b.v, uv vA.b.m, uv vA.lo, uv vA.hi, sv vA.sl, sv vA.sh] 27)) := Bl_alloc hB _
  generalize (w4.alloc (.cells #[uv vA.b.v, uv vA.b.m, uv vA.lo, uv vA.hi, sv vA.sl, sv vA.sh] 27)) = w5 at *
  generalize w4.heap.size = ga at *
  have cs0 : w5.cell? ⟨w.heap.size, 0, none⟩ = some (.int .i64 1) := Bs.cell 0
  have cs1 : w5.cell? ⟨w.heap.size, 1, none⟩ = some (.int .i64 2) := Bs.cell 1
  have cs2 : w5.cell? ⟨w.heap.size, 2, none⟩ = some (.int .i64 3) := Bs.cell 2
  have cs3 : w5.cell? ⟨w.heap.size, 3, none⟩ = some (.int .i64 5) := Bs.cell 3
  have cs4 : w5.cell? ⟨w.heap.size, 4, none⟩ = some (.int .i64 6) := Bs.cell 4
  have cs5 : w5.cell? ⟨w.heap.size, 5, none⟩ = some (.int .i64 7) := Bs.cell 5
  have cs6 : w5.cell? ⟨w.heap.size, 6, none⟩ = some (.int .i64 10) := Bs.cell 6
  have cs7 : w5.cell? ⟨w.heap.size, 7, none⟩ = some (.int .i64 11) := Bs.cell 7
  have cs8 : w5.cell? ⟨w.heap.size, 8, none⟩ = some (.int .i64 12) := Bs.cell 8
  have cs9 : w5.cell? ⟨w.heap.size, 9, none⟩ = some (.int .i64 13) := Bs.cell 9
  have fs := Bs.frozen; have ls := Bs.lt
  obtain ⟨ca0, ca1, ca2, ca3, ca4, ca5⟩ := cells6 Ba
  have fa := Ba.frozen; have la := Ba.lt
  go_wp2_with fail
  refine (k_H _).mono ?_
  rintro e w6 ⟨rfl, hb⟩
  clear cs0 cs1 cs2 cs3 cs4 cs5 cs6 cs7 cs8 cs9 fs ls
  clear ca0 ca1 ca2 ca3 ca4 ca5 fa la
  replace Bs := (Bs).next hb
  replace Ba := (Ba).next hb
  replace hB : Below w.heap.size w w6 := by repeat (first | exact hB | (refine Bl_set ?_ (by first | omega | (simp; omega)) _) | apply Bl_alloc | (refine Bl_trans ?_ hb))
  clear hb
  have cs0 : w6.cell? ⟨w.heap.size, 0, none⟩ = some (.int .i64 1) := Bs.cell 0
  have cs1 : w6.cell? ⟨w.heap.size, 1, none⟩ = some (.int .i64 2) := Bs.cell 1
  have cs2 : w6.cell? ⟨w.heap.size, 2, none⟩ = some (.int .i64 3) := Bs.cell 2
  have cs3 : w6.cell? ⟨w.heap.size, 3, none⟩ = some (.int .i64 5) := Bs.cell 3
  have cs4 : w6.cell? ⟨w.heap.size, 4, none⟩ = some (.int .i64 6) := Bs.cell 4
  have cs5 : w6.cell? ⟨w.heap.size, 5, none⟩ = some (.int .i64 7) := Bs.cell 5
  have cs6 : w6.cell? ⟨w.heap.size, 6, none⟩ = some (.int .i64 10) := Bs.cell 6
  have cs7 : w6.cell? ⟨w.heap.size, 7, none⟩ = some (.int .i64 11) := Bs.cell 7
  have cs8 : w6.cell? ⟨w.heap.size, 8, none⟩ = some (.int .i64 12) := Bs.cell 8
  have cs9 : w6.cell? ⟨w.heap.size, 9, none⟩ = some (.int .i64 13) := Bs.cell 9
  have fs := Bs.frozen; have ls := Bs.lt
  obtain ⟨ca0, ca1, ca2, ca3, ca4, ca5⟩ := cells6 Ba
  have fa := Ba.frozen; have la := Ba.lt
  go_wp2_with fail
  replace cs0 : ∀ g : Later w6, g.w.cell? ⟨w.heap.size, 0, none⟩ = some (.int .i64 1) := fun g => g.cell (Bs.cell 0)
  replace cs1 : ∀ g : Later w6, g.w.cell? ⟨w.heap.size, 1, none⟩ = some (.int .i64 2) := fun g => g.cell (Bs.cell 1)
  replace cs2 : ∀ g : Later w6, g.w.cell? ⟨w.heap.size, 2, none⟩ = some (.int .i64 3) := fun g => g.cell (Bs.cell 2)
  replace cs3 : ∀ g : Later w6, g.w.cell? ⟨w.heap.size, 3, none⟩ = some (.int .i64 5) := fun g => g.cell (Bs.cell 3)
  replace cs4 : ∀ g : Later w6, g.w.cell? ⟨w.heap.size, 4, none⟩ = some (.int .i64 6) := fun g => g.cell (Bs.cell 4)
  replace cs5 : ∀ g : Later w6, g.w.cell? ⟨w.heap.size, 5, none⟩ = some (.int .i64 7) := fun g => g.cell (Bs.cell 5)
  replace cs6 : ∀ g : Later w6, g.w.cell? ⟨w.heap.size, 6, none⟩ = some (.int .i64 10) := fun g => g.cell (Bs.cell 6)
  replace cs7 : ∀ g : Later w6, g.w.cell? ⟨w.heap.size, 7, none⟩ = some (.int .i64 11) := fun g => g.cell (Bs.cell 7)
  replace cs8 : ∀ g : Later w6, g.w.cell? ⟨w.heap.size, 8, none⟩ = some (.int .i64 12) := fun g => g.cell (Bs.cell 8)
  replace cs9 : ∀ g : Later w6, g.w.cell? ⟨w.heap.size, 9, none⟩ = some (.int .i64 13) := fun g => g.cell (Bs.cell 9)
  clear ca0 ca1 ca2 ca3 ca4 ca5; obtain ⟨ca0, ca1, ca2, ca3, ca4, ca5⟩ := lcells6 Ba
  refine wp_region_mixL 13 (fun k => k == 9 || k == 10) (fun _ => #[.int .u64 0, .int .u64 0, .int .u64 0, .int .u64 0, .int .i64 0, .int .i64 0]) (by kernel_rfl) (by kernel_rfl) (fun d _ _ _ _ h => by cases d <;> exact h) (fun o t ho ht => by
    simp at ho
    rcases ho with rfl | rfl | rfl | rfl | rfl | rfl | rfl | rfl | rfl | rfl | rfl | rfl | rfl <;> first | (cases ht; done) | (obtain rfl := Option.some.inj ht; exact fun ρ w => new_rng14 ht ρ w)) ?_
  simp only [List.take_succ_cons, List.take_zero, List.drop_succ_cons, List.drop_zero]
  repeat (refine wpMixL_step (fun K hK => ?_); go_simp; first | (refine hK _ ?_; clear hK K) | (apply Exists.intro; refine ⟨fun g => ?_, hK _ ?_⟩; ((with_reducible refine Calls.mono (k_vY g.w) ?_); exact fun _ _ h => h); clear hK K) | (apply Exists.intro; refine ⟨fun g => ?_, hK _ ?_⟩; ((with_reducible refine Calls.mono (k_R1 g.w) ?_); exact fun _ _ h => h); clear hK K))
  refine wpMixL_nil ?_
  intro G w7 hgr hblk hdist
  have hb : Below w6.heap.size w6 w7 := hgr
  replace Bs := Bs.next hb
  replace Ba := Ba.next hb
  obtain ⟨Bp, hlp⟩ := hblk 11 _ rfl
  obtain ⟨Bo, hlo⟩ := hblk 12 _ rfl
  have hdpo := hdist 11 12 _ _ rfl rfl (by decide)
  have hgp : w.heap.size ≤ G 11 := Nat.le_trans hB.size hlp
  have hnsp : w.heap.size ≠ G 11 := Nat.ne_of_lt (Nat.lt_of_lt_of_le ls hlp)
  have hnap : ga ≠ G 11 := Nat.ne_of_lt (Nat.lt_of_lt_of_le la hlp)
  clear hlp
  have hgo : w.heap.size ≤ G 12 := Nat.le_trans hB.size hlo
  have hnso : w.heap.size ≠ G 12 := Nat.ne_of_lt (Nat.lt_of_lt_of_le ls hlo)
  have hnao : ga ≠ G 12 := Nat.ne_of_lt (Nat.lt_of_lt_of_le la hlo)
  clear hlo
  clear cs0 cs1 cs2 cs3 cs4 cs5 cs6 cs7 cs8 cs9 fs ls
  clear ca0 ca1 ca2 ca3 ca4 ca5 fa la
  replace hB : Below w.heap.size w w7 := Bl_trans hB hb
  simp only [putAll, isAlloc, Act.put]
  generalize G 11 = gp at *
  generalize G 12 = go at *
  clear hb hgr hblk hdist
  have cs0 : w7.cell? ⟨w.heap.size, 0, none⟩ = some (.int .i64 1) := Bs.cell 0
  have cs1 : w7.cell? ⟨w.heap.size, 1, none⟩ = some (.int .i64 2) := Bs.cell 1
  have cs2 : w7.cell? ⟨w.heap.size, 2, none⟩ = some (.int .i64 3) := Bs.cell 2
  have cs3 : w7.cell? ⟨w.heap.size, 3, none⟩ = some (.int .i64 5) := Bs.cell 3
  have cs4 : w7.cell? ⟨w.heap.size, 4, none⟩ = some (.int .i64 6) := Bs.cell 4
  have cs5 : w7.cell? ⟨w.heap.size, 5, none⟩ = some (.int .i64 7) := Bs.cell 5
  have cs6 : w7.cell? ⟨w.heap.size, 6, none⟩ = some (.int .i64 10) := Bs.cell 6
  have cs7 : w7.cell? ⟨w.heap.size, 7, none⟩ = some (.int .i64 11) := Bs.cell 7
  have cs8 : w7.cell? ⟨w.heap.size, 8, none⟩ = some (.int .i64 12) := Bs.cell 8
  have cs9 : w7.cell? ⟨w.heap.size, 9, none⟩ = some (.int .i64 13) := Bs.cell 9
  have fs := Bs.frozen; have ls := Bs.lt
  obtain ⟨ca0, ca1, ca2, ca3, ca4, ca5⟩ := cells6 Ba
  have fa := Ba.frozen; have la := Ba.lt
  obtain ⟨cp0, cp1, cp2, cp3, cp4, cp5⟩ := cells6 Bp
  have fp := Bp.frozen; have lp := Bp.lt
  obtain ⟨co0, co1, co2, co3, co4, co5⟩ := cells6 Bo
  have fo := Bo.frozen; have lo := Bo.lt
  go_upto_region 6 with fail
  clear cs0 cs1 cs2 cs3 cs4 cs5 cs6 cs7 cs8 cs9 fs ls
  clear ca0 ca1 ca2 ca3 ca4 ca5 fa la
  clear cp0 cp1 cp2 cp3 cp4 cp5 fp lp
  clear co0 co1 co2 co3 co4 co5 fo lo
  replace Bs : Blk ((((((w7.setCell ⟨gp, 0, none⟩ (uv u1.b.v)).setCell ⟨gp, 1, none⟩ (uv u1.b.m)).setCell ⟨gp, 2, none⟩ (uv u1.lo)).setCell ⟨gp, 3, none⟩ (uv u1.hi)).setCell ⟨gp, 4, none⟩ (sv u1.sl)).setCell ⟨gp, 5, none⟩ (sv u1.sh)) (w.heap.size) 3 #[.int .i64 1, .int .i64 2, .int .i64 3, .int .i64 5, .int .i64 6, .int .i64 7, .int .i64 10, .int .i64 11, .int .i64 12, .int .i64 13] := ((((((Bs.far (by first | (simp; done) | (simp; omega) | (simp [*]; done) | (simp only [ne_eq]; constructor <;> omega)) _).far (by first | (simp; done) | (simp; omega) | (simp [*]; done) | (simp only [ne_eq]; constructor <;> omega)) _).far (by first | (simp; done) | (simp; omega) | (simp [*]; done) | (simp only [ne_eq]; constructor <;> omega)) _).far (by first | (simp; done) | (simp; omega) | (simp [*]; done) | (simp only [ne_eq]; constructor <;> omega)) _).far (by first | (simp; done) | (simp; omega) | (simp [*]; done) | (simp only [ne_eq]; constructor <;> omega)) _).far (by first | (simp; done) | (simp; omega) | (simp [*]; done) | (simp only [ne_eq]; constructor <;> omega)) _)
  replace Ba : Blk ((((((w7.setCell ⟨gp, 0, none⟩ (uv u1.b.v)).setCell ⟨gp, 1, none⟩ (uv u1.b.m)).setCell ⟨gp, 2, none⟩ (uv u1.lo)).setCell ⟨gp, 3, none⟩ (uv u1.hi)).setCell ⟨gp, 4, none⟩ (sv u1.sl)).setCell ⟨gp, 5, none⟩ (sv u1.sh)) (ga) 27 #[uv vA.b.v, uv vA.b.m, uv vA.lo, uv vA.hi, sv vA.sl, sv vA.sh] := ((((((Ba.far (by first | (simp; done) | (simp; omega) | (simp [*]; done) | (simp only [ne_eq]; constructor <;> omega)) _).far (by first | (simp; done) | (simp; omega) | (simp [*]; done) | (simp only [ne_eq]; constructor <;> omega)) _).far (by first | (simp; done) | (simp; omega) | (simp [*]; done) | (simp only [ne_eq]; constructor <;> omega)) _).far (by first | (simp; done) | (simp; omega) | (simp [*]; done) | (simp only [ne_eq]; constructor <;> omega)) _).far (by first | (simp; done) | (simp; omega) | (simp [*]; done) | (simp only [ne_eq]; constructor <;> omega)) _).far (by first | (simp; done) | (simp; omega) | (simp [*]; done) | (simp only [ne_eq]; constructor <;> omega)) _)
  replace Bp : Blk ((((((w7.setCell ⟨gp, 0, none⟩ (uv u1.b.v)).setCell ⟨gp, 1, none⟩ (uv u1.b.m)).setCell ⟨gp, 2, none⟩ (uv u1.lo)).setCell ⟨gp, 3, none⟩ (uv u1.hi)).setCell ⟨gp, 4, none⟩ (sv u1.sl)).setCell ⟨gp, 5, none⟩ (sv u1.sh)) (gp) 27 #[uv u1.b.v, uv u1.b.m, uv u1.lo, uv u1.hi, sv u1.sl, sv u1.sh] := ((((((Bp.set_ 0 _).set_ 1 _).set_ 2 _).set_ 3 _).set_ 4 _).set_ 5 _)
  replace Bo : Blk ((((((w7.setCell ⟨gp, 0, none⟩ (uv u1.b.v)).setCell ⟨gp, 1, none⟩ (uv u1.b.m)).setCell ⟨gp, 2, none⟩ (uv u1.lo)).setCell ⟨gp, 3, none⟩ (uv u1.hi)).setCell ⟨gp, 4, none⟩ (sv u1.sl)).setCell ⟨gp, 5, none⟩ (sv u1.sh)) (go) 27 #[.int .u64 0, .int .u64 0, .int .u64 0, .int .u64 0, .int .i64 0, .int .i64 0] := ((((((Bo.far (by first | (simp; done) | (simp; omega) | (simp [*]; done) | (simp only [ne_eq]; constructor <;> omega)) _).far (by first | (simp; done) | (simp; omega) | (simp [*]; done) | (simp only [ne_eq]; constructor <;> omega)) _).far (by first | (simp; done) | (simp; omega) | (simp [*]; done) | (simp only [ne_eq]; constructor <;> omega)) _).far (by first | (simp; done) | (simp; omega) | (simp [*]; done) | (simp only [ne_eq]; constructor <;> omega)) _).far (by first | (simp; done) | (simp; omega) | (simp [*]; done) | (simp only [ne_eq]; constructor <;> omega)) _).far (by first | (simp; done) | (simp; omega) | (simp [*]; done) | (simp only [ne_eq]; constructor <;> omega)) _)
  replace hB : Below w.heap.size w ((((((w7.setCell ⟨gp, 0, none⟩ (uv u1.b.v)).setCell ⟨gp, 1, none⟩ (uv u1.b.m)).setCell ⟨gp, 2, none⟩ (uv u1.lo)).setCell ⟨gp, 3, none⟩ (uv u1.hi)).setCell ⟨gp, 4, none⟩ (sv u1.sl)).setCell ⟨gp, 5, none⟩ (sv u1.sh)) := (Bl_set (Bl_set (Bl_set (Bl_set (Bl_set (Bl_set hB (by first | omega | (simp; done) | (simp; omega)) _) (by first | omega | (simp; done) | (simp; omega)) _) (by first | omega | (simp; done) | (simp; omega)) _) (by first | omega | (simp; done) | (simp; omega)) _) (by first | omega | (simp; done) | (simp; omega)) _) (by first | omega | (simp; done) | (simp; omega)) _)
  replace Bs : Blk ((((((((((((w7.setCell ⟨gp, 0, none⟩ (uv u1.b.v)).setCell ⟨gp, 1, none⟩ (uv u1.b.m)).setCell ⟨gp, 2, none⟩ (uv u1.lo)).setCell ⟨gp, 3, none⟩ (uv u1.hi)).setCell ⟨gp, 4, none⟩ (sv u1.sl)).setCell ⟨gp, 5, none⟩ (sv u1.sh)).setCell ⟨go, 0, none⟩ (uv v1.b.v)).setCell ⟨go, 1, none⟩ (uv v1.b.m)).setCell ⟨go, 2, none⟩ (uv v1.lo)).setCell ⟨go, 3, none⟩ (uv v1.hi)).setCell ⟨go, 4, none⟩ (sv v1.sl)).setCell ⟨go, 5, none⟩ (sv v1.sh)) (w.heap.size) 3 #[.int .i64 1, .int .i64 2, .int .i64 3, .int .i64 5, .int .i64 6, .int .i64 7, .int .i64 10, .int .i64 11, .int .i64 12, .int .i64 13] := ((((((Bs.far (by first | (simp; done) | (simp; omega) | (simp [*]; done) | (simp only [ne_eq]; constructor <;> omega)) _).far (by first | (simp; done) | (simp; omega) | (simp [*]; done) | (simp only [ne_eq]; constructor <;> omega)) _).far (by first | (simp; done) | (simp; omega) | (simp [*]; done) | (simp only [ne_eq]; constructor <;> omega)) _).far (by first | (simp; done) | (simp; omega) | (simp [*]; done) | (simp only [ne_eq]; constructor <;> omega)) _).far (by first | (simp; done) | (simp; omega) | (simp [*]; done) | (simp only [ne_eq]; constructor <;> omega)) _).far (by first | (simp; done) | (simp; omega) | (simp [*]; done) | (simp only [ne_eq]; constructor <;> omega)) _)
  replace Ba : Blk ((((((((((((w7.setCell ⟨gp, 0, none⟩ (uv u1.b.v)).setCell ⟨gp, 1, none⟩ (uv u1.b.m)).setCell ⟨gp, 2, none⟩ (uv u1.lo)).setCell ⟨gp, 3, none⟩ (uv u1.hi)).setCell ⟨gp, 4, none⟩ (sv u1.sl)).setCell ⟨gp, 5, none⟩ (sv u1.sh)).setCell ⟨go, 0, none⟩ (uv v1.b.v)).setCell ⟨go, 1, none⟩ (uv v1.b.m)).setCell ⟨go, 2, none⟩ (uv v1.lo)).setCell ⟨go, 3, none⟩ (uv v1.hi)).setCell ⟨go, 4, none⟩ (sv v1.sl)).setCell ⟨go, 5, none⟩ (sv v1.sh)) (ga) 27 #[uv vA.b.v, uv vA.b.m, uv vA.lo, uv vA.hi, sv vA.sl, sv vA.sh] := ((((((Ba.far (by first | (simp; done) | (simp; omega) | (simp [*]; done) | (simp only [ne_eq]; constructor <;> omega)) _).far (by first | (simp; done) | (simp; omega) | (simp [*]; done) | (simp only [ne_eq]; constructor <;> omega)) _).far (by first | (simp; done) | (simp; omega) | (simp [*]; done) | (simp only [ne_eq]; constructor <;> omega)) _).far (by first | (simp; done) | (simp; omega) | (simp [*]; done) | (simp only [ne_eq]; constructor <;> omega)) _).far (by first | (simp; done) | (simp; omega) | (simp [*]; done) | (simp only [ne_eq]; constructor <;> omega)) _).far (by first | (simp; done) | (simp; omega) | (simp [*]; done) | (simp only [ne_eq]; constructor <;> omega)) _)
  replace Bp : Blk ((((((((((((w7.setCell ⟨gp, 0, none⟩ (uv u1.b.v)).setCell ⟨gp, 1, none⟩ (uv u1.b.m)).setCell ⟨gp, 2, none⟩ (uv u1.lo)).setCell ⟨gp, 3, none⟩ (uv u1.hi)).setCell ⟨gp, 4, none⟩ (sv u1.sl)).setCell ⟨gp, 5, none⟩ (sv u1.sh)).setCell ⟨go, 0, none⟩ (uv v1.b.v)).setCell ⟨go, 1, none⟩ (uv v1.b.m)).setCell ⟨go, 2, none⟩ (uv v1.lo)).setCell ⟨go, 3, none⟩ (uv v1.hi)).setCell ⟨go, 4, none⟩ (sv v1.sl)).setCell ⟨go, 5, none⟩ (sv v1.sh)) (gp) 27 #[uv u1.b.v, uv u1.b.m, uv u1.lo, uv u1.hi, sv u1.sl, sv u1.sh] := ((((((Bp.far (by first | (simp; done) | (simp; omega) | (simp [*]; done) | (simp only [ne_eq]; constructor <;> omega)) _).far (by first | (simp; done) | (simp; omega) | (simp [*]; done) | (simp only [ne_eq]; constructor <;> omega)) _).far (by first | (simp; done) | (simp; omega) | (simp [*]; done) | (simp only [ne_eq]; constructor <;> omega)) _).far (by first | (simp; done) | (simp; omega) | (simp [*]; done) | (simp only [ne_eq]; constructor <;> omega)) _).far (by first | (simp; done) | (simp; omega) | (simp [*]; done) | (simp only [ne_eq]; constructor <;> omega)) _).far (by first | (simp; done) | (simp; omega) | (simp [*]; done) | (simp only [ne_eq]; constructor <;> omega)) _)
  replace Bo : Blk ((((((((((((w7.setCell ⟨gp, 0, none⟩ (uv u1.b.v)).setCell ⟨gp, 1, none⟩ (uv u1.b.m)).setCell ⟨gp, 2, none⟩ (uv u1.lo)).setCell ⟨gp, 3, none⟩ (uv u1.hi)).setCell ⟨gp, 4, none⟩ (sv u1.sl)).setCell ⟨gp, 5, none⟩ (sv u1.sh)).setCell ⟨go, 0, none⟩ (uv v1.b.v)).setCell ⟨go, 1, none⟩ (uv v1.b.m)).setCell ⟨go, 2, none⟩ (uv v1.lo)).setCell ⟨go, 3, none⟩ (uv v1.hi)).setCell ⟨go, 4, none⟩ (sv v1.sl)).setCell ⟨go, 5, none⟩ (sv v1.sh)) (go) 27 #[uv v1.b.v, uv v1.b.m, uv v1.lo, uv v1.hi, sv v1.sl, sv v1.sh] := ((((((Bo.set_ 0 _).set_ 1 _).set_ 2 _).set_ 3 _).set_ 4 _).set_ 5 _)
  replace hB : Below w.heap.size w ((((((((((((w7.setCell ⟨gp, 0, none⟩ (uv u1.b.v)).setCell ⟨gp, 1, none⟩ (uv u1.b.m)).setCell ⟨gp, 2, none⟩ (uv u1.lo)).setCell ⟨gp, 3, none⟩ (uv u1.hi)).setCell ⟨gp, 4, none⟩ (sv u1.sl)).setCell ⟨gp, 5, none⟩ (sv u1.sh)).setCell ⟨go, 0, none⟩ (uv v1.b.v)).setCell ⟨go, 1, none⟩ (uv v1.b.m)).setCell ⟨go, 2, none⟩ (uv v1.lo)).setCell ⟨go, 3, none⟩ (uv v1.hi)).setCell ⟨go, 4, none⟩ (sv v1.sl)).setCell ⟨go, 5, none⟩ (sv v1.sh)) := (Bl_set (Bl_set (Bl_set (Bl_set (Bl_set (Bl_set hB (by first | omega | (simp; done) | (simp; omega)) _) (by first | omega | (simp; done) | (simp; omega)) _) (by first | omega | (simp; done) | (simp; omega)) _) (by first | omega | (simp; done) | (simp; omega)) _) (by first | omega | (simp; done) | (simp; omega)) _) (by first | omega | (simp; done) | (simp; omega)) _)
  generalize ((((((((((((w7.setCell ⟨gp, 0, none⟩ (uv u1.b.v)).setCell ⟨gp, 1, none⟩ (uv u1.b.m)).setCell ⟨gp, 2, none⟩ (uv u1.lo)).setCell ⟨gp, 3, none⟩ (uv u1.hi)).setCell ⟨gp, 4, none⟩ (sv u1.sl)).setCell ⟨gp, 5, none⟩ (sv u1.sh)).setCell ⟨go, 0, none⟩ (uv v1.b.v)).setCell ⟨go, 1, none⟩ (uv v1.b.m)).setCell ⟨go, 2, none⟩ (uv v1.lo)).setCell ⟨go, 3, none⟩ (uv v1.hi)).setCell ⟨go, 4, none⟩ (sv v1.sl)).setCell ⟨go, 5, none⟩ (sv v1.sh)) = w8 at *
  have cs0 : w8.cell? ⟨w.heap.size, 0, none⟩ = some (.int .i64 1) := Bs.cell 0
  have cs1 : w8.cell? ⟨w.heap.size, 1, none⟩ = some (.int .i64 2) := Bs.cell 1
  have cs2 : w8.cell? ⟨w.heap.size, 2, none⟩ = some (.int .i64 3) := Bs.cell 2
  have cs3 : w8.cell? ⟨w.heap.size, 3, none⟩ = some (.int .i64 5) := Bs.cell 3
  have cs4 : w8.cell? ⟨w.heap.size, 4, none⟩ = some (.int .i64 6) := Bs.cell 4
  have cs5 : w8.cell? ⟨w.heap.size, 5, none⟩ = some (.int .i64 7) := Bs.cell 5
  have cs6 : w8.cell? ⟨w.heap.size, 6, none⟩ = some (.int .i64 10) := Bs.cell 6
  have cs7 : w8.cell? ⟨w.heap.size, 7, none⟩ = some (.int .i64 11) := Bs.cell 7
  have cs8 : w8.cell? ⟨w.heap.size, 8, none⟩ = some (.int .i64 12) := Bs.cell 8
  have cs9 : w8.cell? ⟨w.heap.size, 9, none⟩ = some (.int .i64 13) := Bs.cell 9
  have fs := Bs.frozen; have ls := Bs.lt
  obtain ⟨ca0, ca1, ca2, ca3, ca4, ca5⟩ := cells6 Ba
  have fa := Ba.frozen; have la := Ba.lt
  obtain ⟨cp0, cp1, cp2, cp3, cp4, cp5⟩ := cells6 Bp
  have fp := Bp.frozen; have lp := Bp.lt
  obtain ⟨co0, co1, co2, co3, co4, co5⟩ := cells6 Bo
  have fo := Bo.frozen; have lo := Bo.lt
  go_wp2_with fail
  refine (tells_c _).mono ?_
  rintro e w9 ⟨rfl, hb⟩
  clear cs0 cs1 cs2 cs3 cs4 cs5 cs6 cs7 cs8 cs9 fs ls
  clear ca0 ca1 ca2 ca3 ca4 ca5 fa la
  clear cp0 cp1 cp2 cp3 cp4 cp5 fp lp
  clear co0 co1 co2 co3 co4 co5 fo lo
  replace Bs := (Bs).next hb
  replace Ba := (Ba).next hb
  replace Bp := (Bp).next hb
  replace Bo := (Bo).next hb
  replace hB : Below w.heap.size w w9 := by repeat (first | exact hB | (refine Bl_set ?_ (by first | omega | (simp; omega)) _) | apply Bl_alloc | (refine Bl_trans ?_ hb))
  clear hb
  have cs0 : w9.cell? ⟨w.heap.size, 0, none⟩ = some (.int .i64 1) := Bs.cell 0
  have cs1 : w9.cell? ⟨w.heap.size, 1, none⟩ = some (.int .i64 2) := Bs.cell 1
  have cs2 : w9.cell? ⟨w.heap.size, 2, none⟩ = some (.int .i64 3) := Bs.cell 2
  have cs3 : w9.cell? ⟨w.heap.size, 3, none⟩ = some (.int .i64 5) := Bs.cell 3
  have cs4 : w9.cell? ⟨w.heap.size, 4, none⟩ = some (.int .i64 6) := Bs.cell 4
  have cs5 : w9.cell? ⟨w.heap.size, 5, none⟩ = some (.int .i64 7) := Bs.cell 5
  have cs6 : w9.cell? ⟨w.heap.size, 6, none⟩ = some (.int .i64 10) := Bs.cell 6
  have cs7 : w9.cell? ⟨w.heap.size, 7, none⟩ = some (.int .i64 11) := Bs.cell 7
  have cs8 : w9.cell? ⟨w.heap.size, 8, none⟩ = some (.int .i64 12) := Bs.cell 8
  have cs9 : w9.cell? ⟨w.heap.size, 9, none⟩ = some (.int .i64 13) := Bs.cell 9
  have fs := Bs.frozen; have ls := Bs.lt
  obtain ⟨ca0, ca1, ca2, ca3, ca4, ca5⟩ := cells6 Ba
  have fa := Ba.frozen; have la := Ba.lt
  obtain ⟨cp0, cp1, cp2, cp3, cp4, cp5⟩ := cells6 Bp
  have fp := Bp.frozen; have lp := Bp.lt
  obtain ⟨co0, co1, co2, co3, co4, co5⟩ := cells6 Bo
  have fo := Bo.frozen; have lo := Bo.lt
  go_wp2_with fail
  refine (shast_c u1 x hu _).mono ?_
  rintro e w10 ⟨rfl, hb⟩
  clear cs0 cs1 cs2 cs3 cs4 cs5 cs6 cs7 cs8 cs9 fs ls
  clear ca0 ca1 ca2 ca3 ca4 ca5 fa la
  clear cp0 cp1 cp2 cp3 cp4 cp5 fp lp
  clear co0 co1 co2 co3 co4 co5 fo lo
  replace Bs := (Bs).next hb
  replace Ba := (Ba).next hb
  replace Bp := (Bp).next hb
  replace Bo := (Bo).next hb
  replace hB : Below w.heap.size w w10 := by repeat (first | exact hB | (refine Bl_set ?_ (by first | omega | (simp; omega)) _) | apply Bl_alloc | (refine Bl_trans ?_ hb))
  clear hb
  have cs0 : w10.cell? ⟨w.heap.size, 0, none⟩ = some (.int .i64 1) := Bs.cell 0
  have cs1 : w10.cell? ⟨w.heap.size, 1, none⟩ = some (.int .i64 2) := Bs.cell 1
  have cs2 : w10.cell? ⟨w.heap.size, 2, none⟩ = some (.int .i64 3) := Bs.cell 2
  have cs3 : w10.cell? ⟨w.heap.size, 3, none⟩ = some (.int .i64 5) := Bs.cell 3
  have cs4 : w10.cell? ⟨w.heap.size, 4, none⟩ = some (.int .i64 6) := Bs.cell 4
  have cs5 : w10.cell? ⟨w.heap.size, 5, none⟩ = some (.int .i64 7) := Bs.cell 5
  have cs6 : w10.cell? ⟨w.heap.size, 6, none⟩ = some (.int .i64 10) := Bs.cell 6
  have cs7 : w10.cell? ⟨w.heap.size, 7, none⟩ = some (.int .i64 11) := Bs.cell 7
  have cs8 : w10.cell? ⟨w.heap.size, 8, none⟩ = some (.int .i64 12) := Bs.cell 8
  have cs9 : w10.cell? ⟨w.heap.size, 9, none⟩ = some (.int .i64 13) := Bs.cell 9
  have fs := Bs.frozen; have ls := Bs.lt
  obtain ⟨ca0, ca1, ca2, ca3, ca4, ca5⟩ := cells6 Ba
  have fa := Ba.frozen; have la := Ba.lt
  obtain ⟨cp0, cp1, cp2, cp3, cp4, cp5⟩ := cells6 Bp
  have fp := Bp.frozen; have lp := Bp.lt
  obtain ⟨co0, co1, co2, co3, co4, co5⟩ := cells6 Bo
  have fo := Bo.frozen; have lo := Bo.lt
  go_wp2_with fail
  refine (shast_c v1 y hv _).mono ?_
  rintro e w11 ⟨rfl, hb⟩
  clear cs0 cs1 cs2 cs3 cs4 cs5 cs6 cs7 cs8 cs9 fs ls
  clear ca0 ca1 ca2 ca3 ca4 ca5 fa la
  clear cp0 cp1 cp2 cp3 cp4 cp5 fp lp
  clear co0 co1 co2 co3 co4 co5 fo lo
  replace Bs := (Bs).next hb
  replace Ba := (Ba).next hb
  replace Bp := (Bp).next hb
  replace Bo := (Bo).next hb
  replace hB : Below w.heap.size w w11 := by repeat (first | exact hB | (refine Bl_set ?_ (by first | omega | (simp; omega)) _) | apply Bl_alloc | (refine Bl_trans ?_ hb))
  clear hb
  have cs0 : w11.cell? ⟨w.heap.size, 0, none⟩ = some (.int .i64 1) := Bs.cell 0
  have cs1 : w11.cell? ⟨w.heap.size, 1, none⟩ = some (.int .i64 2) := Bs.cell 1
  have cs2 : w11.cell? ⟨w.heap.size, 2, none⟩ = some (.int .i64 3) := Bs.cell 2
  have cs3 : w11.cell? ⟨w.heap.size, 3, none⟩ = some (.int .i64 5) := Bs.cell 3
  have cs4 : w11.cell? ⟨w.heap.size, 4, none⟩ = some (.int .i64 6) := Bs.cell 4
  have cs5 : w11.cell? ⟨w.heap.size, 5, none⟩ = some (.int .i64 7) := Bs.cell 5
  have cs6 : w11.cell? ⟨w.heap.size, 6, none⟩ = some (.int .i64 10) := Bs.cell 6
  have cs7 : w11.cell? ⟨w.heap.size, 7, none⟩ = some (.int .i64 11) := Bs.cell 7
  have cs8 : w11.cell? ⟨w.heap.size, 8, none⟩ = some (.int .i64 12) := Bs.cell 8
  have cs9 : w11.cell? ⟨w.heap.size, 9, none⟩ = some (.int .i64 13) := Bs.cell 9
  have fs := Bs.frozen; have ls := Bs.lt
  obtain ⟨ca0, ca1, ca2, ca3, ca4, ca5⟩ := cells6 Ba
  have fa := Ba.frozen; have la := Ba.lt
  obtain ⟨cp0, cp1, cp2, cp3, cp4, cp5⟩ := cells6 Bp
  have fp := Bp.frozen; have lp := Bp.lt
  obtain ⟨co0, co1, co2, co3, co4, co5⟩ := cells6 Bo
  have fo := Bo.frozen; have lo := Bo.lt
  go_wp2
  go_ret
  exact ⟨rfl, by repeat (first | exact hB | (refine Bl_set ?_ (by first | omega | (simp; omega)) _) | apply Bl_alloc)⟩
theorem walkN_BranchBytes (op : Int) (lo : -9223372036854775808 ≤ op) (hi : op ≤ 9223372036854775807) (x : Int) (l0 : 0 ≤ x) (h0 : x ≤ 255) (y : Int) (l1 : 0 ≤ y) (h1 : y ≤ 255) (w : World) : Calls Try.prog 13 #[.int .i64 op, .int .u8 x, .int .u8 y] w fun e w' => e = .returned (.bool true) ∧ Below w.heap.size w w' := by
  have key : ∀ z : Int, 0 ≤ z → z ≤ 255 → ∃ X : W, z = T X ∧ X.toNat < 256 := fun z a b => ⟨BitVec.ofNat 64 z.toNat, by unfold T; rw [BitVec.toNat_ofNat]; omega, by rw [BitVec.toNat_ofNat]; omega⟩
  obtain ⟨X, rfl, hX⟩ := key x l0 h0
  obtain ⟨Y, rfl, hY⟩ := key y l1 h1
  exact walk_BranchBytes op X Y hX hY w
namespace branchBytes
set_option maxRecDepth 100000 in
theorem lifted (os : Os) (started : os.Started) (H : Type) (enc : TypeId × Value → H) :
    ReturnsInHanded {} Try.checked os 13 .any (Rows.branchBytesSpec.pre6 enc Try.prog Try.f13 Rows.branchBytesRow.domain false) (Rows.branchBytesSpec.post enc Try.prog Try.f13 false true false false) := by
  refine returnsInHanded_of_change (C := Try.checked) own started (by kernel_rfl) Try.func13
    (ChangeSpec.witness6 (enc := enc) (C := Try.checked) false ⟨#[], #[.int .i64 0, .int .u8 0, .int .u8 0], []⟩ 8 (by kernel_rfl) (by kernel_rfl) (by kernel_rfl) (by kernel_rfl)) ?_
  intro W base args ds gs before hval0 hW hcnd _
  have hval : ∀ (j : Nat) t v, Try.f13.params[j]? = some t → args[j]? = some v → Value.okWide Try.prog W .any base t v := hval0
  have hW' := hW
  obtain ⟨p, q, hA0, hV, rfl, hfz, hnd⟩ := hW
  have hA : DataW.TrodAll enc Try.prog W 0 (fun _ => true) true Try.f13.params.toList args.toList ds p := hA0
  rw [Try.params13] at hA hval
  obtain ⟨v0, vs0, d0, ds0, p0, q0, hargs, rfl, rfl, h0, r0⟩ := trodAll_cons hA
  obtain ⟨v1, vs1, d1, ds1, p1, q1, rfl, rfl, rfl, h1, r1⟩ := trodAll_cons r0
  obtain ⟨v2, vs2, d2, ds2, p2, q2, rfl, rfl, rfl, h2, r2⟩ := trodAll_cons r1
  obtain ⟨rfl, rfl, rfl⟩ := trodAll_nil r2
  obtain rfl : args = #[v0, v1, v2] := by cases args; simp_all
  obtain ⟨rfl, rfl⟩ := trodVars_none hV
  have lt0 : ∀ x ∈ p0, x.block < W.heap.size := by obtain ⟨m, hm⟩ := h0; exact DataW.trod_lt m _ _ _ hm
  obtain ⟨x0, rfl, lo0, hi0⟩ := open_i64 Try.underlying3 (hval 0 3 v0 rfl rfl)
  have lt1 : ∀ x ∈ p1, x.block < W.heap.size := by obtain ⟨m, hm⟩ := h1; exact DataW.trod_lt m _ _ _ hm
  obtain ⟨x1, rfl, lo1, hi1⟩ := open_u8 Try.underlying5 (hval 1 5 v1 rfl rfl)
  have lt2 : ∀ x ∈ p2, x.block < W.heap.size := by obtain ⟨m, hm⟩ := h2; exact DataW.trod_lt m _ _ _ hm
  obtain ⟨x2, rfl, lo2, hi2⟩ := open_u8 Try.underlying5 (hval 2 5 v2 rfl rfl)
  refine (walkN_BranchBytes x0 lo0 hi0 x1 lo1 hi1 x2 lo2 hi2 W).mono fun e W' ⟨he, bel⟩ => ?_
  subst he
  exact ⟨_, rfl, _, _, _, [], _, [], hW', trodAll_mk1 (shut_bool Try.underlying4 _), (trodAll_cons_mk (Below.trod laidOut (by kernel_rfl) (of_decide_eq_true (by kernel_rfl)) h0 bel lt0) (trodAll_cons_mk (Below.trod laidOut (by kernel_rfl) (of_decide_eq_true (by kernel_rfl)) h1 bel lt1) (trodAll_cons_mk (Below.trod laidOut (by kernel_rfl) (of_decide_eq_true (by kernel_rfl)) h2 bel lt2) trodAll_mk0))), rfl, bel.frame _, fun h => by cases h⟩
theorem over : Rows.branchBytesRow.holds Try.pinned (OpenSpec.ofChange Rows.branchBytesSpec) :=
  OpenClaim.holds_of_wide 13 Try.f13 rfl rfl rfl rfl rfl rfl rfl ⟨rfl, rfl, rfl, rfl, rfl⟩ rfl rfl rfl rfl rfl (by kernel_rfl) Try.func13 (by kernel_rfl)
    (of_decide_eq_true (by kernel_rfl)) (by unfold Func.isWrapper; first | (rw [if_pos (by decide +kernel)]; kernel_rfl) | (rw [if_neg (by decide +kernel)]; exact ⟨rfl, rfl⟩))
    (fun os started H enc _ => lifted os started H enc)
/-- The given statement. -/
theorem proved : Rows.BranchBytesSaid := over
#print axioms proved
end branchBytes
end Go.Proofs.Ytmghpoagpiljhab
