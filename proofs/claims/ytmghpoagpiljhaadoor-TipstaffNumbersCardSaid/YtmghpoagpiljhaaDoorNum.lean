/- TipstaffNumbers' own walk. -/
import Derived.Test.YtmghpoagpiljhaaDoorNSb
import Derived.Test.YtmghpoagpiljhaaDoorNBr
import Derived.Test.YtmghpoagpiljhaaDoorNumP
import Derived.Test.YtmghpoagpiljhaaDoorDg7
set_option linter.unusedSimpArgs false
set_option linter.unusedVariables false
namespace Go.Proofs.YtmghpoagpiljhaaDoor
open Go.RowKit
open PlainTnum (N)
open PlainScalar (Rng)
open PlainNum (z64 rF aF bF cF dF)
@[go_sem] theorem u1_and (x y : BitVec 8) : bits .and .u8 (T1 x) (T1 y) = T1 (x &&& y) := by
  unfold T1
  show IntKind.u8.wrap ((BitVec.ofInt 8 (x.toNat : Int) &&& BitVec.ofInt 8 (y.toNat : Int)).toNat : Int) = _
  rw [BitVec.ofInt_natCast, BitVec.ofInt_natCast, BitVec.ofNat_toNat, BitVec.setWidth_eq, BitVec.ofNat_toNat, BitVec.setWidth_eq, IntKind.wrap_u8]
  have := (x &&& y).isLt
  omega
@[go_sem] theorem u_of1 (c : BitVec 8) : IntKind.u64.wrap (T1 c) = T (z64 c) := by
  unfold T1 T
  rw [PlainNum.z64_nat, IntKind.wrap_u64]
  have := c.isLt
  omega
theorem T1_is (c : BitVec 8) : T1 c = T (z64 c) := by unfold T1 T; rw [PlainNum.z64_nat]
theorem rem16_is (by' : Int) : ∃ k : Nat, k < 16 ∧ wrap64 ((IntKind.u64.wrap by').tmod 16) = (k : Int) ∧ IntKind.i64.wrap ((IntKind.u64.wrap by').tmod 16) = (k : Int) ∧ (IntKind.u64.wrap by').tmod 16 = (k : Int) := by
  have h0 : 0 ≤ IntKind.u64.wrap by' := by rw [IntKind.wrap_u64]; omega
  have e : (IntKind.u64.wrap by').tmod 16 = IntKind.u64.wrap by' % 16 := Int.tmod_eq_emod_of_nonneg h0
  refine ⟨(IntKind.u64.wrap by' % 16).toNat, by omega, ?_, ?_, ?_⟩
  · rw [e, IntWalk.wrap64_in _ (by constructor <;> omega)]; omega
  · rw [e, IntWalk.i64_in _ (by constructor <;> omega)]; omega
  · rw [e]; omega
set_option maxRecDepth 100000 in
set_option maxHeartbeats 4000000 in
theorem walk_TipstaffNumbers (x m bd : BitVec 8) (by' : Int) (w : World) (hT : Tabs w) : Calls Tryd.prog 4 #[.agg #[bv x, bv m, bv bd], .int .i64 by'] w fun e w' => e = .returned (.bool true) ∧ Below w.heap.size w w' := by
  have HT := Lib.hid hT; clear hT
  obtain ⟨k, hk, ek, ek2, ek3⟩ := rem16_is by'
  obtain ⟨h, hh⟩ : ∃ h, h = decide ((z64 (x &&& m)).toNat < (z64 bd).toNat) := ⟨_, rfl⟩
  obtain ⟨L1, L2, L3, L4, L5, L6, L7⟩ := PlainNum.law x m bd k hk h hh
  have hlt : decide (T (z64 (x &&& m)) < T (z64 bd)) = h := by rw [hh]; exact decide_eq_decide.2 (by rw [T_lt])
  obtain ⟨n, e_n⟩ : ∃ n, n = z64 (x &&& m) := ⟨_, rfl⟩
  obtain ⟨m6, e_m6⟩ : ∃ n, n = z64 m := ⟨_, rfl⟩; obtain ⟨b6, e_b6⟩ : ∃ n, n = z64 bd := ⟨_, rfl⟩; obtain ⟨k6, e_k6⟩ : ∃ n : W, n = BitVec.ofNat 64 k := ⟨_, rfl⟩
  obtain ⟨Lo, e_Lo⟩ : ∃ z' : Rng, z' = PlainScalar.low PlainScalar.any 1 := ⟨_, rfl⟩
  obtain ⟨Cm, e_Cm⟩ : ∃ z' : Rng, z' = PlainScalar.const m6 := ⟨_, rfl⟩
  obtain ⟨Cb, e_Cb⟩ : ∃ z' : Rng, z' = PlainScalar.const b6 := ⟨_, rfl⟩
  obtain ⟨Ck, e_Ck⟩ : ∃ z' : Rng, z' = PlainScalar.const k6 := ⟨_, rfl⟩
  obtain ⟨C3, e_C3⟩ : ∃ z' : Rng, z' = PlainScalar.const 3#64 := ⟨_, rfl⟩
  obtain ⟨R, e_R⟩ : ∃ z' : Rng, z' = PlainScalar.doF 5 true Lo Cm := ⟨_, rfl⟩
  obtain ⟨P3, e_P3⟩ : ∃ z', z' = PlainBranch.refine 10 true R Cb h := ⟨_, rfl⟩
  have HRF : rF m = R := by rw [e_R, e_Lo, e_Cm, e_m6]; rfl
  have HAF : aF m bd h = P3 := by rw [e_P3, ← HRF, e_Cb, e_b6]; rfl
  rw [HAF] at L2 L3 L4 L5 L6 L7; rw [HRF] at L1 L4
  obtain ⟨⟨A, A2⟩, ok⟩ := P3
  replace L2 : ok = true := L2; subst L2
  replace L3 : PlainScalar.has A (z64 (x &&& m)) = true := L3; replace L4 : PlainScalar.within A R = true := L4
  obtain ⟨SB, e_SB⟩ : ∃ z' : Rng, z' = PlainScalar.doF 6 true A Ck := ⟨_, rfl⟩
  obtain ⟨SC, e_SC⟩ : ∃ z' : Rng, z' = PlainScalar.doF 0 true SB A := ⟨_, rfl⟩
  obtain ⟨SD, e_SD⟩ : ∃ z' : Rng, z' = PlainScalar.doF 1 false SC C3 := ⟨_, rfl⟩
  have HBF : bF A k = SB := by rw [e_SB, e_Ck, e_k6]; rfl
  have HCF : cF A k = SC := by rw [e_SC, ← HBF]; rfl
  have HDF : dF A k = SD := by rw [e_SD, ← HCF, e_C3]; rfl
  replace L5 : PlainScalar.has SB (n <<< k) = true := by rw [← HBF, e_n]; exact L5
  replace L6 : PlainScalar.has SC (n <<< k + n) = true := by rw [← HCF, e_n]; exact L6
  replace L7 : PlainScalar.has SD (PlainScalar.low4 (n <<< k + n - 3#64)) = true := by rw [← HDF, e_n]; exact L7
  rw [← e_n] at L1 L3 hlt; rw [← e_b6] at hlt
  have k_lo : ∀ w : World, Calls Tryd.prog 17 #[rv PlainScalar.any, .int .i64 1] w fun e w' => e = .returned (rv Lo) ∧ Below w.heap.size w w' := fun w => by rw [e_Lo]; exact slow_c PlainScalar.any 1 w
  have k_cm : ∀ w : World, Calls Tryd.prog 19 #[uv m6] w fun e w' => e = .returned (rv Cm) ∧ Below w.heap.size w w' := fun w => by rw [e_Cm]; exact sconst_c m6 w
  have k_cb : ∀ w : World, Calls Tryd.prog 19 #[uv b6] w fun e w' => e = .returned (rv Cb) ∧ Below w.heap.size w w' := fun w => by rw [e_Cb]; exact sconst_c b6 w
  have k_ck : ∀ w : World, Calls Tryd.prog 19 #[uv k6] w fun e w' => e = .returned (rv Ck) ∧ Below w.heap.size w w' := fun w => by rw [e_Ck]; exact sconst_c k6 w
  have k_c3 : ∀ w : World, Calls Tryd.prog 19 #[.int .u64 3] w fun e w' => e = .returned (rv C3) ∧ Below w.heap.size w w' := fun w => by rw [e_C3]; exact sconst_c 3#64 w
  have k_r : ∀ w : World, Calls Tryd.prog 16 #[.int .i64 5, .bool true, rv Lo, rv Cm] w fun e w' => e = .returned (rv R) ∧ Below w.heap.size w w' := fun w => by rw [e_R]; exact do_5 Lo Cm w
  have k_hr : ∀ w : World, Calls Tryd.prog 21 #[rv R, uv n] w fun e w' => e = .returned (.bool true) ∧ Below w.heap.size w w' := fun w => by rw [← L1]; exact shas_c R n w
  have k_a : ∀ w : World, Calls Tryd.prog 22 #[.int .i64 10, .bool true, rv R, rv Cb, .bool h] w fun e w' => e = .returned (.tuple #[rv A, rv A2, .bool true]) ∧ Below w.heap.size w w' := fun w => by have z := refine_10 R Cb h w; rw [← e_P3] at z; exact z
  have k_ha : ∀ w : World, Calls Tryd.prog 21 #[rv A, uv n] w fun e w' => e = .returned (.bool true) ∧ Below w.heap.size w w' := fun w => by rw [← L3]; exact shas_c A n w
  have k_wi : ∀ w : World, Calls Tryd.prog 23 #[rv A, rv R] w fun e w' => e = .returned (.bool true) ∧ Below w.heap.size w w' := fun w => by rw [← L4]; exact swithin_c A R w
  have k_b : ∀ w : World, Calls Tryd.prog 16 #[.int .i64 6, .bool true, rv A, rv Ck] w fun e w' => e = .returned (rv SB) ∧ Below w.heap.size w w' := fun w => by rw [e_SB]; exact do_6 A Ck w
  have k_c : ∀ w : World, Calls Tryd.prog 16 #[.int .i64 0, .bool true, rv SB, rv A] w fun e w' => e = .returned (rv SC) ∧ Below w.heap.size w w' := fun w => by rw [e_SC]; exact do_0 SB A w
  have k_d : ∀ w : World, Calls Tryd.prog 16 #[.int .i64 1, .bool false, rv SC, rv C3] w fun e w' => e = .returned (rv SD) ∧ Below w.heap.size w w' := fun w => by rw [e_SD]; exact do_1 SC C3 w
  have k_hb : ∀ w : World, Calls Tryd.prog 21 #[rv SB, uv (n <<< k)] w fun e w' => e = .returned (.bool true) ∧ Below w.heap.size w w' := fun w => by rw [← L5]; exact shas_c SB _ w
  have k_hc : ∀ w : World, Calls Tryd.prog 21 #[rv SC, uv (n <<< k + n)] w fun e w' => e = .returned (.bool true) ∧ Below w.heap.size w w' := fun w => by rw [← L6]; exact shas_c SC _ w
  have k_hd : ∀ w : World, Calls Tryd.prog 21 #[rv SD, uv (PlainScalar.low4 (n <<< k + n - 3#64))] w fun e w' => e = .returned (.bool true) ∧ Below w.heap.size w w' := fun w => by rw [← L7]; exact shas_c SD _ w
  have ek6 : (k : Int) = T k6 := by rw [e_k6, ← lit_T k (by omega)]
  have HK6 := Lib.hid ek6; have HN := Lib.hid e_n; have HM6 := Lib.hid e_m6; have HB6 := Lib.hid e_b6; have HLT := Lib.hid hlt; have HEK := Lib.hid ek; have HEK2 := Lib.hid ek2; have HEK3 := Lib.hid ek3
  clear ek6 e_n e_m6 e_b6 e_k6 hlt ek ek2 ek3 HRF HAF HBF HCF HDF L1 L3 L4 L5 L6 L7 e_Lo e_Cm e_Cb e_Ck e_C3 e_R e_P3 e_SB e_SC e_SD hh
  have K_lo := Lib.hid k_lo; clear k_lo
  have K_cm := Lib.hid k_cm; clear k_cm
  have K_cb := Lib.hid k_cb; clear k_cb
  have K_ck := Lib.hid k_ck; clear k_ck
  have K_c3 := Lib.hid k_c3; clear k_c3
  have K_r := Lib.hid k_r; clear k_r
  have K_hr := Lib.hid k_hr; clear k_hr
  have K_a := Lib.hid k_a; clear k_a
  have K_ha := Lib.hid k_ha; clear k_ha
  have K_wi := Lib.hid k_wi; clear k_wi
  have K_b := Lib.hid k_b; clear k_b
  have K_c := Lib.hid k_c; clear k_c
  have K_d := Lib.hid k_d; clear k_d
  have K_hb := Lib.hid k_hb; clear k_hb
  have K_hc := Lib.hid k_hc; clear k_hc
  have K_hd := Lib.hid k_hd; clear k_hd
  go_enter Tryd.func4, Tryd.ntmps4
  go_wp2_with fail
  obtain ⟨gy, hgy⟩ : ∃ g, g = w.heap.size := ⟨_, rfl⟩
  have By : Blk (w.alloc (.cells #[bv x, bv m, bv bd] 38)) (w.heap.size) 38 #[bv x, bv m, bv bd] := (Blk.new w 38 #[bv x, bv m, bv bd])
  have hB : Below w.heap.size w (w.alloc (.cells #[bv x, bv m, bv bd] 38)) := (Bl_alloc (Bl_refl w) _)
  clear hgy
  clear gy
  generalize (w.alloc (.cells #[bv x, bv m, bv bd] 38)) = w1 at *
  have cy0 : w1.cell? ⟨w.heap.size, 0, none⟩ = some (bv x) := By.cell 0
  have cy1 : w1.cell? ⟨w.heap.size, 1, none⟩ = some (bv m) := By.cell 1
  have cy2 : w1.cell? ⟨w.heap.size, 2, none⟩ = some (bv bd) := By.cell 2
  have fy := By.frozen; have ly := By.lt
  go_wp2_with fail
  replace cy0 : ∀ g : Later w1, g.w.cell? ⟨w.heap.size, 0, none⟩ = some (bv x) := fun g => g.cell (By.cell 0)
  replace cy1 : ∀ g : Later w1, g.w.cell? ⟨w.heap.size, 1, none⟩ = some (bv m) := fun g => g.cell (By.cell 1)
  replace cy2 : ∀ g : Later w1, g.w.cell? ⟨w.heap.size, 2, none⟩ = some (bv bd) := fun g => g.cell (By.cell 2)
  refine wp_region_mix 9 (fun _ => #[]) (by kernel_rfl) (by kernel_rfl) (no_alloc (by kernel_rfl)) ?_
  simp only [List.take_succ_cons, List.take_zero, List.drop_succ_cons, List.drop_zero]
  repeat ((with_reducible refine wpMix_step (fun K hK => ?_)); go_simp; first | ((with_reducible refine hK _ ?_); clear hK K) | (rw [if_neg (by decide)]; (with_reducible refine hK _ ?_); clear hK K))
  refine wpMix_nil ?_
  intro G w2 hgr hblk hdist
  have hb : Below w1.heap.size w1 w2 := hgr
  replace By := By.next hb
  clear cy0 cy1 cy2 fy ly
  replace hB : Below w.heap.size w w2 := Bl_trans hB hb
  simp only [putAll, isAlloc]
  clear hb hgr hblk hdist
  have cy0 : w2.cell? ⟨w.heap.size, 0, none⟩ = some (bv x) := By.cell 0
  have cy1 : w2.cell? ⟨w.heap.size, 1, none⟩ = some (bv m) := By.cell 1
  have cy2 : w2.cell? ⟨w.heap.size, 2, none⟩ = some (bv bd) := By.cell 2
  have fy := By.frozen; have ly := By.lt
  clear cy0 cy1 cy2 fy ly
  clear By
  have ek := HEK.out; have ek2 := HEK2.out; have ek3 := HEK3.out
  go_upto_region 3 with fail
  clear ek ek2 ek3
  go_wp2_with fail
  refine (sany_c _).mono ?_
  rintro e w3 ⟨rfl, hb⟩
  replace hB : Below w.heap.size w w3 := by repeat (first | exact hB | (refine Bl_set ?_ (by first | omega | (simp; omega)) _) | apply Bl_alloc | (refine Bl_trans ?_ hb))
  clear hb
  go_wp2_with fail
  refine (K_lo.out _).mono ?_
  rintro e w4 ⟨rfl, hb⟩
  replace hB : Below w.heap.size w w4 := by repeat (first | exact hB | (refine Bl_set ?_ (by first | omega | (simp; omega)) _) | apply Bl_alloc | (refine Bl_trans ?_ hb))
  clear hb
  go_wp2_with fail
  rw [← HM6.out]
  refine (K_cm.out _).mono ?_
  rintro e w5 ⟨rfl, hb⟩
  replace hB : Below w.heap.size w w5 := by repeat (first | exact hB | (refine Bl_set ?_ (by first | omega | (simp; omega)) _) | apply Bl_alloc | (refine Bl_trans ?_ hb))
  clear hb
  go_wp2_with fail
  refine (K_r.out _).mono ?_
  rintro e w6 ⟨rfl, hb⟩
  replace hB : Below w.heap.size w w6 := by repeat (first | exact hB | (refine Bl_set ?_ (by first | omega | (simp; omega)) _) | apply Bl_alloc | (refine Bl_trans ?_ hb))
  clear hb
  go_upto_region 4 with fail
  have Br := Blk.new w6 43 #[uv R.b.v, uv R.b.m, uv R.lo, uv R.hi, sv R.sl, sv R.sh]
  have hgr := hB.size
  replace hB : Below w.heap.size w (w6.alloc (.cells #[uv R.b.v, uv R.b.m, uv R.lo, uv R.hi, sv R.sl, sv R.sh] 43)) := Bl_alloc hB _
  generalize (w6.alloc (.cells #[uv R.b.v, uv R.b.m, uv R.lo, uv R.hi, sv R.sl, sv R.sh] 43)) = w7 at *
  generalize w6.heap.size = gr at *
  obtain ⟨cr0, cr1, cr2, cr3, cr4, cr5⟩ := cells6 Br
  have fr := Br.frozen; have lr := Br.lt
  go_upto_region 5 with fail
  rw [← HN.out]
  go_wp2_with fail
  refine (stands_c _ (HT.out.next hB)).mono ?_
  rintro e w8 ⟨rfl, hb⟩
  clear cr0 cr1 cr2 cr3 cr4 cr5 fr lr
  replace Br := (Br).next hb
  replace hB : Below w.heap.size w w8 := by repeat (first | exact hB | (refine Bl_set ?_ (by first | omega | (simp; omega)) _) | apply Bl_alloc | (refine Bl_trans ?_ hb))
  clear hb
  obtain ⟨cr0, cr1, cr2, cr3, cr4, cr5⟩ := cells6 Br
  have fr := Br.frozen; have lr := Br.lt
  go_wp2_with fail
  refine (opens_c _).mono ?_
  rintro e w9 ⟨rfl, hb⟩
  clear cr0 cr1 cr2 cr3 cr4 cr5 fr lr
  replace Br := (Br).next hb
  replace hB : Below w.heap.size w w9 := by repeat (first | exact hB | (refine Bl_set ?_ (by first | omega | (simp; omega)) _) | apply Bl_alloc | (refine Bl_trans ?_ hb))
  clear hb
  obtain ⟨cr0, cr1, cr2, cr3, cr4, cr5⟩ := cells6 Br
  have fr := Br.frozen; have lr := Br.lt
  go_wp2_with fail
  refine (K_hr.out _).mono ?_
  rintro e w10 ⟨rfl, hb⟩
  clear cr0 cr1 cr2 cr3 cr4 cr5 fr lr
  replace Br := (Br).next hb
  replace hB : Below w.heap.size w w10 := by repeat (first | exact hB | (refine Bl_set ?_ (by first | omega | (simp; omega)) _) | apply Bl_alloc | (refine Bl_trans ?_ hb))
  clear hb
  obtain ⟨cr0, cr1, cr2, cr3, cr4, cr5⟩ := cells6 Br
  have fr := Br.frozen; have lr := Br.lt
  go_upto_region 7 with fail
  go_upto_region 8 with fail
  rw [← HB6.out, HLT.out]
  have hb6 : z64 bd = b6 := HB6.out.symm
  go_wp2_with fail
  clear cr0 cr1 cr2 cr3 cr4 cr5; obtain ⟨cr0, cr1, cr2, cr3, cr4, cr5⟩ := lcells6 Br
  refine wp_region_mixL 12 (fun k => k == 8 || k == 9) (fun _ => #[.int .u64 0, .int .u64 0, .int .u64 0, .int .u64 0, .int .i64 0, .int .i64 0]) (by kernel_rfl) (by kernel_rfl) (fun d _ _ _ _ h => by cases d <;> exact h) (fun o t ho ht => by
    simp at ho
    rcases ho with rfl | rfl | rfl | rfl | rfl | rfl | rfl | rfl | rfl | rfl | rfl | rfl <;> first | (cases ht; done) | (obtain rfl := Option.some.inj ht; exact fun ρ w => new_rng ht ρ w)) ?_
  simp only [List.take_succ_cons, List.take_zero, List.drop_succ_cons, List.drop_zero]
  repeat ((with_reducible refine wpMixL_step (fun K hK => ?_)); go_simp; first | ((with_reducible refine hK _ ?_); clear hK K) | (rw [if_neg (by decide)]; (with_reducible refine hK _ ?_); clear hK K) | (apply Exists.intro; refine ⟨fun g => ?_, hK _ ?_⟩; ((with_reducible refine Calls.mono (K_cb.out g.w) ?_); exact fun _ _ h => h); clear hK K) | (apply Exists.intro; refine ⟨fun g => ?_, hK _ ?_⟩; ((with_reducible refine Calls.mono (K_a.out g.w) ?_); exact fun _ _ h => h); clear hK K))
  refine wpMixL_nil ?_
  intro G w11 hgr hblk hdist
  have hb : Below w10.heap.size w10 w11 := hgr
  replace Br := Br.next hb
  obtain ⟨Ba, hla⟩ := hblk 10 _ rfl
  obtain ⟨Bu, hlu⟩ := hblk 11 _ rfl
  have hdau := hdist 10 11 _ _ rfl rfl (by decide)
  have hga : w.heap.size ≤ G 10 := Nat.le_trans hB.size hla
  have hnra : gr ≠ G 10 := Nat.ne_of_lt (Nat.lt_of_lt_of_le lr hla)
  clear hla
  have hgu : w.heap.size ≤ G 11 := Nat.le_trans hB.size hlu
  have hnru : gr ≠ G 11 := Nat.ne_of_lt (Nat.lt_of_lt_of_le lr hlu)
  clear hlu
  clear cr0 cr1 cr2 cr3 cr4 cr5 fr lr
  replace hB : Below w.heap.size w w11 := Bl_trans hB hb
  simp only [putAll, isAlloc, Act.put]
  generalize G 10 = ga at *
  generalize G 11 = gu at *
  clear hb hgr hblk hdist
  obtain ⟨cr0, cr1, cr2, cr3, cr4, cr5⟩ := cells6 Br
  have fr := Br.frozen; have lr := Br.lt
  obtain ⟨ca0, ca1, ca2, ca3, ca4, ca5⟩ := cells6 Ba
  have fa := Ba.frozen; have la := Ba.lt
  obtain ⟨cu0, cu1, cu2, cu3, cu4, cu5⟩ := cells6 Bu
  have fu := Bu.frozen; have lu := Bu.lt
  clear hb6
  go_upto_region 9 with fail
  clear cr0 cr1 cr2 cr3 cr4 cr5 fr lr
  clear ca0 ca1 ca2 ca3 ca4 ca5 fa la
  clear cu0 cu1 cu2 cu3 cu4 cu5 fu lu
  replace Br : Blk ((((((w11.setCell ⟨ga, 0, none⟩ (uv A.b.v)).setCell ⟨ga, 1, none⟩ (uv A.b.m)).setCell ⟨ga, 2, none⟩ (uv A.lo)).setCell ⟨ga, 3, none⟩ (uv A.hi)).setCell ⟨ga, 4, none⟩ (sv A.sl)).setCell ⟨ga, 5, none⟩ (sv A.sh)) (gr) 43 #[uv R.b.v, uv R.b.m, uv R.lo, uv R.hi, sv R.sl, sv R.sh] := ((((((Br.far (by first | (simp; done) | (simp; omega) | (simp [*]; done) | (simp only [ne_eq]; constructor <;> omega)) _).far (by first | (simp; done) | (simp; omega) | (simp [*]; done) | (simp only [ne_eq]; constructor <;> omega)) _).far (by first | (simp; done) | (simp; omega) | (simp [*]; done) | (simp only [ne_eq]; constructor <;> omega)) _).far (by first | (simp; done) | (simp; omega) | (simp [*]; done) | (simp only [ne_eq]; constructor <;> omega)) _).far (by first | (simp; done) | (simp; omega) | (simp [*]; done) | (simp only [ne_eq]; constructor <;> omega)) _).far (by first | (simp; done) | (simp; omega) | (simp [*]; done) | (simp only [ne_eq]; constructor <;> omega)) _)
  replace Ba : Blk ((((((w11.setCell ⟨ga, 0, none⟩ (uv A.b.v)).setCell ⟨ga, 1, none⟩ (uv A.b.m)).setCell ⟨ga, 2, none⟩ (uv A.lo)).setCell ⟨ga, 3, none⟩ (uv A.hi)).setCell ⟨ga, 4, none⟩ (sv A.sl)).setCell ⟨ga, 5, none⟩ (sv A.sh)) (ga) 43 #[uv A.b.v, uv A.b.m, uv A.lo, uv A.hi, sv A.sl, sv A.sh] := ((((((Ba.set_ 0 _).set_ 1 _).set_ 2 _).set_ 3 _).set_ 4 _).set_ 5 _)
  replace Bu : Blk ((((((w11.setCell ⟨ga, 0, none⟩ (uv A.b.v)).setCell ⟨ga, 1, none⟩ (uv A.b.m)).setCell ⟨ga, 2, none⟩ (uv A.lo)).setCell ⟨ga, 3, none⟩ (uv A.hi)).setCell ⟨ga, 4, none⟩ (sv A.sl)).setCell ⟨ga, 5, none⟩ (sv A.sh)) (gu) 43 #[.int .u64 0, .int .u64 0, .int .u64 0, .int .u64 0, .int .i64 0, .int .i64 0] := ((((((Bu.far (by first | (simp; done) | (simp; omega) | (simp [*]; done) | (simp only [ne_eq]; constructor <;> omega)) _).far (by first | (simp; done) | (simp; omega) | (simp [*]; done) | (simp only [ne_eq]; constructor <;> omega)) _).far (by first | (simp; done) | (simp; omega) | (simp [*]; done) | (simp only [ne_eq]; constructor <;> omega)) _).far (by first | (simp; done) | (simp; omega) | (simp [*]; done) | (simp only [ne_eq]; constructor <;> omega)) _).far (by first | (simp; done) | (simp; omega) | (simp [*]; done) | (simp only [ne_eq]; constructor <;> omega)) _).far (by first | (simp; done) | (simp; omega) | (simp [*]; done) | (simp only [ne_eq]; constructor <;> omega)) _)
  replace hB : Below w.heap.size w ((((((w11.setCell ⟨ga, 0, none⟩ (uv A.b.v)).setCell ⟨ga, 1, none⟩ (uv A.b.m)).setCell ⟨ga, 2, none⟩ (uv A.lo)).setCell ⟨ga, 3, none⟩ (uv A.hi)).setCell ⟨ga, 4, none⟩ (sv A.sl)).setCell ⟨ga, 5, none⟩ (sv A.sh)) := (Bl_set (Bl_set (Bl_set (Bl_set (Bl_set (Bl_set hB (by first | omega | (simp; done) | (simp; omega)) _) (by first | omega | (simp; done) | (simp; omega)) _) (by first | omega | (simp; done) | (simp; omega)) _) (by first | omega | (simp; done) | (simp; omega)) _) (by first | omega | (simp; done) | (simp; omega)) _) (by first | omega | (simp; done) | (simp; omega)) _)
  replace Br : Blk ((((((((((((w11.setCell ⟨ga, 0, none⟩ (uv A.b.v)).setCell ⟨ga, 1, none⟩ (uv A.b.m)).setCell ⟨ga, 2, none⟩ (uv A.lo)).setCell ⟨ga, 3, none⟩ (uv A.hi)).setCell ⟨ga, 4, none⟩ (sv A.sl)).setCell ⟨ga, 5, none⟩ (sv A.sh)).setCell ⟨gu, 0, none⟩ (uv A2.b.v)).setCell ⟨gu, 1, none⟩ (uv A2.b.m)).setCell ⟨gu, 2, none⟩ (uv A2.lo)).setCell ⟨gu, 3, none⟩ (uv A2.hi)).setCell ⟨gu, 4, none⟩ (sv A2.sl)).setCell ⟨gu, 5, none⟩ (sv A2.sh)) (gr) 43 #[uv R.b.v, uv R.b.m, uv R.lo, uv R.hi, sv R.sl, sv R.sh] := ((((((Br.far (by first | (simp; done) | (simp; omega) | (simp [*]; done) | (simp only [ne_eq]; constructor <;> omega)) _).far (by first | (simp; done) | (simp; omega) | (simp [*]; done) | (simp only [ne_eq]; constructor <;> omega)) _).far (by first | (simp; done) | (simp; omega) | (simp [*]; done) | (simp only [ne_eq]; constructor <;> omega)) _).far (by first | (simp; done) | (simp; omega) | (simp [*]; done) | (simp only [ne_eq]; constructor <;> omega)) _).far (by first | (simp; done) | (simp; omega) | (simp [*]; done) | (simp only [ne_eq]; constructor <;> omega)) _).far (by first | (simp; done) | (simp; omega) | (simp [*]; done) | (simp only [ne_eq]; constructor <;> omega)) _)
  replace Ba : Blk ((((((((((((w11.setCell ⟨ga, 0, none⟩ (uv A.b.v)).setCell ⟨ga, 1, none⟩ (uv A.b.m)).setCell ⟨ga, 2, none⟩ (uv A.lo)).setCell ⟨ga, 3, none⟩ (uv A.hi)).setCell ⟨ga, 4, none⟩ (sv A.sl)).setCell ⟨ga, 5, none⟩ (sv A.sh)).setCell ⟨gu, 0, none⟩ (uv A2.b.v)).setCell ⟨gu, 1, none⟩ (uv A2.b.m)).setCell ⟨gu, 2, none⟩ (uv A2.lo)).setCell ⟨gu, 3, none⟩ (uv A2.hi)).setCell ⟨gu, 4, none⟩ (sv A2.sl)).setCell ⟨gu, 5, none⟩ (sv A2.sh)) (ga) 43 #[uv A.b.v, uv A.b.m, uv A.lo, uv A.hi, sv A.sl, sv A.sh] := ((((((Ba.far (by first | (simp; done) | (simp; omega) | (simp [*]; done) | (simp only [ne_eq]; constructor <;> omega)) _).far (by first | (simp; done) | (simp; omega) | (simp [*]; done) | (simp only [ne_eq]; constructor <;> omega)) _).far (by first | (simp; done) | (simp; omega) | (simp [*]; done) | (simp only [ne_eq]; constructor <;> omega)) _).far (by first | (simp; done) | (simp; omega) | (simp [*]; done) | (simp only [ne_eq]; constructor <;> omega)) _).far (by first | (simp; done) | (simp; omega) | (simp [*]; done) | (simp only [ne_eq]; constructor <;> omega)) _).far (by first | (simp; done) | (simp; omega) | (simp [*]; done) | (simp only [ne_eq]; constructor <;> omega)) _)
  replace Bu : Blk ((((((((((((w11.setCell ⟨ga, 0, none⟩ (uv A.b.v)).setCell ⟨ga, 1, none⟩ (uv A.b.m)).setCell ⟨ga, 2, none⟩ (uv A.lo)).setCell ⟨ga, 3, none⟩ (uv A.hi)).setCell ⟨ga, 4, none⟩ (sv A.sl)).setCell ⟨ga, 5, none⟩ (sv A.sh)).setCell ⟨gu, 0, none⟩ (uv A2.b.v)).setCell ⟨gu, 1, none⟩ (uv A2.b.m)).setCell ⟨gu, 2, none⟩ (uv A2.lo)).setCell ⟨gu, 3, none⟩ (uv A2.hi)).setCell ⟨gu, 4, none⟩ (sv A2.sl)).setCell ⟨gu, 5, none⟩ (sv A2.sh)) (gu) 43 #[uv A2.b.v, uv A2.b.m, uv A2.lo, uv A2.hi, sv A2.sl, sv A2.sh] := ((((((Bu.set_ 0 _).set_ 1 _).set_ 2 _).set_ 3 _).set_ 4 _).set_ 5 _)
  replace hB : Below w.heap.size w ((((((((((((w11.setCell ⟨ga, 0, none⟩ (uv A.b.v)).setCell ⟨ga, 1, none⟩ (uv A.b.m)).setCell ⟨ga, 2, none⟩ (uv A.lo)).setCell ⟨ga, 3, none⟩ (uv A.hi)).setCell ⟨ga, 4, none⟩ (sv A.sl)).setCell ⟨ga, 5, none⟩ (sv A.sh)).setCell ⟨gu, 0, none⟩ (uv A2.b.v)).setCell ⟨gu, 1, none⟩ (uv A2.b.m)).setCell ⟨gu, 2, none⟩ (uv A2.lo)).setCell ⟨gu, 3, none⟩ (uv A2.hi)).setCell ⟨gu, 4, none⟩ (sv A2.sl)).setCell ⟨gu, 5, none⟩ (sv A2.sh)) := (Bl_set (Bl_set (Bl_set (Bl_set (Bl_set (Bl_set hB (by first | omega | (simp; done) | (simp; omega)) _) (by first | omega | (simp; done) | (simp; omega)) _) (by first | omega | (simp; done) | (simp; omega)) _) (by first | omega | (simp; done) | (simp; omega)) _) (by first | omega | (simp; done) | (simp; omega)) _) (by first | omega | (simp; done) | (simp; omega)) _)
  generalize ((((((((((((w11.setCell ⟨ga, 0, none⟩ (uv A.b.v)).setCell ⟨ga, 1, none⟩ (uv A.b.m)).setCell ⟨ga, 2, none⟩ (uv A.lo)).setCell ⟨ga, 3, none⟩ (uv A.hi)).setCell ⟨ga, 4, none⟩ (sv A.sl)).setCell ⟨ga, 5, none⟩ (sv A.sh)).setCell ⟨gu, 0, none⟩ (uv A2.b.v)).setCell ⟨gu, 1, none⟩ (uv A2.b.m)).setCell ⟨gu, 2, none⟩ (uv A2.lo)).setCell ⟨gu, 3, none⟩ (uv A2.hi)).setCell ⟨gu, 4, none⟩ (sv A2.sl)).setCell ⟨gu, 5, none⟩ (sv A2.sh)) = w12 at *
  obtain ⟨cr0, cr1, cr2, cr3, cr4, cr5⟩ := cells6 Br
  have fr := Br.frozen; have lr := Br.lt
  obtain ⟨ca0, ca1, ca2, ca3, ca4, ca5⟩ := cells6 Ba
  have fa := Ba.frozen; have la := Ba.lt
  obtain ⟨cu0, cu1, cu2, cu3, cu4, cu5⟩ := cells6 Bu
  have fu := Bu.frozen; have lu := Bu.lt
  clear cr0 cr1 cr2 cr3 cr4 cr5 fr lr
  clear ca0 ca1 ca2 ca3 ca4 ca5 fa la
  clear cu0 cu1 cu2 cu3 cu4 cu5 fu lu
  clear Bu
  obtain ⟨cr0, cr1, cr2, cr3, cr4, cr5⟩ := cells6 Br
  have fr := Br.frozen; have lr := Br.lt
  obtain ⟨ca0, ca1, ca2, ca3, ca4, ca5⟩ := cells6 Ba
  have fa := Ba.frozen; have la := Ba.lt
  go_wp2_with fail
  refine (K_ha.out _).mono ?_
  rintro e w13 ⟨rfl, hb⟩
  clear cr0 cr1 cr2 cr3 cr4 cr5 fr lr
  clear ca0 ca1 ca2 ca3 ca4 ca5 fa la
  replace Br := (Br).next hb
  replace Ba := (Ba).next hb
  replace hB : Below w.heap.size w w13 := by repeat (first | exact hB | (refine Bl_set ?_ (by first | omega | (simp; omega)) _) | apply Bl_alloc | (refine Bl_trans ?_ hb))
  clear hb
  obtain ⟨cr0, cr1, cr2, cr3, cr4, cr5⟩ := cells6 Br
  have fr := Br.frozen; have lr := Br.lt
  obtain ⟨ca0, ca1, ca2, ca3, ca4, ca5⟩ := cells6 Ba
  have fa := Ba.frozen; have la := Ba.lt
  go_wp2_with fail
  refine (K_wi.out _).mono ?_
  rintro e w14 ⟨rfl, hb⟩
  clear cr0 cr1 cr2 cr3 cr4 cr5 fr lr
  clear ca0 ca1 ca2 ca3 ca4 ca5 fa la
  replace Br := (Br).next hb
  replace Ba := (Ba).next hb
  replace hB : Below w.heap.size w w14 := by repeat (first | exact hB | (refine Bl_set ?_ (by first | omega | (simp; omega)) _) | apply Bl_alloc | (refine Bl_trans ?_ hb))
  clear hb
  obtain ⟨cr0, cr1, cr2, cr3, cr4, cr5⟩ := cells6 Br
  have fr := Br.frozen; have lr := Br.lt
  obtain ⟨ca0, ca1, ca2, ca3, ca4, ca5⟩ := cells6 Ba
  have fa := Ba.frozen; have la := Ba.lt
  go_upto_region 11 with fail
  have hck : IntKind.u64.wrap (k : Int) = T k6 := by rw [HK6.out, wrap_u, ofInt_T]
  go_wp2_with fail
  clear cr0 cr1 cr2 cr3 cr4 cr5; obtain ⟨cr0, cr1, cr2, cr3, cr4, cr5⟩ := lcells6 Br
  clear ca0 ca1 ca2 ca3 ca4 ca5; obtain ⟨ca0, ca1, ca2, ca3, ca4, ca5⟩ := lcells6 Ba
  refine wp_region_mix 6 (fun _ => #[.int .u64 0, .int .u64 0, .int .u64 0, .int .u64 0, .int .i64 0, .int .i64 0]) (by kernel_rfl) (by kernel_rfl) (fun o t ho ht => by
    simp at ho
    rcases ho with rfl | rfl | rfl | rfl | rfl | rfl <;> first | (cases ht; done) | (obtain rfl := Option.some.inj ht; exact fun ρ w => new_rng ht ρ w)) ?_
  simp only [List.take_succ_cons, List.take_zero, List.drop_succ_cons, List.drop_zero]
  repeat ((with_reducible refine wpMix_step (fun K hK => ?_)); go_simp; first | ((with_reducible refine hK _ ?_); clear hK K) | (rw [if_neg (by decide)]; (with_reducible refine hK _ ?_); clear hK K) | (apply Exists.intro; refine ⟨fun g => ?_, hK _ ?_⟩; ((with_reducible refine Calls.mono (K_ck.out g.w) ?_); exact fun _ _ h => h); clear hK K) | (apply Exists.intro; refine ⟨fun g => ?_, hK _ ?_⟩; ((with_reducible refine Calls.mono (K_b.out g.w) ?_); exact fun _ _ h => h); clear hK K))
  refine wpMix_nil ?_
  intro G w15 hgr hblk hdist
  have hb : Below w14.heap.size w14 w15 := hgr
  replace Br := Br.next hb
  replace Ba := Ba.next hb
  obtain ⟨Bb, hlb⟩ := hblk 5 _ rfl
  have hgb : w.heap.size ≤ G 5 := Nat.le_trans hB.size hlb
  have hnrb : gr ≠ G 5 := Nat.ne_of_lt (Nat.lt_of_lt_of_le lr hlb)
  have hnab : ga ≠ G 5 := Nat.ne_of_lt (Nat.lt_of_lt_of_le la hlb)
  clear hlb
  clear cr0 cr1 cr2 cr3 cr4 cr5 fr lr
  clear ca0 ca1 ca2 ca3 ca4 ca5 fa la
  replace hB : Below w.heap.size w w15 := Bl_trans hB hb
  simp only [putAll, isAlloc, Act.put]
  generalize G 5 = gb at *
  clear hb hgr hblk hdist
  obtain ⟨cr0, cr1, cr2, cr3, cr4, cr5⟩ := cells6 Br
  have fr := Br.frozen; have lr := Br.lt
  obtain ⟨ca0, ca1, ca2, ca3, ca4, ca5⟩ := cells6 Ba
  have fa := Ba.frozen; have la := Ba.lt
  obtain ⟨cb0, cb1, cb2, cb3, cb4, cb5⟩ := cells6 Bb
  have fb := Bb.frozen; have lb := Bb.lt
  clear hck
  go_upto_region 12 with fail
  clear cr0 cr1 cr2 cr3 cr4 cr5 fr lr
  clear ca0 ca1 ca2 ca3 ca4 ca5 fa la
  clear cb0 cb1 cb2 cb3 cb4 cb5 fb lb
  replace Br : Blk ((((((w15.setCell ⟨gb, 0, none⟩ (uv SB.b.v)).setCell ⟨gb, 1, none⟩ (uv SB.b.m)).setCell ⟨gb, 2, none⟩ (uv SB.lo)).setCell ⟨gb, 3, none⟩ (uv SB.hi)).setCell ⟨gb, 4, none⟩ (sv SB.sl)).setCell ⟨gb, 5, none⟩ (sv SB.sh)) (gr) 43 #[uv R.b.v, uv R.b.m, uv R.lo, uv R.hi, sv R.sl, sv R.sh] := ((((((Br.far (by first | (simp; done) | (simp; omega) | (simp [*]; done) | (simp only [ne_eq]; constructor <;> omega)) _).far (by first | (simp; done) | (simp; omega) | (simp [*]; done) | (simp only [ne_eq]; constructor <;> omega)) _).far (by first | (simp; done) | (simp; omega) | (simp [*]; done) | (simp only [ne_eq]; constructor <;> omega)) _).far (by first | (simp; done) | (simp; omega) | (simp [*]; done) | (simp only [ne_eq]; constructor <;> omega)) _).far (by first | (simp; done) | (simp; omega) | (simp [*]; done) | (simp only [ne_eq]; constructor <;> omega)) _).far (by first | (simp; done) | (simp; omega) | (simp [*]; done) | (simp only [ne_eq]; constructor <;> omega)) _)
  replace Ba : Blk ((((((w15.setCell ⟨gb, 0, none⟩ (uv SB.b.v)).setCell ⟨gb, 1, none⟩ (uv SB.b.m)).setCell ⟨gb, 2, none⟩ (uv SB.lo)).setCell ⟨gb, 3, none⟩ (uv SB.hi)).setCell ⟨gb, 4, none⟩ (sv SB.sl)).setCell ⟨gb, 5, none⟩ (sv SB.sh)) (ga) 43 #[uv A.b.v, uv A.b.m, uv A.lo, uv A.hi, sv A.sl, sv A.sh] := ((((((Ba.far (by first | (simp; done) | (simp; omega) | (simp [*]; done) | (simp only [ne_eq]; constructor <;> omega)) _).far (by first | (simp; done) | (simp; omega) | (simp [*]; done) | (simp only [ne_eq]; constructor <;> omega)) _).far (by first | (simp; done) | (simp; omega) | (simp [*]; done) | (simp only [ne_eq]; constructor <;> omega)) _).far (by first | (simp; done) | (simp; omega) | (simp [*]; done) | (simp only [ne_eq]; constructor <;> omega)) _).far (by first | (simp; done) | (simp; omega) | (simp [*]; done) | (simp only [ne_eq]; constructor <;> omega)) _).far (by first | (simp; done) | (simp; omega) | (simp [*]; done) | (simp only [ne_eq]; constructor <;> omega)) _)
  replace Bb : Blk ((((((w15.setCell ⟨gb, 0, none⟩ (uv SB.b.v)).setCell ⟨gb, 1, none⟩ (uv SB.b.m)).setCell ⟨gb, 2, none⟩ (uv SB.lo)).setCell ⟨gb, 3, none⟩ (uv SB.hi)).setCell ⟨gb, 4, none⟩ (sv SB.sl)).setCell ⟨gb, 5, none⟩ (sv SB.sh)) (gb) 43 #[uv SB.b.v, uv SB.b.m, uv SB.lo, uv SB.hi, sv SB.sl, sv SB.sh] := ((((((Bb.set_ 0 _).set_ 1 _).set_ 2 _).set_ 3 _).set_ 4 _).set_ 5 _)
  replace hB : Below w.heap.size w ((((((w15.setCell ⟨gb, 0, none⟩ (uv SB.b.v)).setCell ⟨gb, 1, none⟩ (uv SB.b.m)).setCell ⟨gb, 2, none⟩ (uv SB.lo)).setCell ⟨gb, 3, none⟩ (uv SB.hi)).setCell ⟨gb, 4, none⟩ (sv SB.sl)).setCell ⟨gb, 5, none⟩ (sv SB.sh)) := (Bl_set (Bl_set (Bl_set (Bl_set (Bl_set (Bl_set hB (by first | omega | (simp; done) | (simp; omega)) _) (by first | omega | (simp; done) | (simp; omega)) _) (by first | omega | (simp; done) | (simp; omega)) _) (by first | omega | (simp; done) | (simp; omega)) _) (by first | omega | (simp; done) | (simp; omega)) _) (by first | omega | (simp; done) | (simp; omega)) _)
  generalize ((((((w15.setCell ⟨gb, 0, none⟩ (uv SB.b.v)).setCell ⟨gb, 1, none⟩ (uv SB.b.m)).setCell ⟨gb, 2, none⟩ (uv SB.lo)).setCell ⟨gb, 3, none⟩ (uv SB.hi)).setCell ⟨gb, 4, none⟩ (sv SB.sl)).setCell ⟨gb, 5, none⟩ (sv SB.sh)) = w16 at *
  obtain ⟨cr0, cr1, cr2, cr3, cr4, cr5⟩ := cells6 Br
  have fr := Br.frozen; have lr := Br.lt
  obtain ⟨ca0, ca1, ca2, ca3, ca4, ca5⟩ := cells6 Ba
  have fa := Ba.frozen; have la := Ba.lt
  obtain ⟨cb0, cb1, cb2, cb3, cb4, cb5⟩ := cells6 Bb
  have fb := Bb.frozen; have lb := Bb.lt
  go_wp2_with fail
  refine (K_c.out _).mono ?_
  rintro e w17 ⟨rfl, hb⟩
  clear cr0 cr1 cr2 cr3 cr4 cr5 fr lr
  clear ca0 ca1 ca2 ca3 ca4 ca5 fa la
  clear cb0 cb1 cb2 cb3 cb4 cb5 fb lb
  replace Br := (Br).next hb
  replace Ba := (Ba).next hb
  replace Bb := (Bb).next hb
  replace hB : Below w.heap.size w w17 := by repeat (first | exact hB | (refine Bl_set ?_ (by first | omega | (simp; omega)) _) | apply Bl_alloc | (refine Bl_trans ?_ hb))
  clear hb
  obtain ⟨cr0, cr1, cr2, cr3, cr4, cr5⟩ := cells6 Br
  have fr := Br.frozen; have lr := Br.lt
  obtain ⟨ca0, ca1, ca2, ca3, ca4, ca5⟩ := cells6 Ba
  have fa := Ba.frozen; have la := Ba.lt
  obtain ⟨cb0, cb1, cb2, cb3, cb4, cb5⟩ := cells6 Bb
  have fb := Bb.frozen; have lb := Bb.lt
  go_upto_region 13 with fail
  clear cr0 cr1 cr2 cr3 cr4 cr5 fr lr
  clear ca0 ca1 ca2 ca3 ca4 ca5 fa la
  clear cb0 cb1 cb2 cb3 cb4 cb5 fb lb
  have Bc := Blk.new w17 43 #[uv SC.b.v, uv SC.b.m, uv SC.lo, uv SC.hi, sv SC.sl, sv SC.sh]
  have hgc := hB.size
  have hnrc := Nat.ne_of_lt Br.lt; have hltrc := Br.lt
  have hnac := Nat.ne_of_lt Ba.lt; have hltac := Ba.lt
  have hnbc := Nat.ne_of_lt Bb.lt; have hltbc := Bb.lt
  replace Br : Blk (w17.alloc (.cells #[uv SC.b.v, uv SC.b.m, uv SC.lo, uv SC.hi, sv SC.sl, sv SC.sh] 43)) (gr) 43 #[uv R.b.v, uv R.b.m, uv R.lo, uv R.hi, sv R.sl, sv R.sh] := Br.alloc _
  replace Ba : Blk (w17.alloc (.cells #[uv SC.b.v, uv SC.b.m, uv SC.lo, uv SC.hi, sv SC.sl, sv SC.sh] 43)) (ga) 43 #[uv A.b.v, uv A.b.m, uv A.lo, uv A.hi, sv A.sl, sv A.sh] := Ba.alloc _
  replace Bb : Blk (w17.alloc (.cells #[uv SC.b.v, uv SC.b.m, uv SC.lo, uv SC.hi, sv SC.sl, sv SC.sh] 43)) (gb) 43 #[uv SB.b.v, uv SB.b.m, uv SB.lo, uv SB.hi, sv SB.sl, sv SB.sh] := Bb.alloc _
  replace hB : Below w.heap.size w (w17.alloc (.cells #[uv SC.b.v, uv SC.b.m, uv SC.lo, uv SC.hi, sv SC.sl, sv SC.sh] 43)) := Bl_alloc hB _
  generalize (w17.alloc (.cells #[uv SC.b.v, uv SC.b.m, uv SC.lo, uv SC.hi, sv SC.sl, sv SC.sh] 43)) = w18 at *
  generalize w17.heap.size = gc at *
  obtain ⟨cr0, cr1, cr2, cr3, cr4, cr5⟩ := cells6 Br
  have fr := Br.frozen; have lr := Br.lt
  obtain ⟨ca0, ca1, ca2, ca3, ca4, ca5⟩ := cells6 Ba
  have fa := Ba.frozen; have la := Ba.lt
  obtain ⟨cb0, cb1, cb2, cb3, cb4, cb5⟩ := cells6 Bb
  have fb := Bb.frozen; have lb := Bb.lt
  obtain ⟨cc0, cc1, cc2, cc3, cc4, cc5⟩ := cells6 Bc
  have fc := Bc.frozen; have lc := Bc.lt
  go_wp2_with fail
  clear cr0 cr1 cr2 cr3 cr4 cr5; obtain ⟨cr0, cr1, cr2, cr3, cr4, cr5⟩ := lcells6 Br
  clear ca0 ca1 ca2 ca3 ca4 ca5; obtain ⟨ca0, ca1, ca2, ca3, ca4, ca5⟩ := lcells6 Ba
  clear cb0 cb1 cb2 cb3 cb4 cb5; obtain ⟨cb0, cb1, cb2, cb3, cb4, cb5⟩ := lcells6 Bb
  clear cc0 cc1 cc2 cc3 cc4 cc5; obtain ⟨cc0, cc1, cc2, cc3, cc4, cc5⟩ := lcells6 Bc
  refine wp_region_mix 4 (fun _ => #[.int .u64 0, .int .u64 0, .int .u64 0, .int .u64 0, .int .i64 0, .int .i64 0]) (by kernel_rfl) (by kernel_rfl) (fun o t ho ht => by
    simp at ho
    rcases ho with rfl | rfl | rfl | rfl <;> first | (cases ht; done) | (obtain rfl := Option.some.inj ht; exact fun ρ w => new_rng ht ρ w)) ?_
  simp only [List.take_succ_cons, List.take_zero, List.drop_succ_cons, List.drop_zero]
  repeat ((with_reducible refine wpMix_step (fun K hK => ?_)); go_simp; first | ((with_reducible refine hK _ ?_); clear hK K) | (rw [if_neg (by decide)]; (with_reducible refine hK _ ?_); clear hK K) | (apply Exists.intro; refine ⟨fun g => ?_, hK _ ?_⟩; ((with_reducible refine Calls.mono (K_c3.out g.w) ?_); exact fun _ _ h => h); clear hK K) | (apply Exists.intro; refine ⟨fun g => ?_, hK _ ?_⟩; ((with_reducible refine Calls.mono (K_d.out g.w) ?_); exact fun _ _ h => h); clear hK K))
  refine wpMix_nil ?_
  intro G w19 hgr hblk hdist
  have hb : Below w18.heap.size w18 w19 := hgr
  replace Br := Br.next hb
  replace Ba := Ba.next hb
  replace Bb := Bb.next hb
  replace Bc := Bc.next hb
  obtain ⟨Bd, hld⟩ := hblk 3 _ rfl
  have hgd : w.heap.size ≤ G 3 := Nat.le_trans hB.size hld
  have hnrd : gr ≠ G 3 := Nat.ne_of_lt (Nat.lt_of_lt_of_le lr hld)
  have hnad : ga ≠ G 3 := Nat.ne_of_lt (Nat.lt_of_lt_of_le la hld)
  have hnbd : gb ≠ G 3 := Nat.ne_of_lt (Nat.lt_of_lt_of_le lb hld)
  have hncd : gc ≠ G 3 := Nat.ne_of_lt (Nat.lt_of_lt_of_le lc hld)
  clear hld
  clear cr0 cr1 cr2 cr3 cr4 cr5 fr lr
  clear ca0 ca1 ca2 ca3 ca4 ca5 fa la
  clear cb0 cb1 cb2 cb3 cb4 cb5 fb lb
  clear cc0 cc1 cc2 cc3 cc4 cc5 fc lc
  replace hB : Below w.heap.size w w19 := Bl_trans hB hb
  simp only [putAll, isAlloc, Act.put]
  generalize G 3 = gd at *
  clear hb hgr hblk hdist
  obtain ⟨cr0, cr1, cr2, cr3, cr4, cr5⟩ := cells6 Br
  have fr := Br.frozen; have lr := Br.lt
  obtain ⟨ca0, ca1, ca2, ca3, ca4, ca5⟩ := cells6 Ba
  have fa := Ba.frozen; have la := Ba.lt
  obtain ⟨cb0, cb1, cb2, cb3, cb4, cb5⟩ := cells6 Bb
  have fb := Bb.frozen; have lb := Bb.lt
  obtain ⟨cc0, cc1, cc2, cc3, cc4, cc5⟩ := cells6 Bc
  have fc := Bc.frozen; have lc := Bc.lt
  obtain ⟨cd0, cd1, cd2, cd3, cd4, cd5⟩ := cells6 Bd
  have fd := Bd.frozen; have ld := Bd.lt
  go_upto_region 14 with fail
  clear cr0 cr1 cr2 cr3 cr4 cr5 fr lr
  clear ca0 ca1 ca2 ca3 ca4 ca5 fa la
  clear cb0 cb1 cb2 cb3 cb4 cb5 fb lb
  clear cc0 cc1 cc2 cc3 cc4 cc5 fc lc
  clear cd0 cd1 cd2 cd3 cd4 cd5 fd ld
  replace Br : Blk ((((((w19.setCell ⟨gd, 0, none⟩ (uv SD.b.v)).setCell ⟨gd, 1, none⟩ (uv SD.b.m)).setCell ⟨gd, 2, none⟩ (uv SD.lo)).setCell ⟨gd, 3, none⟩ (uv SD.hi)).setCell ⟨gd, 4, none⟩ (sv SD.sl)).setCell ⟨gd, 5, none⟩ (sv SD.sh)) (gr) 43 #[uv R.b.v, uv R.b.m, uv R.lo, uv R.hi, sv R.sl, sv R.sh] := ((((((Br.far (by first | (simp; done) | (simp; omega) | (simp [*]; done) | (simp only [ne_eq]; constructor <;> omega)) _).far (by first | (simp; done) | (simp; omega) | (simp [*]; done) | (simp only [ne_eq]; constructor <;> omega)) _).far (by first | (simp; done) | (simp; omega) | (simp [*]; done) | (simp only [ne_eq]; constructor <;> omega)) _).far (by first | (simp; done) | (simp; omega) | (simp [*]; done) | (simp only [ne_eq]; constructor <;> omega)) _).far (by first | (simp; done) | (simp; omega) | (simp [*]; done) | (simp only [ne_eq]; constructor <;> omega)) _).far (by first | (simp; done) | (simp; omega) | (simp [*]; done) | (simp only [ne_eq]; constructor <;> omega)) _)
  replace Ba : Blk ((((((w19.setCell ⟨gd, 0, none⟩ (uv SD.b.v)).setCell ⟨gd, 1, none⟩ (uv SD.b.m)).setCell ⟨gd, 2, none⟩ (uv SD.lo)).setCell ⟨gd, 3, none⟩ (uv SD.hi)).setCell ⟨gd, 4, none⟩ (sv SD.sl)).setCell ⟨gd, 5, none⟩ (sv SD.sh)) (ga) 43 #[uv A.b.v, uv A.b.m, uv A.lo, uv A.hi, sv A.sl, sv A.sh] := ((((((Ba.far (by first | (simp; done) | (simp; omega) | (simp [*]; done) | (simp only [ne_eq]; constructor <;> omega)) _).far (by first | (simp; done) | (simp; omega) | (simp [*]; done) | (simp only [ne_eq]; constructor <;> omega)) _).far (by first | (simp; done) | (simp; omega) | (simp [*]; done) | (simp only [ne_eq]; constructor <;> omega)) _).far (by first | (simp; done) | (simp; omega) | (simp [*]; done) | (simp only [ne_eq]; constructor <;> omega)) _).far (by first | (simp; done) | (simp; omega) | (simp [*]; done) | (simp only [ne_eq]; constructor <;> omega)) _).far (by first | (simp; done) | (simp; omega) | (simp [*]; done) | (simp only [ne_eq]; constructor <;> omega)) _)
  replace Bb : Blk ((((((w19.setCell ⟨gd, 0, none⟩ (uv SD.b.v)).setCell ⟨gd, 1, none⟩ (uv SD.b.m)).setCell ⟨gd, 2, none⟩ (uv SD.lo)).setCell ⟨gd, 3, none⟩ (uv SD.hi)).setCell ⟨gd, 4, none⟩ (sv SD.sl)).setCell ⟨gd, 5, none⟩ (sv SD.sh)) (gb) 43 #[uv SB.b.v, uv SB.b.m, uv SB.lo, uv SB.hi, sv SB.sl, sv SB.sh] := ((((((Bb.far (by first | (simp; done) | (simp; omega) | (simp [*]; done) | (simp only [ne_eq]; constructor <;> omega)) _).far (by first | (simp; done) | (simp; omega) | (simp [*]; done) | (simp only [ne_eq]; constructor <;> omega)) _).far (by first | (simp; done) | (simp; omega) | (simp [*]; done) | (simp only [ne_eq]; constructor <;> omega)) _).far (by first | (simp; done) | (simp; omega) | (simp [*]; done) | (simp only [ne_eq]; constructor <;> omega)) _).far (by first | (simp; done) | (simp; omega) | (simp [*]; done) | (simp only [ne_eq]; constructor <;> omega)) _).far (by first | (simp; done) | (simp; omega) | (simp [*]; done) | (simp only [ne_eq]; constructor <;> omega)) _)
  replace Bc : Blk ((((((w19.setCell ⟨gd, 0, none⟩ (uv SD.b.v)).setCell ⟨gd, 1, none⟩ (uv SD.b.m)).setCell ⟨gd, 2, none⟩ (uv SD.lo)).setCell ⟨gd, 3, none⟩ (uv SD.hi)).setCell ⟨gd, 4, none⟩ (sv SD.sl)).setCell ⟨gd, 5, none⟩ (sv SD.sh)) (gc) 43 #[uv SC.b.v, uv SC.b.m, uv SC.lo, uv SC.hi, sv SC.sl, sv SC.sh] := ((((((Bc.far (by first | (simp; done) | (simp; omega) | (simp [*]; done) | (simp only [ne_eq]; constructor <;> omega)) _).far (by first | (simp; done) | (simp; omega) | (simp [*]; done) | (simp only [ne_eq]; constructor <;> omega)) _).far (by first | (simp; done) | (simp; omega) | (simp [*]; done) | (simp only [ne_eq]; constructor <;> omega)) _).far (by first | (simp; done) | (simp; omega) | (simp [*]; done) | (simp only [ne_eq]; constructor <;> omega)) _).far (by first | (simp; done) | (simp; omega) | (simp [*]; done) | (simp only [ne_eq]; constructor <;> omega)) _).far (by first | (simp; done) | (simp; omega) | (simp [*]; done) | (simp only [ne_eq]; constructor <;> omega)) _)
  replace Bd : Blk ((((((w19.setCell ⟨gd, 0, none⟩ (uv SD.b.v)).setCell ⟨gd, 1, none⟩ (uv SD.b.m)).setCell ⟨gd, 2, none⟩ (uv SD.lo)).setCell ⟨gd, 3, none⟩ (uv SD.hi)).setCell ⟨gd, 4, none⟩ (sv SD.sl)).setCell ⟨gd, 5, none⟩ (sv SD.sh)) (gd) 43 #[uv SD.b.v, uv SD.b.m, uv SD.lo, uv SD.hi, sv SD.sl, sv SD.sh] := ((((((Bd.set_ 0 _).set_ 1 _).set_ 2 _).set_ 3 _).set_ 4 _).set_ 5 _)
  replace hB : Below w.heap.size w ((((((w19.setCell ⟨gd, 0, none⟩ (uv SD.b.v)).setCell ⟨gd, 1, none⟩ (uv SD.b.m)).setCell ⟨gd, 2, none⟩ (uv SD.lo)).setCell ⟨gd, 3, none⟩ (uv SD.hi)).setCell ⟨gd, 4, none⟩ (sv SD.sl)).setCell ⟨gd, 5, none⟩ (sv SD.sh)) := (Bl_set (Bl_set (Bl_set (Bl_set (Bl_set (Bl_set hB (by first | omega | (simp; done) | (simp; omega)) _) (by first | omega | (simp; done) | (simp; omega)) _) (by first | omega | (simp; done) | (simp; omega)) _) (by first | omega | (simp; done) | (simp; omega)) _) (by first | omega | (simp; done) | (simp; omega)) _) (by first | omega | (simp; done) | (simp; omega)) _)
  generalize ((((((w19.setCell ⟨gd, 0, none⟩ (uv SD.b.v)).setCell ⟨gd, 1, none⟩ (uv SD.b.m)).setCell ⟨gd, 2, none⟩ (uv SD.lo)).setCell ⟨gd, 3, none⟩ (uv SD.hi)).setCell ⟨gd, 4, none⟩ (sv SD.sl)).setCell ⟨gd, 5, none⟩ (sv SD.sh)) = w20 at *
  obtain ⟨cr0, cr1, cr2, cr3, cr4, cr5⟩ := cells6 Br
  have fr := Br.frozen; have lr := Br.lt
  obtain ⟨ca0, ca1, ca2, ca3, ca4, ca5⟩ := cells6 Ba
  have fa := Ba.frozen; have la := Ba.lt
  obtain ⟨cb0, cb1, cb2, cb3, cb4, cb5⟩ := cells6 Bb
  have fb := Bb.frozen; have lb := Bb.lt
  obtain ⟨cc0, cc1, cc2, cc3, cc4, cc5⟩ := cells6 Bc
  have fc := Bc.frozen; have lc := Bc.lt
  obtain ⟨cd0, cd1, cd2, cd3, cd4, cd5⟩ := cells6 Bd
  have fd := Bd.frozen; have ld := Bd.lt
  have hs1 : IntKind.u64.wrap (T n * 2 ^ k) = T (n <<< k) := by rw [← u_shl, Nat.min_eq_left (by omega)]
  have hs2 := u_shl n k
  have hn' : ¬ (k : Int) < 0 := by omega
  go_upto_region 15 with fail
  clear hs1 hs2 hn'
  go_wp2_with fail
  refine (K_hb.out _).mono ?_
  rintro e w21 ⟨rfl, hb⟩
  clear cr0 cr1 cr2 cr3 cr4 cr5 fr lr
  clear ca0 ca1 ca2 ca3 ca4 ca5 fa la
  clear cb0 cb1 cb2 cb3 cb4 cb5 fb lb
  clear cc0 cc1 cc2 cc3 cc4 cc5 fc lc
  clear cd0 cd1 cd2 cd3 cd4 cd5 fd ld
  replace Br := (Br).next hb
  replace Ba := (Ba).next hb
  replace Bb := (Bb).next hb
  replace Bc := (Bc).next hb
  replace Bd := (Bd).next hb
  replace hB : Below w.heap.size w w21 := by repeat (first | exact hB | (refine Bl_set ?_ (by first | omega | (simp; omega)) _) | apply Bl_alloc | (refine Bl_trans ?_ hb))
  clear hb
  obtain ⟨cr0, cr1, cr2, cr3, cr4, cr5⟩ := cells6 Br
  have fr := Br.frozen; have lr := Br.lt
  obtain ⟨ca0, ca1, ca2, ca3, ca4, ca5⟩ := cells6 Ba
  have fa := Ba.frozen; have la := Ba.lt
  obtain ⟨cb0, cb1, cb2, cb3, cb4, cb5⟩ := cells6 Bb
  have fb := Bb.frozen; have lb := Bb.lt
  obtain ⟨cc0, cc1, cc2, cc3, cc4, cc5⟩ := cells6 Bc
  have fc := Bc.frozen; have lc := Bc.lt
  obtain ⟨cd0, cd1, cd2, cd3, cd4, cd5⟩ := cells6 Bd
  have fd := Bd.frozen; have ld := Bd.lt
  have hnn : z64 (x &&& m) = n := HN.out.symm
  go_upto_region 18 with fail
  clear hnn
  go_wp2_with fail
  refine (K_hc.out _).mono ?_
  rintro e w22 ⟨rfl, hb⟩
  clear cr0 cr1 cr2 cr3 cr4 cr5 fr lr
  clear ca0 ca1 ca2 ca3 ca4 ca5 fa la
  clear cb0 cb1 cb2 cb3 cb4 cb5 fb lb
  clear cc0 cc1 cc2 cc3 cc4 cc5 fc lc
  clear cd0 cd1 cd2 cd3 cd4 cd5 fd ld
  replace Br := (Br).next hb
  replace Ba := (Ba).next hb
  replace Bb := (Bb).next hb
  replace Bc := (Bc).next hb
  replace Bd := (Bd).next hb
  replace hB : Below w.heap.size w w22 := by repeat (first | exact hB | (refine Bl_set ?_ (by first | omega | (simp; omega)) _) | apply Bl_alloc | (refine Bl_trans ?_ hb))
  clear hb
  obtain ⟨cr0, cr1, cr2, cr3, cr4, cr5⟩ := cells6 Br
  have fr := Br.frozen; have lr := Br.lt
  obtain ⟨ca0, ca1, ca2, ca3, ca4, ca5⟩ := cells6 Ba
  have fa := Ba.frozen; have la := Ba.lt
  obtain ⟨cb0, cb1, cb2, cb3, cb4, cb5⟩ := cells6 Bb
  have fb := Bb.frozen; have lb := Bb.lt
  obtain ⟨cc0, cc1, cc2, cc3, cc4, cc5⟩ := cells6 Bc
  have fc := Bc.frozen; have lc := Bc.lt
  obtain ⟨cd0, cd1, cd2, cd3, cd4, cd5⟩ := cells6 Bd
  have fd := Bd.frozen; have ld := Bd.lt
  have h3 : IntKind.u64.wrap (T (n <<< k + n) - 3) = T (n <<< k + n - 3#64) := u_sub (n <<< k + n) 3#64
  go_upto_region 20 with fail
  go_wp2_with fail
  clear h3
  try rw [u_of_u32]
  refine (K_hd.out _).mono ?_
  rintro e w23 ⟨rfl, hb⟩
  clear cr0 cr1 cr2 cr3 cr4 cr5 fr lr
  clear ca0 ca1 ca2 ca3 ca4 ca5 fa la
  clear cb0 cb1 cb2 cb3 cb4 cb5 fb lb
  clear cc0 cc1 cc2 cc3 cc4 cc5 fc lc
  clear cd0 cd1 cd2 cd3 cd4 cd5 fd ld
  replace Br := (Br).next hb
  replace Ba := (Ba).next hb
  replace Bb := (Bb).next hb
  replace Bc := (Bc).next hb
  replace Bd := (Bd).next hb
  replace hB : Below w.heap.size w w23 := by repeat (first | exact hB | (refine Bl_set ?_ (by first | omega | (simp; omega)) _) | apply Bl_alloc | (refine Bl_trans ?_ hb))
  clear hb
  obtain ⟨cr0, cr1, cr2, cr3, cr4, cr5⟩ := cells6 Br
  have fr := Br.frozen; have lr := Br.lt
  obtain ⟨ca0, ca1, ca2, ca3, ca4, ca5⟩ := cells6 Ba
  have fa := Ba.frozen; have la := Ba.lt
  obtain ⟨cb0, cb1, cb2, cb3, cb4, cb5⟩ := cells6 Bb
  have fb := Bb.frozen; have lb := Bb.lt
  obtain ⟨cc0, cc1, cc2, cc3, cc4, cc5⟩ := cells6 Bc
  have fc := Bc.frozen; have lc := Bc.lt
  obtain ⟨cd0, cd1, cd2, cd3, cd4, cd5⟩ := cells6 Bd
  have fd := Bd.frozen; have ld := Bd.lt
  go_wp2
  go_ret
  exact ⟨rfl, by repeat (first | exact hB | (refine Bl_set ?_ (by first | omega | (simp; omega)) _) | apply Bl_alloc)⟩
end Go.Proofs.YtmghpoagpiljhaaDoor
