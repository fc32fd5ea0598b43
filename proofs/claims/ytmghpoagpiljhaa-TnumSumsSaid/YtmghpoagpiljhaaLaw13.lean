/- The small functions of the laws of layer 13, and of their reference. -/
import Derived.Test.YtmghpoagpiljhaaMul
import Derived.Test.YtmghpoagpiljhaaMix
import Derived.Test.YtmghpoagpiljhaaBits
namespace Go.Proofs.Ytmghpoagpiljhaa
open Go.RowKit
open PlainTnum (N)

@[go_sem] theorem u_xorAll (x : W) : bits .xor .u64 (T x) 18446744073709551615 = T (~~~x) := by
  rw [bits_xor, ofInt_T]
  have e : BitVec.ofInt 64 18446744073709551615 = BitVec.allOnes 64 := by decide
  rw [e, BitVec.xor_allOnes]
theorem const1_c (w : World) : Calls Try.prog 31 #[.int .u64 1] w fun e w' => e = .returned (.agg #[.int .u64 1, .int .u64 0]) ∧ Below w.heap.size w w' := const_c 1#64 w
theorem const5_c (w : World) : Calls Try.prog 31 #[.int .u64 5] w fun e w' => e = .returned (.agg #[.int .u64 5, .int .u64 0]) ∧ Below w.heap.size w w' := const_c 5#64 w
theorem anyk_c (w : World) : Calls Try.prog 29 #[] w fun e w' => e = .returned (.agg #[.int .u64 0, .int .u64 18446744073709551615]) ∧ Below w.heap.size w w' := any_c w
theorem add12_c (w : World) : Calls Try.prog 34 #[.agg #[.int .u64 1, .int .u64 0], .agg #[.int .u64 0, .int .u64 2]] w fun e w' => e = .returned (.agg #[.int .u64 1, .int .u64 2]) ∧ Below w.heap.size w w' := add_c ⟨1#64, 0#64⟩ ⟨0#64, 2#64⟩ w
theorem has7_c (w : World) : Calls Try.prog 27 #[.agg #[.int .u64 0, .int .u64 18446744073709551615], .int .u64 7] w fun e w' => e = .returned (.bool true) ∧ Below w.heap.size w w' := has_c ⟨0#64, BitVec.allOnes 64⟩ 7#64 w
theorem right5_c (w : World) : Calls Try.prog 33 #[.agg #[.int .u64 5, .int .u64 0]] w fun e w' => e = .returned (.bool true) ∧ Below w.heap.size w w' := right_c ⟨5#64, 0#64⟩ w
set_option maxHeartbeats 400000 in
theorem knows_c  (w : World) : Calls Try.prog 15 #[] w fun e w' => e = .returned (.bool true) ∧ Below w.heap.size w w' := by
  go_enter Try.func15, Try.ntmps15
  go_wp2_with fail
  refine (const1_c _).mono ?_
  rintro e w1 ⟨rfl, hb1⟩
  obtain ⟨hc1, hf1⟩ := bcell hb1
  have hz1 := hb1.size
  go_wp2_with fail
  refine (add12_c _).mono ?_
  rintro e w2 ⟨rfl, hb2⟩
  obtain ⟨hc2, hf2⟩ := bcell hb2
  have hz2 := hb2.size
  go_wp2_with fail
  refine (anyk_c _).mono ?_
  rintro e w3 ⟨rfl, hb3⟩
  obtain ⟨hc3, hf3⟩ := bcell hb3
  have hz3 := hb3.size
  go_wp2_with fail
  refine (has7_c _).mono ?_
  rintro e w4 ⟨rfl, hb4⟩
  obtain ⟨hc4, hf4⟩ := bcell hb4
  have hz4 := hb4.size
  go_wp2_with fail
  refine (const5_c _).mono ?_
  rintro e w5 ⟨rfl, hb5⟩
  obtain ⟨hc5, hf5⟩ := bcell hb5
  have hz5 := hb5.size
  go_wp2_with fail
  refine (right5_c _).mono ?_
  rintro e w6 ⟨rfl, hb6⟩
  obtain ⟨hc6, hf6⟩ := bcell hb6
  have hz6 := hb6.size
  go_wp2
  go_ret
  exact ⟨by simp [], (by repeat (first | exact Bl_refl _ | apply Bl_alloc | apply Bl_drew | apply Bl_drewN | (refine Bl_set ?_ (by first | omega | (simp; done) | (simp; omega)) _) | (refine Bl_trans ?_ (by assumption))))⟩
set_option maxHeartbeats 400000 in
theorem to_c (a : N) (w : World) : Calls Try.prog 14 #[nv a] w fun e w' => e = .returned (nv a) ∧ Below w.heap.size w w' := by
  go_enter Try.func14, Try.ntmps14
  go_wp2
  exact bodyPost_ret (v := nv a) (by simp [results, Try.results14, go_sem]) rfl ⟨rfl, (by repeat (first | exact Bl_refl _ | apply Bl_alloc | apply Bl_drew | apply Bl_drewN | (refine Bl_set ?_ (by first | omega | (simp; done) | (simp; omega)) _) | (refine Bl_trans ?_ (by assumption))))⟩
set_option maxHeartbeats 400000 in
theorem from_c (a : N) (w : World) : Calls Try.prog 16 #[nv a] w fun e w' => e = .returned (nv a) ∧ Below w.heap.size w w' := by
  go_enter Try.func16, Try.ntmps16
  go_wp2
  exact bodyPost_ret (v := nv a) (by simp [results, Try.results16, go_sem]) rfl ⟨rfl, (by repeat (first | exact Bl_refl _ | apply Bl_alloc | apply Bl_drew | apply Bl_drewN | (refine Bl_set ?_ (by first | omega | (simp; done) | (simp; omega)) _) | (refine Bl_trans ?_ (by assumption))))⟩
set_option maxHeartbeats 400000 in
theorem rightl_c (a : N) (w : World) : Calls Try.prog 13 #[nv a] w fun e w' => e = .returned (nv (PlainTnum.right a)) ∧ Below w.heap.size w w' := by
  go_enter Try.func13, Try.ntmps13
  go_wp2
  exact bodyPost_ret (v := nv (PlainTnum.right a)) (by simp [results, Try.results13, go_sem, PlainTnum.right]) rfl ⟨rfl, (by repeat (first | exact Bl_refl _ | apply Bl_alloc | apply Bl_drew | apply Bl_drewN | (refine Bl_set ?_ (by first | omega | (simp; done) | (simp; omega)) _) | (refine Bl_trans ?_ (by assumption))))⟩
set_option maxHeartbeats 400000 in
theorem pick_c (a : N) (x : W) (w : World) : Calls Try.prog 32 #[nv a, uv x] w fun e w' => e = .returned (uv (PlainTnum.pick a x)) ∧ Below w.heap.size w w' := by
  go_enter Try.func32, Try.ntmps32
  go_wp2
  go_ret
  exact ⟨by simp [PlainTnum.pick], (by repeat (first | exact Bl_refl _ | apply Bl_alloc | apply Bl_drew | apply Bl_drewN | (refine Bl_set ?_ (by first | omega | (simp; done) | (simp; omega)) _) | (refine Bl_trans ?_ (by assumption))))⟩
set_option maxHeartbeats 400000 in
theorem rright_c (a : N) (w : World) : Calls Try.prog 41 #[nv a] w fun e w' => e = .returned (.bool (PlainTnum.rightN a)) ∧ Below w.heap.size w w' := by
  go_enter Try.func41, Try.ntmps41
  go_wp2
  go_ret
  exact ⟨by simp [PlainTnum.rightN, T_beq0], (by repeat (first | exact Bl_refl _ | apply Bl_alloc | apply Bl_drew | apply Bl_drewN | (refine Bl_set ?_ (by first | omega | (simp; done) | (simp; omega)) _) | (refine Bl_trans ?_ (by assumption))))⟩
set_option maxHeartbeats 400000 in
theorem rhas_c (a : N) (x : W) (w : World) : Calls Try.prog 28 #[nv a, uv x] w fun e w' => e = .returned (.bool (PlainTnum.has a x)) ∧ Below w.heap.size w w' := by
  go_enter Try.func28, Try.ntmps28
  go_wp2
  go_ret
  exact ⟨by simp [PlainTnum.has, T_beq], (by repeat (first | exact Bl_refl _ | apply Bl_alloc | apply Bl_drew | apply Bl_drewN | (refine Bl_set ?_ (by first | omega | (simp; done) | (simp; omega)) _) | (refine Bl_trans ?_ (by assumption))))⟩
theorem hast_c (a : N) (x : W) (h : PlainTnum.has a x = true) (w : World) : Calls Try.prog 27 #[nv a, uv x] w fun e w' => e = .returned (.bool true) ∧ Below w.heap.size w w' := by
  rw [← h]; exact has_c a x w
theorem rightt_c (a : N) (h : PlainTnum.R a) (w : World) : Calls Try.prog 33 #[nv a] w fun e w' => e = .returned (.bool true) ∧ Below w.heap.size w w' := by
  rw [← PlainTnum.R_iff.2 h]; exact right_c a w
theorem within_true (a b : N) (h : PlainTnum.within a b = true) (w : World) : Calls Try.prog 25 #[nv a, nv b] w fun e w' => e = .returned (.bool true) ∧ Below w.heap.size w w' := by
  rw [← h]; exact within_c a b w
theorem byN_nat {n : Nat} (h : n < 64) : byN (n : Int) = n := by unfold byN; omega
theorem leftn_c (a : N) (n : Nat) (h : n < 64) (w : World) : Calls Try.prog 17 #[nv a, .int .i64 (n : Int)] w fun e w' => e = .returned (nv (PlainTnum.left a n)) ∧ Below w.heap.size w w' := by
  have := left_c a n w; rwa [byN_nat h] at this
theorem downn_c (a : N) (n : Nat) (h : n < 64) (w : World) : Calls Try.prog 19 #[nv a, .int .i64 (n : Int)] w fun e w' => e = .returned (nv (PlainTnum.down a n)) ∧ Below w.heap.size w w' := by
  have := down_c a n w; rwa [byN_nat h] at this
theorem by_is (k : Int) : ∃ n : Nat, n < 64 ∧ wrap64 ((IntKind.u64.wrap k).tmod 64) = (n : Int) := ⟨byN k, byN_lt k, by rw [by_int, byN_int]⟩
theorem add_sw (a b : N) (w : World) : Calls Try.prog 34 #[nv a, nv b] w fun e w' => e = .returned (nv (PlainTnum.add b a)) ∧ Below w.heap.size w w' := by
  rw [PlainTnum.add_comm' b a]; exact add_c a b w
theorem and_sw (a b : N) (w : World) : Calls Try.prog 35 #[nv a, nv b] w fun e w' => e = .returned (nv (PlainTnum.and b a)) ∧ Below w.heap.size w w' := by
  rw [PlainTnum.and_comm' b a]; exact and_c a b w
theorem or_sw (a b : N) (w : World) : Calls Try.prog 36 #[nv a, nv b] w fun e w' => e = .returned (nv (PlainTnum.or b a)) ∧ Below w.heap.size w w' := by
  rw [PlainTnum.or_comm' b a]; exact or_c a b w
theorem xor_sw (a b : N) (w : World) : Calls Try.prog 37 #[nv a, nv b] w fun e w' => e = .returned (nv (PlainTnum.xor b a)) ∧ Below w.heap.size w w' := by
  rw [PlainTnum.xor_comm' b a]; exact xor_c a b w
theorem join_sw (a b : N) (w : World) : Calls Try.prog 22 #[nv a, nv b] w fun e w' => e = .returned (nv (PlainTnum.join b a)) ∧ Below w.heap.size w w' := by
  rw [PlainTnum.join_comm' (a := b) (b := a)]; exact join_c a b w
theorem add_kk (p q : W) (w : World) : Calls Try.prog 34 #[nv (PlainTnum.const p), nv (PlainTnum.const q)] w fun e w' => e = .returned (nv (PlainTnum.const (p + q))) ∧ Below w.heap.size w w' := by
  rw [← PlainTnum.add_const]; exact add_c _ _ w
theorem sub_kk (p q : W) (w : World) : Calls Try.prog 38 #[nv (PlainTnum.const p), nv (PlainTnum.const q)] w fun e w' => e = .returned (nv (PlainTnum.const (p - q))) ∧ Below w.heap.size w w' := by
  rw [← PlainTnum.sub_const]; exact sub_c _ _ w
theorem and_kk (p q : W) (w : World) : Calls Try.prog 35 #[nv (PlainTnum.const p), nv (PlainTnum.const q)] w fun e w' => e = .returned (nv (PlainTnum.const (p &&& q))) ∧ Below w.heap.size w w' := by
  rw [← PlainTnum.and_const]; exact and_c _ _ w
theorem or_kk (p q : W) (w : World) : Calls Try.prog 36 #[nv (PlainTnum.const p), nv (PlainTnum.const q)] w fun e w' => e = .returned (nv (PlainTnum.const (p ||| q))) ∧ Below w.heap.size w w' := by
  rw [← PlainTnum.or_const]; exact or_c _ _ w
theorem xor_kk (p q : W) (w : World) : Calls Try.prog 37 #[nv (PlainTnum.const p), nv (PlainTnum.const q)] w fun e w' => e = .returned (nv (PlainTnum.const (p ^^^ q))) ∧ Below w.heap.size w w' := by
  rw [← PlainTnum.xor_const]; exact xor_c _ _ w
theorem left_kk (p : W) (n : Nat) (h : n < 64) (w : World) : Calls Try.prog 17 #[nv (PlainTnum.const p), .int .i64 (n : Int)] w fun e w' => e = .returned (nv (PlainTnum.const (p <<< n))) ∧ Below w.heap.size w w' := by
  rw [← PlainTnum.left_const]; exact leftn_c _ n h w
theorem down_kk (p : W) (n : Nat) (h : n < 64) (w : World) : Calls Try.prog 19 #[nv (PlainTnum.const p), .int .i64 (n : Int)] w fun e w' => e = .returned (nv (PlainTnum.const (p >>> n))) ∧ Below w.heap.size w w' := by
  rw [← PlainTnum.down_const]; exact downn_c _ n h w
theorem mul_kk (p q : W) (w : World) : Calls Try.prog 30 #[nv (PlainTnum.const p), nv (PlainTnum.const q)] w fun e w' => e = .returned (nv (PlainTnum.const (p * q))) ∧ Below w.heap.size w w' := by
  rw [← PlainTnum.mul_const]; exact mul_c _ _ w
theorem join_kk (p q : W) (w : World) : Calls Try.prog 22 #[nv (PlainTnum.const p), nv (PlainTnum.const q)] w fun e w' => e = .returned (.agg #[uv (PlainTnum.join (PlainTnum.const p) (PlainTnum.const q)).v, uv (p ^^^ q)]) ∧ Below w.heap.size w w' := by
  rw [← PlainTnum.join_const]; exact join_c _ _ w
theorem meet_kk (p q : W) (w : World) : Calls Try.prog 23 #[nv (PlainTnum.const p), nv (PlainTnum.const q)] w fun e w' => e = .returned (.tuple #[nv (PlainTnum.meet (PlainTnum.const p) (PlainTnum.const q)).1, .bool (T p == T q)]) ∧ Below w.heap.size w w' := by
  have e : (T p == T q) = (PlainTnum.meet (PlainTnum.const p) (PlainTnum.const q)).2 := by
    rw [PlainTnum.meet_const, T_beq, Bool.eq_iff_iff]; simp
  rw [e]; exact meet_c _ _ w
theorem new_num {o : Oper} (h : isAlloc o = some 27) (ρ : Operand → Value) (w : World) : (execOp ρ o).run Try.prog w = .ok (.value (.pointer (some ⟨w.heap.size, 0, none⟩))) (w.alloc (.cells #[.int .u64 0, .int .u64 0] 27)) := by
  obtain ⟨dst, op, type, pos, after, guard⟩ := o
  have := alloc_is h
  simp only at this
  subst this
  go_simp
theorem new_rnum {o : Oper} (h : isAlloc o = some 24) (ρ : Operand → Value) (w : World) : (execOp ρ o).run Try.prog w = .ok (.value (.pointer (some ⟨w.heap.size, 0, none⟩))) (w.alloc (.cells #[.int .u64 0, .int .u64 0] 24)) := by
  obtain ⟨dst, op, type, pos, after, guard⟩ := o
  have := alloc_is h
  simp only at this
  subst this
  go_simp
end Go.Proofs.Ytmghpoagpiljhaa
