/- The walks of package branch, fourth part: short, turned, noBits, alone. -/
import Derived.Test.YtmghpoagpiljhabBr3
import Derived.Test.YtmghpoagpiljhabMixS
set_option linter.unusedSimpArgs false
namespace Go.Proofs.Ytmghpoagpiljhab
open Go.RowKit
open PlainTnum (N)
open PlainScalar (Rng)
theorem T_le31 (x : W) : (T x ≤ 2147483647) = (x.toNat ≤ 2147483647) := by unfold T; exact propext (by omega)
theorem T_le32 (x : W) : (T x ≤ 4294967295) = (x.toNat ≤ 4294967295) := by unfold T; exact propext (by omega)
set_option maxRecDepth 100000 in
set_option maxHeartbeats 1600000 in
theorem sho_6_false (a b : Rng) (q : decide (T a.hi ≤ 2147483647) = false) (w : World) : Calls Try.prog 73 #[.int .i64 6, pv2 a b] w fun e w' => e = .returned (.bool (PlainBranch.short 6 (a, b))) ∧ Below w.heap.size w w' := by
  have q2 : decide (a.hi.toNat ≤ 2147483647) = false := by rw [← q]; exact decide_eq_decide.2 (by rw [T_le31])
  go_enter Try.func73, Try.ntmps73
  go_wp2
  go_ret
  exact ⟨by simp [PlainBranch.short, q2, T_le31, T_le32], (by repeat (first | (with_reducible exact Bl_refl _) | with_reducible apply Bl_alloc | with_reducible apply Bl_drew | with_reducible apply Bl_drewN | (with_reducible refine Bl_set ?_ (by first | omega | (simp; done) | (simp; omega)) _) | (with_reducible refine Bl_trans ?_ (by assumption))))⟩
set_option maxRecDepth 100000 in
set_option maxHeartbeats 1600000 in
theorem sho_6_true (a b : Rng) (q : decide (T a.hi ≤ 2147483647) = true) (w : World) : Calls Try.prog 73 #[.int .i64 6, pv2 a b] w fun e w' => e = .returned (.bool (PlainBranch.short 6 (a, b))) ∧ Below w.heap.size w w' := by
  have q2 : decide (a.hi.toNat ≤ 2147483647) = true := by rw [← q]; exact decide_eq_decide.2 (by rw [T_le31])
  go_enter Try.func73, Try.ntmps73
  go_wp2
  go_ret
  exact ⟨by simp [PlainBranch.short, q2, T_le31, T_le32], (by repeat (first | (with_reducible exact Bl_refl _) | with_reducible apply Bl_alloc | with_reducible apply Bl_drew | with_reducible apply Bl_drewN | (with_reducible refine Bl_set ?_ (by first | omega | (simp; done) | (simp; omega)) _) | (with_reducible refine Bl_trans ?_ (by assumption))))⟩
set_option maxRecDepth 100000 in
set_option maxHeartbeats 1600000 in
theorem sho_7_false (a b : Rng) (q : decide (T a.hi ≤ 2147483647) = false) (w : World) : Calls Try.prog 73 #[.int .i64 7, pv2 a b] w fun e w' => e = .returned (.bool (PlainBranch.short 7 (a, b))) ∧ Below w.heap.size w w' := by
  have q2 : decide (a.hi.toNat ≤ 2147483647) = false := by rw [← q]; exact decide_eq_decide.2 (by rw [T_le31])
  go_enter Try.func73, Try.ntmps73
  go_wp2
  go_ret
  exact ⟨by simp [PlainBranch.short, q2, T_le31, T_le32], (by repeat (first | (with_reducible exact Bl_refl _) | with_reducible apply Bl_alloc | with_reducible apply Bl_drew | with_reducible apply Bl_drewN | (with_reducible refine Bl_set ?_ (by first | omega | (simp; done) | (simp; omega)) _) | (with_reducible refine Bl_trans ?_ (by assumption))))⟩
set_option maxRecDepth 100000 in
set_option maxHeartbeats 1600000 in
theorem sho_7_true (a b : Rng) (q : decide (T a.hi ≤ 2147483647) = true) (w : World) : Calls Try.prog 73 #[.int .i64 7, pv2 a b] w fun e w' => e = .returned (.bool (PlainBranch.short 7 (a, b))) ∧ Below w.heap.size w w' := by
  have q2 : decide (a.hi.toNat ≤ 2147483647) = true := by rw [← q]; exact decide_eq_decide.2 (by rw [T_le31])
  go_enter Try.func73, Try.ntmps73
  go_wp2
  go_ret
  exact ⟨by simp [PlainBranch.short, q2, T_le31, T_le32], (by repeat (first | (with_reducible exact Bl_refl _) | with_reducible apply Bl_alloc | with_reducible apply Bl_drew | with_reducible apply Bl_drewN | (with_reducible refine Bl_set ?_ (by first | omega | (simp; done) | (simp; omega)) _) | (with_reducible refine Bl_trans ?_ (by assumption))))⟩
set_option maxRecDepth 100000 in
set_option maxHeartbeats 1600000 in
theorem sho_12_false (a b : Rng) (q : decide (T a.hi ≤ 2147483647) = false) (w : World) : Calls Try.prog 73 #[.int .i64 12, pv2 a b] w fun e w' => e = .returned (.bool (PlainBranch.short 12 (a, b))) ∧ Below w.heap.size w w' := by
  have q2 : decide (a.hi.toNat ≤ 2147483647) = false := by rw [← q]; exact decide_eq_decide.2 (by rw [T_le31])
  go_enter Try.func73, Try.ntmps73
  go_wp2
  go_ret
  exact ⟨by simp [PlainBranch.short, q2, T_le31, T_le32], (by repeat (first | (with_reducible exact Bl_refl _) | with_reducible apply Bl_alloc | with_reducible apply Bl_drew | with_reducible apply Bl_drewN | (with_reducible refine Bl_set ?_ (by first | omega | (simp; done) | (simp; omega)) _) | (with_reducible refine Bl_trans ?_ (by assumption))))⟩
set_option maxRecDepth 100000 in
set_option maxHeartbeats 1600000 in
theorem sho_12_true (a b : Rng) (q : decide (T a.hi ≤ 2147483647) = true) (w : World) : Calls Try.prog 73 #[.int .i64 12, pv2 a b] w fun e w' => e = .returned (.bool (PlainBranch.short 12 (a, b))) ∧ Below w.heap.size w w' := by
  have q2 : decide (a.hi.toNat ≤ 2147483647) = true := by rw [← q]; exact decide_eq_decide.2 (by rw [T_le31])
  go_enter Try.func73, Try.ntmps73
  go_wp2
  go_ret
  exact ⟨by simp [PlainBranch.short, q2, T_le31, T_le32], (by repeat (first | (with_reducible exact Bl_refl _) | with_reducible apply Bl_alloc | with_reducible apply Bl_drew | with_reducible apply Bl_drewN | (with_reducible refine Bl_set ?_ (by first | omega | (simp; done) | (simp; omega)) _) | (with_reducible refine Bl_trans ?_ (by assumption))))⟩
set_option maxRecDepth 100000 in
set_option maxHeartbeats 1600000 in
theorem sho_13_false (a b : Rng) (q : decide (T a.hi ≤ 2147483647) = false) (w : World) : Calls Try.prog 73 #[.int .i64 13, pv2 a b] w fun e w' => e = .returned (.bool (PlainBranch.short 13 (a, b))) ∧ Below w.heap.size w w' := by
  have q2 : decide (a.hi.toNat ≤ 2147483647) = false := by rw [← q]; exact decide_eq_decide.2 (by rw [T_le31])
  go_enter Try.func73, Try.ntmps73
  go_wp2
  go_ret
  exact ⟨by simp [PlainBranch.short, q2, T_le31, T_le32], (by repeat (first | (with_reducible exact Bl_refl _) | with_reducible apply Bl_alloc | with_reducible apply Bl_drew | with_reducible apply Bl_drewN | (with_reducible refine Bl_set ?_ (by first | omega | (simp; done) | (simp; omega)) _) | (with_reducible refine Bl_trans ?_ (by assumption))))⟩
set_option maxRecDepth 100000 in
set_option maxHeartbeats 1600000 in
theorem sho_13_true (a b : Rng) (q : decide (T a.hi ≤ 2147483647) = true) (w : World) : Calls Try.prog 73 #[.int .i64 13, pv2 a b] w fun e w' => e = .returned (.bool (PlainBranch.short 13 (a, b))) ∧ Below w.heap.size w w' := by
  have q2 : decide (a.hi.toNat ≤ 2147483647) = true := by rw [← q]; exact decide_eq_decide.2 (by rw [T_le31])
  go_enter Try.func73, Try.ntmps73
  go_wp2
  go_ret
  exact ⟨by simp [PlainBranch.short, q2, T_le31, T_le32], (by repeat (first | (with_reducible exact Bl_refl _) | with_reducible apply Bl_alloc | with_reducible apply Bl_drew | with_reducible apply Bl_drewN | (with_reducible refine Bl_set ?_ (by first | omega | (simp; done) | (simp; omega)) _) | (with_reducible refine Bl_trans ?_ (by assumption))))⟩
set_option maxRecDepth 100000 in
set_option maxHeartbeats 1600000 in
theorem sho_op_false (op : Int) (h6 : ¬ op = 6) (h7 : ¬ op = 7) (h12 : ¬ op = 12) (h13 : ¬ op = 13) (a b : Rng) (q : decide (T a.hi ≤ 4294967295) = false) (w : World) : Calls Try.prog 73 #[.int .i64 op, pv2 a b] w fun e w' => e = .returned (.bool (PlainBranch.short op (a, b))) ∧ Below w.heap.size w w' := by
  have e6 : (op == 6) = false := by simpa using h6
  have e7 : (op == 7) = false := by simpa using h7
  have e12 : (op == 12) = false := by simpa using h12
  have e13 : (op == 13) = false := by simpa using h13
  have q2 : decide (a.hi.toNat ≤ 4294967295) = false := by rw [← q]; exact decide_eq_decide.2 (by rw [T_le32])
  go_enter Try.func73, Try.ntmps73
  go_wp2
  go_ret
  exact ⟨by simp [PlainBranch.short, q2, T_le31, T_le32, h6, h7, h12, h13], (by repeat (first | (with_reducible exact Bl_refl _) | with_reducible apply Bl_alloc | with_reducible apply Bl_drew | with_reducible apply Bl_drewN | (with_reducible refine Bl_set ?_ (by first | omega | (simp; done) | (simp; omega)) _) | (with_reducible refine Bl_trans ?_ (by assumption))))⟩
set_option maxRecDepth 100000 in
set_option maxHeartbeats 1600000 in
theorem sho_op_true (op : Int) (h6 : ¬ op = 6) (h7 : ¬ op = 7) (h12 : ¬ op = 12) (h13 : ¬ op = 13) (a b : Rng) (q : decide (T a.hi ≤ 4294967295) = true) (w : World) : Calls Try.prog 73 #[.int .i64 op, pv2 a b] w fun e w' => e = .returned (.bool (PlainBranch.short op (a, b))) ∧ Below w.heap.size w w' := by
  have e6 : (op == 6) = false := by simpa using h6
  have e7 : (op == 7) = false := by simpa using h7
  have e12 : (op == 12) = false := by simpa using h12
  have e13 : (op == 13) = false := by simpa using h13
  have q2 : decide (a.hi.toNat ≤ 4294967295) = true := by rw [← q]; exact decide_eq_decide.2 (by rw [T_le32])
  go_enter Try.func73, Try.ntmps73
  go_wp2
  go_ret
  exact ⟨by simp [PlainBranch.short, q2, T_le31, T_le32, h6, h7, h12, h13], (by repeat (first | (with_reducible exact Bl_refl _) | with_reducible apply Bl_alloc | with_reducible apply Bl_drew | with_reducible apply Bl_drewN | (with_reducible refine Bl_set ?_ (by first | omega | (simp; done) | (simp; omega)) _) | (with_reducible refine Bl_trans ?_ (by assumption))))⟩
theorem short_c (op : Int) (a b : Rng) (w : World) : Calls Try.prog 73 #[.int .i64 op, pv2 a b] w fun e w' => e = .returned (.bool (PlainBranch.short op (a, b))) ∧ Below w.heap.size w w' := by
  by_cases h6 : op = 6
  · subst h6; cases q : decide (T a.hi ≤ 2147483647)
    · exact sho_6_false a b q w
    · exact sho_6_true a b q w
  by_cases h7 : op = 7
  · subst h7; cases q : decide (T a.hi ≤ 2147483647)
    · exact sho_7_false a b q w
    · exact sho_7_true a b q w
  by_cases h12 : op = 12
  · subst h12; cases q : decide (T a.hi ≤ 2147483647)
    · exact sho_12_false a b q w
    · exact sho_12_true a b q w
  by_cases h13 : op = 13
  · subst h13; cases q : decide (T a.hi ≤ 2147483647)
    · exact sho_13_false a b q w
    · exact sho_13_true a b q w
  cases q : decide (T a.hi ≤ 4294967295)
  · exact sho_op_false op h6 h7 h12 h13 a b q w
  · exact sho_op_true op h6 h7 h12 h13 a b q w
theorem short_b (op : Int) (a b : Rng) (v : Bool) (h : PlainBranch.short op (a, b) = v) (w : World) : Calls Try.prog 73 #[.int .i64 op, pv2 a b] w fun e w' => e = .returned (.bool v) ∧ Below w.heap.size w w' := by
  rw [← h]; exact short_c op a b w
set_option maxRecDepth 100000 in
set_option maxHeartbeats 3200000 in
theorem turnedG_c (a b : Rng) (s : Bool) (w : World) : Calls Try.prog 82 #[pv2 a b, .func (.func 81) #[] #[], .bool s] w fun e w' => e = .returned (tv (PlainBranch.turned (a, b) PlainBranch.greater s)) ∧ Below w.heap.size w w' := by
  obtain ⟨R, e_R⟩ : ∃ z' : PlainBranch.Pair × Bool, z' = PlainBranch.greater (b, a) s := ⟨_, rfl⟩
  have k_R : ∀ w : World, Calls Try.prog 81 #[pv2 b a, .bool s] w fun e w' => e = .returned (tv R) ∧ Below w.heap.size w w' := fun w => by rw [e_R]; exact greater_c b a s w
  have hs : PlainBranch.turned (a, b) PlainBranch.greater s = ((R.1.2, R.1.1), R.2) := by rw [e_R]; rfl
  clear e_R
  obtain ⟨⟨u, v⟩, ok⟩ := R
  replace k_R : ∀ w : World, Calls Try.prog 81 #[pv2 b a, .bool s] w fun e w' => e = .returned (.tuple #[pv2 u v, .bool ok]) ∧ Below w.heap.size w w' := k_R
  replace hs : PlainBranch.turned (a, b) PlainBranch.greater s = ((v, u), ok) := hs
  go_enter Try.func82, Try.ntmps82
  go_wp2_with fail
  obtain ⟨gp, hgp⟩ : ∃ g, g = w.heap.size := ⟨_, rfl⟩
  obtain ⟨gr, hgr⟩ : ∃ g, g = w.heap.size + 1 := ⟨_, rfl⟩
  have Bp : Blk ((w.alloc (.cells #[uv a.b.v, uv a.b.m, uv a.lo, uv a.hi, sv a.sl, sv a.sh, uv b.b.v, uv b.b.m, uv b.lo, uv b.hi, sv b.sl, sv b.sh] 118)).alloc (.cells #[.int .u64 0, .int .u64 0, .int .u64 0, .int .u64 0, .int .i64 0, .int .i64 0, .int .u64 0, .int .u64 0, .int .u64 0, .int .u64 0, .int .i64 0, .int .i64 0] 118)) (w.heap.size) 118 #[uv a.b.v, uv a.b.m, uv a.lo, uv a.hi, sv a.sl, sv a.sh, uv b.b.v, uv b.b.m, uv b.lo, uv b.hi, sv b.sl, sv b.sh] := ((Blk.new w 118 #[uv a.b.v, uv a.b.m, uv a.lo, uv a.hi, sv a.sl, sv a.sh, uv b.b.v, uv b.b.m, uv b.lo, uv b.hi, sv b.sl, sv b.sh])).alloc _
  have Br : Blk ((w.alloc (.cells #[uv a.b.v, uv a.b.m, uv a.lo, uv a.hi, sv a.sl, sv a.sh, uv b.b.v, uv b.b.m, uv b.lo, uv b.hi, sv b.sl, sv b.sh] 118)).alloc (.cells #[.int .u64 0, .int .u64 0, .int .u64 0, .int .u64 0, .int .i64 0, .int .i64 0, .int .u64 0, .int .u64 0, .int .u64 0, .int .u64 0, .int .i64 0, .int .i64 0] 118)) (w.heap.size + 1) 118 #[.int .u64 0, .int .u64 0, .int .u64 0, .int .u64 0, .int .i64 0, .int .i64 0, .int .u64 0, .int .u64 0, .int .u64 0, .int .u64 0, .int .i64 0, .int .i64 0] := (by simpa using Blk.new (w.alloc (.cells #[uv a.b.v, uv a.b.m, uv a.lo, uv a.hi, sv a.sl, sv a.sh, uv b.b.v, uv b.b.m, uv b.lo, uv b.hi, sv b.sl, sv b.sh] 118)) 118 #[.int .u64 0, .int .u64 0, .int .u64 0, .int .u64 0, .int .i64 0, .int .i64 0, .int .u64 0, .int .u64 0, .int .u64 0, .int .u64 0, .int .i64 0, .int .i64 0] : Blk _ (w.heap.size + 1) 118 #[.int .u64 0, .int .u64 0, .int .u64 0, .int .u64 0, .int .i64 0, .int .i64 0, .int .u64 0, .int .u64 0, .int .u64 0, .int .u64 0, .int .i64 0, .int .i64 0])
  have hB : Below w.heap.size w ((w.alloc (.cells #[uv a.b.v, uv a.b.m, uv a.lo, uv a.hi, sv a.sl, sv a.sh, uv b.b.v, uv b.b.m, uv b.lo, uv b.hi, sv b.sl, sv b.sh] 118)).alloc (.cells #[.int .u64 0, .int .u64 0, .int .u64 0, .int .u64 0, .int .i64 0, .int .i64 0, .int .u64 0, .int .u64 0, .int .u64 0, .int .u64 0, .int .i64 0, .int .i64 0] 118)) := (Bl_alloc (Bl_alloc (Bl_refl w) _) _)
  clear hgp
  clear gp
  clear hgr
  clear gr
  generalize ((w.alloc (.cells #[uv a.b.v, uv a.b.m, uv a.lo, uv a.hi, sv a.sl, sv a.sh, uv b.b.v, uv b.b.m, uv b.lo, uv b.hi, sv b.sl, sv b.sh] 118)).alloc (.cells #[.int .u64 0, .int .u64 0, .int .u64 0, .int .u64 0, .int .i64 0, .int .i64 0, .int .u64 0, .int .u64 0, .int .u64 0, .int .u64 0, .int .i64 0, .int .i64 0] 118)) = w1 at *
  obtain ⟨cp0, cp1, cp2, cp3, cp4, cp5, cp6, cp7, cp8, cp9, cp10, cp11⟩ := cells12 Bp
  have fp := Bp.frozen; have lp := Bp.lt
  obtain ⟨cr0, cr1, cr2, cr3, cr4, cr5, cr6, cr7, cr8, cr9, cr10, cr11⟩ := cells12 Br
  have fr := Br.frozen; have lr := Br.lt
  go_wp2_with fail
  refine (swapped_c a b _).mono ?_
  rintro e w2 ⟨rfl, hb⟩
  clear cp0 cp1 cp2 cp3 cp4 cp5 cp6 cp7 cp8 cp9 cp10 cp11 fp lp
  clear cr0 cr1 cr2 cr3 cr4 cr5 cr6 cr7 cr8 cr9 cr10 cr11 fr lr
  replace Bp := (Bp).next hb
  replace Br := (Br).next hb
  replace hB : Below w.heap.size w w2 := by repeat (first | exact hB | (refine Bl_set ?_ (by first | omega | (simp; omega)) _) | apply Bl_alloc | (refine Bl_trans ?_ hb))
  clear hb
  obtain ⟨cp0, cp1, cp2, cp3, cp4, cp5, cp6, cp7, cp8, cp9, cp10, cp11⟩ := cells12 Bp
  have fp := Bp.frozen; have lp := Bp.lt
  obtain ⟨cr0, cr1, cr2, cr3, cr4, cr5, cr6, cr7, cr8, cr9, cr10, cr11⟩ := cells12 Br
  have fr := Br.frozen; have lr := Br.lt
  go_wp2_with fail
  refine (k_R _).mono ?_
  rintro e w3 ⟨rfl, hb⟩
  clear cp0 cp1 cp2 cp3 cp4 cp5 cp6 cp7 cp8 cp9 cp10 cp11 fp lp
  clear cr0 cr1 cr2 cr3 cr4 cr5 cr6 cr7 cr8 cr9 cr10 cr11 fr lr
  replace Bp := (Bp).next hb
  replace Br := (Br).next hb
  replace hB : Below w.heap.size w w3 := by repeat (first | exact hB | (refine Bl_set ?_ (by first | omega | (simp; omega)) _) | apply Bl_alloc | (refine Bl_trans ?_ hb))
  clear hb
  obtain ⟨cp0, cp1, cp2, cp3, cp4, cp5, cp6, cp7, cp8, cp9, cp10, cp11⟩ := cells12 Bp
  have fp := Bp.frozen; have lp := Bp.lt
  obtain ⟨cr0, cr1, cr2, cr3, cr4, cr5, cr6, cr7, cr8, cr9, cr10, cr11⟩ := cells12 Br
  have fr := Br.frozen; have lr := Br.lt
  go_upto_region 2 with fail
  clear cp0 cp1 cp2 cp3 cp4 cp5 cp6 cp7 cp8 cp9 cp10 cp11 fp lp
  clear cr0 cr1 cr2 cr3 cr4 cr5 cr6 cr7 cr8 cr9 cr10 cr11 fr lr
  have Bq := Blk.new w3 118 #[uv u.b.v, uv u.b.m, uv u.lo, uv u.hi, sv u.sl, sv u.sh, uv v.b.v, uv v.b.m, uv v.lo, uv v.hi, sv v.sl, sv v.sh]
  have hgq := hB.size
  have hnpq := Nat.ne_of_lt Bp.lt; have hltpq := Bp.lt
  have hnrq := Nat.ne_of_lt Br.lt; have hltrq := Br.lt
  replace Bp : Blk (w3.alloc (.cells #[uv u.b.v, uv u.b.m, uv u.lo, uv u.hi, sv u.sl, sv u.sh, uv v.b.v, uv v.b.m, uv v.lo, uv v.hi, sv v.sl, sv v.sh] 118)) (w.heap.size) 118 #[uv a.b.v, uv a.b.m, uv a.lo, uv a.hi, sv a.sl, sv a.sh, uv b.b.v, uv b.b.m, uv b.lo, uv b.hi, sv b.sl, sv b.sh] := Bp.alloc _
  replace Br : Blk (w3.alloc (.cells #[uv u.b.v, uv u.b.m, uv u.lo, uv u.hi, sv u.sl, sv u.sh, uv v.b.v, uv v.b.m, uv v.lo, uv v.hi, sv v.sl, sv v.sh] 118)) (w.heap.size + 1) 118 #[.int .u64 0, .int .u64 0, .int .u64 0, .int .u64 0, .int .i64 0, .int .i64 0, .int .u64 0, .int .u64 0, .int .u64 0, .int .u64 0, .int .i64 0, .int .i64 0] := Br.alloc _
  replace hB : Below w.heap.size w (w3.alloc (.cells #[uv u.b.v, uv u.b.m, uv u.lo, uv u.hi, sv u.sl, sv u.sh, uv v.b.v, uv v.b.m, uv v.lo, uv v.hi, sv v.sl, sv v.sh] 118)) := Bl_alloc hB _
  generalize (w3.alloc (.cells #[uv u.b.v, uv u.b.m, uv u.lo, uv u.hi, sv u.sl, sv u.sh, uv v.b.v, uv v.b.m, uv v.lo, uv v.hi, sv v.sl, sv v.sh] 118)) = w4 at *
  generalize w3.heap.size = gq at *
  obtain ⟨cp0, cp1, cp2, cp3, cp4, cp5, cp6, cp7, cp8, cp9, cp10, cp11⟩ := cells12 Bp
  have fp := Bp.frozen; have lp := Bp.lt
  obtain ⟨cr0, cr1, cr2, cr3, cr4, cr5, cr6, cr7, cr8, cr9, cr10, cr11⟩ := cells12 Br
  have fr := Br.frozen; have lr := Br.lt
  obtain ⟨cq0, cq1, cq2, cq3, cq4, cq5, cq6, cq7, cq8, cq9, cq10, cq11⟩ := cells12 Bq
  have fq := Bq.frozen; have lq := Bq.lt
  go_wp2_with fail
  refine (swapped_c u v _).mono ?_
  rintro e w5 ⟨rfl, hb⟩
  clear cp0 cp1 cp2 cp3 cp4 cp5 cp6 cp7 cp8 cp9 cp10 cp11 fp lp
  clear cr0 cr1 cr2 cr3 cr4 cr5 cr6 cr7 cr8 cr9 cr10 cr11 fr lr
  clear cq0 cq1 cq2 cq3 cq4 cq5 cq6 cq7 cq8 cq9 cq10 cq11 fq lq
  replace Bp := (Bp).next hb
  replace Br := (Br).next hb
  replace Bq := (Bq).next hb
  replace hB : Below w.heap.size w w5 := by repeat (first | exact hB | (refine Bl_set ?_ (by first | omega | (simp; omega)) _) | apply Bl_alloc | (refine Bl_trans ?_ hb))
  clear hb
  obtain ⟨cp0, cp1, cp2, cp3, cp4, cp5, cp6, cp7, cp8, cp9, cp10, cp11⟩ := cells12 Bp
  have fp := Bp.frozen; have lp := Bp.lt
  obtain ⟨cr0, cr1, cr2, cr3, cr4, cr5, cr6, cr7, cr8, cr9, cr10, cr11⟩ := cells12 Br
  have fr := Br.frozen; have lr := Br.lt
  obtain ⟨cq0, cq1, cq2, cq3, cq4, cq5, cq6, cq7, cq8, cq9, cq10, cq11⟩ := cells12 Bq
  have fq := Bq.frozen; have lq := Bq.lt
  go_wp2
  exact bodyPost_ret (v := .tuple #[pv2 v u, .bool ok]) (by simp [results, Try.results82, go_sem, cr0, cr1, cr2, cr3, cr4, cr5, cr6, cr7, cr8, cr9, cr10, cr11, lr]) rfl ⟨by rw [hs]; first | done | rfl, by repeat (first | (with_reducible exact hB) | (with_reducible refine Bl_set ?_ (by first | omega | (simp; done) | (simp; omega)) _) | with_reducible apply Bl_alloc)⟩
set_option maxRecDepth 100000 in
set_option maxHeartbeats 3200000 in
theorem turnedS_c (a b : Rng) (s : Bool) (w : World) : Calls Try.prog 82 #[pv2 a b, .func (.func 83) #[] #[], .bool s] w fun e w' => e = .returned (tv (PlainBranch.turned (a, b) PlainBranch.sGreater s)) ∧ Below w.heap.size w w' := by
  obtain ⟨R, e_R⟩ : ∃ z' : PlainBranch.Pair × Bool, z' = PlainBranch.sGreater (b, a) s := ⟨_, rfl⟩
  have k_R : ∀ w : World, Calls Try.prog 83 #[pv2 b a, .bool s] w fun e w' => e = .returned (tv R) ∧ Below w.heap.size w w' := fun w => by rw [e_R]; exact sgreater_c b a s w
  have hs : PlainBranch.turned (a, b) PlainBranch.sGreater s = ((R.1.2, R.1.1), R.2) := by rw [e_R]; rfl
  clear e_R
  obtain ⟨⟨u, v⟩, ok⟩ := R
  replace k_R : ∀ w : World, Calls Try.prog 83 #[pv2 b a, .bool s] w fun e w' => e = .returned (.tuple #[pv2 u v, .bool ok]) ∧ Below w.heap.size w w' := k_R
  replace hs : PlainBranch.turned (a, b) PlainBranch.sGreater s = ((v, u), ok) := hs
  go_enter Try.func82, Try.ntmps82
  go_wp2_with fail
  obtain ⟨gp, hgp⟩ : ∃ g, g = w.heap.size := ⟨_, rfl⟩
  obtain ⟨gr, hgr⟩ : ∃ g, g = w.heap.size + 1 := ⟨_, rfl⟩
  have Bp : Blk ((w.alloc (.cells #[uv a.b.v, uv a.b.m, uv a.lo, uv a.hi, sv a.sl, sv a.sh, uv b.b.v, uv b.b.m, uv b.lo, uv b.hi, sv b.sl, sv b.sh] 118)).alloc (.cells #[.int .u64 0, .int .u64 0, .int .u64 0, .int .u64 0, .int .i64 0, .int .i64 0, .int .u64 0, .int .u64 0, .int .u64 0, .int .u64 0, .int .i64 0, .int .i64 0] 118)) (w.heap.size) 118 #[uv a.b.v, uv a.b.m, uv a.lo, uv a.hi, sv a.sl, sv a.sh, uv b.b.v, uv b.b.m, uv b.lo, uv b.hi, sv b.sl, sv b.sh] := ((Blk.new w 118 #[uv a.b.v, uv a.b.m, uv a.lo, uv a.hi, sv a.sl, sv a.sh, uv b.b.v, uv b.b.m, uv b.lo, uv b.hi, sv b.sl, sv b.sh])).alloc _
  have Br : Blk ((w.alloc (.cells #[uv a.b.v, uv a.b.m, uv a.lo, uv a.hi, sv a.sl, sv a.sh, uv b.b.v, uv b.b.m, uv b.lo, uv b.hi, sv b.sl, sv b.sh] 118)).alloc (.cells #[.int .u64 0, .int .u64 0, .int .u64 0, .int .u64 0, .int .i64 0, .int .i64 0, .int .u64 0, .int .u64 0, .int .u64 0, .int .u64 0, .int .i64 0, .int .i64 0] 118)) (w.heap.size + 1) 118 #[.int .u64 0, .int .u64 0, .int .u64 0, .int .u64 0, .int .i64 0, .int .i64 0, .int .u64 0, .int .u64 0, .int .u64 0, .int .u64 0, .int .i64 0, .int .i64 0] := (by simpa using Blk.new (w.alloc (.cells #[uv a.b.v, uv a.b.m, uv a.lo, uv a.hi, sv a.sl, sv a.sh, uv b.b.v, uv b.b.m, uv b.lo, uv b.hi, sv b.sl, sv b.sh] 118)) 118 #[.int .u64 0, .int .u64 0, .int .u64 0, .int .u64 0, .int .i64 0, .int .i64 0, .int .u64 0, .int .u64 0, .int .u64 0, .int .u64 0, .int .i64 0, .int .i64 0] : Blk _ (w.heap.size + 1) 118 #[.int .u64 0, .int .u64 0, .int .u64 0, .int .u64 0, .int .i64 0, .int .i64 0, .int .u64 0, .int .u64 0, .int .u64 0, .int .u64 0, .int .i64 0, .int .i64 0])
  have hB : Below w.heap.size w ((w.alloc (.cells #[uv a.b.v, uv a.b.m, uv a.lo, uv a.hi, sv a.sl, sv a.sh, uv b.b.v, uv b.b.m, uv b.lo, uv b.hi, sv b.sl, sv b.sh] 118)).alloc (.cells #[.int .u64 0, .int .u64 0, .int .u64 0, .int .u64 0, .int .i64 0, .int .i64 0, .int .u64 0, .int .u64 0, .int .u64 0, .int .u64 0, .int .i64 0, .int .i64 0] 118)) := (Bl_alloc (Bl_alloc (Bl_refl w) _) _)
  clear hgp
  clear gp
  clear hgr
  clear gr
  generalize ((w.alloc (.cells #[uv a.b.v, uv a.b.m, uv a.lo, uv a.hi, sv a.sl, sv a.sh, uv b.b.v, uv b.b.m, uv b.lo, uv b.hi, sv b.sl, sv b.sh] 118)).alloc (.cells #[.int .u64 0, .int .u64 0, .int .u64 0, .int .u64 0, .int .i64 0, .int .i64 0, .int .u64 0, .int .u64 0, .int .u64 0, .int .u64 0, .int .i64 0, .int .i64 0] 118)) = w1 at *
  obtain ⟨cp0, cp1, cp2, cp3, cp4, cp5, cp6, cp7, cp8, cp9, cp10, cp11⟩ := cells12 Bp
  have fp := Bp.frozen; have lp := Bp.lt
  obtain ⟨cr0, cr1, cr2, cr3, cr4, cr5, cr6, cr7, cr8, cr9, cr10, cr11⟩ := cells12 Br
  have fr := Br.frozen; have lr := Br.lt
  go_wp2_with fail
  refine (swapped_c a b _).mono ?_
  rintro e w2 ⟨rfl, hb⟩
  clear cp0 cp1 cp2 cp3 cp4 cp5 cp6 cp7 cp8 cp9 cp10 cp11 fp lp
  clear cr0 cr1 cr2 cr3 cr4 cr5 cr6 cr7 cr8 cr9 cr10 cr11 fr lr
  replace Bp := (Bp).next hb
  replace Br := (Br).next hb
  replace hB : Below w.heap.size w w2 := by repeat (first | exact hB | (refine Bl_set ?_ (by first | omega | (simp; omega)) _) | apply Bl_alloc | (refine Bl_trans ?_ hb))
  clear hb
  obtain ⟨cp0, cp1, cp2, cp3, cp4, cp5, cp6, cp7, cp8, cp9, cp10, cp11⟩ := cells12 Bp
  have fp := Bp.frozen; have lp := Bp.lt
  obtain ⟨cr0, cr1, cr2, cr3, cr4, cr5, cr6, cr7, cr8, cr9, cr10, cr11⟩ := cells12 Br
  have fr := Br.frozen; have lr := Br.lt
  go_wp2_with fail
  refine (k_R _).mono ?_
  rintro e w3 ⟨rfl, hb⟩
  clear cp0 cp1 cp2 cp3 cp4 cp5 cp6 cp7 cp8 cp9 cp10 cp11 fp lp
  clear cr0 cr1 cr2 cr3 cr4 cr5 cr6 cr7 cr8 cr9 cr10 cr11 fr lr
  replace Bp := (Bp).next hb
  replace Br := (Br).next hb
  replace hB : Below w.heap.size w w3 := by repeat (first | exact hB | (refine Bl_set ?_ (by first | omega | (simp; omega)) _) | apply Bl_alloc | (refine Bl_trans ?_ hb))
  clear hb
  obtain ⟨cp0, cp1, cp2, cp3, cp4, cp5, cp6, cp7, cp8, cp9, cp10, cp11⟩ := cells12 Bp
  have fp := Bp.frozen; have lp := Bp.lt
  obtain ⟨cr0, cr1, cr2, cr3, cr4, cr5, cr6, cr7, cr8, cr9, cr10, cr11⟩ := cells12 Br
  have fr := Br.frozen; have lr := Br.lt
  go_upto_region 2 with fail
  clear cp0 cp1 cp2 cp3 cp4 cp5 cp6 cp7 cp8 cp9 cp10 cp11 fp lp
  clear cr0 cr1 cr2 cr3 cr4 cr5 cr6 cr7 cr8 cr9 cr10 cr11 fr lr
  have Bq := Blk.new w3 118 #[uv u.b.v, uv u.b.m, uv u.lo, uv u.hi, sv u.sl, sv u.sh, uv v.b.v, uv v.b.m, uv v.lo, uv v.hi, sv v.sl, sv v.sh]
  have hgq := hB.size
  have hnpq := Nat.ne_of_lt Bp.lt; have hltpq := Bp.lt
  have hnrq := Nat.ne_of_lt Br.lt; have hltrq := Br.lt
  replace Bp : Blk (w3.alloc (.cells #[uv u.b.v, uv u.b.m, uv u.lo, uv u.hi, sv u.sl, sv u.sh, uv v.b.v, uv v.b.m, uv v.lo, uv v.hi, sv v.sl, sv v.sh] 118)) (w.heap.size) 118 #[uv a.b.v, uv a.b.m, uv a.lo, uv a.hi, sv a.sl, sv a.sh, uv b.b.v, uv b.b.m, uv b.lo, uv b.hi, sv b.sl, sv b.sh] := Bp.alloc _
  replace Br : Blk (w3.alloc (.cells #[uv u.b.v, uv u.b.m, uv u.lo, uv u.hi, sv u.sl, sv u.sh, uv v.b.v, uv v.b.m, uv v.lo, uv v.hi, sv v.sl, sv v.sh] 118)) (w.heap.size + 1) 118 #[.int .u64 0, .int .u64 0, .int .u64 0, .int .u64 0, .int .i64 0, .int .i64 0, .int .u64 0, .int .u64 0, .int .u64 0, .int .u64 0, .int .i64 0, .int .i64 0] := Br.alloc _
  replace hB : Below w.heap.size w (w3.alloc (.cells #[uv u.b.v, uv u.b.m, uv u.lo, uv u.hi, sv u.sl, sv u.sh, uv v.b.v, uv v.b.m, uv v.lo, uv v.hi, sv v.sl, sv v.sh] 118)) := Bl_alloc hB _
  generalize (w3.alloc (.cells #[uv u.b.v, uv u.b.m, uv u.lo, uv u.hi, sv u.sl, sv u.sh, uv v.b.v, uv v.b.m, uv v.lo, uv v.hi, sv v.sl, sv v.sh] 118)) = w4 at *
  generalize w3.heap.size = gq at *
  obtain ⟨cp0, cp1, cp2, cp3, cp4, cp5, cp6, cp7, cp8, cp9, cp10, cp11⟩ := cells12 Bp
  have fp := Bp.frozen; have lp := Bp.lt
  obtain ⟨cr0, cr1, cr2, cr3, cr4, cr5, cr6, cr7, cr8, cr9, cr10, cr11⟩ := cells12 Br
  have fr := Br.frozen; have lr := Br.lt
  obtain ⟨cq0, cq1, cq2, cq3, cq4, cq5, cq6, cq7, cq8, cq9, cq10, cq11⟩ := cells12 Bq
  have fq := Bq.frozen; have lq := Bq.lt
  go_wp2_with fail
  refine (swapped_c u v _).mono ?_
  rintro e w5 ⟨rfl, hb⟩
  clear cp0 cp1 cp2 cp3 cp4 cp5 cp6 cp7 cp8 cp9 cp10 cp11 fp lp
  clear cr0 cr1 cr2 cr3 cr4 cr5 cr6 cr7 cr8 cr9 cr10 cr11 fr lr
  clear cq0 cq1 cq2 cq3 cq4 cq5 cq6 cq7 cq8 cq9 cq10 cq11 fq lq
  replace Bp := (Bp).next hb
  replace Br := (Br).next hb
  replace Bq := (Bq).next hb
  replace hB : Below w.heap.size w w5 := by repeat (first | exact hB | (refine Bl_set ?_ (by first | omega | (simp; omega)) _) | apply Bl_alloc | (refine Bl_trans ?_ hb))
  clear hb
  obtain ⟨cp0, cp1, cp2, cp3, cp4, cp5, cp6, cp7, cp8, cp9, cp10, cp11⟩ := cells12 Bp
  have fp := Bp.frozen; have lp := Bp.lt
  obtain ⟨cr0, cr1, cr2, cr3, cr4, cr5, cr6, cr7, cr8, cr9, cr10, cr11⟩ := cells12 Br
  have fr := Br.frozen; have lr := Br.lt
  obtain ⟨cq0, cq1, cq2, cq3, cq4, cq5, cq6, cq7, cq8, cq9, cq10, cq11⟩ := cells12 Bq
  have fq := Bq.frozen; have lq := Bq.lt
  go_wp2
  exact bodyPost_ret (v := .tuple #[pv2 v u, .bool ok]) (by simp [results, Try.results82, go_sem, cr0, cr1, cr2, cr3, cr4, cr5, cr6, cr7, cr8, cr9, cr10, cr11, lr]) rfl ⟨by rw [hs]; first | done | rfl, by repeat (first | (with_reducible exact hB) | (with_reducible refine Bl_set ?_ (by first | omega | (simp; done) | (simp; omega)) _) | with_reducible apply Bl_alloc)⟩
set_option maxRecDepth 100000 in
set_option maxHeartbeats 3200000 in
theorem noBits_c (a b : Rng) (w : World) : Calls Try.prog 74 #[pv2 a b] w fun e w' => e = .returned (tv (PlainBranch.noBits (a, b))) ∧ Below w.heap.size w w' := by
  obtain ⟨t, e_t⟩ : ∃ z' : N, z' = (PlainTnum.meet a.b ⟨0#64, ~~~b.b.v⟩).1 := ⟨_, rfl⟩
  obtain ⟨ot, e_ot⟩ : ∃ z' : Bool, z' = (PlainTnum.meet a.b ⟨0#64, ~~~b.b.v⟩).2 := ⟨_, rfl⟩
  have k_t : ∀ w : World, Calls Try.prog 48 #[nv a.b, .agg #[.int .u64 0, uv (~~~b.b.v)]] w fun e w' => e = .returned (.tuple #[nv t, .bool ot]) ∧ Below w.heap.size w w' := fun w => by rw [e_t, e_ot]; exact meet_c a.b ⟨0#64, ~~~b.b.v⟩ w
  obtain ⟨u, e_u⟩ : ∃ z' : N, z' = (PlainTnum.meet b.b ⟨0#64, ~~~a.b.v⟩).1 := ⟨_, rfl⟩
  obtain ⟨ou, e_ou⟩ : ∃ z' : Bool, z' = (PlainTnum.meet b.b ⟨0#64, ~~~a.b.v⟩).2 := ⟨_, rfl⟩
  have k_u : ∀ w : World, Calls Try.prog 48 #[nv b.b, .agg #[.int .u64 0, uv (~~~a.b.v)]] w fun e w' => e = .returned (.tuple #[nv u, .bool ou]) ∧ Below w.heap.size w w' := fun w => by rw [e_u, e_ou]; exact meet_c b.b ⟨0#64, ~~~a.b.v⟩ w
  obtain ⟨R, e_R⟩ : ∃ z' : PlainBranch.Pair × Bool, z' = PlainBranch.settleP ((⟨t, a.lo, a.hi, a.sl, a.sh⟩ : Rng), (⟨u, b.lo, b.hi, b.sl, b.sh⟩ : Rng)) := ⟨_, rfl⟩
  have k_R : ∀ w : World, Calls Try.prog 71 #[pv2 ⟨t, a.lo, a.hi, a.sl, a.sh⟩ ⟨u, b.lo, b.hi, b.sl, b.sh⟩] w fun e w' => e = .returned (tv R) ∧ Below w.heap.size w w' := fun w => by rw [e_R]; exact psettle_c ⟨t, a.lo, a.hi, a.sl, a.sh⟩ ⟨u, b.lo, b.hi, b.sl, b.sh⟩ w
  have hs : PlainBranch.noBits (a, b) = if ot = true ∧ ou = true then R else (PlainBranch.zero, false) := by rw [e_R, e_ot, e_ou, e_t, e_u]; rfl
  clear e_R e_t e_ot e_u e_ou
  cases ot
  · cases ou
    · rw [if_neg (by decide)] at hs
      go_enter Try.func74, Try.ntmps74
      go_upto_region 1 with fail
      obtain ⟨gp, hgp⟩ : ∃ g, g = w.heap.size := ⟨_, rfl⟩
      obtain ⟨gr, hgr⟩ : ∃ g, g = w.heap.size + 1 := ⟨_, rfl⟩
      have Bp : Blk ((w.alloc (.cells #[uv a.b.v, uv a.b.m, uv a.lo, uv a.hi, sv a.sl, sv a.sh, uv b.b.v, uv b.b.m, uv b.lo, uv b.hi, sv b.sl, sv b.sh] 118)).alloc (.cells #[.int .u64 0, .int .u64 0, .int .u64 0, .int .u64 0, .int .i64 0, .int .i64 0, .int .u64 0, .int .u64 0, .int .u64 0, .int .u64 0, .int .i64 0, .int .i64 0] 118)) (w.heap.size) 118 #[uv a.b.v, uv a.b.m, uv a.lo, uv a.hi, sv a.sl, sv a.sh, uv b.b.v, uv b.b.m, uv b.lo, uv b.hi, sv b.sl, sv b.sh] := ((Blk.new w 118 #[uv a.b.v, uv a.b.m, uv a.lo, uv a.hi, sv a.sl, sv a.sh, uv b.b.v, uv b.b.m, uv b.lo, uv b.hi, sv b.sl, sv b.sh])).alloc _
      have Br : Blk ((w.alloc (.cells #[uv a.b.v, uv a.b.m, uv a.lo, uv a.hi, sv a.sl, sv a.sh, uv b.b.v, uv b.b.m, uv b.lo, uv b.hi, sv b.sl, sv b.sh] 118)).alloc (.cells #[.int .u64 0, .int .u64 0, .int .u64 0, .int .u64 0, .int .i64 0, .int .i64 0, .int .u64 0, .int .u64 0, .int .u64 0, .int .u64 0, .int .i64 0, .int .i64 0] 118)) (w.heap.size + 1) 118 #[.int .u64 0, .int .u64 0, .int .u64 0, .int .u64 0, .int .i64 0, .int .i64 0, .int .u64 0, .int .u64 0, .int .u64 0, .int .u64 0, .int .i64 0, .int .i64 0] := (by simpa using Blk.new (w.alloc (.cells #[uv a.b.v, uv a.b.m, uv a.lo, uv a.hi, sv a.sl, sv a.sh, uv b.b.v, uv b.b.m, uv b.lo, uv b.hi, sv b.sl, sv b.sh] 118)) 118 #[.int .u64 0, .int .u64 0, .int .u64 0, .int .u64 0, .int .i64 0, .int .i64 0, .int .u64 0, .int .u64 0, .int .u64 0, .int .u64 0, .int .i64 0, .int .i64 0] : Blk _ (w.heap.size + 1) 118 #[.int .u64 0, .int .u64 0, .int .u64 0, .int .u64 0, .int .i64 0, .int .i64 0, .int .u64 0, .int .u64 0, .int .u64 0, .int .u64 0, .int .i64 0, .int .i64 0])
      have hB : Below w.heap.size w ((w.alloc (.cells #[uv a.b.v, uv a.b.m, uv a.lo, uv a.hi, sv a.sl, sv a.sh, uv b.b.v, uv b.b.m, uv b.lo, uv b.hi, sv b.sl, sv b.sh] 118)).alloc (.cells #[.int .u64 0, .int .u64 0, .int .u64 0, .int .u64 0, .int .i64 0, .int .i64 0, .int .u64 0, .int .u64 0, .int .u64 0, .int .u64 0, .int .i64 0, .int .i64 0] 118)) := (Bl_alloc (Bl_alloc (Bl_refl w) _) _)
      clear hgp
      clear gp
      clear hgr
      clear gr
      generalize ((w.alloc (.cells #[uv a.b.v, uv a.b.m, uv a.lo, uv a.hi, sv a.sl, sv a.sh, uv b.b.v, uv b.b.m, uv b.lo, uv b.hi, sv b.sl, sv b.sh] 118)).alloc (.cells #[.int .u64 0, .int .u64 0, .int .u64 0, .int .u64 0, .int .i64 0, .int .i64 0, .int .u64 0, .int .u64 0, .int .u64 0, .int .u64 0, .int .i64 0, .int .i64 0] 118)) = w1 at *
      obtain ⟨cp0, cp1, cp2, cp3, cp4, cp5, cp6, cp7, cp8, cp9, cp10, cp11⟩ := cells12 Bp
      have fp := Bp.frozen; have lp := Bp.lt
      obtain ⟨cr0, cr1, cr2, cr3, cr4, cr5, cr6, cr7, cr8, cr9, cr10, cr11⟩ := cells12 Br
      have fr := Br.frozen; have lr := Br.lt
      go_upto_region 2 with fail
      clear cp0 cp1 cp2 cp3 cp4 cp5 cp6 cp7 cp8 cp9 cp10 cp11 fp lp
      clear cr0 cr1 cr2 cr3 cr4 cr5 cr6 cr7 cr8 cr9 cr10 cr11 fr lr
      have Bx := Blk.new w1 25 #[.int .u64 0, uv (~~~b.b.v)]
      have hgx := hB.size
      have hnpx := Nat.ne_of_lt Bp.lt; have hltpx := Bp.lt
      have hnrx := Nat.ne_of_lt Br.lt; have hltrx := Br.lt
      replace Bp : Blk (w1.alloc (.cells #[.int .u64 0, uv (~~~b.b.v)] 25)) (w.heap.size) 118 #[uv a.b.v, uv a.b.m, uv a.lo, uv a.hi, sv a.sl, sv a.sh, uv b.b.v, uv b.b.m, uv b.lo, uv b.hi, sv b.sl, sv b.sh] := Bp.alloc _
      replace Br : Blk (w1.alloc (.cells #[.int .u64 0, uv (~~~b.b.v)] 25)) (w.heap.size + 1) 118 #[.int .u64 0, .int .u64 0, .int .u64 0, .int .u64 0, .int .i64 0, .int .i64 0, .int .u64 0, .int .u64 0, .int .u64 0, .int .u64 0, .int .i64 0, .int .i64 0] := Br.alloc _
      replace hB : Below w.heap.size w (w1.alloc (.cells #[.int .u64 0, uv (~~~b.b.v)] 25)) := Bl_alloc hB _
      generalize (w1.alloc (.cells #[.int .u64 0, uv (~~~b.b.v)] 25)) = w2 at *
      generalize w1.heap.size = gx at *
      obtain ⟨cp0, cp1, cp2, cp3, cp4, cp5, cp6, cp7, cp8, cp9, cp10, cp11⟩ := cells12 Bp
      have fp := Bp.frozen; have lp := Bp.lt
      obtain ⟨cr0, cr1, cr2, cr3, cr4, cr5, cr6, cr7, cr8, cr9, cr10, cr11⟩ := cells12 Br
      have fr := Br.frozen; have lr := Br.lt
      obtain ⟨cx0, cx1⟩ := cells2 Bx
      have fx := Bx.frozen; have lx := Bx.lt
      go_upto_region 3 with fail
      clear cp0 cp1 cp2 cp3 cp4 cp5 cp6 cp7 cp8 cp9 cp10 cp11 fp lp
      clear cr0 cr1 cr2 cr3 cr4 cr5 cr6 cr7 cr8 cr9 cr10 cr11 fr lr
      clear cx0 cx1 fx lx
      have By := Blk.new w2 25 #[.int .u64 0, uv (~~~a.b.v)]
      have hgy := hB.size
      have hnpy := Nat.ne_of_lt Bp.lt; have hltpy := Bp.lt
      have hnry := Nat.ne_of_lt Br.lt; have hltry := Br.lt
      have hnxy := Nat.ne_of_lt Bx.lt; have hltxy := Bx.lt
      replace Bp : Blk (w2.alloc (.cells #[.int .u64 0, uv (~~~a.b.v)] 25)) (w.heap.size) 118 #[uv a.b.v, uv a.b.m, uv a.lo, uv a.hi, sv a.sl, sv a.sh, uv b.b.v, uv b.b.m, uv b.lo, uv b.hi, sv b.sl, sv b.sh] := Bp.alloc _
      replace Br : Blk (w2.alloc (.cells #[.int .u64 0, uv (~~~a.b.v)] 25)) (w.heap.size + 1) 118 #[.int .u64 0, .int .u64 0, .int .u64 0, .int .u64 0, .int .i64 0, .int .i64 0, .int .u64 0, .int .u64 0, .int .u64 0, .int .u64 0, .int .i64 0, .int .i64 0] := Br.alloc _
      replace Bx : Blk (w2.alloc (.cells #[.int .u64 0, uv (~~~a.b.v)] 25)) (gx) 25 #[.int .u64 0, uv (~~~b.b.v)] := Bx.alloc _
      replace hB : Below w.heap.size w (w2.alloc (.cells #[.int .u64 0, uv (~~~a.b.v)] 25)) := Bl_alloc hB _
      generalize (w2.alloc (.cells #[.int .u64 0, uv (~~~a.b.v)] 25)) = w3 at *
      generalize w2.heap.size = gy at *
      obtain ⟨cp0, cp1, cp2, cp3, cp4, cp5, cp6, cp7, cp8, cp9, cp10, cp11⟩ := cells12 Bp
      have fp := Bp.frozen; have lp := Bp.lt
      obtain ⟨cr0, cr1, cr2, cr3, cr4, cr5, cr6, cr7, cr8, cr9, cr10, cr11⟩ := cells12 Br
      have fr := Br.frozen; have lr := Br.lt
      obtain ⟨cx0, cx1⟩ := cells2 Bx
      have fx := Bx.frozen; have lx := Bx.lt
      obtain ⟨cy0, cy1⟩ := cells2 By
      have fy := By.frozen; have ly := By.lt
      go_wp2_with fail
      refine (k_t _).mono ?_
      rintro e w4 ⟨rfl, hb⟩
      clear cp0 cp1 cp2 cp3 cp4 cp5 cp6 cp7 cp8 cp9 cp10 cp11 fp lp
      clear cr0 cr1 cr2 cr3 cr4 cr5 cr6 cr7 cr8 cr9 cr10 cr11 fr lr
      clear cx0 cx1 fx lx
      clear cy0 cy1 fy ly
      replace Bp := (Bp).next hb
      replace Br := (Br).next hb
      replace Bx := (Bx).next hb
      replace By := (By).next hb
      replace hB : Below w.heap.size w w4 := by repeat (first | exact hB | (refine Bl_set ?_ (by first | omega | (simp; omega)) _) | apply Bl_alloc | (refine Bl_trans ?_ hb))
      clear hb
      obtain ⟨cp0, cp1, cp2, cp3, cp4, cp5, cp6, cp7, cp8, cp9, cp10, cp11⟩ := cells12 Bp
      have fp := Bp.frozen; have lp := Bp.lt
      obtain ⟨cr0, cr1, cr2, cr3, cr4, cr5, cr6, cr7, cr8, cr9, cr10, cr11⟩ := cells12 Br
      have fr := Br.frozen; have lr := Br.lt
      obtain ⟨cx0, cx1⟩ := cells2 Bx
      have fx := Bx.frozen; have lx := Bx.lt
      obtain ⟨cy0, cy1⟩ := cells2 By
      have fy := By.frozen; have ly := By.lt
      go_upto_region 4 with fail
      clear cp0 cp1 cp2 cp3 cp4 cp5 cp6 cp7 cp8 cp9 cp10 cp11 fp lp
      clear cr0 cr1 cr2 cr3 cr4 cr5 cr6 cr7 cr8 cr9 cr10 cr11 fr lr
      clear cx0 cx1 fx lx
      clear cy0 cy1 fy ly
      have Bt := Blk.new w4 25 #[uv t.v, uv t.m]
      have hgt := hB.size
      have hnpt := Nat.ne_of_lt Bp.lt; have hltpt := Bp.lt
      have hnrt := Nat.ne_of_lt Br.lt; have hltrt := Br.lt
      have hnxt := Nat.ne_of_lt Bx.lt; have hltxt := Bx.lt
      have hnyt := Nat.ne_of_lt By.lt; have hltyt := By.lt
      replace Bp : Blk (w4.alloc (.cells #[uv t.v, uv t.m] 25)) (w.heap.size) 118 #[uv a.b.v, uv a.b.m, uv a.lo, uv a.hi, sv a.sl, sv a.sh, uv b.b.v, uv b.b.m, uv b.lo, uv b.hi, sv b.sl, sv b.sh] := Bp.alloc _
      replace Br : Blk (w4.alloc (.cells #[uv t.v, uv t.m] 25)) (w.heap.size + 1) 118 #[.int .u64 0, .int .u64 0, .int .u64 0, .int .u64 0, .int .i64 0, .int .i64 0, .int .u64 0, .int .u64 0, .int .u64 0, .int .u64 0, .int .i64 0, .int .i64 0] := Br.alloc _
      replace Bx : Blk (w4.alloc (.cells #[uv t.v, uv t.m] 25)) (gx) 25 #[.int .u64 0, uv (~~~b.b.v)] := Bx.alloc _
      replace By : Blk (w4.alloc (.cells #[uv t.v, uv t.m] 25)) (gy) 25 #[.int .u64 0, uv (~~~a.b.v)] := By.alloc _
      replace hB : Below w.heap.size w (w4.alloc (.cells #[uv t.v, uv t.m] 25)) := Bl_alloc hB _
      generalize (w4.alloc (.cells #[uv t.v, uv t.m] 25)) = w5 at *
      generalize w4.heap.size = gt at *
      obtain ⟨cp0, cp1, cp2, cp3, cp4, cp5, cp6, cp7, cp8, cp9, cp10, cp11⟩ := cells12 Bp
      have fp := Bp.frozen; have lp := Bp.lt
      obtain ⟨cr0, cr1, cr2, cr3, cr4, cr5, cr6, cr7, cr8, cr9, cr10, cr11⟩ := cells12 Br
      have fr := Br.frozen; have lr := Br.lt
      obtain ⟨cx0, cx1⟩ := cells2 Bx
      have fx := Bx.frozen; have lx := Bx.lt
      obtain ⟨cy0, cy1⟩ := cells2 By
      have fy := By.frozen; have ly := By.lt
      obtain ⟨ct0, ct1⟩ := cells2 Bt
      have ft := Bt.frozen; have lt := Bt.lt
      go_wp2_with fail
      refine (k_u _).mono ?_
      rintro e w6 ⟨rfl, hb⟩
      clear cp0 cp1 cp2 cp3 cp4 cp5 cp6 cp7 cp8 cp9 cp10 cp11 fp lp
      clear cr0 cr1 cr2 cr3 cr4 cr5 cr6 cr7 cr8 cr9 cr10 cr11 fr lr
      clear cx0 cx1 fx lx
      clear cy0 cy1 fy ly
      clear ct0 ct1 ft lt
      replace Bp := (Bp).next hb
      replace Br := (Br).next hb
      replace Bx := (Bx).next hb
      replace By := (By).next hb
      replace Bt := (Bt).next hb
      replace hB : Below w.heap.size w w6 := by repeat (first | exact hB | (refine Bl_set ?_ (by first | omega | (simp; omega)) _) | apply Bl_alloc | (refine Bl_trans ?_ hb))
      clear hb
      obtain ⟨cp0, cp1, cp2, cp3, cp4, cp5, cp6, cp7, cp8, cp9, cp10, cp11⟩ := cells12 Bp
      have fp := Bp.frozen; have lp := Bp.lt
      obtain ⟨cr0, cr1, cr2, cr3, cr4, cr5, cr6, cr7, cr8, cr9, cr10, cr11⟩ := cells12 Br
      have fr := Br.frozen; have lr := Br.lt
      obtain ⟨cx0, cx1⟩ := cells2 Bx
      have fx := Bx.frozen; have lx := Bx.lt
      obtain ⟨cy0, cy1⟩ := cells2 By
      have fy := By.frozen; have ly := By.lt
      obtain ⟨ct0, ct1⟩ := cells2 Bt
      have ft := Bt.frozen; have lt := Bt.lt
      go_upto_region 5 with fail
      clear cp0 cp1 cp2 cp3 cp4 cp5 cp6 cp7 cp8 cp9 cp10 cp11 fp lp
      clear cr0 cr1 cr2 cr3 cr4 cr5 cr6 cr7 cr8 cr9 cr10 cr11 fr lr
      clear cx0 cx1 fx lx
      clear cy0 cy1 fy ly
      clear ct0 ct1 ft lt
      have Bu := Blk.new w6 25 #[uv u.v, uv u.m]
      have hgu := hB.size
      have hnpu := Nat.ne_of_lt Bp.lt; have hltpu := Bp.lt
      have hnru := Nat.ne_of_lt Br.lt; have hltru := Br.lt
      have hnxu := Nat.ne_of_lt Bx.lt; have hltxu := Bx.lt
      have hnyu := Nat.ne_of_lt By.lt; have hltyu := By.lt
      have hntu := Nat.ne_of_lt Bt.lt; have hlttu := Bt.lt
      replace Bp : Blk (w6.alloc (.cells #[uv u.v, uv u.m] 25)) (w.heap.size) 118 #[uv a.b.v, uv a.b.m, uv a.lo, uv a.hi, sv a.sl, sv a.sh, uv b.b.v, uv b.b.m, uv b.lo, uv b.hi, sv b.sl, sv b.sh] := Bp.alloc _
      replace Br : Blk (w6.alloc (.cells #[uv u.v, uv u.m] 25)) (w.heap.size + 1) 118 #[.int .u64 0, .int .u64 0, .int .u64 0, .int .u64 0, .int .i64 0, .int .i64 0, .int .u64 0, .int .u64 0, .int .u64 0, .int .u64 0, .int .i64 0, .int .i64 0] := Br.alloc _
      replace Bx : Blk (w6.alloc (.cells #[uv u.v, uv u.m] 25)) (gx) 25 #[.int .u64 0, uv (~~~b.b.v)] := Bx.alloc _
      replace By : Blk (w6.alloc (.cells #[uv u.v, uv u.m] 25)) (gy) 25 #[.int .u64 0, uv (~~~a.b.v)] := By.alloc _
      replace Bt : Blk (w6.alloc (.cells #[uv u.v, uv u.m] 25)) (gt) 25 #[uv t.v, uv t.m] := Bt.alloc _
      replace hB : Below w.heap.size w (w6.alloc (.cells #[uv u.v, uv u.m] 25)) := Bl_alloc hB _
      generalize (w6.alloc (.cells #[uv u.v, uv u.m] 25)) = w7 at *
      generalize w6.heap.size = gu at *
      obtain ⟨cp0, cp1, cp2, cp3, cp4, cp5, cp6, cp7, cp8, cp9, cp10, cp11⟩ := cells12 Bp
      have fp := Bp.frozen; have lp := Bp.lt
      obtain ⟨cr0, cr1, cr2, cr3, cr4, cr5, cr6, cr7, cr8, cr9, cr10, cr11⟩ := cells12 Br
      have fr := Br.frozen; have lr := Br.lt
      obtain ⟨cx0, cx1⟩ := cells2 Bx
      have fx := Bx.frozen; have lx := Bx.lt
      obtain ⟨cy0, cy1⟩ := cells2 By
      have fy := By.frozen; have ly := By.lt
      obtain ⟨ct0, ct1⟩ := cells2 Bt
      have ft := Bt.frozen; have lt := Bt.lt
      obtain ⟨cu0, cu1⟩ := cells2 Bu
      have fu := Bu.frozen; have lu := Bu.lt
      go_wp2
      exact bodyPost_ret (v := .tuple #[pv2 PlainScalar.none_ PlainScalar.none_, .bool false]) (by simp [results, Try.results74, go_sem, cr0, cr1, cr2, cr3, cr4, cr5, cr6, cr7, cr8, cr9, cr10, cr11, lr, PlainScalar.none_, T, S]) rfl ⟨by rw [hs]; first | done | rfl, by repeat (first | (with_reducible exact hB) | (with_reducible refine Bl_set ?_ (by first | omega | (simp; done) | (simp; omega)) _) | with_reducible apply Bl_alloc)⟩
    · rw [if_neg (by decide)] at hs
      go_enter Try.func74, Try.ntmps74
      go_upto_region 1 with fail
      obtain ⟨gp, hgp⟩ : ∃ g, g = w.heap.size := ⟨_, rfl⟩
      obtain ⟨gr, hgr⟩ : ∃ g, g = w.heap.size + 1 := ⟨_, rfl⟩
      have Bp : Blk ((w.alloc (.cells #[uv a.b.v, uv a.b.m, uv a.lo, uv a.hi, sv a.sl, sv a.sh, uv b.b.v, uv b.b.m, uv b.lo, uv b.hi, sv b.sl, sv b.sh] 118)).alloc (.cells #[.int .u64 0, .int .u64 0, .int .u64 0, .int .u64 0, .int .i64 0, .int .i64 0, .int .u64 0, .int .u64 0, .int .u64 0, .int .u64 0, .int .i64 0, .int .i64 0] 118)) (w.heap.size) 118 #[uv a.b.v, uv a.b.m, uv a.lo, uv a.hi, sv a.sl, sv a.sh, uv b.b.v, uv b.b.m, uv b.lo, uv b.hi, sv b.sl, sv b.sh] := ((Blk.new w 118 #[uv a.b.v, uv a.b.m, uv a.lo, uv a.hi, sv a.sl, sv a.sh, uv b.b.v, uv b.b.m, uv b.lo, uv b.hi, sv b.sl, sv b.sh])).alloc _
      have Br : Blk ((w.alloc (.cells #[uv a.b.v, uv a.b.m, uv a.lo, uv a.hi, sv a.sl, sv a.sh, uv b.b.v, uv b.b.m, uv b.lo, uv b.hi, sv b.sl, sv b.sh] 118)).alloc (.cells #[.int .u64 0, .int .u64 0, .int .u64 0, .int .u64 0, .int .i64 0, .int .i64 0, .int .u64 0, .int .u64 0, .int .u64 0, .int .u64 0, .int .i64 0, .int .i64 0] 118)) (w.heap.size + 1) 118 #[.int .u64 0, .int .u64 0, .int .u64 0, .int .u64 0, .int .i64 0, .int .i64 0, .int .u64 0, .int .u64 0, .int .u64 0, .int .u64 0, .int .i64 0, .int .i64 0] := (by simpa using Blk.new (w.alloc (.cells #[uv a.b.v, uv a.b.m, uv a.lo, uv a.hi, sv a.sl, sv a.sh, uv b.b.v, uv b.b.m, uv b.lo, uv b.hi, sv b.sl, sv b.sh] 118)) 118 #[.int .u64 0, .int .u64 0, .int .u64 0, .int .u64 0, .int .i64 0, .int .i64 0, .int .u64 0, .int .u64 0, .int .u64 0, .int .u64 0, .int .i64 0, .int .i64 0] : Blk _ (w.heap.size + 1) 118 #[.int .u64 0, .int .u64 0, .int .u64 0, .int .u64 0, .int .i64 0, .int .i64 0, .int .u64 0, .int .u64 0, .int .u64 0, .int .u64 0, .int .i64 0, .int .i64 0])
      have hB : Below w.heap.size w ((w.alloc (.cells #[uv a.b.v, uv a.b.m, uv a.lo, uv a.hi, sv a.sl, sv a.sh, uv b.b.v, uv b.b.m, uv b.lo, uv b.hi, sv b.sl, sv b.sh] 118)).alloc (.cells #[.int .u64 0, .int .u64 0, .int .u64 0, .int .u64 0, .int .i64 0, .int .i64 0, .int .u64 0, .int .u64 0, .int .u64 0, .int .u64 0, .int .i64 0, .int .i64 0] 118)) := (Bl_alloc (Bl_alloc (Bl_refl w) _) _)
      clear hgp
      clear gp
      clear hgr
      clear gr
      generalize ((w.alloc (.cells #[uv a.b.v, uv a.b.m, uv a.lo, uv a.hi, sv a.sl, sv a.sh, uv b.b.v, uv b.b.m, uv b.lo, uv b.hi, sv b.sl, sv b.sh] 118)).alloc (.cells #[.int .u64 0, .int .u64 0, .int .u64 0, .int .u64 0, .int .i64 0, .int .i64 0, .int .u64 0, .int .u64 0, .int .u64 0, .int .u64 0, .int .i64 0, .int .i64 0] 118)) = w1 at *
      obtain ⟨cp0, cp1, cp2, cp3, cp4, cp5, cp6, cp7, cp8, cp9, cp10, cp11⟩ := cells12 Bp
      have fp := Bp.frozen; have lp := Bp.lt
      obtain ⟨cr0, cr1, cr2, cr3, cr4, cr5, cr6, cr7, cr8, cr9, cr10, cr11⟩ := cells12 Br
      have fr := Br.frozen; have lr := Br.lt
      go_upto_region 2 with fail
      clear cp0 cp1 cp2 cp3 cp4 cp5 cp6 cp7 cp8 cp9 cp10 cp11 fp lp
      clear cr0 cr1 cr2 cr3 cr4 cr5 cr6 cr7 cr8 cr9 cr10 cr11 fr lr
      have Bx := Blk.new w1 25 #[.int .u64 0, uv (~~~b.b.v)]
      have hgx := hB.size
      have hnpx := Nat.ne_of_lt Bp.lt; have hltpx := Bp.lt
      have hnrx := Nat.ne_of_lt Br.lt; have hltrx := Br.lt
      replace Bp : Blk (w1.alloc (.cells #[.int .u64 0, uv (~~~b.b.v)] 25)) (w.heap.size) 118 #[uv a.b.v, uv a.b.m, uv a.lo, uv a.hi, sv a.sl, sv a.sh, uv b.b.v, uv b.b.m, uv b.lo, uv b.hi, sv b.sl, sv b.sh] := Bp.alloc _
      replace Br : Blk (w1.alloc (.cells #[.int .u64 0, uv (~~~b.b.v)] 25)) (w.heap.size + 1) 118 #[.int .u64 0, .int .u64 0, .int .u64 0, .int .u64 0, .int .i64 0, .int .i64 0, .int .u64 0, .int .u64 0, .int .u64 0, .int .u64 0, .int .i64 0, .int .i64 0] := Br.alloc _
      replace hB : Below w.heap.size w (w1.alloc (.cells #[.int .u64 0, uv (~~~b.b.v)] 25)) := Bl_alloc hB _
      generalize (w1.alloc (.cells #[.int .u64 0, uv (~~~b.b.v)] 25)) = w2 at *
      generalize w1.heap.size = gx at *
      obtain ⟨cp0, cp1, cp2, cp3, cp4, cp5, cp6, cp7, cp8, cp9, cp10, cp11⟩ := cells12 Bp
      have fp := Bp.frozen; have lp := Bp.lt
      obtain ⟨cr0, cr1, cr2, cr3, cr4, cr5, cr6, cr7, cr8, cr9, cr10, cr11⟩ := cells12 Br
      have fr := Br.frozen; have lr := Br.lt
      obtain ⟨cx0, cx1⟩ := cells2 Bx
      have fx := Bx.frozen; have lx := Bx.lt
      go_upto_region 3 with fail
      clear cp0 cp1 cp2 cp3 cp4 cp5 cp6 cp7 cp8 cp9 cp10 cp11 fp lp
      clear cr0 cr1 cr2 cr3 cr4 cr5 cr6 cr7 cr8 cr9 cr10 cr11 fr lr
      clear cx0 cx1 fx lx
      have By := Blk.new w2 25 #[.int .u64 0, uv (~~~a.b.v)]
      have hgy := hB.size
      have hnpy := Nat.ne_of_lt Bp.lt; have hltpy := Bp.lt
      have hnry := Nat.ne_of_lt Br.lt; have hltry := Br.lt
      have hnxy := Nat.ne_of_lt Bx.lt; have hltxy := Bx.lt
      replace Bp : Blk (w2.alloc (.cells #[.int .u64 0, uv (~~~a.b.v)] 25)) (w.heap.size) 118 #[uv a.b.v, uv a.b.m, uv a.lo, uv a.hi, sv a.sl, sv a.sh, uv b.b.v, uv b.b.m, uv b.lo, uv b.hi, sv b.sl, sv b.sh] := Bp.alloc _
      replace Br : Blk (w2.alloc (.cells #[.int .u64 0, uv (~~~a.b.v)] 25)) (w.heap.size + 1) 118 #[.int .u64 0, .int .u64 0, .int .u64 0, .int .u64 0, .int .i64 0, .int .i64 0, .int .u64 0, .int .u64 0, .int .u64 0, .int .u64 0, .int .i64 0, .int .i64 0] := Br.alloc _
      replace Bx : Blk (w2.alloc (.cells #[.int .u64 0, uv (~~~a.b.v)] 25)) (gx) 25 #[.int .u64 0, uv (~~~b.b.v)] := Bx.alloc _
      replace hB : Below w.heap.size w (w2.alloc (.cells #[.int .u64 0, uv (~~~a.b.v)] 25)) := Bl_alloc hB _
      generalize (w2.alloc (.cells #[.int .u64 0, uv (~~~a.b.v)] 25)) = w3 at *
      generalize w2.heap.size = gy at *
      obtain ⟨cp0, cp1, cp2, cp3, cp4, cp5, cp6, cp7, cp8, cp9, cp10, cp11⟩ := cells12 Bp
      have fp := Bp.frozen; have lp := Bp.lt
      obtain ⟨cr0, cr1, cr2, cr3, cr4, cr5, cr6, cr7, cr8, cr9, cr10, cr11⟩ := cells12 Br
      have fr := Br.frozen; have lr := Br.lt
      obtain ⟨cx0, cx1⟩ := cells2 Bx
      have fx := Bx.frozen; have lx := Bx.lt
      obtain ⟨cy0, cy1⟩ := cells2 By
      have fy := By.frozen; have ly := By.lt
      go_wp2_with fail
      refine (k_t _).mono ?_
      rintro e w4 ⟨rfl, hb⟩
      clear cp0 cp1 cp2 cp3 cp4 cp5 cp6 cp7 cp8 cp9 cp10 cp11 fp lp
      clear cr0 cr1 cr2 cr3 cr4 cr5 cr6 cr7 cr8 cr9 cr10 cr11 fr lr
      clear cx0 cx1 fx lx
      clear cy0 cy1 fy ly
      replace Bp := (Bp).next hb
      replace Br := (Br).next hb
      replace Bx := (Bx).next hb
      replace By := (By).next hb
      replace hB : Below w.heap.size w w4 := by repeat (first | exact hB | (refine Bl_set ?_ (by first | omega | (simp; omega)) _) | apply Bl_alloc | (refine Bl_trans ?_ hb))
      clear hb
      obtain ⟨cp0, cp1, cp2, cp3, cp4, cp5, cp6, cp7, cp8, cp9, cp10, cp11⟩ := cells12 Bp
      have fp := Bp.frozen; have lp := Bp.lt
      obtain ⟨cr0, cr1, cr2, cr3, cr4, cr5, cr6, cr7, cr8, cr9, cr10, cr11⟩ := cells12 Br
      have fr := Br.frozen; have lr := Br.lt
      obtain ⟨cx0, cx1⟩ := cells2 Bx
      have fx := Bx.frozen; have lx := Bx.lt
      obtain ⟨cy0, cy1⟩ := cells2 By
      have fy := By.frozen; have ly := By.lt
      go_upto_region 4 with fail
      clear cp0 cp1 cp2 cp3 cp4 cp5 cp6 cp7 cp8 cp9 cp10 cp11 fp lp
      clear cr0 cr1 cr2 cr3 cr4 cr5 cr6 cr7 cr8 cr9 cr10 cr11 fr lr
      clear cx0 cx1 fx lx
      clear cy0 cy1 fy ly
      have Bt := Blk.new w4 25 #[uv t.v, uv t.m]
      have hgt := hB.size
      have hnpt := Nat.ne_of_lt Bp.lt; have hltpt := Bp.lt
      have hnrt := Nat.ne_of_lt Br.lt; have hltrt := Br.lt
      have hnxt := Nat.ne_of_lt Bx.lt; have hltxt := Bx.lt
      have hnyt := Nat.ne_of_lt By.lt; have hltyt := By.lt
      replace Bp : Blk (w4.alloc (.cells #[uv t.v, uv t.m] 25)) (w.heap.size) 118 #[uv a.b.v, uv a.b.m, uv a.lo, uv a.hi, sv a.sl, sv a.sh, uv b.b.v, uv b.b.m, uv b.lo, uv b.hi, sv b.sl, sv b.sh] := Bp.alloc _
      replace Br : Blk (w4.alloc (.cells #[uv t.v, uv t.m] 25)) (w.heap.size + 1) 118 #[.int .u64 0, .int .u64 0, .int .u64 0, .int .u64 0, .int .i64 0, .int .i64 0, .int .u64 0, .int .u64 0, .int .u64 0, .int .u64 0, .int .i64 0, .int .i64 0] := Br.alloc _
      replace Bx : Blk (w4.alloc (.cells #[uv t.v, uv t.m] 25)) (gx) 25 #[.int .u64 0, uv (~~~b.b.v)] := Bx.alloc _
      replace By : Blk (w4.alloc (.cells #[uv t.v, uv t.m] 25)) (gy) 25 #[.int .u64 0, uv (~~~a.b.v)] := By.alloc _
      replace hB : Below w.heap.size w (w4.alloc (.cells #[uv t.v, uv t.m] 25)) := Bl_alloc hB _
      generalize (w4.alloc (.cells #[uv t.v, uv t.m] 25)) = w5 at *
      generalize w4.heap.size = gt at *
      obtain ⟨cp0, cp1, cp2, cp3, cp4, cp5, cp6, cp7, cp8, cp9, cp10, cp11⟩ := cells12 Bp
      have fp := Bp.frozen; have lp := Bp.lt
      obtain ⟨cr0, cr1, cr2, cr3, cr4, cr5, cr6, cr7, cr8, cr9, cr10, cr11⟩ := cells12 Br
      have fr := Br.frozen; have lr := Br.lt
      obtain ⟨cx0, cx1⟩ := cells2 Bx
      have fx := Bx.frozen; have lx := Bx.lt
      obtain ⟨cy0, cy1⟩ := cells2 By
      have fy := By.frozen; have ly := By.lt
      obtain ⟨ct0, ct1⟩ := cells2 Bt
      have ft := Bt.frozen; have lt := Bt.lt
      go_wp2_with fail
      refine (k_u _).mono ?_
      rintro e w6 ⟨rfl, hb⟩
      clear cp0 cp1 cp2 cp3 cp4 cp5 cp6 cp7 cp8 cp9 cp10 cp11 fp lp
      clear cr0 cr1 cr2 cr3 cr4 cr5 cr6 cr7 cr8 cr9 cr10 cr11 fr lr
      clear cx0 cx1 fx lx
      clear cy0 cy1 fy ly
      clear ct0 ct1 ft lt
      replace Bp := (Bp).next hb
      replace Br := (Br).next hb
      replace Bx := (Bx).next hb
      replace By := (By).next hb
      replace Bt := (Bt).next hb
      replace hB : Below w.heap.size w w6 := by repeat (first | exact hB | (refine Bl_set ?_ (by first | omega | (simp; omega)) _) | apply Bl_alloc | (refine Bl_trans ?_ hb))
      clear hb
      obtain ⟨cp0, cp1, cp2, cp3, cp4, cp5, cp6, cp7, cp8, cp9, cp10, cp11⟩ := cells12 Bp
      have fp := Bp.frozen; have lp := Bp.lt
      obtain ⟨cr0, cr1, cr2, cr3, cr4, cr5, cr6, cr7, cr8, cr9, cr10, cr11⟩ := cells12 Br
      have fr := Br.frozen; have lr := Br.lt
      obtain ⟨cx0, cx1⟩ := cells2 Bx
      have fx := Bx.frozen; have lx := Bx.lt
      obtain ⟨cy0, cy1⟩ := cells2 By
      have fy := By.frozen; have ly := By.lt
      obtain ⟨ct0, ct1⟩ := cells2 Bt
      have ft := Bt.frozen; have lt := Bt.lt
      go_upto_region 5 with fail
      clear cp0 cp1 cp2 cp3 cp4 cp5 cp6 cp7 cp8 cp9 cp10 cp11 fp lp
      clear cr0 cr1 cr2 cr3 cr4 cr5 cr6 cr7 cr8 cr9 cr10 cr11 fr lr
      clear cx0 cx1 fx lx
      clear cy0 cy1 fy ly
      clear ct0 ct1 ft lt
      have Bu := Blk.new w6 25 #[uv u.v, uv u.m]
      have hgu := hB.size
      have hnpu := Nat.ne_of_lt Bp.lt; have hltpu := Bp.lt
      have hnru := Nat.ne_of_lt Br.lt; have hltru := Br.lt
      have hnxu := Nat.ne_of_lt Bx.lt; have hltxu := Bx.lt
      have hnyu := Nat.ne_of_lt By.lt; have hltyu := By.lt
      have hntu := Nat.ne_of_lt Bt.lt; have hlttu := Bt.lt
      replace Bp : Blk (w6.alloc (.cells #[uv u.v, uv u.m] 25)) (w.heap.size) 118 #[uv a.b.v, uv a.b.m, uv a.lo, uv a.hi, sv a.sl, sv a.sh, uv b.b.v, uv b.b.m, uv b.lo, uv b.hi, sv b.sl, sv b.sh] := Bp.alloc _
      replace Br : Blk (w6.alloc (.cells #[uv u.v, uv u.m] 25)) (w.heap.size + 1) 118 #[.int .u64 0, .int .u64 0, .int .u64 0, .int .u64 0, .int .i64 0, .int .i64 0, .int .u64 0, .int .u64 0, .int .u64 0, .int .u64 0, .int .i64 0, .int .i64 0] := Br.alloc _
      replace Bx : Blk (w6.alloc (.cells #[uv u.v, uv u.m] 25)) (gx) 25 #[.int .u64 0, uv (~~~b.b.v)] := Bx.alloc _
      replace By : Blk (w6.alloc (.cells #[uv u.v, uv u.m] 25)) (gy) 25 #[.int .u64 0, uv (~~~a.b.v)] := By.alloc _
      replace Bt : Blk (w6.alloc (.cells #[uv u.v, uv u.m] 25)) (gt) 25 #[uv t.v, uv t.m] := Bt.alloc _
      replace hB : Below w.heap.size w (w6.alloc (.cells #[uv u.v, uv u.m] 25)) := Bl_alloc hB _
      generalize (w6.alloc (.cells #[uv u.v, uv u.m] 25)) = w7 at *
      generalize w6.heap.size = gu at *
      obtain ⟨cp0, cp1, cp2, cp3, cp4, cp5, cp6, cp7, cp8, cp9, cp10, cp11⟩ := cells12 Bp
      have fp := Bp.frozen; have lp := Bp.lt
      obtain ⟨cr0, cr1, cr2, cr3, cr4, cr5, cr6, cr7, cr8, cr9, cr10, cr11⟩ := cells12 Br
      have fr := Br.frozen; have lr := Br.lt
      obtain ⟨cx0, cx1⟩ := cells2 Bx
      have fx := Bx.frozen; have lx := Bx.lt
      obtain ⟨cy0, cy1⟩ := cells2 By
      have fy := By.frozen; have ly := By.lt
      obtain ⟨ct0, ct1⟩ := cells2 Bt
      have ft := Bt.frozen; have lt := Bt.lt
      obtain ⟨cu0, cu1⟩ := cells2 Bu
      have fu := Bu.frozen; have lu := Bu.lt
      go_wp2
      exact bodyPost_ret (v := .tuple #[pv2 PlainScalar.none_ PlainScalar.none_, .bool false]) (by simp [results, Try.results74, go_sem, cr0, cr1, cr2, cr3, cr4, cr5, cr6, cr7, cr8, cr9, cr10, cr11, lr, PlainScalar.none_, T, S]) rfl ⟨by rw [hs]; first | done | rfl, by repeat (first | (with_reducible exact hB) | (with_reducible refine Bl_set ?_ (by first | omega | (simp; done) | (simp; omega)) _) | with_reducible apply Bl_alloc)⟩
  · cases ou
    · rw [if_neg (by decide)] at hs
      go_enter Try.func74, Try.ntmps74
      go_upto_region 1 with fail
      obtain ⟨gp, hgp⟩ : ∃ g, g = w.heap.size := ⟨_, rfl⟩
      obtain ⟨gr, hgr⟩ : ∃ g, g = w.heap.size + 1 := ⟨_, rfl⟩
      have Bp : Blk ((w.alloc (.cells #[uv a.b.v, uv a.b.m, uv a.lo, uv a.hi, sv a.sl, sv a.sh, uv b.b.v, uv b.b.m, uv b.lo, uv b.hi, sv b.sl, sv b.sh] 118)).alloc (.cells #[.int .u64 0, .int .u64 0, .int .u64 0, .int .u64 0, .int .i64 0, .int .i64 0, .int .u64 0, .int .u64 0, .int .u64 0, .int .u64 0, .int .i64 0, .int .i64 0] 118)) (w.heap.size) 118 #[uv a.b.v, uv a.b.m, uv a.lo, uv a.hi, sv a.sl, sv a.sh, uv b.b.v, uv b.b.m, uv b.lo, uv b.hi, sv b.sl, sv b.sh] := ((Blk.new w 118 #[uv a.b.v, uv a.b.m, uv a.lo, uv a.hi, sv a.sl, sv a.sh, uv b.b.v, uv b.b.m, uv b.lo, uv b.hi, sv b.sl, sv b.sh])).alloc _
      have Br : Blk ((w.alloc (.cells #[uv a.b.v, uv a.b.m, uv a.lo, uv a.hi, sv a.sl, sv a.sh, uv b.b.v, uv b.b.m, uv b.lo, uv b.hi, sv b.sl, sv b.sh] 118)).alloc (.cells #[.int .u64 0, .int .u64 0, .int .u64 0, .int .u64 0, .int .i64 0, .int .i64 0, .int .u64 0, .int .u64 0, .int .u64 0, .int .u64 0, .int .i64 0, .int .i64 0] 118)) (w.heap.size + 1) 118 #[.int .u64 0, .int .u64 0, .int .u64 0, .int .u64 0, .int .i64 0, .int .i64 0, .int .u64 0, .int .u64 0, .int .u64 0, .int .u64 0, .int .i64 0, .int .i64 0] := (by simpa using Blk.new (w.alloc (.cells #[uv a.b.v, uv a.b.m, uv a.lo, uv a.hi, sv a.sl, sv a.sh, uv b.b.v, uv b.b.m, uv b.lo, uv b.hi, sv b.sl, sv b.sh] 118)) 118 #[.int .u64 0, .int .u64 0, .int .u64 0, .int .u64 0, .int .i64 0, .int .i64 0, .int .u64 0, .int .u64 0, .int .u64 0, .int .u64 0, .int .i64 0, .int .i64 0] : Blk _ (w.heap.size + 1) 118 #[.int .u64 0, .int .u64 0, .int .u64 0, .int .u64 0, .int .i64 0, .int .i64 0, .int .u64 0, .int .u64 0, .int .u64 0, .int .u64 0, .int .i64 0, .int .i64 0])
      have hB : Below w.heap.size w ((w.alloc (.cells #[uv a.b.v, uv a.b.m, uv a.lo, uv a.hi, sv a.sl, sv a.sh, uv b.b.v, uv b.b.m, uv b.lo, uv b.hi, sv b.sl, sv b.sh] 118)).alloc (.cells #[.int .u64 0, .int .u64 0, .int .u64 0, .int .u64 0, .int .i64 0, .int .i64 0, .int .u64 0, .int .u64 0, .int .u64 0, .int .u64 0, .int .i64 0, .int .i64 0] 118)) := (Bl_alloc (Bl_alloc (Bl_refl w) _) _)
      clear hgp
      clear gp
      clear hgr
      clear gr
      generalize ((w.alloc (.cells #[uv a.b.v, uv a.b.m, uv a.lo, uv a.hi, sv a.sl, sv a.sh, uv b.b.v, uv b.b.m, uv b.lo, uv b.hi, sv b.sl, sv b.sh] 118)).alloc (.cells #[.int .u64 0, .int .u64 0, .int .u64 0, .int .u64 0, .int .i64 0, .int .i64 0, .int .u64 0, .int .u64 0, .int .u64 0, .int .u64 0, .int .i64 0, .int .i64 0] 118)) = w1 at *
      obtain ⟨cp0, cp1, cp2, cp3, cp4, cp5, cp6, cp7, cp8, cp9, cp10, cp11⟩ := cells12 Bp
      have fp := Bp.frozen; have lp := Bp.lt
      obtain ⟨cr0, cr1, cr2, cr3, cr4, cr5, cr6, cr7, cr8, cr9, cr10, cr11⟩ := cells12 Br
      have fr := Br.frozen; have lr := Br.lt
      go_upto_region 2 with fail
      clear cp0 cp1 cp2 cp3 cp4 cp5 cp6 cp7 cp8 cp9 cp10 cp11 fp lp
      clear cr0 cr1 cr2 cr3 cr4 cr5 cr6 cr7 cr8 cr9 cr10 cr11 fr lr
      have Bx := Blk.new w1 25 #[.int .u64 0, uv (~~~b.b.v)]
      have hgx := hB.size
      have hnpx := Nat.ne_of_lt Bp.lt; have hltpx := Bp.lt
      have hnrx := Nat.ne_of_lt Br.lt; have hltrx := Br.lt
      replace Bp : Blk (w1.alloc (.cells #[.int .u64 0, uv (~~~b.b.v)] 25)) (w.heap.size) 118 #[uv a.b.v, uv a.b.m, uv a.lo, uv a.hi, sv a.sl, sv a.sh, uv b.b.v, uv b.b.m, uv b.lo, uv b.hi, sv b.sl, sv b.sh] := Bp.alloc _
      replace Br : Blk (w1.alloc (.cells #[.int .u64 0, uv (~~~b.b.v)] 25)) (w.heap.size + 1) 118 #[.int .u64 0, .int .u64 0, .int .u64 0, .int .u64 0, .int .i64 0, .int .i64 0, .int .u64 0, .int .u64 0, .int .u64 0, .int .u64 0, .int .i64 0, .int .i64 0] := Br.alloc _
      replace hB : Below w.heap.size w (w1.alloc (.cells #[.int .u64 0, uv (~~~b.b.v)] 25)) := Bl_alloc hB _
      generalize (w1.alloc (.cells #[.int .u64 0, uv (~~~b.b.v)] 25)) = w2 at *
      generalize w1.heap.size = gx at *
      obtain ⟨cp0, cp1, cp2, cp3, cp4, cp5, cp6, cp7, cp8, cp9, cp10, cp11⟩ := cells12 Bp
      have fp := Bp.frozen; have lp := Bp.lt
      obtain ⟨cr0, cr1, cr2, cr3, cr4, cr5, cr6, cr7, cr8, cr9, cr10, cr11⟩ := cells12 Br
      have fr := Br.frozen; have lr := Br.lt
      obtain ⟨cx0, cx1⟩ := cells2 Bx
      have fx := Bx.frozen; have lx := Bx.lt
      go_upto_region 3 with fail
      clear cp0 cp1 cp2 cp3 cp4 cp5 cp6 cp7 cp8 cp9 cp10 cp11 fp lp
      clear cr0 cr1 cr2 cr3 cr4 cr5 cr6 cr7 cr8 cr9 cr10 cr11 fr lr
      clear cx0 cx1 fx lx
      have By := Blk.new w2 25 #[.int .u64 0, uv (~~~a.b.v)]
      have hgy := hB.size
      have hnpy := Nat.ne_of_lt Bp.lt; have hltpy := Bp.lt
      have hnry := Nat.ne_of_lt Br.lt; have hltry := Br.lt
      have hnxy := Nat.ne_of_lt Bx.lt; have hltxy := Bx.lt
      replace Bp : Blk (w2.alloc (.cells #[.int .u64 0, uv (~~~a.b.v)] 25)) (w.heap.size) 118 #[uv a.b.v, uv a.b.m, uv a.lo, uv a.hi, sv a.sl, sv a.sh, uv b.b.v, uv b.b.m, uv b.lo, uv b.hi, sv b.sl, sv b.sh] := Bp.alloc _
      replace Br : Blk (w2.alloc (.cells #[.int .u64 0, uv (~~~a.b.v)] 25)) (w.heap.size + 1) 118 #[.int .u64 0, .int .u64 0, .int .u64 0, .int .u64 0, .int .i64 0, .int .i64 0, .int .u64 0, .int .u64 0, .int .u64 0, .int .u64 0, .int .i64 0, .int .i64 0] := Br.alloc _
      replace Bx : Blk (w2.alloc (.cells #[.int .u64 0, uv (~~~a.b.v)] 25)) (gx) 25 #[.int .u64 0, uv (~~~b.b.v)] := Bx.alloc _
      replace hB : Below w.heap.size w (w2.alloc (.cells #[.int .u64 0, uv (~~~a.b.v)] 25)) := Bl_alloc hB _
      generalize (w2.alloc (.cells #[.int .u64 0, uv (~~~a.b.v)] 25)) = w3 at *
      generalize w2.heap.size = gy at *
      obtain ⟨cp0, cp1, cp2, cp3, cp4, cp5, cp6, cp7, cp8, cp9, cp10, cp11⟩ := cells12 Bp
      have fp := Bp.frozen; have lp := Bp.lt
      obtain ⟨cr0, cr1, cr2, cr3, cr4, cr5, cr6, cr7, cr8, cr9, cr10, cr11⟩ := cells12 Br
      have fr := Br.frozen; have lr := Br.lt
      obtain ⟨cx0, cx1⟩ := cells2 Bx
      have fx := Bx.frozen; have lx := Bx.lt
      obtain ⟨cy0, cy1⟩ := cells2 By
      have fy := By.frozen; have ly := By.lt
      go_wp2_with fail
      refine (k_t _).mono ?_
      rintro e w4 ⟨rfl, hb⟩
      clear cp0 cp1 cp2 cp3 cp4 cp5 cp6 cp7 cp8 cp9 cp10 cp11 fp lp
      clear cr0 cr1 cr2 cr3 cr4 cr5 cr6 cr7 cr8 cr9 cr10 cr11 fr lr
      clear cx0 cx1 fx lx
      clear cy0 cy1 fy ly
      replace Bp := (Bp).next hb
      replace Br := (Br).next hb
      replace Bx := (Bx).next hb
      replace By := (By).next hb
      replace hB : Below w.heap.size w w4 := by repeat (first | exact hB | (refine Bl_set ?_ (by first | omega | (simp; omega)) _) | apply Bl_alloc | (refine Bl_trans ?_ hb))
      clear hb
      obtain ⟨cp0, cp1, cp2, cp3, cp4, cp5, cp6, cp7, cp8, cp9, cp10, cp11⟩ := cells12 Bp
      have fp := Bp.frozen; have lp := Bp.lt
      obtain ⟨cr0, cr1, cr2, cr3, cr4, cr5, cr6, cr7, cr8, cr9, cr10, cr11⟩ := cells12 Br
      have fr := Br.frozen; have lr := Br.lt
      obtain ⟨cx0, cx1⟩ := cells2 Bx
      have fx := Bx.frozen; have lx := Bx.lt
      obtain ⟨cy0, cy1⟩ := cells2 By
      have fy := By.frozen; have ly := By.lt
      go_upto_region 4 with fail
      clear cp0 cp1 cp2 cp3 cp4 cp5 cp6 cp7 cp8 cp9 cp10 cp11 fp lp
      clear cr0 cr1 cr2 cr3 cr4 cr5 cr6 cr7 cr8 cr9 cr10 cr11 fr lr
      clear cx0 cx1 fx lx
      clear cy0 cy1 fy ly
      have Bt := Blk.new w4 25 #[uv t.v, uv t.m]
      have hgt := hB.size
      have hnpt := Nat.ne_of_lt Bp.lt; have hltpt := Bp.lt
      have hnrt := Nat.ne_of_lt Br.lt; have hltrt := Br.lt
      have hnxt := Nat.ne_of_lt Bx.lt; have hltxt := Bx.lt
      have hnyt := Nat.ne_of_lt By.lt; have hltyt := By.lt
      replace Bp : Blk (w4.alloc (.cells #[uv t.v, uv t.m] 25)) (w.heap.size) 118 #[uv a.b.v, uv a.b.m, uv a.lo, uv a.hi, sv a.sl, sv a.sh, uv b.b.v, uv b.b.m, uv b.lo, uv b.hi, sv b.sl, sv b.sh] := Bp.alloc _
      replace Br : Blk (w4.alloc (.cells #[uv t.v, uv t.m] 25)) (w.heap.size + 1) 118 #[.int .u64 0, .int .u64 0, .int .u64 0, .int .u64 0, .int .i64 0, .int .i64 0, .int .u64 0, .int .u64 0, .int .u64 0, .int .u64 0, .int .i64 0, .int .i64 0] := Br.alloc _
      replace Bx : Blk (w4.alloc (.cells #[uv t.v, uv t.m] 25)) (gx) 25 #[.int .u64 0, uv (~~~b.b.v)] := Bx.alloc _
      replace By : Blk (w4.alloc (.cells #[uv t.v, uv t.m] 25)) (gy) 25 #[.int .u64 0, uv (~~~a.b.v)] := By.alloc _
      replace hB : Below w.heap.size w (w4.alloc (.cells #[uv t.v, uv t.m] 25)) := Bl_alloc hB _
      generalize (w4.alloc (.cells #[uv t.v, uv t.m] 25)) = w5 at *
      generalize w4.heap.size = gt at *
      obtain ⟨cp0, cp1, cp2, cp3, cp4, cp5, cp6, cp7, cp8, cp9, cp10, cp11⟩ := cells12 Bp
      have fp := Bp.frozen; have lp := Bp.lt
      obtain ⟨cr0, cr1, cr2, cr3, cr4, cr5, cr6, cr7, cr8, cr9, cr10, cr11⟩ := cells12 Br
      have fr := Br.frozen; have lr := Br.lt
      obtain ⟨cx0, cx1⟩ := cells2 Bx
      have fx := Bx.frozen; have lx := Bx.lt
      obtain ⟨cy0, cy1⟩ := cells2 By
      have fy := By.frozen; have ly := By.lt
      obtain ⟨ct0, ct1⟩ := cells2 Bt
      have ft := Bt.frozen; have lt := Bt.lt
      go_wp2_with fail
      refine (k_u _).mono ?_
      rintro e w6 ⟨rfl, hb⟩
      clear cp0 cp1 cp2 cp3 cp4 cp5 cp6 cp7 cp8 cp9 cp10 cp11 fp lp
      clear cr0 cr1 cr2 cr3 cr4 cr5 cr6 cr7 cr8 cr9 cr10 cr11 fr lr
      clear cx0 cx1 fx lx
      clear cy0 cy1 fy ly
      clear ct0 ct1 ft lt
      replace Bp := (Bp).next hb
      replace Br := (Br).next hb
      replace Bx := (Bx).next hb
      replace By := (By).next hb
      replace Bt := (Bt).next hb
      replace hB : Below w.heap.size w w6 := by repeat (first | exact hB | (refine Bl_set ?_ (by first | omega | (simp; omega)) _) | apply Bl_alloc | (refine Bl_trans ?_ hb))
      clear hb
      obtain ⟨cp0, cp1, cp2, cp3, cp4, cp5, cp6, cp7, cp8, cp9, cp10, cp11⟩ := cells12 Bp
      have fp := Bp.frozen; have lp := Bp.lt
      obtain ⟨cr0, cr1, cr2, cr3, cr4, cr5, cr6, cr7, cr8, cr9, cr10, cr11⟩ := cells12 Br
      have fr := Br.frozen; have lr := Br.lt
      obtain ⟨cx0, cx1⟩ := cells2 Bx
      have fx := Bx.frozen; have lx := Bx.lt
      obtain ⟨cy0, cy1⟩ := cells2 By
      have fy := By.frozen; have ly := By.lt
      obtain ⟨ct0, ct1⟩ := cells2 Bt
      have ft := Bt.frozen; have lt := Bt.lt
      go_upto_region 5 with fail
      clear cp0 cp1 cp2 cp3 cp4 cp5 cp6 cp7 cp8 cp9 cp10 cp11 fp lp
      clear cr0 cr1 cr2 cr3 cr4 cr5 cr6 cr7 cr8 cr9 cr10 cr11 fr lr
      clear cx0 cx1 fx lx
      clear cy0 cy1 fy ly
      clear ct0 ct1 ft lt
      have Bu := Blk.new w6 25 #[uv u.v, uv u.m]
      have hgu := hB.size
      have hnpu := Nat.ne_of_lt Bp.lt; have hltpu := Bp.lt
      have hnru := Nat.ne_of_lt Br.lt; have hltru := Br.lt
      have hnxu := Nat.ne_of_lt Bx.lt; have hltxu := Bx.lt
      have hnyu := Nat.ne_of_lt By.lt; have hltyu := By.lt
      have hntu := Nat.ne_of_lt Bt.lt; have hlttu := Bt.lt
      replace Bp : Blk (w6.alloc (.cells #[uv u.v, uv u.m] 25)) (w.heap.size) 118 #[uv a.b.v, uv a.b.m, uv a.lo, uv a.hi, sv a.sl, sv a.sh, uv b.b.v, uv b.b.m, uv b.lo, uv b.hi, sv b.sl, sv b.sh] := Bp.alloc _
      replace Br : Blk (w6.alloc (.cells #[uv u.v, uv u.m] 25)) (w.heap.size + 1) 118 #[.int .u64 0, .int .u64 0, .int .u64 0, .int .u64 0, .int .i64 0, .int .i64 0, .int .u64 0, .int .u64 0, .int .u64 0, .int .u64 0, .int .i64 0, .int .i64 0] := Br.alloc _
      replace Bx : Blk (w6.alloc (.cells #[uv u.v, uv u.m] 25)) (gx) 25 #[.int .u64 0, uv (~~~b.b.v)] := Bx.alloc _
      replace By : Blk (w6.alloc (.cells #[uv u.v, uv u.m] 25)) (gy) 25 #[.int .u64 0, uv (~~~a.b.v)] := By.alloc _
      replace Bt : Blk (w6.alloc (.cells #[uv u.v, uv u.m] 25)) (gt) 25 #[uv t.v, uv t.m] := Bt.alloc _
      replace hB : Below w.heap.size w (w6.alloc (.cells #[uv u.v, uv u.m] 25)) := Bl_alloc hB _
      generalize (w6.alloc (.cells #[uv u.v, uv u.m] 25)) = w7 at *
      generalize w6.heap.size = gu at *
      obtain ⟨cp0, cp1, cp2, cp3, cp4, cp5, cp6, cp7, cp8, cp9, cp10, cp11⟩ := cells12 Bp
      have fp := Bp.frozen; have lp := Bp.lt
      obtain ⟨cr0, cr1, cr2, cr3, cr4, cr5, cr6, cr7, cr8, cr9, cr10, cr11⟩ := cells12 Br
      have fr := Br.frozen; have lr := Br.lt
      obtain ⟨cx0, cx1⟩ := cells2 Bx
      have fx := Bx.frozen; have lx := Bx.lt
      obtain ⟨cy0, cy1⟩ := cells2 By
      have fy := By.frozen; have ly := By.lt
      obtain ⟨ct0, ct1⟩ := cells2 Bt
      have ft := Bt.frozen; have lt := Bt.lt
      obtain ⟨cu0, cu1⟩ := cells2 Bu
      have fu := Bu.frozen; have lu := Bu.lt
      go_wp2
      exact bodyPost_ret (v := .tuple #[pv2 PlainScalar.none_ PlainScalar.none_, .bool false]) (by simp [results, Try.results74, go_sem, cr0, cr1, cr2, cr3, cr4, cr5, cr6, cr7, cr8, cr9, cr10, cr11, lr, PlainScalar.none_, T, S]) rfl ⟨by rw [hs]; first | done | rfl, by repeat (first | (with_reducible exact hB) | (with_reducible refine Bl_set ?_ (by first | omega | (simp; done) | (simp; omega)) _) | with_reducible apply Bl_alloc)⟩
    · rw [if_pos ⟨rfl, rfl⟩] at hs
      go_enter Try.func74, Try.ntmps74
      go_upto_region 1 with fail
      obtain ⟨gp, hgp⟩ : ∃ g, g = w.heap.size := ⟨_, rfl⟩
      obtain ⟨gr, hgr⟩ : ∃ g, g = w.heap.size + 1 := ⟨_, rfl⟩
      have Bp : Blk ((w.alloc (.cells #[uv a.b.v, uv a.b.m, uv a.lo, uv a.hi, sv a.sl, sv a.sh, uv b.b.v, uv b.b.m, uv b.lo, uv b.hi, sv b.sl, sv b.sh] 118)).alloc (.cells #[.int .u64 0, .int .u64 0, .int .u64 0, .int .u64 0, .int .i64 0, .int .i64 0, .int .u64 0, .int .u64 0, .int .u64 0, .int .u64 0, .int .i64 0, .int .i64 0] 118)) (w.heap.size) 118 #[uv a.b.v, uv a.b.m, uv a.lo, uv a.hi, sv a.sl, sv a.sh, uv b.b.v, uv b.b.m, uv b.lo, uv b.hi, sv b.sl, sv b.sh] := ((Blk.new w 118 #[uv a.b.v, uv a.b.m, uv a.lo, uv a.hi, sv a.sl, sv a.sh, uv b.b.v, uv b.b.m, uv b.lo, uv b.hi, sv b.sl, sv b.sh])).alloc _
      have Br : Blk ((w.alloc (.cells #[uv a.b.v, uv a.b.m, uv a.lo, uv a.hi, sv a.sl, sv a.sh, uv b.b.v, uv b.b.m, uv b.lo, uv b.hi, sv b.sl, sv b.sh] 118)).alloc (.cells #[.int .u64 0, .int .u64 0, .int .u64 0, .int .u64 0, .int .i64 0, .int .i64 0, .int .u64 0, .int .u64 0, .int .u64 0, .int .u64 0, .int .i64 0, .int .i64 0] 118)) (w.heap.size + 1) 118 #[.int .u64 0, .int .u64 0, .int .u64 0, .int .u64 0, .int .i64 0, .int .i64 0, .int .u64 0, .int .u64 0, .int .u64 0, .int .u64 0, .int .i64 0, .int .i64 0] := (by simpa using Blk.new (w.alloc (.cells #[uv a.b.v, uv a.b.m, uv a.lo, uv a.hi, sv a.sl, sv a.sh, uv b.b.v, uv b.b.m, uv b.lo, uv b.hi, sv b.sl, sv b.sh] 118)) 118 #[.int .u64 0, .int .u64 0, .int .u64 0, .int .u64 0, .int .i64 0, .int .i64 0, .int .u64 0, .int .u64 0, .int .u64 0, .int .u64 0, .int .i64 0, .int .i64 0] : Blk _ (w.heap.size + 1) 118 #[.int .u64 0, .int .u64 0, .int .u64 0, .int .u64 0, .int .i64 0, .int .i64 0, .int .u64 0, .int .u64 0, .int .u64 0, .int .u64 0, .int .i64 0, .int .i64 0])
      have hB : Below w.heap.size w ((w.alloc (.cells #[uv a.b.v, uv a.b.m, uv a.lo, uv a.hi, sv a.sl, sv a.sh, uv b.b.v, uv b.b.m, uv b.lo, uv b.hi, sv b.sl, sv b.sh] 118)).alloc (.cells #[.int .u64 0, .int .u64 0, .int .u64 0, .int .u64 0, .int .i64 0, .int .i64 0, .int .u64 0, .int .u64 0, .int .u64 0, .int .u64 0, .int .i64 0, .int .i64 0] 118)) := (Bl_alloc (Bl_alloc (Bl_refl w) _) _)
      clear hgp
      clear gp
      clear hgr
      clear gr
      generalize ((w.alloc (.cells #[uv a.b.v, uv a.b.m, uv a.lo, uv a.hi, sv a.sl, sv a.sh, uv b.b.v, uv b.b.m, uv b.lo, uv b.hi, sv b.sl, sv b.sh] 118)).alloc (.cells #[.int .u64 0, .int .u64 0, .int .u64 0, .int .u64 0, .int .i64 0, .int .i64 0, .int .u64 0, .int .u64 0, .int .u64 0, .int .u64 0, .int .i64 0, .int .i64 0] 118)) = w1 at *
      obtain ⟨cp0, cp1, cp2, cp3, cp4, cp5, cp6, cp7, cp8, cp9, cp10, cp11⟩ := cells12 Bp
      have fp := Bp.frozen; have lp := Bp.lt
      obtain ⟨cr0, cr1, cr2, cr3, cr4, cr5, cr6, cr7, cr8, cr9, cr10, cr11⟩ := cells12 Br
      have fr := Br.frozen; have lr := Br.lt
      go_upto_region 2 with fail
      clear cp0 cp1 cp2 cp3 cp4 cp5 cp6 cp7 cp8 cp9 cp10 cp11 fp lp
      clear cr0 cr1 cr2 cr3 cr4 cr5 cr6 cr7 cr8 cr9 cr10 cr11 fr lr
      have Bx := Blk.new w1 25 #[.int .u64 0, uv (~~~b.b.v)]
      have hgx := hB.size
      have hnpx := Nat.ne_of_lt Bp.lt; have hltpx := Bp.lt
      have hnrx := Nat.ne_of_lt Br.lt; have hltrx := Br.lt
      replace Bp : Blk (w1.alloc (.cells #[.int .u64 0, uv (~~~b.b.v)] 25)) (w.heap.size) 118 #[uv a.b.v, uv a.b.m, uv a.lo, uv a.hi, sv a.sl, sv a.sh, uv b.b.v, uv b.b.m, uv b.lo, uv b.hi, sv b.sl, sv b.sh] := Bp.alloc _
      replace Br : Blk (w1.alloc (.cells #[.int .u64 0, uv (~~~b.b.v)] 25)) (w.heap.size + 1) 118 #[.int .u64 0, .int .u64 0, .int .u64 0, .int .u64 0, .int .i64 0, .int .i64 0, .int .u64 0, .int .u64 0, .int .u64 0, .int .u64 0, .int .i64 0, .int .i64 0] := Br.alloc _
      replace hB : Below w.heap.size w (w1.alloc (.cells #[.int .u64 0, uv (~~~b.b.v)] 25)) := Bl_alloc hB _
      generalize (w1.alloc (.cells #[.int .u64 0, uv (~~~b.b.v)] 25)) = w2 at *
      generalize w1.heap.size = gx at *
      obtain ⟨cp0, cp1, cp2, cp3, cp4, cp5, cp6, cp7, cp8, cp9, cp10, cp11⟩ := cells12 Bp
      have fp := Bp.frozen; have lp := Bp.lt
      obtain ⟨cr0, cr1, cr2, cr3, cr4, cr5, cr6, cr7, cr8, cr9, cr10, cr11⟩ := cells12 Br
      have fr := Br.frozen; have lr := Br.lt
      obtain ⟨cx0, cx1⟩ := cells2 Bx
      have fx := Bx.frozen; have lx := Bx.lt
      go_upto_region 3 with fail
      clear cp0 cp1 cp2 cp3 cp4 cp5 cp6 cp7 cp8 cp9 cp10 cp11 fp lp
      clear cr0 cr1 cr2 cr3 cr4 cr5 cr6 cr7 cr8 cr9 cr10 cr11 fr lr
      clear cx0 cx1 fx lx
      have By := Blk.new w2 25 #[.int .u64 0, uv (~~~a.b.v)]
      have hgy := hB.size
      have hnpy := Nat.ne_of_lt Bp.lt; have hltpy := Bp.lt
      have hnry := Nat.ne_of_lt Br.lt; have hltry := Br.lt
      have hnxy := Nat.ne_of_lt Bx.lt; have hltxy := Bx.lt
      replace Bp : Blk (w2.alloc (.cells #[.int .u64 0, uv (~~~a.b.v)] 25)) (w.heap.size) 118 #[uv a.b.v, uv a.b.m, uv a.lo, uv a.hi, sv a.sl, sv a.sh, uv b.b.v, uv b.b.m, uv b.lo, uv b.hi, sv b.sl, sv b.sh] := Bp.alloc _
      replace Br : Blk (w2.alloc (.cells #[.int .u64 0, uv (~~~a.b.v)] 25)) (w.heap.size + 1) 118 #[.int .u64 0, .int .u64 0, .int .u64 0, .int .u64 0, .int .i64 0, .int .i64 0, .int .u64 0, .int .u64 0, .int .u64 0, .int .u64 0, .int .i64 0, .int .i64 0] := Br.alloc _
      replace Bx : Blk (w2.alloc (.cells #[.int .u64 0, uv (~~~a.b.v)] 25)) (gx) 25 #[.int .u64 0, uv (~~~b.b.v)] := Bx.alloc _
      replace hB : Below w.heap.size w (w2.alloc (.cells #[.int .u64 0, uv (~~~a.b.v)] 25)) := Bl_alloc hB _
      generalize (w2.alloc (.cells #[.int .u64 0, uv (~~~a.b.v)] 25)) = w3 at *
      generalize w2.heap.size = gy at *
      obtain ⟨cp0, cp1, cp2, cp3, cp4, cp5, cp6, cp7, cp8, cp9, cp10, cp11⟩ := cells12 Bp
      have fp := Bp.frozen; have lp := Bp.lt
      obtain ⟨cr0, cr1, cr2, cr3, cr4, cr5, cr6, cr7, cr8, cr9, cr10, cr11⟩ := cells12 Br
      have fr := Br.frozen; have lr := Br.lt
      obtain ⟨cx0, cx1⟩ := cells2 Bx
      have fx := Bx.frozen; have lx := Bx.lt
      obtain ⟨cy0, cy1⟩ := cells2 By
      have fy := By.frozen; have ly := By.lt
      go_wp2_with fail
      refine (k_t _).mono ?_
      rintro e w4 ⟨rfl, hb⟩
      clear cp0 cp1 cp2 cp3 cp4 cp5 cp6 cp7 cp8 cp9 cp10 cp11 fp lp
      clear cr0 cr1 cr2 cr3 cr4 cr5 cr6 cr7 cr8 cr9 cr10 cr11 fr lr
      clear cx0 cx1 fx lx
      clear cy0 cy1 fy ly
      replace Bp := (Bp).next hb
      replace Br := (Br).next hb
      replace Bx := (Bx).next hb
      replace By := (By).next hb
      replace hB : Below w.heap.size w w4 := by repeat (first | exact hB | (refine Bl_set ?_ (by first | omega | (simp; omega)) _) | apply Bl_alloc | (refine Bl_trans ?_ hb))
      clear hb
      obtain ⟨cp0, cp1, cp2, cp3, cp4, cp5, cp6, cp7, cp8, cp9, cp10, cp11⟩ := cells12 Bp
      have fp := Bp.frozen; have lp := Bp.lt
      obtain ⟨cr0, cr1, cr2, cr3, cr4, cr5, cr6, cr7, cr8, cr9, cr10, cr11⟩ := cells12 Br
      have fr := Br.frozen; have lr := Br.lt
      obtain ⟨cx0, cx1⟩ := cells2 Bx
      have fx := Bx.frozen; have lx := Bx.lt
      obtain ⟨cy0, cy1⟩ := cells2 By
      have fy := By.frozen; have ly := By.lt
      go_upto_region 4 with fail
      clear cp0 cp1 cp2 cp3 cp4 cp5 cp6 cp7 cp8 cp9 cp10 cp11 fp lp
      clear cr0 cr1 cr2 cr3 cr4 cr5 cr6 cr7 cr8 cr9 cr10 cr11 fr lr
      clear cx0 cx1 fx lx
      clear cy0 cy1 fy ly
      have Bt := Blk.new w4 25 #[uv t.v, uv t.m]
      have hgt := hB.size
      have hnpt := Nat.ne_of_lt Bp.lt; have hltpt := Bp.lt
      have hnrt := Nat.ne_of_lt Br.lt; have hltrt := Br.lt
      have hnxt := Nat.ne_of_lt Bx.lt; have hltxt := Bx.lt
      have hnyt := Nat.ne_of_lt By.lt; have hltyt := By.lt
      replace Bp : Blk (w4.alloc (.cells #[uv t.v, uv t.m] 25)) (w.heap.size) 118 #[uv a.b.v, uv a.b.m, uv a.lo, uv a.hi, sv a.sl, sv a.sh, uv b.b.v, uv b.b.m, uv b.lo, uv b.hi, sv b.sl, sv b.sh] := Bp.alloc _
      replace Br : Blk (w4.alloc (.cells #[uv t.v, uv t.m] 25)) (w.heap.size + 1) 118 #[.int .u64 0, .int .u64 0, .int .u64 0, .int .u64 0, .int .i64 0, .int .i64 0, .int .u64 0, .int .u64 0, .int .u64 0, .int .u64 0, .int .i64 0, .int .i64 0] := Br.alloc _
      replace Bx : Blk (w4.alloc (.cells #[uv t.v, uv t.m] 25)) (gx) 25 #[.int .u64 0, uv (~~~b.b.v)] := Bx.alloc _
      replace By : Blk (w4.alloc (.cells #[uv t.v, uv t.m] 25)) (gy) 25 #[.int .u64 0, uv (~~~a.b.v)] := By.alloc _
      replace hB : Below w.heap.size w (w4.alloc (.cells #[uv t.v, uv t.m] 25)) := Bl_alloc hB _
      generalize (w4.alloc (.cells #[uv t.v, uv t.m] 25)) = w5 at *
      generalize w4.heap.size = gt at *
      obtain ⟨cp0, cp1, cp2, cp3, cp4, cp5, cp6, cp7, cp8, cp9, cp10, cp11⟩ := cells12 Bp
      have fp := Bp.frozen; have lp := Bp.lt
      obtain ⟨cr0, cr1, cr2, cr3, cr4, cr5, cr6, cr7, cr8, cr9, cr10, cr11⟩ := cells12 Br
      have fr := Br.frozen; have lr := Br.lt
      obtain ⟨cx0, cx1⟩ := cells2 Bx
      have fx := Bx.frozen; have lx := Bx.lt
      obtain ⟨cy0, cy1⟩ := cells2 By
      have fy := By.frozen; have ly := By.lt
      obtain ⟨ct0, ct1⟩ := cells2 Bt
      have ft := Bt.frozen; have lt := Bt.lt
      go_wp2_with fail
      refine (k_u _).mono ?_
      rintro e w6 ⟨rfl, hb⟩
      clear cp0 cp1 cp2 cp3 cp4 cp5 cp6 cp7 cp8 cp9 cp10 cp11 fp lp
      clear cr0 cr1 cr2 cr3 cr4 cr5 cr6 cr7 cr8 cr9 cr10 cr11 fr lr
      clear cx0 cx1 fx lx
      clear cy0 cy1 fy ly
      clear ct0 ct1 ft lt
      replace Bp := (Bp).next hb
      replace Br := (Br).next hb
      replace Bx := (Bx).next hb
      replace By := (By).next hb
      replace Bt := (Bt).next hb
      replace hB : Below w.heap.size w w6 := by repeat (first | exact hB | (refine Bl_set ?_ (by first | omega | (simp; omega)) _) | apply Bl_alloc | (refine Bl_trans ?_ hb))
      clear hb
      obtain ⟨cp0, cp1, cp2, cp3, cp4, cp5, cp6, cp7, cp8, cp9, cp10, cp11⟩ := cells12 Bp
      have fp := Bp.frozen; have lp := Bp.lt
      obtain ⟨cr0, cr1, cr2, cr3, cr4, cr5, cr6, cr7, cr8, cr9, cr10, cr11⟩ := cells12 Br
      have fr := Br.frozen; have lr := Br.lt
      obtain ⟨cx0, cx1⟩ := cells2 Bx
      have fx := Bx.frozen; have lx := Bx.lt
      obtain ⟨cy0, cy1⟩ := cells2 By
      have fy := By.frozen; have ly := By.lt
      obtain ⟨ct0, ct1⟩ := cells2 Bt
      have ft := Bt.frozen; have lt := Bt.lt
      go_upto_region 5 with fail
      clear cp0 cp1 cp2 cp3 cp4 cp5 cp6 cp7 cp8 cp9 cp10 cp11 fp lp
      clear cr0 cr1 cr2 cr3 cr4 cr5 cr6 cr7 cr8 cr9 cr10 cr11 fr lr
      clear cx0 cx1 fx lx
      clear cy0 cy1 fy ly
      clear ct0 ct1 ft lt
      have Bu := Blk.new w6 25 #[uv u.v, uv u.m]
      have hgu := hB.size
      have hnpu := Nat.ne_of_lt Bp.lt; have hltpu := Bp.lt
      have hnru := Nat.ne_of_lt Br.lt; have hltru := Br.lt
      have hnxu := Nat.ne_of_lt Bx.lt; have hltxu := Bx.lt
      have hnyu := Nat.ne_of_lt By.lt; have hltyu := By.lt
      have hntu := Nat.ne_of_lt Bt.lt; have hlttu := Bt.lt
      replace Bp : Blk (w6.alloc (.cells #[uv u.v, uv u.m] 25)) (w.heap.size) 118 #[uv a.b.v, uv a.b.m, uv a.lo, uv a.hi, sv a.sl, sv a.sh, uv b.b.v, uv b.b.m, uv b.lo, uv b.hi, sv b.sl, sv b.sh] := Bp.alloc _
      replace Br : Blk (w6.alloc (.cells #[uv u.v, uv u.m] 25)) (w.heap.size + 1) 118 #[.int .u64 0, .int .u64 0, .int .u64 0, .int .u64 0, .int .i64 0, .int .i64 0, .int .u64 0, .int .u64 0, .int .u64 0, .int .u64 0, .int .i64 0, .int .i64 0] := Br.alloc _
      replace Bx : Blk (w6.alloc (.cells #[uv u.v, uv u.m] 25)) (gx) 25 #[.int .u64 0, uv (~~~b.b.v)] := Bx.alloc _
      replace By : Blk (w6.alloc (.cells #[uv u.v, uv u.m] 25)) (gy) 25 #[.int .u64 0, uv (~~~a.b.v)] := By.alloc _
      replace Bt : Blk (w6.alloc (.cells #[uv u.v, uv u.m] 25)) (gt) 25 #[uv t.v, uv t.m] := Bt.alloc _
      replace hB : Below w.heap.size w (w6.alloc (.cells #[uv u.v, uv u.m] 25)) := Bl_alloc hB _
      generalize (w6.alloc (.cells #[uv u.v, uv u.m] 25)) = w7 at *
      generalize w6.heap.size = gu at *
      obtain ⟨cp0, cp1, cp2, cp3, cp4, cp5, cp6, cp7, cp8, cp9, cp10, cp11⟩ := cells12 Bp
      have fp := Bp.frozen; have lp := Bp.lt
      obtain ⟨cr0, cr1, cr2, cr3, cr4, cr5, cr6, cr7, cr8, cr9, cr10, cr11⟩ := cells12 Br
      have fr := Br.frozen; have lr := Br.lt
      obtain ⟨cx0, cx1⟩ := cells2 Bx
      have fx := Bx.frozen; have lx := Bx.lt
      obtain ⟨cy0, cy1⟩ := cells2 By
      have fy := By.frozen; have ly := By.lt
      obtain ⟨ct0, ct1⟩ := cells2 Bt
      have ft := Bt.frozen; have lt := Bt.lt
      obtain ⟨cu0, cu1⟩ := cells2 Bu
      have fu := Bu.frozen; have lu := Bu.lt
      go_wp2_with fail
      clear cp0 cp1 cp2 cp3 cp4 cp5 cp6 cp7 cp8 cp9 cp10 cp11; obtain ⟨cp0, cp1, cp2, cp3, cp4, cp5, cp6, cp7, cp8, cp9, cp10, cp11⟩ := lcells12 Bp
      clear cr0 cr1 cr2 cr3 cr4 cr5 cr6 cr7 cr8 cr9 cr10 cr11; obtain ⟨cr0, cr1, cr2, cr3, cr4, cr5, cr6, cr7, cr8, cr9, cr10, cr11⟩ := lcells12 Br
      clear cx0 cx1; obtain ⟨cx0, cx1⟩ := lcells2 Bx
      clear cy0 cy1; obtain ⟨cy0, cy1⟩ := lcells2 By
      clear ct0 ct1; obtain ⟨ct0, ct1⟩ := lcells2 Bt
      clear cu0 cu1; obtain ⟨cu0, cu1⟩ := lcells2 Bu
      obtain ⟨S, hS⟩ : ∃ S : World → Prop, ∀ x, S x ↔ (x.cell? ⟨gu, 0, none⟩ = some (uv u.v) ∧ x.cell? ⟨gu, 1, none⟩ = some (uv u.m)) := ⟨_, fun _ => Iff.rfl⟩
      have u0 : ∀ g : Under S, g.w.cell? ⟨gu, 0, none⟩ = some (uv u.v) := fun g => ((hS _).1 g.is).1
      have u1 : ∀ g : Under S, g.w.cell? ⟨gu, 1, none⟩ = some (uv u.m) := fun g => ((hS _).1 g.is).2
      refine wp_region_mixS 4 (fun k => k == 1) (fun _ => #[]) S rfl (by kernel_rfl) (by kernel_rfl) (no_alloc (by kernel_rfl)) ?_
      simp only [List.take_succ_cons, List.take_zero, List.drop_succ_cons, List.drop_zero]
      repeat (refine wpMixS_step (fun K hK => ?_); go_simp; first | (refine hK _ ?_; clear hK K))
      refine wpMixS_nil ?_
      intro G w8 hgr hblk hdist
      have hb : Below w7.heap.size w7 w8 := hgr
      replace Bp := Bp.next hb
      replace Br := Br.next hb
      replace Bx := Bx.next hb
      replace By := By.next hb
      replace Bt := Bt.next hb
      replace Bu := Bu.next hb
      clear cp0 cp1 cp2 cp3 cp4 cp5 cp6 cp7 cp8 cp9 cp10 cp11 fp lp
      clear cr0 cr1 cr2 cr3 cr4 cr5 cr6 cr7 cr8 cr9 cr10 cr11 fr lr
      clear cx0 cx1 fx lx
      clear cy0 cy1 fy ly
      clear ct0 ct1 ft lt
      clear cu0 cu1 fu lu
      clear u0 u1
      replace hB : Below w.heap.size w w8 := Bl_trans hB hb
      simp only [putAll, isAlloc]
      clear hb hgr hblk hdist
      obtain ⟨cp0, cp1, cp2, cp3, cp4, cp5, cp6, cp7, cp8, cp9, cp10, cp11⟩ := cells12 Bp
      have fp := Bp.frozen; have lp := Bp.lt
      obtain ⟨cr0, cr1, cr2, cr3, cr4, cr5, cr6, cr7, cr8, cr9, cr10, cr11⟩ := cells12 Br
      have fr := Br.frozen; have lr := Br.lt
      obtain ⟨cx0, cx1⟩ := cells2 Bx
      have fx := Bx.frozen; have lx := Bx.lt
      obtain ⟨cy0, cy1⟩ := cells2 By
      have fy := By.frozen; have ly := By.lt
      obtain ⟨ct0, ct1⟩ := cells2 Bt
      have ft := Bt.frozen; have lt := Bt.lt
      obtain ⟨cu0, cu1⟩ := cells2 Bu
      have fu := Bu.frozen; have lu := Bu.lt
      go_wp2_with fail
      refine ⟨by first | trivial | rfl, ?_, ?_⟩
      · refine (hS _).2 ?_; exact ⟨((Bu.far (by first | (simp; done) | (simp; omega) | (simp [*]; done) | (simp only [ne_eq]; constructor <;> omega)) _).far (by first | (simp; done) | (simp; omega) | (simp [*]; done) | (simp only [ne_eq]; constructor <;> omega)) _).cell 0, ((Bu.far (by first | (simp; done) | (simp; omega) | (simp [*]; done) | (simp only [ne_eq]; constructor <;> omega)) _).far (by first | (simp; done) | (simp; omega) | (simp [*]; done) | (simp only [ne_eq]; constructor <;> omega)) _).cell 1⟩
      clear hS S
      clear cp0 cp1 cp2 cp3 cp4 cp5 cp6 cp7 cp8 cp9 cp10 cp11 fp lp
      clear cr0 cr1 cr2 cr3 cr4 cr5 cr6 cr7 cr8 cr9 cr10 cr11 fr lr
      clear cx0 cx1 fx lx
      clear cy0 cy1 fy ly
      clear ct0 ct1 ft lt
      clear cu0 cu1 fu lu
      replace Bp : Blk ((w8.setCell ⟨w.heap.size, 0, none⟩ (uv t.v)).setCell ⟨w.heap.size, 1, none⟩ (uv t.m)) (w.heap.size) 118 #[uv t.v, uv t.m, uv a.lo, uv a.hi, sv a.sl, sv a.sh, uv b.b.v, uv b.b.m, uv b.lo, uv b.hi, sv b.sl, sv b.sh] := ((Bp.set_ 0 _).set_ 1 _)
      replace Br : Blk ((w8.setCell ⟨w.heap.size, 0, none⟩ (uv t.v)).setCell ⟨w.heap.size, 1, none⟩ (uv t.m)) (w.heap.size + 1) 118 #[.int .u64 0, .int .u64 0, .int .u64 0, .int .u64 0, .int .i64 0, .int .i64 0, .int .u64 0, .int .u64 0, .int .u64 0, .int .u64 0, .int .i64 0, .int .i64 0] := ((Br.far (by first | (simp; done) | (simp; omega) | (simp [*]; done) | (simp only [ne_eq]; constructor <;> omega)) _).far (by first | (simp; done) | (simp; omega) | (simp [*]; done) | (simp only [ne_eq]; constructor <;> omega)) _)
      replace Bx : Blk ((w8.setCell ⟨w.heap.size, 0, none⟩ (uv t.v)).setCell ⟨w.heap.size, 1, none⟩ (uv t.m)) (gx) 25 #[.int .u64 0, uv (~~~b.b.v)] := ((Bx.far (by first | (simp; done) | (simp; omega) | (simp [*]; done) | (simp only [ne_eq]; constructor <;> omega)) _).far (by first | (simp; done) | (simp; omega) | (simp [*]; done) | (simp only [ne_eq]; constructor <;> omega)) _)
      replace By : Blk ((w8.setCell ⟨w.heap.size, 0, none⟩ (uv t.v)).setCell ⟨w.heap.size, 1, none⟩ (uv t.m)) (gy) 25 #[.int .u64 0, uv (~~~a.b.v)] := ((By.far (by first | (simp; done) | (simp; omega) | (simp [*]; done) | (simp only [ne_eq]; constructor <;> omega)) _).far (by first | (simp; done) | (simp; omega) | (simp [*]; done) | (simp only [ne_eq]; constructor <;> omega)) _)
      replace Bt : Blk ((w8.setCell ⟨w.heap.size, 0, none⟩ (uv t.v)).setCell ⟨w.heap.size, 1, none⟩ (uv t.m)) (gt) 25 #[uv t.v, uv t.m] := ((Bt.far (by first | (simp; done) | (simp; omega) | (simp [*]; done) | (simp only [ne_eq]; constructor <;> omega)) _).far (by first | (simp; done) | (simp; omega) | (simp [*]; done) | (simp only [ne_eq]; constructor <;> omega)) _)
      replace Bu : Blk ((w8.setCell ⟨w.heap.size, 0, none⟩ (uv t.v)).setCell ⟨w.heap.size, 1, none⟩ (uv t.m)) (gu) 25 #[uv u.v, uv u.m] := ((Bu.far (by first | (simp; done) | (simp; omega) | (simp [*]; done) | (simp only [ne_eq]; constructor <;> omega)) _).far (by first | (simp; done) | (simp; omega) | (simp [*]; done) | (simp only [ne_eq]; constructor <;> omega)) _)
      replace hB : Below w.heap.size w ((w8.setCell ⟨w.heap.size, 0, none⟩ (uv t.v)).setCell ⟨w.heap.size, 1, none⟩ (uv t.m)) := (Bl_set (Bl_set hB (by first | omega | (simp; done) | (simp; omega)) _) (by first | omega | (simp; done) | (simp; omega)) _)
      generalize ((w8.setCell ⟨w.heap.size, 0, none⟩ (uv t.v)).setCell ⟨w.heap.size, 1, none⟩ (uv t.m)) = w9 at *
      obtain ⟨cp0, cp1, cp2, cp3, cp4, cp5, cp6, cp7, cp8, cp9, cp10, cp11⟩ := cells12 Bp
      have fp := Bp.frozen; have lp := Bp.lt
      obtain ⟨cr0, cr1, cr2, cr3, cr4, cr5, cr6, cr7, cr8, cr9, cr10, cr11⟩ := cells12 Br
      have fr := Br.frozen; have lr := Br.lt
      obtain ⟨cx0, cx1⟩ := cells2 Bx
      have fx := Bx.frozen; have lx := Bx.lt
      obtain ⟨cy0, cy1⟩ := cells2 By
      have fy := By.frozen; have ly := By.lt
      obtain ⟨ct0, ct1⟩ := cells2 Bt
      have ft := Bt.frozen; have lt := Bt.lt
      obtain ⟨cu0, cu1⟩ := cells2 Bu
      have fu := Bu.frozen; have lu := Bu.lt
      go_upto_region 8 with fail
      clear cp0 cp1 cp2 cp3 cp4 cp5 cp6 cp7 cp8 cp9 cp10 cp11 fp lp
      clear cr0 cr1 cr2 cr3 cr4 cr5 cr6 cr7 cr8 cr9 cr10 cr11 fr lr
      clear cx0 cx1 fx lx
      clear cy0 cy1 fy ly
      clear ct0 ct1 ft lt
      clear cu0 cu1 fu lu
      replace Bp : Blk ((w9.setCell ⟨w.heap.size, 6, none⟩ (uv u.v)).setCell ⟨w.heap.size, 7, none⟩ (uv u.m)) (w.heap.size) 118 #[uv t.v, uv t.m, uv a.lo, uv a.hi, sv a.sl, sv a.sh, uv u.v, uv u.m, uv b.lo, uv b.hi, sv b.sl, sv b.sh] := ((Bp.set_ 6 _).set_ 7 _)
      replace Br : Blk ((w9.setCell ⟨w.heap.size, 6, none⟩ (uv u.v)).setCell ⟨w.heap.size, 7, none⟩ (uv u.m)) (w.heap.size + 1) 118 #[.int .u64 0, .int .u64 0, .int .u64 0, .int .u64 0, .int .i64 0, .int .i64 0, .int .u64 0, .int .u64 0, .int .u64 0, .int .u64 0, .int .i64 0, .int .i64 0] := ((Br.far (by first | (simp; done) | (simp; omega) | (simp [*]; done) | (simp only [ne_eq]; constructor <;> omega)) _).far (by first | (simp; done) | (simp; omega) | (simp [*]; done) | (simp only [ne_eq]; constructor <;> omega)) _)
      replace Bx : Blk ((w9.setCell ⟨w.heap.size, 6, none⟩ (uv u.v)).setCell ⟨w.heap.size, 7, none⟩ (uv u.m)) (gx) 25 #[.int .u64 0, uv (~~~b.b.v)] := ((Bx.far (by first | (simp; done) | (simp; omega) | (simp [*]; done) | (simp only [ne_eq]; constructor <;> omega)) _).far (by first | (simp; done) | (simp; omega) | (simp [*]; done) | (simp only [ne_eq]; constructor <;> omega)) _)
      replace By : Blk ((w9.setCell ⟨w.heap.size, 6, none⟩ (uv u.v)).setCell ⟨w.heap.size, 7, none⟩ (uv u.m)) (gy) 25 #[.int .u64 0, uv (~~~a.b.v)] := ((By.far (by first | (simp; done) | (simp; omega) | (simp [*]; done) | (simp only [ne_eq]; constructor <;> omega)) _).far (by first | (simp; done) | (simp; omega) | (simp [*]; done) | (simp only [ne_eq]; constructor <;> omega)) _)
      replace Bt : Blk ((w9.setCell ⟨w.heap.size, 6, none⟩ (uv u.v)).setCell ⟨w.heap.size, 7, none⟩ (uv u.m)) (gt) 25 #[uv t.v, uv t.m] := ((Bt.far (by first | (simp; done) | (simp; omega) | (simp [*]; done) | (simp only [ne_eq]; constructor <;> omega)) _).far (by first | (simp; done) | (simp; omega) | (simp [*]; done) | (simp only [ne_eq]; constructor <;> omega)) _)
      replace Bu : Blk ((w9.setCell ⟨w.heap.size, 6, none⟩ (uv u.v)).setCell ⟨w.heap.size, 7, none⟩ (uv u.m)) (gu) 25 #[uv u.v, uv u.m] := ((Bu.far (by first | (simp; done) | (simp; omega) | (simp [*]; done) | (simp only [ne_eq]; constructor <;> omega)) _).far (by first | (simp; done) | (simp; omega) | (simp [*]; done) | (simp only [ne_eq]; constructor <;> omega)) _)
      replace hB : Below w.heap.size w ((w9.setCell ⟨w.heap.size, 6, none⟩ (uv u.v)).setCell ⟨w.heap.size, 7, none⟩ (uv u.m)) := (Bl_set (Bl_set hB (by first | omega | (simp; done) | (simp; omega)) _) (by first | omega | (simp; done) | (simp; omega)) _)
      generalize ((w9.setCell ⟨w.heap.size, 6, none⟩ (uv u.v)).setCell ⟨w.heap.size, 7, none⟩ (uv u.m)) = w10 at *
      obtain ⟨cp0, cp1, cp2, cp3, cp4, cp5, cp6, cp7, cp8, cp9, cp10, cp11⟩ := cells12 Bp
      have fp := Bp.frozen; have lp := Bp.lt
      obtain ⟨cr0, cr1, cr2, cr3, cr4, cr5, cr6, cr7, cr8, cr9, cr10, cr11⟩ := cells12 Br
      have fr := Br.frozen; have lr := Br.lt
      obtain ⟨cx0, cx1⟩ := cells2 Bx
      have fx := Bx.frozen; have lx := Bx.lt
      obtain ⟨cy0, cy1⟩ := cells2 By
      have fy := By.frozen; have ly := By.lt
      obtain ⟨ct0, ct1⟩ := cells2 Bt
      have ft := Bt.frozen; have lt := Bt.lt
      obtain ⟨cu0, cu1⟩ := cells2 Bu
      have fu := Bu.frozen; have lu := Bu.lt
      go_wp2_with fail
      refine (k_R _).mono ?_
      rintro e w11 ⟨rfl, hb⟩
      clear cp0 cp1 cp2 cp3 cp4 cp5 cp6 cp7 cp8 cp9 cp10 cp11 fp lp
      clear cr0 cr1 cr2 cr3 cr4 cr5 cr6 cr7 cr8 cr9 cr10 cr11 fr lr
      clear cx0 cx1 fx lx
      clear cy0 cy1 fy ly
      clear ct0 ct1 ft lt
      clear cu0 cu1 fu lu
      replace Bp := (Bp).next hb
      replace Br := (Br).next hb
      replace Bx := (Bx).next hb
      replace By := (By).next hb
      replace Bt := (Bt).next hb
      replace Bu := (Bu).next hb
      replace hB : Below w.heap.size w w11 := by repeat (first | exact hB | (refine Bl_set ?_ (by first | omega | (simp; omega)) _) | apply Bl_alloc | (refine Bl_trans ?_ hb))
      clear hb
      obtain ⟨cp0, cp1, cp2, cp3, cp4, cp5, cp6, cp7, cp8, cp9, cp10, cp11⟩ := cells12 Bp
      have fp := Bp.frozen; have lp := Bp.lt
      obtain ⟨cr0, cr1, cr2, cr3, cr4, cr5, cr6, cr7, cr8, cr9, cr10, cr11⟩ := cells12 Br
      have fr := Br.frozen; have lr := Br.lt
      obtain ⟨cx0, cx1⟩ := cells2 Bx
      have fx := Bx.frozen; have lx := Bx.lt
      obtain ⟨cy0, cy1⟩ := cells2 By
      have fy := By.frozen; have ly := By.lt
      obtain ⟨ct0, ct1⟩ := cells2 Bt
      have ft := Bt.frozen; have lt := Bt.lt
      obtain ⟨cu0, cu1⟩ := cells2 Bu
      have fu := Bu.frozen; have lu := Bu.lt
      go_wp2
      exact bodyPost_ret (v := tv R) (by simp [results, Try.results74, go_sem, cr0, cr1, cr2, cr3, cr4, cr5, cr6, cr7, cr8, cr9, cr10, cr11, lr]) rfl ⟨by rw [hs]; first | done | rfl, by repeat (first | (with_reducible exact hB) | (with_reducible refine Bl_set ?_ (by first | omega | (simp; done) | (simp; omega)) _) | with_reducible apply Bl_alloc)⟩
end Go.Proofs.Ytmghpoagpiljhab
