/- Pair's regs: a pair's registers, with kinds, and ranges of its numbers. -/
import Derived.Test.YtmghpoagpiljhabMixM
import Derived.Test.YtmghpoagpiljhabChainP
import Derived.Test.YtmghpoagpiljhabMay
set_option linter.unusedSimpArgs false
set_option linter.unusedVariables false
namespace Go.Proofs.Ytmghpoagpiljhab
open Go.RowKit
open PlainTnum (N)
open PlainScalar (Rng)
open PlainAbs (Rg St zr zs upd Im pairS)
theorem new_re {o : Oper} (h : isAlloc o = some 29) (ρ : Operand → Value) (w : World) : (execOp ρ o).run Try.prog w = .ok (.value (.pointer (some ⟨w.heap.size, 0, none⟩))) (w.alloc (.cells #[.int .i64 0, .int .u64 0, .int .u64 0, .int .u64 0, .int .u64 0, .int .i64 0, .int .i64 0, .int .i64 0, .int .i64 0, .int .i64 0, .int .i64 0] 29)) := by
  obtain ⟨dst, op, type, pos, after, guard⟩ := o
  have := alloc_is h
  simp only at this
  subst this
  go_simp
set_option maxRecDepth 100000 in
set_option maxHeartbeats 3200000 in
theorem regs_c (a b : Rg) (n0 n1 m0 m1 : W) (ka kb : Nat) (ja jb : Rng) (hja : PlainScalar.join (PlainScalar.const n0) (PlainScalar.const n1) = ja) (hjb : PlainScalar.join (PlainScalar.const m0) (PlainScalar.const m1) = jb) (rka : wrap64 ((IntKind.u64.wrap a.kind).tmod 7) = (ka : Int)) (ska : IntKind.i64.wrap ((IntKind.u64.wrap a.kind).tmod 7) = (ka : Int)) (rkb : wrap64 ((IntKind.u64.wrap b.kind).tmod 7) = (kb : Int)) (skb : IntKind.i64.wrap ((IntKind.u64.wrap b.kind).tmod 7) = (kb : Int)) (w : World) : Calls Try.prog 30 #[.agg #[.int .i64 a.kind, uv a.r.b.v, uv a.r.b.m, uv a.r.lo, uv a.r.hi, sv a.r.sl, sv a.r.sh, .int .i64 a.slot, .int .i64 a.id, .int .i64 a.low, .int .i64 a.high, .int .i64 b.kind, uv b.r.b.v, uv b.r.b.m, uv b.r.lo, uv b.r.hi, sv b.r.sl, sv b.r.sh, .int .i64 b.slot, .int .i64 b.id, .int .i64 b.low, .int .i64 b.high, uv n0, uv n1, uv m0, uv m1]] w fun e w' => e = .returned (.tuple #[.agg #[.int .i64 (ka : Int), uv ja.b.v, uv ja.b.m, uv ja.lo, uv ja.hi, sv ja.sl, sv ja.sh, .int .i64 a.slot, .int .i64 a.id, .int .i64 a.low, .int .i64 a.high], .agg #[.int .i64 (kb : Int), uv jb.b.v, uv jb.b.m, uv jb.lo, uv jb.hi, sv jb.sl, sv jb.sh, .int .i64 b.slot, .int .i64 b.id, .int .i64 b.low, .int .i64 b.high]]) ∧ Below w.heap.size w w' := by
  have k_n0 := sconst_c n0; have k_n1 := sconst_c n1; have k_ja := sjoin_c (PlainScalar.const n0) (PlainScalar.const n1); rw [hja] at k_ja
  generalize PlainScalar.const n0 = cn0 at k_n0 k_ja; generalize PlainScalar.const n1 = cn1 at k_n1 k_ja
  have k_m0 := sconst_c m0; have k_m1 := sconst_c m1; have k_jb := sjoin_c (PlainScalar.const m0) (PlainScalar.const m1); rw [hjb] at k_jb
  generalize PlainScalar.const m0 = cm0 at k_m0 k_jb; generalize PlainScalar.const m1 = cm1 at k_m1 k_jb
  clear hja hjb
  have H1 := Lib.hid (And.intro rka rkb); have H2 := Lib.hid (And.intro ska skb); clear rka rkb ska skb
  have Kn0 := Lib.hid k_n0; have Kn1 := Lib.hid k_n1; have Kja := Lib.hid k_ja; clear k_n0 k_n1 k_ja
  have Km0 := Lib.hid k_m0; have Km1 := Lib.hid k_m1; have Kjb := Lib.hid k_jb; clear k_m0 k_m1 k_jb
  go_enter Try.func30, Try.ntmps30
  go_upto_region 1 with fail
  obtain ⟨gp, hgp⟩ : ∃ g, g = w.heap.size := ⟨_, rfl⟩
  obtain ⟨gr, hgr⟩ : ∃ g, g = w.heap.size + 1 := ⟨_, rfl⟩
  obtain ⟨gq, hgq⟩ : ∃ g, g = w.heap.size + 1 + 1 := ⟨_, rfl⟩
  have Bp : Blk (((w.alloc (.cells (#[.int .i64 a.kind, uv a.r.b.v, uv a.r.b.m, uv a.r.lo, uv a.r.hi, sv a.r.sl, sv a.r.sh, .int .i64 a.slot, .int .i64 a.id, .int .i64 a.low, .int .i64 a.high, .int .i64 b.kind, uv b.r.b.v, uv b.r.b.m, uv b.r.lo, uv b.r.hi, sv b.r.sl, sv b.r.sh, .int .i64 b.slot, .int .i64 b.id, .int .i64 b.low, .int .i64 b.high, uv n0, uv n1, uv m0, uv m1]) 66)).alloc (.cells (#[.int .i64 0, .int .u64 0, .int .u64 0, .int .u64 0, .int .u64 0, .int .i64 0, .int .i64 0, .int .i64 0, .int .i64 0, .int .i64 0, .int .i64 0]) 29)).alloc (.cells (#[.int .i64 0, .int .u64 0, .int .u64 0, .int .u64 0, .int .u64 0, .int .i64 0, .int .i64 0, .int .i64 0, .int .i64 0, .int .i64 0, .int .i64 0]) 29)) (w.heap.size) 66 (#[.int .i64 a.kind, uv a.r.b.v, uv a.r.b.m, uv a.r.lo, uv a.r.hi, sv a.r.sl, sv a.r.sh, .int .i64 a.slot, .int .i64 a.id, .int .i64 a.low, .int .i64 a.high, .int .i64 b.kind, uv b.r.b.v, uv b.r.b.m, uv b.r.lo, uv b.r.hi, sv b.r.sl, sv b.r.sh, .int .i64 b.slot, .int .i64 b.id, .int .i64 b.low, .int .i64 b.high, uv n0, uv n1, uv m0, uv m1]) := (((Blk.new w 66 (#[.int .i64 a.kind, uv a.r.b.v, uv a.r.b.m, uv a.r.lo, uv a.r.hi, sv a.r.sl, sv a.r.sh, .int .i64 a.slot, .int .i64 a.id, .int .i64 a.low, .int .i64 a.high, .int .i64 b.kind, uv b.r.b.v, uv b.r.b.m, uv b.r.lo, uv b.r.hi, sv b.r.sl, sv b.r.sh, .int .i64 b.slot, .int .i64 b.id, .int .i64 b.low, .int .i64 b.high, uv n0, uv n1, uv m0, uv m1]))).alloc _).alloc _
  have Br : Blk (((w.alloc (.cells (#[.int .i64 a.kind, uv a.r.b.v, uv a.r.b.m, uv a.r.lo, uv a.r.hi, sv a.r.sl, sv a.r.sh, .int .i64 a.slot, .int .i64 a.id, .int .i64 a.low, .int .i64 a.high, .int .i64 b.kind, uv b.r.b.v, uv b.r.b.m, uv b.r.lo, uv b.r.hi, sv b.r.sl, sv b.r.sh, .int .i64 b.slot, .int .i64 b.id, .int .i64 b.low, .int .i64 b.high, uv n0, uv n1, uv m0, uv m1]) 66)).alloc (.cells (#[.int .i64 0, .int .u64 0, .int .u64 0, .int .u64 0, .int .u64 0, .int .i64 0, .int .i64 0, .int .i64 0, .int .i64 0, .int .i64 0, .int .i64 0]) 29)).alloc (.cells (#[.int .i64 0, .int .u64 0, .int .u64 0, .int .u64 0, .int .u64 0, .int .i64 0, .int .i64 0, .int .i64 0, .int .i64 0, .int .i64 0, .int .i64 0]) 29)) (w.heap.size + 1) 29 (#[.int .i64 0, .int .u64 0, .int .u64 0, .int .u64 0, .int .u64 0, .int .i64 0, .int .i64 0, .int .i64 0, .int .i64 0, .int .i64 0, .int .i64 0]) := ((by simpa using Blk.new (w.alloc (.cells (#[.int .i64 a.kind, uv a.r.b.v, uv a.r.b.m, uv a.r.lo, uv a.r.hi, sv a.r.sl, sv a.r.sh, .int .i64 a.slot, .int .i64 a.id, .int .i64 a.low, .int .i64 a.high, .int .i64 b.kind, uv b.r.b.v, uv b.r.b.m, uv b.r.lo, uv b.r.hi, sv b.r.sl, sv b.r.sh, .int .i64 b.slot, .int .i64 b.id, .int .i64 b.low, .int .i64 b.high, uv n0, uv n1, uv m0, uv m1]) 66)) 29 (#[.int .i64 0, .int .u64 0, .int .u64 0, .int .u64 0, .int .u64 0, .int .i64 0, .int .i64 0, .int .i64 0, .int .i64 0, .int .i64 0, .int .i64 0]) : Blk _ (w.heap.size + 1) 29 (#[.int .i64 0, .int .u64 0, .int .u64 0, .int .u64 0, .int .u64 0, .int .i64 0, .int .i64 0, .int .i64 0, .int .i64 0, .int .i64 0, .int .i64 0]))).alloc _
  have Bq : Blk (((w.alloc (.cells (#[.int .i64 a.kind, uv a.r.b.v, uv a.r.b.m, uv a.r.lo, uv a.r.hi, sv a.r.sl, sv a.r.sh, .int .i64 a.slot, .int .i64 a.id, .int .i64 a.low, .int .i64 a.high, .int .i64 b.kind, uv b.r.b.v, uv b.r.b.m, uv b.r.lo, uv b.r.hi, sv b.r.sl, sv b.r.sh, .int .i64 b.slot, .int .i64 b.id, .int .i64 b.low, .int .i64 b.high, uv n0, uv n1, uv m0, uv m1]) 66)).alloc (.cells (#[.int .i64 0, .int .u64 0, .int .u64 0, .int .u64 0, .int .u64 0, .int .i64 0, .int .i64 0, .int .i64 0, .int .i64 0, .int .i64 0, .int .i64 0]) 29)).alloc (.cells (#[.int .i64 0, .int .u64 0, .int .u64 0, .int .u64 0, .int .u64 0, .int .i64 0, .int .i64 0, .int .i64 0, .int .i64 0, .int .i64 0, .int .i64 0]) 29)) (w.heap.size + 1 + 1) 29 (#[.int .i64 0, .int .u64 0, .int .u64 0, .int .u64 0, .int .u64 0, .int .i64 0, .int .i64 0, .int .i64 0, .int .i64 0, .int .i64 0, .int .i64 0]) := (by simpa using Blk.new ((w.alloc (.cells (#[.int .i64 a.kind, uv a.r.b.v, uv a.r.b.m, uv a.r.lo, uv a.r.hi, sv a.r.sl, sv a.r.sh, .int .i64 a.slot, .int .i64 a.id, .int .i64 a.low, .int .i64 a.high, .int .i64 b.kind, uv b.r.b.v, uv b.r.b.m, uv b.r.lo, uv b.r.hi, sv b.r.sl, sv b.r.sh, .int .i64 b.slot, .int .i64 b.id, .int .i64 b.low, .int .i64 b.high, uv n0, uv n1, uv m0, uv m1]) 66)).alloc (.cells (#[.int .i64 0, .int .u64 0, .int .u64 0, .int .u64 0, .int .u64 0, .int .i64 0, .int .i64 0, .int .i64 0, .int .i64 0, .int .i64 0, .int .i64 0]) 29)) 29 (#[.int .i64 0, .int .u64 0, .int .u64 0, .int .u64 0, .int .u64 0, .int .i64 0, .int .i64 0, .int .i64 0, .int .i64 0, .int .i64 0, .int .i64 0]) : Blk _ (w.heap.size + 1 + 1) 29 (#[.int .i64 0, .int .u64 0, .int .u64 0, .int .u64 0, .int .u64 0, .int .i64 0, .int .i64 0, .int .i64 0, .int .i64 0, .int .i64 0, .int .i64 0]))
  have hB : Below w.heap.size w (((w.alloc (.cells (#[.int .i64 a.kind, uv a.r.b.v, uv a.r.b.m, uv a.r.lo, uv a.r.hi, sv a.r.sl, sv a.r.sh, .int .i64 a.slot, .int .i64 a.id, .int .i64 a.low, .int .i64 a.high, .int .i64 b.kind, uv b.r.b.v, uv b.r.b.m, uv b.r.lo, uv b.r.hi, sv b.r.sl, sv b.r.sh, .int .i64 b.slot, .int .i64 b.id, .int .i64 b.low, .int .i64 b.high, uv n0, uv n1, uv m0, uv m1]) 66)).alloc (.cells (#[.int .i64 0, .int .u64 0, .int .u64 0, .int .u64 0, .int .u64 0, .int .i64 0, .int .i64 0, .int .i64 0, .int .i64 0, .int .i64 0, .int .i64 0]) 29)).alloc (.cells (#[.int .i64 0, .int .u64 0, .int .u64 0, .int .u64 0, .int .u64 0, .int .i64 0, .int .i64 0, .int .i64 0, .int .i64 0, .int .i64 0, .int .i64 0]) 29)) := (Bl_alloc (Bl_alloc (Bl_alloc (Bl_refl w) _) _) _)
  clear hgp
  clear gp
  clear hgr
  clear gr
  clear hgq
  clear gq
  generalize (((w.alloc (.cells (#[.int .i64 a.kind, uv a.r.b.v, uv a.r.b.m, uv a.r.lo, uv a.r.hi, sv a.r.sl, sv a.r.sh, .int .i64 a.slot, .int .i64 a.id, .int .i64 a.low, .int .i64 a.high, .int .i64 b.kind, uv b.r.b.v, uv b.r.b.m, uv b.r.lo, uv b.r.hi, sv b.r.sl, sv b.r.sh, .int .i64 b.slot, .int .i64 b.id, .int .i64 b.low, .int .i64 b.high, uv n0, uv n1, uv m0, uv m1]) 66)).alloc (.cells (#[.int .i64 0, .int .u64 0, .int .u64 0, .int .u64 0, .int .u64 0, .int .i64 0, .int .i64 0, .int .i64 0, .int .i64 0, .int .i64 0, .int .i64 0]) 29)).alloc (.cells (#[.int .i64 0, .int .u64 0, .int .u64 0, .int .u64 0, .int .u64 0, .int .i64 0, .int .i64 0, .int .i64 0, .int .i64 0, .int .i64 0, .int .i64 0]) 29)) = w1 at *
  have fp := Bp.frozen; have lp := Bp.lt
  have fr := Br.frozen; have lr := Br.lt
  have fq := Bq.frozen; have lq := Bq.lt
  go_wp2_with fail
  clear  fp lp
  clear  fr lr
  clear  fq lq
  obtain ⟨S, hS⟩ : ∃ S : World → Prop, ∀ x, S x ↔ Blk x (w.heap.size) 66 #[.int .i64 a.kind, uv a.r.b.v, uv a.r.b.m, uv a.r.lo, uv a.r.hi, sv a.r.sl, sv a.r.sh, .int .i64 a.slot, .int .i64 a.id, .int .i64 a.low, .int .i64 a.high, .int .i64 b.kind, uv b.r.b.v, uv b.r.b.m, uv b.r.lo, uv b.r.hi, sv b.r.sl, sv b.r.sh, .int .i64 b.slot, .int .i64 b.id, .int .i64 b.low, .int .i64 b.high, uv n0, uv n1, uv m0, uv m1] := ⟨_, fun _ => Iff.rfl⟩
  have uBp : ∀ u : Under S, Blk u.w (w.heap.size) 66 #[.int .i64 a.kind, uv a.r.b.v, uv a.r.b.m, uv a.r.lo, uv a.r.hi, sv a.r.sl, sv a.r.sh, .int .i64 a.slot, .int .i64 a.id, .int .i64 a.low, .int .i64 a.high, .int .i64 b.kind, uv b.r.b.v, uv b.r.b.m, uv b.r.lo, uv b.r.hi, sv b.r.sl, sv b.r.sh, .int .i64 b.slot, .int .i64 b.id, .int .i64 b.low, .int .i64 b.high, uv n0, uv n1, uv m0, uv m1] := fun u => (hS _).1 u.is
  have lp := Bp.lt
  have lr := Br.lt
  have lq := Bq.lt
  refine wp_region_mixS 6 (fun k => k == 2 || k == 3) (fun _ => #[.int .i64 0, .int .u64 0, .int .u64 0, .int .u64 0, .int .u64 0, .int .i64 0, .int .i64 0, .int .i64 0, .int .i64 0, .int .i64 0, .int .i64 0]) S rfl (by kernel_rfl) (by kernel_rfl) (fun o t ho ht => by
    simp at ho
    rcases ho with rfl | rfl | rfl | rfl | rfl | rfl <;> first | (cases ht; done) | (obtain rfl := Option.some.inj ht; exact fun ρ w => new_re ht ρ w)) ?_
  simp only [List.take_succ_cons, List.take_zero, List.drop_succ_cons, List.drop_zero]
  repeat (first | (refine wpMixS_part rfl 29 (.tmp 6) rfl (w.heap.size) 0 rfl 66 #[.int .i64 a.kind, uv a.r.b.v, uv a.r.b.m, uv a.r.lo, uv a.r.hi, sv a.r.sl, sv a.r.sh, .int .i64 a.slot, .int .i64 a.id, .int .i64 a.low, .int .i64 a.high, .int .i64 b.kind, uv b.r.b.v, uv b.r.b.m, uv b.r.lo, uv b.r.hi, sv b.r.sl, sv b.r.sh, .int .i64 b.slot, .int .i64 b.id, .int .i64 b.low, .int .i64 b.high, uv n0, uv n1, uv m0, uv m1] #[.int .i64 a.kind, uv a.r.b.v, uv a.r.b.m, uv a.r.lo, uv a.r.hi, sv a.r.sl, sv a.r.sh, .int .i64 a.slot, .int .i64 a.id, .int .i64 a.low, .int .i64 a.high] _ Bp uBp Try.underlying29 rfl (size_re _ _ _ _ _ _ _ _ _ _ _) (part_of rfl) ?_) | (refine wpMixS_part rfl 29 (.tmp 8) rfl (w.heap.size) 11 rfl 66 #[.int .i64 a.kind, uv a.r.b.v, uv a.r.b.m, uv a.r.lo, uv a.r.hi, sv a.r.sl, sv a.r.sh, .int .i64 a.slot, .int .i64 a.id, .int .i64 a.low, .int .i64 a.high, .int .i64 b.kind, uv b.r.b.v, uv b.r.b.m, uv b.r.lo, uv b.r.hi, sv b.r.sl, sv b.r.sh, .int .i64 b.slot, .int .i64 b.id, .int .i64 b.low, .int .i64 b.high, uv n0, uv n1, uv m0, uv m1] #[.int .i64 b.kind, uv b.r.b.v, uv b.r.b.m, uv b.r.lo, uv b.r.hi, sv b.r.sl, sv b.r.sh, .int .i64 b.slot, .int .i64 b.id, .int .i64 b.low, .int .i64 b.high] _ Bp uBp Try.underlying29 rfl (size_re _ _ _ _ _ _ _ _ _ _ _) (part_of rfl) ?_) | ((with_reducible refine wpMixS_step (fun K hK => ?_)); go_simp; first | ((with_reducible refine hK _ ?_); clear hK K) | (refine ⟨rfl, hK _ ?_⟩; clear hK K)))
  refine wpMixS_nil ?_
  intro G w2 hgr hblk hdist
  have hb : Below w1.heap.size w1 w2 := hgr
  replace Bp := Bp.next hb
  replace Br := Br.next hb
  replace Bq := Bq.next hb
  obtain ⟨Ba, hla⟩ := hblk 4 _ rfl
  obtain ⟨Bb, hlb⟩ := hblk 5 _ rfl
  have hdab := hdist 4 5 _ _ rfl rfl (by decide)
  have hga : w.heap.size ≤ G 4 := Nat.le_trans hB.size hla
  have hnpa : w.heap.size ≠ G 4 := Nat.ne_of_lt (Nat.lt_of_lt_of_le lp hla)
  have hnra : w.heap.size + 1 ≠ G 4 := Nat.ne_of_lt (Nat.lt_of_lt_of_le lr hla)
  have hnqa : w.heap.size + 1 + 1 ≠ G 4 := Nat.ne_of_lt (Nat.lt_of_lt_of_le lq hla)
  clear hla
  have hgb : w.heap.size ≤ G 5 := Nat.le_trans hB.size hlb
  have hnpb : w.heap.size ≠ G 5 := Nat.ne_of_lt (Nat.lt_of_lt_of_le lp hlb)
  have hnrb : w.heap.size + 1 ≠ G 5 := Nat.ne_of_lt (Nat.lt_of_lt_of_le lr hlb)
  have hnqb : w.heap.size + 1 + 1 ≠ G 5 := Nat.ne_of_lt (Nat.lt_of_lt_of_le lq hlb)
  clear hlb
  clear lp
  clear lr
  clear lq
  replace hB : Below w.heap.size w w2 := Bl_trans hB hb
  simp only [putAll, isAlloc, Act.put]
  generalize G 4 = ga at *; generalize G 5 = gb at *
  clear hb hgr hblk hdist uBp
  have fp := Bp.frozen; have lp := Bp.lt
  have fr := Br.frozen; have lr := Br.lt
  have fq := Bq.frozen; have lq := Bq.lt
  have ca0 : w2.cell? ⟨ga, 0, none⟩ = some (.int .i64 0) := Ba.cell 0
  have ca1 : w2.cell? ⟨ga, 1, none⟩ = some (.int .u64 0) := Ba.cell 1
  have ca2 : w2.cell? ⟨ga, 2, none⟩ = some (.int .u64 0) := Ba.cell 2
  have ca3 : w2.cell? ⟨ga, 3, none⟩ = some (.int .u64 0) := Ba.cell 3
  have ca4 : w2.cell? ⟨ga, 4, none⟩ = some (.int .u64 0) := Ba.cell 4
  have ca5 : w2.cell? ⟨ga, 5, none⟩ = some (.int .i64 0) := Ba.cell 5
  have ca6 : w2.cell? ⟨ga, 6, none⟩ = some (.int .i64 0) := Ba.cell 6
  have ca7 : w2.cell? ⟨ga, 7, none⟩ = some (.int .i64 0) := Ba.cell 7
  have ca8 : w2.cell? ⟨ga, 8, none⟩ = some (.int .i64 0) := Ba.cell 8
  have ca9 : w2.cell? ⟨ga, 9, none⟩ = some (.int .i64 0) := Ba.cell 9
  have ca10 : w2.cell? ⟨ga, 10, none⟩ = some (.int .i64 0) := Ba.cell 10
  have fa := Ba.frozen; have la := Ba.lt
  have cb0 : w2.cell? ⟨gb, 0, none⟩ = some (.int .i64 0) := Bb.cell 0
  have cb1 : w2.cell? ⟨gb, 1, none⟩ = some (.int .u64 0) := Bb.cell 1
  have cb2 : w2.cell? ⟨gb, 2, none⟩ = some (.int .u64 0) := Bb.cell 2
  have cb3 : w2.cell? ⟨gb, 3, none⟩ = some (.int .u64 0) := Bb.cell 3
  have cb4 : w2.cell? ⟨gb, 4, none⟩ = some (.int .u64 0) := Bb.cell 4
  have cb5 : w2.cell? ⟨gb, 5, none⟩ = some (.int .i64 0) := Bb.cell 5
  have cb6 : w2.cell? ⟨gb, 6, none⟩ = some (.int .i64 0) := Bb.cell 6
  have cb7 : w2.cell? ⟨gb, 7, none⟩ = some (.int .i64 0) := Bb.cell 7
  have cb8 : w2.cell? ⟨gb, 8, none⟩ = some (.int .i64 0) := Bb.cell 8
  have cb9 : w2.cell? ⟨gb, 9, none⟩ = some (.int .i64 0) := Bb.cell 9
  have cb10 : w2.cell? ⟨gb, 10, none⟩ = some (.int .i64 0) := Bb.cell 10
  have fb := Bb.frozen; have lb := Bb.lt
  go_wp2_with (refine wpList_store_whole rfl 29 (.tmp 4) (.tmp 7) rfl (ga) #[.int .i64 a.kind, uv a.r.b.v, uv a.r.b.m, uv a.r.lo, uv a.r.hi, sv a.r.sl, sv a.r.sh, .int .i64 a.slot, .int .i64 a.id, .int .i64 a.low, .int .i64 a.high] rfl rfl 29 _ Ba (size_re _ _ _ _ _ _ _ _ _ _ _) rfl (by simp [Value.oneCell']) ?_)
  intro w3 hS
  clear  fp lp
  clear  fr lr
  clear  fq lq
  clear ca0 ca1 ca2 ca3 ca4 ca5 ca6 ca7 ca8 ca9 ca10 fa la
  clear cb0 cb1 cb2 cb3 cb4 cb5 cb6 cb7 cb8 cb9 cb10 fb lb
  replace Bp := hS.far (by first | (simp; done) | (simp; omega) | (simp [*]; done) | (simp only [ne_eq]; constructor <;> omega)) Bp
  replace Br := hS.far (by first | (simp; done) | (simp; omega) | (simp [*]; done) | (simp only [ne_eq]; constructor <;> omega)) Br
  replace Bq := hS.far (by first | (simp; done) | (simp; omega) | (simp [*]; done) | (simp only [ne_eq]; constructor <;> omega)) Bq
  replace Ba : Blk w3 (ga) 29 #[.int .i64 a.kind, uv a.r.b.v, uv a.r.b.m, uv a.r.lo, uv a.r.hi, sv a.r.sl, sv a.r.sh, .int .i64 a.slot, .int .i64 a.id, .int .i64 a.low, .int .i64 a.high] := hS.blk
  replace Bb := hS.far (by first | (simp; done) | (simp; omega) | (simp [*]; done) | (simp only [ne_eq]; constructor <;> omega)) Bb
  replace hB := hS.bel hB (by first | omega | (simp; omega))
  clear hS
  have fp := Bp.frozen; have lp := Bp.lt
  have fr := Br.frozen; have lr := Br.lt
  have fq := Bq.frozen; have lq := Bq.lt
  have ca0 : w3.cell? ⟨ga, 0, none⟩ = some (.int .i64 a.kind) := Ba.cell 0
  have ca1 : w3.cell? ⟨ga, 1, none⟩ = some (uv a.r.b.v) := Ba.cell 1
  have ca2 : w3.cell? ⟨ga, 2, none⟩ = some (uv a.r.b.m) := Ba.cell 2
  have ca3 : w3.cell? ⟨ga, 3, none⟩ = some (uv a.r.lo) := Ba.cell 3
  have ca4 : w3.cell? ⟨ga, 4, none⟩ = some (uv a.r.hi) := Ba.cell 4
  have ca5 : w3.cell? ⟨ga, 5, none⟩ = some (sv a.r.sl) := Ba.cell 5
  have ca6 : w3.cell? ⟨ga, 6, none⟩ = some (sv a.r.sh) := Ba.cell 6
  have ca7 : w3.cell? ⟨ga, 7, none⟩ = some (.int .i64 a.slot) := Ba.cell 7
  have ca8 : w3.cell? ⟨ga, 8, none⟩ = some (.int .i64 a.id) := Ba.cell 8
  have ca9 : w3.cell? ⟨ga, 9, none⟩ = some (.int .i64 a.low) := Ba.cell 9
  have ca10 : w3.cell? ⟨ga, 10, none⟩ = some (.int .i64 a.high) := Ba.cell 10
  have fa := Ba.frozen; have la := Ba.lt
  have cb0 : w3.cell? ⟨gb, 0, none⟩ = some (.int .i64 0) := Bb.cell 0
  have cb1 : w3.cell? ⟨gb, 1, none⟩ = some (.int .u64 0) := Bb.cell 1
  have cb2 : w3.cell? ⟨gb, 2, none⟩ = some (.int .u64 0) := Bb.cell 2
  have cb3 : w3.cell? ⟨gb, 3, none⟩ = some (.int .u64 0) := Bb.cell 3
  have cb4 : w3.cell? ⟨gb, 4, none⟩ = some (.int .u64 0) := Bb.cell 4
  have cb5 : w3.cell? ⟨gb, 5, none⟩ = some (.int .i64 0) := Bb.cell 5
  have cb6 : w3.cell? ⟨gb, 6, none⟩ = some (.int .i64 0) := Bb.cell 6
  have cb7 : w3.cell? ⟨gb, 7, none⟩ = some (.int .i64 0) := Bb.cell 7
  have cb8 : w3.cell? ⟨gb, 8, none⟩ = some (.int .i64 0) := Bb.cell 8
  have cb9 : w3.cell? ⟨gb, 9, none⟩ = some (.int .i64 0) := Bb.cell 9
  have cb10 : w3.cell? ⟨gb, 10, none⟩ = some (.int .i64 0) := Bb.cell 10
  have fb := Bb.frozen; have lb := Bb.lt
  go_wp2_with fail
  refine ⟨by first | trivial | rfl, by first | exact (hS _).2 Bp | exact Bp, ?_⟩
  clear hS S
  go_wp2_with (refine wpList_store_whole rfl 29 (.tmp 5) (.tmp 9) rfl (gb) #[.int .i64 b.kind, uv b.r.b.v, uv b.r.b.m, uv b.r.lo, uv b.r.hi, sv b.r.sl, sv b.r.sh, .int .i64 b.slot, .int .i64 b.id, .int .i64 b.low, .int .i64 b.high] rfl rfl 29 _ Bb (size_re _ _ _ _ _ _ _ _ _ _ _) rfl (by simp [Value.oneCell']) ?_)
  intro w4 hS
  clear  fp lp
  clear  fr lr
  clear  fq lq
  clear ca0 ca1 ca2 ca3 ca4 ca5 ca6 ca7 ca8 ca9 ca10 fa la
  clear cb0 cb1 cb2 cb3 cb4 cb5 cb6 cb7 cb8 cb9 cb10 fb lb
  replace Bp := hS.far (by first | (simp; done) | (simp; omega) | (simp [*]; done) | (simp only [ne_eq]; constructor <;> omega)) Bp
  replace Br := hS.far (by first | (simp; done) | (simp; omega) | (simp [*]; done) | (simp only [ne_eq]; constructor <;> omega)) Br
  replace Bq := hS.far (by first | (simp; done) | (simp; omega) | (simp [*]; done) | (simp only [ne_eq]; constructor <;> omega)) Bq
  replace Ba := hS.far (by first | (simp; done) | (simp; omega) | (simp [*]; done) | (simp only [ne_eq]; constructor <;> omega)) Ba
  replace Bb : Blk w4 (gb) 29 #[.int .i64 b.kind, uv b.r.b.v, uv b.r.b.m, uv b.r.lo, uv b.r.hi, sv b.r.sl, sv b.r.sh, .int .i64 b.slot, .int .i64 b.id, .int .i64 b.low, .int .i64 b.high] := hS.blk
  replace hB := hS.bel hB (by first | omega | (simp; omega))
  clear hS
  have fp := Bp.frozen; have lp := Bp.lt
  have fr := Br.frozen; have lr := Br.lt
  have fq := Bq.frozen; have lq := Bq.lt
  have ca0 : w4.cell? ⟨ga, 0, none⟩ = some (.int .i64 a.kind) := Ba.cell 0
  have ca1 : w4.cell? ⟨ga, 1, none⟩ = some (uv a.r.b.v) := Ba.cell 1
  have ca2 : w4.cell? ⟨ga, 2, none⟩ = some (uv a.r.b.m) := Ba.cell 2
  have ca3 : w4.cell? ⟨ga, 3, none⟩ = some (uv a.r.lo) := Ba.cell 3
  have ca4 : w4.cell? ⟨ga, 4, none⟩ = some (uv a.r.hi) := Ba.cell 4
  have ca5 : w4.cell? ⟨ga, 5, none⟩ = some (sv a.r.sl) := Ba.cell 5
  have ca6 : w4.cell? ⟨ga, 6, none⟩ = some (sv a.r.sh) := Ba.cell 6
  have ca7 : w4.cell? ⟨ga, 7, none⟩ = some (.int .i64 a.slot) := Ba.cell 7
  have ca8 : w4.cell? ⟨ga, 8, none⟩ = some (.int .i64 a.id) := Ba.cell 8
  have ca9 : w4.cell? ⟨ga, 9, none⟩ = some (.int .i64 a.low) := Ba.cell 9
  have ca10 : w4.cell? ⟨ga, 10, none⟩ = some (.int .i64 a.high) := Ba.cell 10
  have fa := Ba.frozen; have la := Ba.lt
  have cb0 : w4.cell? ⟨gb, 0, none⟩ = some (.int .i64 b.kind) := Bb.cell 0
  have cb1 : w4.cell? ⟨gb, 1, none⟩ = some (uv b.r.b.v) := Bb.cell 1
  have cb2 : w4.cell? ⟨gb, 2, none⟩ = some (uv b.r.b.m) := Bb.cell 2
  have cb3 : w4.cell? ⟨gb, 3, none⟩ = some (uv b.r.lo) := Bb.cell 3
  have cb4 : w4.cell? ⟨gb, 4, none⟩ = some (uv b.r.hi) := Bb.cell 4
  have cb5 : w4.cell? ⟨gb, 5, none⟩ = some (sv b.r.sl) := Bb.cell 5
  have cb6 : w4.cell? ⟨gb, 6, none⟩ = some (sv b.r.sh) := Bb.cell 6
  have cb7 : w4.cell? ⟨gb, 7, none⟩ = some (.int .i64 b.slot) := Bb.cell 7
  have cb8 : w4.cell? ⟨gb, 8, none⟩ = some (.int .i64 b.id) := Bb.cell 8
  have cb9 : w4.cell? ⟨gb, 9, none⟩ = some (.int .i64 b.low) := Bb.cell 9
  have cb10 : w4.cell? ⟨gb, 10, none⟩ = some (.int .i64 b.high) := Bb.cell 10
  have fb := Bb.frozen; have lb := Bb.lt
  obtain ⟨rka, rkb⟩ := H1.out; obtain ⟨ska, skb⟩ := H2.out; clear H1 H2
  go_wp2_with fail
  replace ca0 : ∀ g : Later w4, g.w.cell? ⟨ga, 0, none⟩ = some (.int .i64 a.kind) := fun g => g.cell (Ba.cell 0)
  replace ca1 : ∀ g : Later w4, g.w.cell? ⟨ga, 1, none⟩ = some (uv a.r.b.v) := fun g => g.cell (Ba.cell 1)
  replace ca2 : ∀ g : Later w4, g.w.cell? ⟨ga, 2, none⟩ = some (uv a.r.b.m) := fun g => g.cell (Ba.cell 2)
  replace ca3 : ∀ g : Later w4, g.w.cell? ⟨ga, 3, none⟩ = some (uv a.r.lo) := fun g => g.cell (Ba.cell 3)
  replace ca4 : ∀ g : Later w4, g.w.cell? ⟨ga, 4, none⟩ = some (uv a.r.hi) := fun g => g.cell (Ba.cell 4)
  replace ca5 : ∀ g : Later w4, g.w.cell? ⟨ga, 5, none⟩ = some (sv a.r.sl) := fun g => g.cell (Ba.cell 5)
  replace ca6 : ∀ g : Later w4, g.w.cell? ⟨ga, 6, none⟩ = some (sv a.r.sh) := fun g => g.cell (Ba.cell 6)
  replace ca7 : ∀ g : Later w4, g.w.cell? ⟨ga, 7, none⟩ = some (.int .i64 a.slot) := fun g => g.cell (Ba.cell 7)
  replace ca8 : ∀ g : Later w4, g.w.cell? ⟨ga, 8, none⟩ = some (.int .i64 a.id) := fun g => g.cell (Ba.cell 8)
  replace ca9 : ∀ g : Later w4, g.w.cell? ⟨ga, 9, none⟩ = some (.int .i64 a.low) := fun g => g.cell (Ba.cell 9)
  replace ca10 : ∀ g : Later w4, g.w.cell? ⟨ga, 10, none⟩ = some (.int .i64 a.high) := fun g => g.cell (Ba.cell 10)
  replace cb0 : ∀ g : Later w4, g.w.cell? ⟨gb, 0, none⟩ = some (.int .i64 b.kind) := fun g => g.cell (Bb.cell 0)
  replace cb1 : ∀ g : Later w4, g.w.cell? ⟨gb, 1, none⟩ = some (uv b.r.b.v) := fun g => g.cell (Bb.cell 1)
  replace cb2 : ∀ g : Later w4, g.w.cell? ⟨gb, 2, none⟩ = some (uv b.r.b.m) := fun g => g.cell (Bb.cell 2)
  replace cb3 : ∀ g : Later w4, g.w.cell? ⟨gb, 3, none⟩ = some (uv b.r.lo) := fun g => g.cell (Bb.cell 3)
  replace cb4 : ∀ g : Later w4, g.w.cell? ⟨gb, 4, none⟩ = some (uv b.r.hi) := fun g => g.cell (Bb.cell 4)
  replace cb5 : ∀ g : Later w4, g.w.cell? ⟨gb, 5, none⟩ = some (sv b.r.sl) := fun g => g.cell (Bb.cell 5)
  replace cb6 : ∀ g : Later w4, g.w.cell? ⟨gb, 6, none⟩ = some (sv b.r.sh) := fun g => g.cell (Bb.cell 6)
  replace cb7 : ∀ g : Later w4, g.w.cell? ⟨gb, 7, none⟩ = some (.int .i64 b.slot) := fun g => g.cell (Bb.cell 7)
  replace cb8 : ∀ g : Later w4, g.w.cell? ⟨gb, 8, none⟩ = some (.int .i64 b.id) := fun g => g.cell (Bb.cell 8)
  replace cb9 : ∀ g : Later w4, g.w.cell? ⟨gb, 9, none⟩ = some (.int .i64 b.low) := fun g => g.cell (Bb.cell 9)
  replace cb10 : ∀ g : Later w4, g.w.cell? ⟨gb, 10, none⟩ = some (.int .i64 b.high) := fun g => g.cell (Bb.cell 10)
  obtain ⟨S, hS⟩ : ∃ S : World → Prop, ∀ x, S x ↔ (x.cell? ⟨gb, 0, none⟩ = some (.int .i64 b.kind)) := ⟨_, fun _ => Iff.rfl⟩
  have u0 : ∀ g : Under S, g.w.cell? ⟨gb, 0, none⟩ = some (.int .i64 b.kind) := fun g => ((hS _).1 g.is)
  refine wp_region_mixS 11 (fun k => k == 5 || k == 6 || k == 7 || k == 8 || k == 9) (fun _ => #[]) S rfl (by kernel_rfl) (by kernel_rfl) (no_alloc (by kernel_rfl)) ?_
  simp only [List.take_succ_cons, List.take_zero, List.drop_succ_cons, List.drop_zero]
  repeat (refine wpMixS_step (fun K hK => ?_); go_simp; first | (refine hK _ ?_; clear hK K))
  refine wpMixS_nil ?_
  intro G w5 hgr hblk hdist
  have hb : Below w4.heap.size w4 w5 := hgr
  replace Bp := Bp.next hb
  replace Br := Br.next hb
  replace Bq := Bq.next hb
  replace Ba := Ba.next hb
  replace Bb := Bb.next hb
  clear  fp lp
  clear  fr lr
  clear  fq lq
  clear ca0 ca1 ca2 ca3 ca4 ca5 ca6 ca7 ca8 ca9 ca10 fa la
  clear cb0 cb1 cb2 cb3 cb4 cb5 cb6 cb7 cb8 cb9 cb10 fb lb
  clear u0
  replace hB : Below w.heap.size w w5 := Bl_trans hB hb
  simp only [putAll, isAlloc]
  clear hb hgr hblk hdist
  have fp := Bp.frozen; have lp := Bp.lt
  have fr := Br.frozen; have lr := Br.lt
  have fq := Bq.frozen; have lq := Bq.lt
  have ca0 : w5.cell? ⟨ga, 0, none⟩ = some (.int .i64 a.kind) := Ba.cell 0
  have ca1 : w5.cell? ⟨ga, 1, none⟩ = some (uv a.r.b.v) := Ba.cell 1
  have ca2 : w5.cell? ⟨ga, 2, none⟩ = some (uv a.r.b.m) := Ba.cell 2
  have ca3 : w5.cell? ⟨ga, 3, none⟩ = some (uv a.r.lo) := Ba.cell 3
  have ca4 : w5.cell? ⟨ga, 4, none⟩ = some (uv a.r.hi) := Ba.cell 4
  have ca5 : w5.cell? ⟨ga, 5, none⟩ = some (sv a.r.sl) := Ba.cell 5
  have ca6 : w5.cell? ⟨ga, 6, none⟩ = some (sv a.r.sh) := Ba.cell 6
  have ca7 : w5.cell? ⟨ga, 7, none⟩ = some (.int .i64 a.slot) := Ba.cell 7
  have ca8 : w5.cell? ⟨ga, 8, none⟩ = some (.int .i64 a.id) := Ba.cell 8
  have ca9 : w5.cell? ⟨ga, 9, none⟩ = some (.int .i64 a.low) := Ba.cell 9
  have ca10 : w5.cell? ⟨ga, 10, none⟩ = some (.int .i64 a.high) := Ba.cell 10
  have fa := Ba.frozen; have la := Ba.lt
  have cb0 : w5.cell? ⟨gb, 0, none⟩ = some (.int .i64 b.kind) := Bb.cell 0
  have cb1 : w5.cell? ⟨gb, 1, none⟩ = some (uv b.r.b.v) := Bb.cell 1
  have cb2 : w5.cell? ⟨gb, 2, none⟩ = some (uv b.r.b.m) := Bb.cell 2
  have cb3 : w5.cell? ⟨gb, 3, none⟩ = some (uv b.r.lo) := Bb.cell 3
  have cb4 : w5.cell? ⟨gb, 4, none⟩ = some (uv b.r.hi) := Bb.cell 4
  have cb5 : w5.cell? ⟨gb, 5, none⟩ = some (sv b.r.sl) := Bb.cell 5
  have cb6 : w5.cell? ⟨gb, 6, none⟩ = some (sv b.r.sh) := Bb.cell 6
  have cb7 : w5.cell? ⟨gb, 7, none⟩ = some (.int .i64 b.slot) := Bb.cell 7
  have cb8 : w5.cell? ⟨gb, 8, none⟩ = some (.int .i64 b.id) := Bb.cell 8
  have cb9 : w5.cell? ⟨gb, 9, none⟩ = some (.int .i64 b.low) := Bb.cell 9
  have cb10 : w5.cell? ⟨gb, 10, none⟩ = some (.int .i64 b.high) := Bb.cell 10
  have fb := Bb.frozen; have lb := Bb.lt
  go_wp2_with fail
  refine ⟨by first | trivial | rfl, ?_, ?_⟩
  · refine (hS _).2 ?_; exact (Bb.far (by first | (simp; done) | (simp; omega) | (simp [*]; done) | (simp only [ne_eq]; constructor <;> omega)) _).cell 0
  clear hS S
  clear  fp lp
  clear  fr lr
  clear  fq lq
  clear ca0 ca1 ca2 ca3 ca4 ca5 ca6 ca7 ca8 ca9 ca10 fa la
  clear cb0 cb1 cb2 cb3 cb4 cb5 cb6 cb7 cb8 cb9 cb10 fb lb
  replace Bp : Blk (w5.setCell ⟨ga, 0, none⟩ (.int .i64 (ka : Int))) (w.heap.size) 66 (#[.int .i64 a.kind, uv a.r.b.v, uv a.r.b.m, uv a.r.lo, uv a.r.hi, sv a.r.sl, sv a.r.sh, .int .i64 a.slot, .int .i64 a.id, .int .i64 a.low, .int .i64 a.high, .int .i64 b.kind, uv b.r.b.v, uv b.r.b.m, uv b.r.lo, uv b.r.hi, sv b.r.sl, sv b.r.sh, .int .i64 b.slot, .int .i64 b.id, .int .i64 b.low, .int .i64 b.high, uv n0, uv n1, uv m0, uv m1]) := (Bp.far (by first | (simp; done) | (simp; omega) | (simp [*]; done) | (simp only [ne_eq]; constructor <;> omega)) _)
  replace Br : Blk (w5.setCell ⟨ga, 0, none⟩ (.int .i64 (ka : Int))) (w.heap.size + 1) 29 (#[.int .i64 0, .int .u64 0, .int .u64 0, .int .u64 0, .int .u64 0, .int .i64 0, .int .i64 0, .int .i64 0, .int .i64 0, .int .i64 0, .int .i64 0]) := (Br.far (by first | (simp; done) | (simp; omega) | (simp [*]; done) | (simp only [ne_eq]; constructor <;> omega)) _)
  replace Bq : Blk (w5.setCell ⟨ga, 0, none⟩ (.int .i64 (ka : Int))) (w.heap.size + 1 + 1) 29 (#[.int .i64 0, .int .u64 0, .int .u64 0, .int .u64 0, .int .u64 0, .int .i64 0, .int .i64 0, .int .i64 0, .int .i64 0, .int .i64 0, .int .i64 0]) := (Bq.far (by first | (simp; done) | (simp; omega) | (simp [*]; done) | (simp only [ne_eq]; constructor <;> omega)) _)
  replace Ba : Blk (w5.setCell ⟨ga, 0, none⟩ (.int .i64 (ka : Int))) (ga) 29 #[.int .i64 (ka : Int), uv a.r.b.v, uv a.r.b.m, uv a.r.lo, uv a.r.hi, sv a.r.sl, sv a.r.sh, .int .i64 a.slot, .int .i64 a.id, .int .i64 a.low, .int .i64 a.high] := Ba.set_ 0 _
  replace Bb : Blk (w5.setCell ⟨ga, 0, none⟩ (.int .i64 (ka : Int))) (gb) 29 #[.int .i64 b.kind, uv b.r.b.v, uv b.r.b.m, uv b.r.lo, uv b.r.hi, sv b.r.sl, sv b.r.sh, .int .i64 b.slot, .int .i64 b.id, .int .i64 b.low, .int .i64 b.high] := (Bb.far (by first | (simp; done) | (simp; omega) | (simp [*]; done) | (simp only [ne_eq]; constructor <;> omega)) _)
  replace hB : Below w.heap.size w (w5.setCell ⟨ga, 0, none⟩ (.int .i64 (ka : Int))) := (Bl_set hB (by first | omega | (simp; done) | (simp; omega)) _)
  generalize (w5.setCell ⟨ga, 0, none⟩ (.int .i64 (ka : Int))) = w6 at *
  have fp := Bp.frozen; have lp := Bp.lt
  have fr := Br.frozen; have lr := Br.lt
  have fq := Bq.frozen; have lq := Bq.lt
  have ca0 : w6.cell? ⟨ga, 0, none⟩ = some (.int .i64 (ka : Int)) := Ba.cell 0
  have ca1 : w6.cell? ⟨ga, 1, none⟩ = some (uv a.r.b.v) := Ba.cell 1
  have ca2 : w6.cell? ⟨ga, 2, none⟩ = some (uv a.r.b.m) := Ba.cell 2
  have ca3 : w6.cell? ⟨ga, 3, none⟩ = some (uv a.r.lo) := Ba.cell 3
  have ca4 : w6.cell? ⟨ga, 4, none⟩ = some (uv a.r.hi) := Ba.cell 4
  have ca5 : w6.cell? ⟨ga, 5, none⟩ = some (sv a.r.sl) := Ba.cell 5
  have ca6 : w6.cell? ⟨ga, 6, none⟩ = some (sv a.r.sh) := Ba.cell 6
  have ca7 : w6.cell? ⟨ga, 7, none⟩ = some (.int .i64 a.slot) := Ba.cell 7
  have ca8 : w6.cell? ⟨ga, 8, none⟩ = some (.int .i64 a.id) := Ba.cell 8
  have ca9 : w6.cell? ⟨ga, 9, none⟩ = some (.int .i64 a.low) := Ba.cell 9
  have ca10 : w6.cell? ⟨ga, 10, none⟩ = some (.int .i64 a.high) := Ba.cell 10
  have fa := Ba.frozen; have la := Ba.lt
  have cb0 : w6.cell? ⟨gb, 0, none⟩ = some (.int .i64 b.kind) := Bb.cell 0
  have cb1 : w6.cell? ⟨gb, 1, none⟩ = some (uv b.r.b.v) := Bb.cell 1
  have cb2 : w6.cell? ⟨gb, 2, none⟩ = some (uv b.r.b.m) := Bb.cell 2
  have cb3 : w6.cell? ⟨gb, 3, none⟩ = some (uv b.r.lo) := Bb.cell 3
  have cb4 : w6.cell? ⟨gb, 4, none⟩ = some (uv b.r.hi) := Bb.cell 4
  have cb5 : w6.cell? ⟨gb, 5, none⟩ = some (sv b.r.sl) := Bb.cell 5
  have cb6 : w6.cell? ⟨gb, 6, none⟩ = some (sv b.r.sh) := Bb.cell 6
  have cb7 : w6.cell? ⟨gb, 7, none⟩ = some (.int .i64 b.slot) := Bb.cell 7
  have cb8 : w6.cell? ⟨gb, 8, none⟩ = some (.int .i64 b.id) := Bb.cell 8
  have cb9 : w6.cell? ⟨gb, 9, none⟩ = some (.int .i64 b.low) := Bb.cell 9
  have cb10 : w6.cell? ⟨gb, 10, none⟩ = some (.int .i64 b.high) := Bb.cell 10
  have fb := Bb.frozen; have lb := Bb.lt
  go_wp2_with fail
  clear  fp lp
  clear  fr lr
  clear  fq lq
  clear ca0 ca1 ca2 ca3 ca4 ca5 ca6 ca7 ca8 ca9 ca10 fa la
  clear cb0 cb1 cb2 cb3 cb4 cb5 cb6 cb7 cb8 cb9 cb10 fb lb
  replace Bp : Blk (w6.setCell ⟨gb, 0, none⟩ (.int .i64 (kb : Int))) (w.heap.size) 66 (#[.int .i64 a.kind, uv a.r.b.v, uv a.r.b.m, uv a.r.lo, uv a.r.hi, sv a.r.sl, sv a.r.sh, .int .i64 a.slot, .int .i64 a.id, .int .i64 a.low, .int .i64 a.high, .int .i64 b.kind, uv b.r.b.v, uv b.r.b.m, uv b.r.lo, uv b.r.hi, sv b.r.sl, sv b.r.sh, .int .i64 b.slot, .int .i64 b.id, .int .i64 b.low, .int .i64 b.high, uv n0, uv n1, uv m0, uv m1]) := (Bp.far (by first | (simp; done) | (simp; omega) | (simp [*]; done) | (simp only [ne_eq]; constructor <;> omega)) _)
  replace Br : Blk (w6.setCell ⟨gb, 0, none⟩ (.int .i64 (kb : Int))) (w.heap.size + 1) 29 (#[.int .i64 0, .int .u64 0, .int .u64 0, .int .u64 0, .int .u64 0, .int .i64 0, .int .i64 0, .int .i64 0, .int .i64 0, .int .i64 0, .int .i64 0]) := (Br.far (by first | (simp; done) | (simp; omega) | (simp [*]; done) | (simp only [ne_eq]; constructor <;> omega)) _)
  replace Bq : Blk (w6.setCell ⟨gb, 0, none⟩ (.int .i64 (kb : Int))) (w.heap.size + 1 + 1) 29 (#[.int .i64 0, .int .u64 0, .int .u64 0, .int .u64 0, .int .u64 0, .int .i64 0, .int .i64 0, .int .i64 0, .int .i64 0, .int .i64 0, .int .i64 0]) := (Bq.far (by first | (simp; done) | (simp; omega) | (simp [*]; done) | (simp only [ne_eq]; constructor <;> omega)) _)
  replace Ba : Blk (w6.setCell ⟨gb, 0, none⟩ (.int .i64 (kb : Int))) (ga) 29 #[.int .i64 (ka : Int), uv a.r.b.v, uv a.r.b.m, uv a.r.lo, uv a.r.hi, sv a.r.sl, sv a.r.sh, .int .i64 a.slot, .int .i64 a.id, .int .i64 a.low, .int .i64 a.high] := (Ba.far (by first | (simp; done) | (simp; omega) | (simp [*]; done) | (simp only [ne_eq]; constructor <;> omega)) _)
  replace Bb : Blk (w6.setCell ⟨gb, 0, none⟩ (.int .i64 (kb : Int))) (gb) 29 #[.int .i64 (kb : Int), uv b.r.b.v, uv b.r.b.m, uv b.r.lo, uv b.r.hi, sv b.r.sl, sv b.r.sh, .int .i64 b.slot, .int .i64 b.id, .int .i64 b.low, .int .i64 b.high] := Bb.set_ 0 _
  replace hB : Below w.heap.size w (w6.setCell ⟨gb, 0, none⟩ (.int .i64 (kb : Int))) := (Bl_set hB (by first | omega | (simp; done) | (simp; omega)) _)
  generalize (w6.setCell ⟨gb, 0, none⟩ (.int .i64 (kb : Int))) = w7 at *
  have fp := Bp.frozen; have lp := Bp.lt
  have fr := Br.frozen; have lr := Br.lt
  have fq := Bq.frozen; have lq := Bq.lt
  have ca0 : w7.cell? ⟨ga, 0, none⟩ = some (.int .i64 (ka : Int)) := Ba.cell 0
  have ca1 : w7.cell? ⟨ga, 1, none⟩ = some (uv a.r.b.v) := Ba.cell 1
  have ca2 : w7.cell? ⟨ga, 2, none⟩ = some (uv a.r.b.m) := Ba.cell 2
  have ca3 : w7.cell? ⟨ga, 3, none⟩ = some (uv a.r.lo) := Ba.cell 3
  have ca4 : w7.cell? ⟨ga, 4, none⟩ = some (uv a.r.hi) := Ba.cell 4
  have ca5 : w7.cell? ⟨ga, 5, none⟩ = some (sv a.r.sl) := Ba.cell 5
  have ca6 : w7.cell? ⟨ga, 6, none⟩ = some (sv a.r.sh) := Ba.cell 6
  have ca7 : w7.cell? ⟨ga, 7, none⟩ = some (.int .i64 a.slot) := Ba.cell 7
  have ca8 : w7.cell? ⟨ga, 8, none⟩ = some (.int .i64 a.id) := Ba.cell 8
  have ca9 : w7.cell? ⟨ga, 9, none⟩ = some (.int .i64 a.low) := Ba.cell 9
  have ca10 : w7.cell? ⟨ga, 10, none⟩ = some (.int .i64 a.high) := Ba.cell 10
  have fa := Ba.frozen; have la := Ba.lt
  have cb0 : w7.cell? ⟨gb, 0, none⟩ = some (.int .i64 (kb : Int)) := Bb.cell 0
  have cb1 : w7.cell? ⟨gb, 1, none⟩ = some (uv b.r.b.v) := Bb.cell 1
  have cb2 : w7.cell? ⟨gb, 2, none⟩ = some (uv b.r.b.m) := Bb.cell 2
  have cb3 : w7.cell? ⟨gb, 3, none⟩ = some (uv b.r.lo) := Bb.cell 3
  have cb4 : w7.cell? ⟨gb, 4, none⟩ = some (uv b.r.hi) := Bb.cell 4
  have cb5 : w7.cell? ⟨gb, 5, none⟩ = some (sv b.r.sl) := Bb.cell 5
  have cb6 : w7.cell? ⟨gb, 6, none⟩ = some (sv b.r.sh) := Bb.cell 6
  have cb7 : w7.cell? ⟨gb, 7, none⟩ = some (.int .i64 b.slot) := Bb.cell 7
  have cb8 : w7.cell? ⟨gb, 8, none⟩ = some (.int .i64 b.id) := Bb.cell 8
  have cb9 : w7.cell? ⟨gb, 9, none⟩ = some (.int .i64 b.low) := Bb.cell 9
  have cb10 : w7.cell? ⟨gb, 10, none⟩ = some (.int .i64 b.high) := Bb.cell 10
  have fb := Bb.frozen; have lb := Bb.lt
  clear rka rkb ska skb
  have k_n0 := Kn0.out; have k_n1 := Kn1.out; have k_ja := Kja.out; clear Kn0 Kn1 Kja
  have cp22 : ∀ g : Later w7, g.w.cell? ⟨w.heap.size, 22, none⟩ = some (uv n0) := fun g => g.cell (Bp.cell 22)
  have cp23 : ∀ g : Later w7, g.w.cell? ⟨w.heap.size, 23, none⟩ = some (uv n1) := fun g => g.cell (Bp.cell 23)
  go_wp2_with fail
  replace ca0 : ∀ g : Later w7, g.w.cell? ⟨ga, 0, none⟩ = some (.int .i64 (ka : Int)) := fun g => g.cell (Ba.cell 0)
  replace ca1 : ∀ g : Later w7, g.w.cell? ⟨ga, 1, none⟩ = some (uv a.r.b.v) := fun g => g.cell (Ba.cell 1)
  replace ca2 : ∀ g : Later w7, g.w.cell? ⟨ga, 2, none⟩ = some (uv a.r.b.m) := fun g => g.cell (Ba.cell 2)
  replace ca3 : ∀ g : Later w7, g.w.cell? ⟨ga, 3, none⟩ = some (uv a.r.lo) := fun g => g.cell (Ba.cell 3)
  replace ca4 : ∀ g : Later w7, g.w.cell? ⟨ga, 4, none⟩ = some (uv a.r.hi) := fun g => g.cell (Ba.cell 4)
  replace ca5 : ∀ g : Later w7, g.w.cell? ⟨ga, 5, none⟩ = some (sv a.r.sl) := fun g => g.cell (Ba.cell 5)
  replace ca6 : ∀ g : Later w7, g.w.cell? ⟨ga, 6, none⟩ = some (sv a.r.sh) := fun g => g.cell (Ba.cell 6)
  replace ca7 : ∀ g : Later w7, g.w.cell? ⟨ga, 7, none⟩ = some (.int .i64 a.slot) := fun g => g.cell (Ba.cell 7)
  replace ca8 : ∀ g : Later w7, g.w.cell? ⟨ga, 8, none⟩ = some (.int .i64 a.id) := fun g => g.cell (Ba.cell 8)
  replace ca9 : ∀ g : Later w7, g.w.cell? ⟨ga, 9, none⟩ = some (.int .i64 a.low) := fun g => g.cell (Ba.cell 9)
  replace ca10 : ∀ g : Later w7, g.w.cell? ⟨ga, 10, none⟩ = some (.int .i64 a.high) := fun g => g.cell (Ba.cell 10)
  replace cb0 : ∀ g : Later w7, g.w.cell? ⟨gb, 0, none⟩ = some (.int .i64 (kb : Int)) := fun g => g.cell (Bb.cell 0)
  replace cb1 : ∀ g : Later w7, g.w.cell? ⟨gb, 1, none⟩ = some (uv b.r.b.v) := fun g => g.cell (Bb.cell 1)
  replace cb2 : ∀ g : Later w7, g.w.cell? ⟨gb, 2, none⟩ = some (uv b.r.b.m) := fun g => g.cell (Bb.cell 2)
  replace cb3 : ∀ g : Later w7, g.w.cell? ⟨gb, 3, none⟩ = some (uv b.r.lo) := fun g => g.cell (Bb.cell 3)
  replace cb4 : ∀ g : Later w7, g.w.cell? ⟨gb, 4, none⟩ = some (uv b.r.hi) := fun g => g.cell (Bb.cell 4)
  replace cb5 : ∀ g : Later w7, g.w.cell? ⟨gb, 5, none⟩ = some (sv b.r.sl) := fun g => g.cell (Bb.cell 5)
  replace cb6 : ∀ g : Later w7, g.w.cell? ⟨gb, 6, none⟩ = some (sv b.r.sh) := fun g => g.cell (Bb.cell 6)
  replace cb7 : ∀ g : Later w7, g.w.cell? ⟨gb, 7, none⟩ = some (.int .i64 b.slot) := fun g => g.cell (Bb.cell 7)
  replace cb8 : ∀ g : Later w7, g.w.cell? ⟨gb, 8, none⟩ = some (.int .i64 b.id) := fun g => g.cell (Bb.cell 8)
  replace cb9 : ∀ g : Later w7, g.w.cell? ⟨gb, 9, none⟩ = some (.int .i64 b.low) := fun g => g.cell (Bb.cell 9)
  replace cb10 : ∀ g : Later w7, g.w.cell? ⟨gb, 10, none⟩ = some (.int .i64 b.high) := fun g => g.cell (Bb.cell 10)
  refine wp_region_mix 10 (fun _ => #[]) (by kernel_rfl) (by kernel_rfl) (no_alloc (by kernel_rfl)) ?_
  simp only [List.take_succ_cons, List.take_zero, List.drop_succ_cons, List.drop_zero]
  repeat ((with_reducible refine wpMix_step (fun K hK => ?_)); go_simp; first | ((with_reducible refine hK _ ?_); clear hK K) | (rw [if_neg (by decide)]; (with_reducible refine hK _ ?_); clear hK K) | (apply Exists.intro; refine ⟨fun g => ?_, hK _ ?_⟩; ((with_reducible refine Calls.mono (k_n0 g.w) ?_); exact fun _ _ h => h); clear hK K) | (apply Exists.intro; refine ⟨fun g => ?_, hK _ ?_⟩; ((with_reducible refine Calls.mono (k_n1 g.w) ?_); exact fun _ _ h => h); clear hK K) | (apply Exists.intro; refine ⟨fun g => ?_, hK _ ?_⟩; ((with_reducible refine Calls.mono (k_ja g.w) ?_); exact fun _ _ h => h); clear hK K))
  refine wpMix_nil ?_
  intro G w8 hgr hblk hdist
  have hb : Below w7.heap.size w7 w8 := hgr
  replace Bp := Bp.next hb
  replace Br := Br.next hb
  replace Bq := Bq.next hb
  replace Ba := Ba.next hb
  replace Bb := Bb.next hb
  clear  fp lp
  clear  fr lr
  clear  fq lq
  clear ca0 ca1 ca2 ca3 ca4 ca5 ca6 ca7 ca8 ca9 ca10 fa la
  clear cb0 cb1 cb2 cb3 cb4 cb5 cb6 cb7 cb8 cb9 cb10 fb lb
  replace hB : Below w.heap.size w w8 := Bl_trans hB hb
  simp only [putAll, isAlloc]
  clear hb hgr hblk hdist
  have fp := Bp.frozen; have lp := Bp.lt
  have fr := Br.frozen; have lr := Br.lt
  have fq := Bq.frozen; have lq := Bq.lt
  have ca0 : w8.cell? ⟨ga, 0, none⟩ = some (.int .i64 (ka : Int)) := Ba.cell 0
  have ca1 : w8.cell? ⟨ga, 1, none⟩ = some (uv a.r.b.v) := Ba.cell 1
  have ca2 : w8.cell? ⟨ga, 2, none⟩ = some (uv a.r.b.m) := Ba.cell 2
  have ca3 : w8.cell? ⟨ga, 3, none⟩ = some (uv a.r.lo) := Ba.cell 3
  have ca4 : w8.cell? ⟨ga, 4, none⟩ = some (uv a.r.hi) := Ba.cell 4
  have ca5 : w8.cell? ⟨ga, 5, none⟩ = some (sv a.r.sl) := Ba.cell 5
  have ca6 : w8.cell? ⟨ga, 6, none⟩ = some (sv a.r.sh) := Ba.cell 6
  have ca7 : w8.cell? ⟨ga, 7, none⟩ = some (.int .i64 a.slot) := Ba.cell 7
  have ca8 : w8.cell? ⟨ga, 8, none⟩ = some (.int .i64 a.id) := Ba.cell 8
  have ca9 : w8.cell? ⟨ga, 9, none⟩ = some (.int .i64 a.low) := Ba.cell 9
  have ca10 : w8.cell? ⟨ga, 10, none⟩ = some (.int .i64 a.high) := Ba.cell 10
  have fa := Ba.frozen; have la := Ba.lt
  have cb0 : w8.cell? ⟨gb, 0, none⟩ = some (.int .i64 (kb : Int)) := Bb.cell 0
  have cb1 : w8.cell? ⟨gb, 1, none⟩ = some (uv b.r.b.v) := Bb.cell 1
  have cb2 : w8.cell? ⟨gb, 2, none⟩ = some (uv b.r.b.m) := Bb.cell 2
  have cb3 : w8.cell? ⟨gb, 3, none⟩ = some (uv b.r.lo) := Bb.cell 3
  have cb4 : w8.cell? ⟨gb, 4, none⟩ = some (uv b.r.hi) := Bb.cell 4
  have cb5 : w8.cell? ⟨gb, 5, none⟩ = some (sv b.r.sl) := Bb.cell 5
  have cb6 : w8.cell? ⟨gb, 6, none⟩ = some (sv b.r.sh) := Bb.cell 6
  have cb7 : w8.cell? ⟨gb, 7, none⟩ = some (.int .i64 b.slot) := Bb.cell 7
  have cb8 : w8.cell? ⟨gb, 8, none⟩ = some (.int .i64 b.id) := Bb.cell 8
  have cb9 : w8.cell? ⟨gb, 9, none⟩ = some (.int .i64 b.low) := Bb.cell 9
  have cb10 : w8.cell? ⟨gb, 10, none⟩ = some (.int .i64 b.high) := Bb.cell 10
  have fb := Bb.frozen; have lb := Bb.lt
  clear cp22 cp23
  go_wp2_with fail
  clear  fp lp
  clear  fr lr
  clear  fq lq
  clear ca0 ca1 ca2 ca3 ca4 ca5 ca6 ca7 ca8 ca9 ca10 fa la
  clear cb0 cb1 cb2 cb3 cb4 cb5 cb6 cb7 cb8 cb9 cb10 fb lb
  replace Bp : Blk ((((((w8.setCell ⟨ga, 1, none⟩ (uv ja.b.v)).setCell ⟨ga, 2, none⟩ (uv ja.b.m)).setCell ⟨ga, 3, none⟩ (uv ja.lo)).setCell ⟨ga, 4, none⟩ (uv ja.hi)).setCell ⟨ga, 5, none⟩ (sv ja.sl)).setCell ⟨ga, 6, none⟩ (sv ja.sh)) (w.heap.size) 66 (#[.int .i64 a.kind, uv a.r.b.v, uv a.r.b.m, uv a.r.lo, uv a.r.hi, sv a.r.sl, sv a.r.sh, .int .i64 a.slot, .int .i64 a.id, .int .i64 a.low, .int .i64 a.high, .int .i64 b.kind, uv b.r.b.v, uv b.r.b.m, uv b.r.lo, uv b.r.hi, sv b.r.sl, sv b.r.sh, .int .i64 b.slot, .int .i64 b.id, .int .i64 b.low, .int .i64 b.high, uv n0, uv n1, uv m0, uv m1]) := ((((((Bp.far (by first | (simp; done) | (simp; omega) | (simp [*]; done) | (simp only [ne_eq]; constructor <;> omega)) _).far (by first | (simp; done) | (simp; omega) | (simp [*]; done) | (simp only [ne_eq]; constructor <;> omega)) _).far (by first | (simp; done) | (simp; omega) | (simp [*]; done) | (simp only [ne_eq]; constructor <;> omega)) _).far (by first | (simp; done) | (simp; omega) | (simp [*]; done) | (simp only [ne_eq]; constructor <;> omega)) _).far (by first | (simp; done) | (simp; omega) | (simp [*]; done) | (simp only [ne_eq]; constructor <;> omega)) _).far (by first | (simp; done) | (simp; omega) | (simp [*]; done) | (simp only [ne_eq]; constructor <;> omega)) _)
  replace Br : Blk ((((((w8.setCell ⟨ga, 1, none⟩ (uv ja.b.v)).setCell ⟨ga, 2, none⟩ (uv ja.b.m)).setCell ⟨ga, 3, none⟩ (uv ja.lo)).setCell ⟨ga, 4, none⟩ (uv ja.hi)).setCell ⟨ga, 5, none⟩ (sv ja.sl)).setCell ⟨ga, 6, none⟩ (sv ja.sh)) (w.heap.size + 1) 29 (#[.int .i64 0, .int .u64 0, .int .u64 0, .int .u64 0, .int .u64 0, .int .i64 0, .int .i64 0, .int .i64 0, .int .i64 0, .int .i64 0, .int .i64 0]) := ((((((Br.far (by first | (simp; done) | (simp; omega) | (simp [*]; done) | (simp only [ne_eq]; constructor <;> omega)) _).far (by first | (simp; done) | (simp; omega) | (simp [*]; done) | (simp only [ne_eq]; constructor <;> omega)) _).far (by first | (simp; done) | (simp; omega) | (simp [*]; done) | (simp only [ne_eq]; constructor <;> omega)) _).far (by first | (simp; done) | (simp; omega) | (simp [*]; done) | (simp only [ne_eq]; constructor <;> omega)) _).far (by first | (simp; done) | (simp; omega) | (simp [*]; done) | (simp only [ne_eq]; constructor <;> omega)) _).far (by first | (simp; done) | (simp; omega) | (simp [*]; done) | (simp only [ne_eq]; constructor <;> omega)) _)
  replace Bq : Blk ((((((w8.setCell ⟨ga, 1, none⟩ (uv ja.b.v)).setCell ⟨ga, 2, none⟩ (uv ja.b.m)).setCell ⟨ga, 3, none⟩ (uv ja.lo)).setCell ⟨ga, 4, none⟩ (uv ja.hi)).setCell ⟨ga, 5, none⟩ (sv ja.sl)).setCell ⟨ga, 6, none⟩ (sv ja.sh)) (w.heap.size + 1 + 1) 29 (#[.int .i64 0, .int .u64 0, .int .u64 0, .int .u64 0, .int .u64 0, .int .i64 0, .int .i64 0, .int .i64 0, .int .i64 0, .int .i64 0, .int .i64 0]) := ((((((Bq.far (by first | (simp; done) | (simp; omega) | (simp [*]; done) | (simp only [ne_eq]; constructor <;> omega)) _).far (by first | (simp; done) | (simp; omega) | (simp [*]; done) | (simp only [ne_eq]; constructor <;> omega)) _).far (by first | (simp; done) | (simp; omega) | (simp [*]; done) | (simp only [ne_eq]; constructor <;> omega)) _).far (by first | (simp; done) | (simp; omega) | (simp [*]; done) | (simp only [ne_eq]; constructor <;> omega)) _).far (by first | (simp; done) | (simp; omega) | (simp [*]; done) | (simp only [ne_eq]; constructor <;> omega)) _).far (by first | (simp; done) | (simp; omega) | (simp [*]; done) | (simp only [ne_eq]; constructor <;> omega)) _)
  replace Ba : Blk ((((((w8.setCell ⟨ga, 1, none⟩ (uv ja.b.v)).setCell ⟨ga, 2, none⟩ (uv ja.b.m)).setCell ⟨ga, 3, none⟩ (uv ja.lo)).setCell ⟨ga, 4, none⟩ (uv ja.hi)).setCell ⟨ga, 5, none⟩ (sv ja.sl)).setCell ⟨ga, 6, none⟩ (sv ja.sh)) (ga) 29 #[.int .i64 (ka : Int), uv ja.b.v, uv ja.b.m, uv ja.lo, uv ja.hi, sv ja.sl, sv ja.sh, .int .i64 a.slot, .int .i64 a.id, .int .i64 a.low, .int .i64 a.high] := ((((((Ba.set_ 1 _).set_ 2 _).set_ 3 _).set_ 4 _).set_ 5 _).set_ 6 _)
  replace Bb : Blk ((((((w8.setCell ⟨ga, 1, none⟩ (uv ja.b.v)).setCell ⟨ga, 2, none⟩ (uv ja.b.m)).setCell ⟨ga, 3, none⟩ (uv ja.lo)).setCell ⟨ga, 4, none⟩ (uv ja.hi)).setCell ⟨ga, 5, none⟩ (sv ja.sl)).setCell ⟨ga, 6, none⟩ (sv ja.sh)) (gb) 29 #[.int .i64 (kb : Int), uv b.r.b.v, uv b.r.b.m, uv b.r.lo, uv b.r.hi, sv b.r.sl, sv b.r.sh, .int .i64 b.slot, .int .i64 b.id, .int .i64 b.low, .int .i64 b.high] := ((((((Bb.far (by first | (simp; done) | (simp; omega) | (simp [*]; done) | (simp only [ne_eq]; constructor <;> omega)) _).far (by first | (simp; done) | (simp; omega) | (simp [*]; done) | (simp only [ne_eq]; constructor <;> omega)) _).far (by first | (simp; done) | (simp; omega) | (simp [*]; done) | (simp only [ne_eq]; constructor <;> omega)) _).far (by first | (simp; done) | (simp; omega) | (simp [*]; done) | (simp only [ne_eq]; constructor <;> omega)) _).far (by first | (simp; done) | (simp; omega) | (simp [*]; done) | (simp only [ne_eq]; constructor <;> omega)) _).far (by first | (simp; done) | (simp; omega) | (simp [*]; done) | (simp only [ne_eq]; constructor <;> omega)) _)
  replace hB : Below w.heap.size w ((((((w8.setCell ⟨ga, 1, none⟩ (uv ja.b.v)).setCell ⟨ga, 2, none⟩ (uv ja.b.m)).setCell ⟨ga, 3, none⟩ (uv ja.lo)).setCell ⟨ga, 4, none⟩ (uv ja.hi)).setCell ⟨ga, 5, none⟩ (sv ja.sl)).setCell ⟨ga, 6, none⟩ (sv ja.sh)) := (Bl_set (Bl_set (Bl_set (Bl_set (Bl_set (Bl_set hB (by first | omega | (simp; done) | (simp; omega)) _) (by first | omega | (simp; done) | (simp; omega)) _) (by first | omega | (simp; done) | (simp; omega)) _) (by first | omega | (simp; done) | (simp; omega)) _) (by first | omega | (simp; done) | (simp; omega)) _) (by first | omega | (simp; done) | (simp; omega)) _)
  generalize ((((((w8.setCell ⟨ga, 1, none⟩ (uv ja.b.v)).setCell ⟨ga, 2, none⟩ (uv ja.b.m)).setCell ⟨ga, 3, none⟩ (uv ja.lo)).setCell ⟨ga, 4, none⟩ (uv ja.hi)).setCell ⟨ga, 5, none⟩ (sv ja.sl)).setCell ⟨ga, 6, none⟩ (sv ja.sh)) = w9 at *
  have fp := Bp.frozen; have lp := Bp.lt
  have fr := Br.frozen; have lr := Br.lt
  have fq := Bq.frozen; have lq := Bq.lt
  have ca0 : w9.cell? ⟨ga, 0, none⟩ = some (.int .i64 (ka : Int)) := Ba.cell 0
  have ca1 : w9.cell? ⟨ga, 1, none⟩ = some (uv ja.b.v) := Ba.cell 1
  have ca2 : w9.cell? ⟨ga, 2, none⟩ = some (uv ja.b.m) := Ba.cell 2
  have ca3 : w9.cell? ⟨ga, 3, none⟩ = some (uv ja.lo) := Ba.cell 3
  have ca4 : w9.cell? ⟨ga, 4, none⟩ = some (uv ja.hi) := Ba.cell 4
  have ca5 : w9.cell? ⟨ga, 5, none⟩ = some (sv ja.sl) := Ba.cell 5
  have ca6 : w9.cell? ⟨ga, 6, none⟩ = some (sv ja.sh) := Ba.cell 6
  have ca7 : w9.cell? ⟨ga, 7, none⟩ = some (.int .i64 a.slot) := Ba.cell 7
  have ca8 : w9.cell? ⟨ga, 8, none⟩ = some (.int .i64 a.id) := Ba.cell 8
  have ca9 : w9.cell? ⟨ga, 9, none⟩ = some (.int .i64 a.low) := Ba.cell 9
  have ca10 : w9.cell? ⟨ga, 10, none⟩ = some (.int .i64 a.high) := Ba.cell 10
  have fa := Ba.frozen; have la := Ba.lt
  have cb0 : w9.cell? ⟨gb, 0, none⟩ = some (.int .i64 (kb : Int)) := Bb.cell 0
  have cb1 : w9.cell? ⟨gb, 1, none⟩ = some (uv b.r.b.v) := Bb.cell 1
  have cb2 : w9.cell? ⟨gb, 2, none⟩ = some (uv b.r.b.m) := Bb.cell 2
  have cb3 : w9.cell? ⟨gb, 3, none⟩ = some (uv b.r.lo) := Bb.cell 3
  have cb4 : w9.cell? ⟨gb, 4, none⟩ = some (uv b.r.hi) := Bb.cell 4
  have cb5 : w9.cell? ⟨gb, 5, none⟩ = some (sv b.r.sl) := Bb.cell 5
  have cb6 : w9.cell? ⟨gb, 6, none⟩ = some (sv b.r.sh) := Bb.cell 6
  have cb7 : w9.cell? ⟨gb, 7, none⟩ = some (.int .i64 b.slot) := Bb.cell 7
  have cb8 : w9.cell? ⟨gb, 8, none⟩ = some (.int .i64 b.id) := Bb.cell 8
  have cb9 : w9.cell? ⟨gb, 9, none⟩ = some (.int .i64 b.low) := Bb.cell 9
  have cb10 : w9.cell? ⟨gb, 10, none⟩ = some (.int .i64 b.high) := Bb.cell 10
  have fb := Bb.frozen; have lb := Bb.lt
  clear k_n0 k_n1 k_ja
  have k_m0 := Km0.out; have k_m1 := Km1.out; have k_jb := Kjb.out; clear Km0 Km1 Kjb
  have cp24 : ∀ g : Later w9, g.w.cell? ⟨w.heap.size, 24, none⟩ = some (uv m0) := fun g => g.cell (Bp.cell 24)
  have cp25 : ∀ g : Later w9, g.w.cell? ⟨w.heap.size, 25, none⟩ = some (uv m1) := fun g => g.cell (Bp.cell 25)
  go_wp2_with fail
  replace ca0 : ∀ g : Later w9, g.w.cell? ⟨ga, 0, none⟩ = some (.int .i64 (ka : Int)) := fun g => g.cell (Ba.cell 0)
  replace ca1 : ∀ g : Later w9, g.w.cell? ⟨ga, 1, none⟩ = some (uv ja.b.v) := fun g => g.cell (Ba.cell 1)
  replace ca2 : ∀ g : Later w9, g.w.cell? ⟨ga, 2, none⟩ = some (uv ja.b.m) := fun g => g.cell (Ba.cell 2)
  replace ca3 : ∀ g : Later w9, g.w.cell? ⟨ga, 3, none⟩ = some (uv ja.lo) := fun g => g.cell (Ba.cell 3)
  replace ca4 : ∀ g : Later w9, g.w.cell? ⟨ga, 4, none⟩ = some (uv ja.hi) := fun g => g.cell (Ba.cell 4)
  replace ca5 : ∀ g : Later w9, g.w.cell? ⟨ga, 5, none⟩ = some (sv ja.sl) := fun g => g.cell (Ba.cell 5)
  replace ca6 : ∀ g : Later w9, g.w.cell? ⟨ga, 6, none⟩ = some (sv ja.sh) := fun g => g.cell (Ba.cell 6)
  replace ca7 : ∀ g : Later w9, g.w.cell? ⟨ga, 7, none⟩ = some (.int .i64 a.slot) := fun g => g.cell (Ba.cell 7)
  replace ca8 : ∀ g : Later w9, g.w.cell? ⟨ga, 8, none⟩ = some (.int .i64 a.id) := fun g => g.cell (Ba.cell 8)
  replace ca9 : ∀ g : Later w9, g.w.cell? ⟨ga, 9, none⟩ = some (.int .i64 a.low) := fun g => g.cell (Ba.cell 9)
  replace ca10 : ∀ g : Later w9, g.w.cell? ⟨ga, 10, none⟩ = some (.int .i64 a.high) := fun g => g.cell (Ba.cell 10)
  replace cb0 : ∀ g : Later w9, g.w.cell? ⟨gb, 0, none⟩ = some (.int .i64 (kb : Int)) := fun g => g.cell (Bb.cell 0)
  replace cb1 : ∀ g : Later w9, g.w.cell? ⟨gb, 1, none⟩ = some (uv b.r.b.v) := fun g => g.cell (Bb.cell 1)
  replace cb2 : ∀ g : Later w9, g.w.cell? ⟨gb, 2, none⟩ = some (uv b.r.b.m) := fun g => g.cell (Bb.cell 2)
  replace cb3 : ∀ g : Later w9, g.w.cell? ⟨gb, 3, none⟩ = some (uv b.r.lo) := fun g => g.cell (Bb.cell 3)
  replace cb4 : ∀ g : Later w9, g.w.cell? ⟨gb, 4, none⟩ = some (uv b.r.hi) := fun g => g.cell (Bb.cell 4)
  replace cb5 : ∀ g : Later w9, g.w.cell? ⟨gb, 5, none⟩ = some (sv b.r.sl) := fun g => g.cell (Bb.cell 5)
  replace cb6 : ∀ g : Later w9, g.w.cell? ⟨gb, 6, none⟩ = some (sv b.r.sh) := fun g => g.cell (Bb.cell 6)
  replace cb7 : ∀ g : Later w9, g.w.cell? ⟨gb, 7, none⟩ = some (.int .i64 b.slot) := fun g => g.cell (Bb.cell 7)
  replace cb8 : ∀ g : Later w9, g.w.cell? ⟨gb, 8, none⟩ = some (.int .i64 b.id) := fun g => g.cell (Bb.cell 8)
  replace cb9 : ∀ g : Later w9, g.w.cell? ⟨gb, 9, none⟩ = some (.int .i64 b.low) := fun g => g.cell (Bb.cell 9)
  replace cb10 : ∀ g : Later w9, g.w.cell? ⟨gb, 10, none⟩ = some (.int .i64 b.high) := fun g => g.cell (Bb.cell 10)
  refine wp_region_mix 10 (fun _ => #[]) (by kernel_rfl) (by kernel_rfl) (no_alloc (by kernel_rfl)) ?_
  simp only [List.take_succ_cons, List.take_zero, List.drop_succ_cons, List.drop_zero]
  repeat ((with_reducible refine wpMix_step (fun K hK => ?_)); go_simp; first | ((with_reducible refine hK _ ?_); clear hK K) | (rw [if_neg (by decide)]; (with_reducible refine hK _ ?_); clear hK K) | (apply Exists.intro; refine ⟨fun g => ?_, hK _ ?_⟩; ((with_reducible refine Calls.mono (k_m0 g.w) ?_); exact fun _ _ h => h); clear hK K) | (apply Exists.intro; refine ⟨fun g => ?_, hK _ ?_⟩; ((with_reducible refine Calls.mono (k_m1 g.w) ?_); exact fun _ _ h => h); clear hK K) | (apply Exists.intro; refine ⟨fun g => ?_, hK _ ?_⟩; ((with_reducible refine Calls.mono (k_jb g.w) ?_); exact fun _ _ h => h); clear hK K))
  refine wpMix_nil ?_
  intro G w10 hgr hblk hdist
  have hb : Below w9.heap.size w9 w10 := hgr
  replace Bp := Bp.next hb
  replace Br := Br.next hb
  replace Bq := Bq.next hb
  replace Ba := Ba.next hb
  replace Bb := Bb.next hb
  clear  fp lp
  clear  fr lr
  clear  fq lq
  clear ca0 ca1 ca2 ca3 ca4 ca5 ca6 ca7 ca8 ca9 ca10 fa la
  clear cb0 cb1 cb2 cb3 cb4 cb5 cb6 cb7 cb8 cb9 cb10 fb lb
  replace hB : Below w.heap.size w w10 := Bl_trans hB hb
  simp only [putAll, isAlloc]
  clear hb hgr hblk hdist
  have fp := Bp.frozen; have lp := Bp.lt
  have fr := Br.frozen; have lr := Br.lt
  have fq := Bq.frozen; have lq := Bq.lt
  have ca0 : w10.cell? ⟨ga, 0, none⟩ = some (.int .i64 (ka : Int)) := Ba.cell 0
  have ca1 : w10.cell? ⟨ga, 1, none⟩ = some (uv ja.b.v) := Ba.cell 1
  have ca2 : w10.cell? ⟨ga, 2, none⟩ = some (uv ja.b.m) := Ba.cell 2
  have ca3 : w10.cell? ⟨ga, 3, none⟩ = some (uv ja.lo) := Ba.cell 3
  have ca4 : w10.cell? ⟨ga, 4, none⟩ = some (uv ja.hi) := Ba.cell 4
  have ca5 : w10.cell? ⟨ga, 5, none⟩ = some (sv ja.sl) := Ba.cell 5
  have ca6 : w10.cell? ⟨ga, 6, none⟩ = some (sv ja.sh) := Ba.cell 6
  have ca7 : w10.cell? ⟨ga, 7, none⟩ = some (.int .i64 a.slot) := Ba.cell 7
  have ca8 : w10.cell? ⟨ga, 8, none⟩ = some (.int .i64 a.id) := Ba.cell 8
  have ca9 : w10.cell? ⟨ga, 9, none⟩ = some (.int .i64 a.low) := Ba.cell 9
  have ca10 : w10.cell? ⟨ga, 10, none⟩ = some (.int .i64 a.high) := Ba.cell 10
  have fa := Ba.frozen; have la := Ba.lt
  have cb0 : w10.cell? ⟨gb, 0, none⟩ = some (.int .i64 (kb : Int)) := Bb.cell 0
  have cb1 : w10.cell? ⟨gb, 1, none⟩ = some (uv b.r.b.v) := Bb.cell 1
  have cb2 : w10.cell? ⟨gb, 2, none⟩ = some (uv b.r.b.m) := Bb.cell 2
  have cb3 : w10.cell? ⟨gb, 3, none⟩ = some (uv b.r.lo) := Bb.cell 3
  have cb4 : w10.cell? ⟨gb, 4, none⟩ = some (uv b.r.hi) := Bb.cell 4
  have cb5 : w10.cell? ⟨gb, 5, none⟩ = some (sv b.r.sl) := Bb.cell 5
  have cb6 : w10.cell? ⟨gb, 6, none⟩ = some (sv b.r.sh) := Bb.cell 6
  have cb7 : w10.cell? ⟨gb, 7, none⟩ = some (.int .i64 b.slot) := Bb.cell 7
  have cb8 : w10.cell? ⟨gb, 8, none⟩ = some (.int .i64 b.id) := Bb.cell 8
  have cb9 : w10.cell? ⟨gb, 9, none⟩ = some (.int .i64 b.low) := Bb.cell 9
  have cb10 : w10.cell? ⟨gb, 10, none⟩ = some (.int .i64 b.high) := Bb.cell 10
  have fb := Bb.frozen; have lb := Bb.lt
  clear cp24 cp25
  go_wp2_with fail
  clear  fp lp
  clear  fr lr
  clear  fq lq
  clear ca0 ca1 ca2 ca3 ca4 ca5 ca6 ca7 ca8 ca9 ca10 fa la
  clear cb0 cb1 cb2 cb3 cb4 cb5 cb6 cb7 cb8 cb9 cb10 fb lb
  replace Bp : Blk ((((((w10.setCell ⟨gb, 1, none⟩ (uv jb.b.v)).setCell ⟨gb, 2, none⟩ (uv jb.b.m)).setCell ⟨gb, 3, none⟩ (uv jb.lo)).setCell ⟨gb, 4, none⟩ (uv jb.hi)).setCell ⟨gb, 5, none⟩ (sv jb.sl)).setCell ⟨gb, 6, none⟩ (sv jb.sh)) (w.heap.size) 66 (#[.int .i64 a.kind, uv a.r.b.v, uv a.r.b.m, uv a.r.lo, uv a.r.hi, sv a.r.sl, sv a.r.sh, .int .i64 a.slot, .int .i64 a.id, .int .i64 a.low, .int .i64 a.high, .int .i64 b.kind, uv b.r.b.v, uv b.r.b.m, uv b.r.lo, uv b.r.hi, sv b.r.sl, sv b.r.sh, .int .i64 b.slot, .int .i64 b.id, .int .i64 b.low, .int .i64 b.high, uv n0, uv n1, uv m0, uv m1]) := ((((((Bp.far (by first | (simp; done) | (simp; omega) | (simp [*]; done) | (simp only [ne_eq]; constructor <;> omega)) _).far (by first | (simp; done) | (simp; omega) | (simp [*]; done) | (simp only [ne_eq]; constructor <;> omega)) _).far (by first | (simp; done) | (simp; omega) | (simp [*]; done) | (simp only [ne_eq]; constructor <;> omega)) _).far (by first | (simp; done) | (simp; omega) | (simp [*]; done) | (simp only [ne_eq]; constructor <;> omega)) _).far (by first | (simp; done) | (simp; omega) | (simp [*]; done) | (simp only [ne_eq]; constructor <;> omega)) _).far (by first | (simp; done) | (simp; omega) | (simp [*]; done) | (simp only [ne_eq]; constructor <;> omega)) _)
  replace Br : Blk ((((((w10.setCell ⟨gb, 1, none⟩ (uv jb.b.v)).setCell ⟨gb, 2, none⟩ (uv jb.b.m)).setCell ⟨gb, 3, none⟩ (uv jb.lo)).setCell ⟨gb, 4, none⟩ (uv jb.hi)).setCell ⟨gb, 5, none⟩ (sv jb.sl)).setCell ⟨gb, 6, none⟩ (sv jb.sh)) (w.heap.size + 1) 29 (#[.int .i64 0, .int .u64 0, .int .u64 0, .int .u64 0, .int .u64 0, .int .i64 0, .int .i64 0, .int .i64 0, .int .i64 0, .int .i64 0, .int .i64 0]) := ((((((Br.far (by first | (simp; done) | (simp; omega) | (simp [*]; done) | (simp only [ne_eq]; constructor <;> omega)) _).far (by first | (simp; done) | (simp; omega) | (simp [*]; done) | (simp only [ne_eq]; constructor <;> omega)) _).far (by first | (simp; done) | (simp; omega) | (simp [*]; done) | (simp only [ne_eq]; constructor <;> omega)) _).far (by first | (simp; done) | (simp; omega) | (simp [*]; done) | (simp only [ne_eq]; constructor <;> omega)) _).far (by first | (simp; done) | (simp; omega) | (simp [*]; done) | (simp only [ne_eq]; constructor <;> omega)) _).far (by first | (simp; done) | (simp; omega) | (simp [*]; done) | (simp only [ne_eq]; constructor <;> omega)) _)
  replace Bq : Blk ((((((w10.setCell ⟨gb, 1, none⟩ (uv jb.b.v)).setCell ⟨gb, 2, none⟩ (uv jb.b.m)).setCell ⟨gb, 3, none⟩ (uv jb.lo)).setCell ⟨gb, 4, none⟩ (uv jb.hi)).setCell ⟨gb, 5, none⟩ (sv jb.sl)).setCell ⟨gb, 6, none⟩ (sv jb.sh)) (w.heap.size + 1 + 1) 29 (#[.int .i64 0, .int .u64 0, .int .u64 0, .int .u64 0, .int .u64 0, .int .i64 0, .int .i64 0, .int .i64 0, .int .i64 0, .int .i64 0, .int .i64 0]) := ((((((Bq.far (by first | (simp; done) | (simp; omega) | (simp [*]; done) | (simp only [ne_eq]; constructor <;> omega)) _).far (by first | (simp; done) | (simp; omega) | (simp [*]; done) | (simp only [ne_eq]; constructor <;> omega)) _).far (by first | (simp; done) | (simp; omega) | (simp [*]; done) | (simp only [ne_eq]; constructor <;> omega)) _).far (by first | (simp; done) | (simp; omega) | (simp [*]; done) | (simp only [ne_eq]; constructor <;> omega)) _).far (by first | (simp; done) | (simp; omega) | (simp [*]; done) | (simp only [ne_eq]; constructor <;> omega)) _).far (by first | (simp; done) | (simp; omega) | (simp [*]; done) | (simp only [ne_eq]; constructor <;> omega)) _)
  replace Ba : Blk ((((((w10.setCell ⟨gb, 1, none⟩ (uv jb.b.v)).setCell ⟨gb, 2, none⟩ (uv jb.b.m)).setCell ⟨gb, 3, none⟩ (uv jb.lo)).setCell ⟨gb, 4, none⟩ (uv jb.hi)).setCell ⟨gb, 5, none⟩ (sv jb.sl)).setCell ⟨gb, 6, none⟩ (sv jb.sh)) (ga) 29 #[.int .i64 (ka : Int), uv ja.b.v, uv ja.b.m, uv ja.lo, uv ja.hi, sv ja.sl, sv ja.sh, .int .i64 a.slot, .int .i64 a.id, .int .i64 a.low, .int .i64 a.high] := ((((((Ba.far (by first | (simp; done) | (simp; omega) | (simp [*]; done) | (simp only [ne_eq]; constructor <;> omega)) _).far (by first | (simp; done) | (simp; omega) | (simp [*]; done) | (simp only [ne_eq]; constructor <;> omega)) _).far (by first | (simp; done) | (simp; omega) | (simp [*]; done) | (simp only [ne_eq]; constructor <;> omega)) _).far (by first | (simp; done) | (simp; omega) | (simp [*]; done) | (simp only [ne_eq]; constructor <;> omega)) _).far (by first | (simp; done) | (simp; omega) | (simp [*]; done) | (simp only [ne_eq]; constructor <;> omega)) _).far (by first | (simp; done) | (simp; omega) | (simp [*]; done) | (simp only [ne_eq]; constructor <;> omega)) _)
  replace Bb : Blk ((((((w10.setCell ⟨gb, 1, none⟩ (uv jb.b.v)).setCell ⟨gb, 2, none⟩ (uv jb.b.m)).setCell ⟨gb, 3, none⟩ (uv jb.lo)).setCell ⟨gb, 4, none⟩ (uv jb.hi)).setCell ⟨gb, 5, none⟩ (sv jb.sl)).setCell ⟨gb, 6, none⟩ (sv jb.sh)) (gb) 29 #[.int .i64 (kb : Int), uv jb.b.v, uv jb.b.m, uv jb.lo, uv jb.hi, sv jb.sl, sv jb.sh, .int .i64 b.slot, .int .i64 b.id, .int .i64 b.low, .int .i64 b.high] := ((((((Bb.set_ 1 _).set_ 2 _).set_ 3 _).set_ 4 _).set_ 5 _).set_ 6 _)
  replace hB : Below w.heap.size w ((((((w10.setCell ⟨gb, 1, none⟩ (uv jb.b.v)).setCell ⟨gb, 2, none⟩ (uv jb.b.m)).setCell ⟨gb, 3, none⟩ (uv jb.lo)).setCell ⟨gb, 4, none⟩ (uv jb.hi)).setCell ⟨gb, 5, none⟩ (sv jb.sl)).setCell ⟨gb, 6, none⟩ (sv jb.sh)) := (Bl_set (Bl_set (Bl_set (Bl_set (Bl_set (Bl_set hB (by first | omega | (simp; done) | (simp; omega)) _) (by first | omega | (simp; done) | (simp; omega)) _) (by first | omega | (simp; done) | (simp; omega)) _) (by first | omega | (simp; done) | (simp; omega)) _) (by first | omega | (simp; done) | (simp; omega)) _) (by first | omega | (simp; done) | (simp; omega)) _)
  generalize ((((((w10.setCell ⟨gb, 1, none⟩ (uv jb.b.v)).setCell ⟨gb, 2, none⟩ (uv jb.b.m)).setCell ⟨gb, 3, none⟩ (uv jb.lo)).setCell ⟨gb, 4, none⟩ (uv jb.hi)).setCell ⟨gb, 5, none⟩ (sv jb.sl)).setCell ⟨gb, 6, none⟩ (sv jb.sh)) = w11 at *
  have fp := Bp.frozen; have lp := Bp.lt
  have fr := Br.frozen; have lr := Br.lt
  have fq := Bq.frozen; have lq := Bq.lt
  have ca0 : w11.cell? ⟨ga, 0, none⟩ = some (.int .i64 (ka : Int)) := Ba.cell 0
  have ca1 : w11.cell? ⟨ga, 1, none⟩ = some (uv ja.b.v) := Ba.cell 1
  have ca2 : w11.cell? ⟨ga, 2, none⟩ = some (uv ja.b.m) := Ba.cell 2
  have ca3 : w11.cell? ⟨ga, 3, none⟩ = some (uv ja.lo) := Ba.cell 3
  have ca4 : w11.cell? ⟨ga, 4, none⟩ = some (uv ja.hi) := Ba.cell 4
  have ca5 : w11.cell? ⟨ga, 5, none⟩ = some (sv ja.sl) := Ba.cell 5
  have ca6 : w11.cell? ⟨ga, 6, none⟩ = some (sv ja.sh) := Ba.cell 6
  have ca7 : w11.cell? ⟨ga, 7, none⟩ = some (.int .i64 a.slot) := Ba.cell 7
  have ca8 : w11.cell? ⟨ga, 8, none⟩ = some (.int .i64 a.id) := Ba.cell 8
  have ca9 : w11.cell? ⟨ga, 9, none⟩ = some (.int .i64 a.low) := Ba.cell 9
  have ca10 : w11.cell? ⟨ga, 10, none⟩ = some (.int .i64 a.high) := Ba.cell 10
  have fa := Ba.frozen; have la := Ba.lt
  have cb0 : w11.cell? ⟨gb, 0, none⟩ = some (.int .i64 (kb : Int)) := Bb.cell 0
  have cb1 : w11.cell? ⟨gb, 1, none⟩ = some (uv jb.b.v) := Bb.cell 1
  have cb2 : w11.cell? ⟨gb, 2, none⟩ = some (uv jb.b.m) := Bb.cell 2
  have cb3 : w11.cell? ⟨gb, 3, none⟩ = some (uv jb.lo) := Bb.cell 3
  have cb4 : w11.cell? ⟨gb, 4, none⟩ = some (uv jb.hi) := Bb.cell 4
  have cb5 : w11.cell? ⟨gb, 5, none⟩ = some (sv jb.sl) := Bb.cell 5
  have cb6 : w11.cell? ⟨gb, 6, none⟩ = some (sv jb.sh) := Bb.cell 6
  have cb7 : w11.cell? ⟨gb, 7, none⟩ = some (.int .i64 b.slot) := Bb.cell 7
  have cb8 : w11.cell? ⟨gb, 8, none⟩ = some (.int .i64 b.id) := Bb.cell 8
  have cb9 : w11.cell? ⟨gb, 9, none⟩ = some (.int .i64 b.low) := Bb.cell 9
  have cb10 : w11.cell? ⟨gb, 10, none⟩ = some (.int .i64 b.high) := Bb.cell 10
  have fb := Bb.frozen; have lb := Bb.lt
  clear k_m0 k_m1 k_jb
  go_wp2_with fail
  clear  fp lp
  clear  fr lr
  clear  fq lq
  clear ca0 ca1 ca2 ca3 ca4 ca5 ca6 ca7 ca8 ca9 ca10 fa la
  clear cb0 cb1 cb2 cb3 cb4 cb5 cb6 cb7 cb8 cb9 cb10 fb lb
  obtain ⟨I, hI⟩ : ∃ I : World → Prop, ∀ wv, I wv ↔ (Below w.heap.size w wv ∧ Loose wv (w.heap.size + 1) 29 (#[.int .i64 0, .int .u64 0, .int .u64 0, .int .u64 0, .int .u64 0, .int .i64 0, .int .i64 0, .int .i64 0, .int .i64 0, .int .i64 0, .int .i64 0]) (free2 0 ((#[.int .i64 (ka : Int), uv ja.b.v, uv ja.b.m, uv ja.lo, uv ja.hi, sv ja.sl, sv ja.sh, .int .i64 a.slot, .int .i64 a.id, .int .i64 a.low, .int .i64 a.high] : Array Value)).toList.length 0 0) ∧ Loose wv (w.heap.size + 1 + 1) 29 (#[.int .i64 0, .int .u64 0, .int .u64 0, .int .u64 0, .int .u64 0, .int .i64 0, .int .i64 0, .int .i64 0, .int .i64 0, .int .i64 0, .int .i64 0]) (free2 0 ((#[.int .i64 (kb : Int), uv jb.b.v, uv jb.b.m, uv jb.lo, uv jb.hi, sv jb.sl, sv jb.sh, .int .i64 b.slot, .int .i64 b.id, .int .i64 b.low, .int .i64 b.high] : Array Value)).toList.length 0 0) ∧ Blk wv (w.heap.size) 66 (#[.int .i64 a.kind, uv a.r.b.v, uv a.r.b.m, uv a.r.lo, uv a.r.hi, sv a.r.sl, sv a.r.sh, .int .i64 a.slot, .int .i64 a.id, .int .i64 a.low, .int .i64 a.high, .int .i64 b.kind, uv b.r.b.v, uv b.r.b.m, uv b.r.lo, uv b.r.hi, sv b.r.sl, sv b.r.sh, .int .i64 b.slot, .int .i64 b.id, .int .i64 b.low, .int .i64 b.high, uv n0, uv n1, uv m0, uv m1]) ∧ Blk wv (ga) 29 #[.int .i64 (ka : Int), uv ja.b.v, uv ja.b.m, uv ja.lo, uv ja.hi, sv ja.sl, sv ja.sh, .int .i64 a.slot, .int .i64 a.id, .int .i64 a.low, .int .i64 a.high] ∧ Blk wv (gb) 29 #[.int .i64 (kb : Int), uv jb.b.v, uv jb.b.m, uv jb.lo, uv jb.hi, sv jb.sl, sv jb.sh, .int .i64 b.slot, .int .i64 b.id, .int .i64 b.low, .int .i64 b.high]) := ⟨_, fun _ => Iff.rfl⟩
  obtain ⟨D, hD⟩ : ∃ D : Nat → World → Prop, ∀ k wv, D k wv ↔ ((k = 2 → Has wv (w.heap.size + 1) 29 0 ((#[.int .i64 (ka : Int), uv ja.b.v, uv ja.b.m, uv ja.lo, uv ja.hi, sv ja.sl, sv ja.sh, .int .i64 a.slot, .int .i64 a.id, .int .i64 a.low, .int .i64 a.high] : Array Value)).toList) ∧ (k = 3 → Has wv (w.heap.size + 1 + 1) 29 0 ((#[.int .i64 (kb : Int), uv jb.b.v, uv jb.b.m, uv jb.lo, uv jb.hi, sv jb.sl, sv jb.sh, .int .i64 b.slot, .int .i64 b.id, .int .i64 b.low, .int .i64 b.high] : Array Value)).toList)) := ⟨_, fun _ _ => Iff.rfl⟩
  have hI0 : I w11 := (hI _).2 ⟨hB, Loose.of Br _, Loose.of Bq _, Bp, Ba, Bb⟩
  have lp := Bp.lt; clear Bp
  have lr := Br.lt; clear Br
  have lq := Bq.lt; clear Bq
  have la := Ba.lt; clear Ba
  have lb := Bb.lt; clear Bb
  have iBp : ∀ g : In I, Blk g.w (w.heap.size) 66 (#[.int .i64 a.kind, uv a.r.b.v, uv a.r.b.m, uv a.r.lo, uv a.r.hi, sv a.r.sl, sv a.r.sh, .int .i64 a.slot, .int .i64 a.id, .int .i64 a.low, .int .i64 a.high, .int .i64 b.kind, uv b.r.b.v, uv b.r.b.m, uv b.r.lo, uv b.r.hi, sv b.r.sl, sv b.r.sh, .int .i64 b.slot, .int .i64 b.id, .int .i64 b.low, .int .i64 b.high, uv n0, uv n1, uv m0, uv m1]) := fun g => ((hI _).1 g.is).2.2.2.1
  have iBa : ∀ g : In I, Blk g.w (ga) 29 #[.int .i64 (ka : Int), uv ja.b.v, uv ja.b.m, uv ja.lo, uv ja.hi, sv ja.sl, sv ja.sh, .int .i64 a.slot, .int .i64 a.id, .int .i64 a.low, .int .i64 a.high] := fun g => ((hI _).1 g.is).2.2.2.2.1
  have ca0 : ∀ g : In I, g.w.cell? ⟨ga, 0, none⟩ = some (.int .i64 (ka : Int)) := fun g => (iBa g).cell 0
  have ca1 : ∀ g : In I, g.w.cell? ⟨ga, 1, none⟩ = some (uv ja.b.v) := fun g => (iBa g).cell 1
  have ca2 : ∀ g : In I, g.w.cell? ⟨ga, 2, none⟩ = some (uv ja.b.m) := fun g => (iBa g).cell 2
  have ca3 : ∀ g : In I, g.w.cell? ⟨ga, 3, none⟩ = some (uv ja.lo) := fun g => (iBa g).cell 3
  have ca4 : ∀ g : In I, g.w.cell? ⟨ga, 4, none⟩ = some (uv ja.hi) := fun g => (iBa g).cell 4
  have ca5 : ∀ g : In I, g.w.cell? ⟨ga, 5, none⟩ = some (sv ja.sl) := fun g => (iBa g).cell 5
  have ca6 : ∀ g : In I, g.w.cell? ⟨ga, 6, none⟩ = some (sv ja.sh) := fun g => (iBa g).cell 6
  have ca7 : ∀ g : In I, g.w.cell? ⟨ga, 7, none⟩ = some (.int .i64 a.slot) := fun g => (iBa g).cell 7
  have ca8 : ∀ g : In I, g.w.cell? ⟨ga, 8, none⟩ = some (.int .i64 a.id) := fun g => (iBa g).cell 8
  have ca9 : ∀ g : In I, g.w.cell? ⟨ga, 9, none⟩ = some (.int .i64 a.low) := fun g => (iBa g).cell 9
  have ca10 : ∀ g : In I, g.w.cell? ⟨ga, 10, none⟩ = some (.int .i64 a.high) := fun g => (iBa g).cell 10
  have iBb : ∀ g : In I, Blk g.w (gb) 29 #[.int .i64 (kb : Int), uv jb.b.v, uv jb.b.m, uv jb.lo, uv jb.hi, sv jb.sl, sv jb.sh, .int .i64 b.slot, .int .i64 b.id, .int .i64 b.low, .int .i64 b.high] := fun g => ((hI _).1 g.is).2.2.2.2.2
  have cb0 : ∀ g : In I, g.w.cell? ⟨gb, 0, none⟩ = some (.int .i64 (kb : Int)) := fun g => (iBb g).cell 0
  have cb1 : ∀ g : In I, g.w.cell? ⟨gb, 1, none⟩ = some (uv jb.b.v) := fun g => (iBb g).cell 1
  have cb2 : ∀ g : In I, g.w.cell? ⟨gb, 2, none⟩ = some (uv jb.b.m) := fun g => (iBb g).cell 2
  have cb3 : ∀ g : In I, g.w.cell? ⟨gb, 3, none⟩ = some (uv jb.lo) := fun g => (iBb g).cell 3
  have cb4 : ∀ g : In I, g.w.cell? ⟨gb, 4, none⟩ = some (uv jb.hi) := fun g => (iBb g).cell 4
  have cb5 : ∀ g : In I, g.w.cell? ⟨gb, 5, none⟩ = some (sv jb.sl) := fun g => (iBb g).cell 5
  have cb6 : ∀ g : In I, g.w.cell? ⟨gb, 6, none⟩ = some (sv jb.sh) := fun g => (iBb g).cell 6
  have cb7 : ∀ g : In I, g.w.cell? ⟨gb, 7, none⟩ = some (.int .i64 b.slot) := fun g => (iBb g).cell 7
  have cb8 : ∀ g : In I, g.w.cell? ⟨gb, 8, none⟩ = some (.int .i64 b.id) := fun g => (iBb g).cell 8
  have cb9 : ∀ g : In I, g.w.cell? ⟨gb, 9, none⟩ = some (.int .i64 b.low) := fun g => (iBb g).cell 9
  have cb10 : ∀ g : In I, g.w.cell? ⟨gb, 10, none⟩ = some (.int .i64 b.high) := fun g => (iBb g).cell 10
  have hIg : ∀ x y, Grows x y → I x → I y := fun x y hg hx => by
    obtain ⟨hb, hL0, hL1, m0, m1, m2⟩ := (hI _).1 hx
    exact (hI _).2 ⟨Bl_trans hb hg, hL0.next hg, hL1.next hg, m0.next hg, m1.next hg, m2.next hg⟩
  have hDg : ∀ k x y, Grows x y → D k x → D k y := fun k x y hg hx => by
    have d := (hD _ _).1 hx
    exact (hD _ _).2 ⟨fun e => (d.1 e).next hg, fun e => (d.2 e).next hg⟩
  have hDt : ∀ k, (k == 2 || k == 3) = false → ∀ x, D k x := fun k hk x => (hD _ _).2 ⟨fun e => by subst e; simp at hk, fun e => by subst e; simp at hk⟩
  have hS2 : ∀ (g : In I) {o : Oper} {ρ : Operand → Value}, o.op = .store 29 (.tmp 2) (.tmp 42) → ρ (.tmp 2) = .pointer (some ⟨w.heap.size + 1, 0, none⟩) → ρ (.tmp 42) = .agg (#[.int .i64 (ka : Int), uv ja.b.v, uv ja.b.m, uv ja.lo, uv ja.hi, sv ja.sl, sv ja.sh, .int .i64 a.slot, .int .i64 a.id, .int .i64 a.low, .int .i64 a.high] : Array Value) → ∃ w', (execOp ρ o).run Try.prog g.w = .ok .skip w' ∧ I w' ∧ D 2 w' ∧ ∀ j, D j g.w → D j w' := fun g o ρ ho hp hv => by
    obtain ⟨hb, hL0, hL1, m0, m1, m2⟩ := (hI _).1 g.is
    obtain ⟨w', hrun, hL', hH, hkeep, hoth, hbel⟩ := run_store_loose 29 (.tmp 2) (.tmp 42) ho (w.heap.size + 1) 0 29 (#[.int .i64 0, .int .u64 0, .int .u64 0, .int .u64 0, .int .u64 0, .int .i64 0, .int .i64 0, .int .i64 0, .int .i64 0, .int .i64 0, .int .i64 0]) (#[.int .i64 (ka : Int), uv ja.b.v, uv ja.b.m, uv ja.lo, uv ja.hi, sv ja.sl, sv ja.sh, .int .i64 a.slot, .int .i64 a.id, .int .i64 a.low, .int .i64 a.high] : Array Value) _ hp hv hL0 (size_re _ _ _ _ _ _ _ _ _ _ _) (by simp) (fun i h1 h2 => free2_l h1 (by simpa using h2)) (by simp [Value.oneCell'])
    refine ⟨w', hrun, (hI _).2 ⟨hbel _ _ hb (by first | omega | (simp; omega)), hL', hL1.same (hoth _ (by first | (simp; done) | (simp; omega) | (simp [*]; done) | (simp only [ne_eq]; constructor <;> omega))), (hoth _ (by first | (simp; done) | (simp; omega) | (simp [*]; done) | (simp only [ne_eq]; constructor <;> omega))).trans m0, (hoth _ (by first | (simp; done) | (simp; omega) | (simp [*]; done) | (simp only [ne_eq]; constructor <;> omega))).trans m1, (hoth _ (by first | (simp; done) | (simp; omega) | (simp [*]; done) | (simp only [ne_eq]; constructor <;> omega))).trans m2⟩, (hD _ _).2 ?_, fun j hj => (hD _ _).2 ?_⟩
    · exact ⟨fun _ => hH, fun e => absurd e (by decide)⟩
    · have d := (hD _ _).1 hj; exact ⟨fun _ => hH, fun e => (d.2 e).same (hoth _ (by first | (simp; done) | (simp; omega) | (simp [*]; done) | (simp only [ne_eq]; constructor <;> omega)))⟩
  have hS3 : ∀ (g : In I) {o : Oper} {ρ : Operand → Value}, o.op = .store 29 (.tmp 3) (.tmp 43) → ρ (.tmp 3) = .pointer (some ⟨w.heap.size + 1 + 1, 0, none⟩) → ρ (.tmp 43) = .agg (#[.int .i64 (kb : Int), uv jb.b.v, uv jb.b.m, uv jb.lo, uv jb.hi, sv jb.sl, sv jb.sh, .int .i64 b.slot, .int .i64 b.id, .int .i64 b.low, .int .i64 b.high] : Array Value) → ∃ w', (execOp ρ o).run Try.prog g.w = .ok .skip w' ∧ I w' ∧ D 3 w' ∧ ∀ j, D j g.w → D j w' := fun g o ρ ho hp hv => by
    obtain ⟨hb, hL0, hL1, m0, m1, m2⟩ := (hI _).1 g.is
    obtain ⟨w', hrun, hL', hH, hkeep, hoth, hbel⟩ := run_store_loose 29 (.tmp 3) (.tmp 43) ho (w.heap.size + 1 + 1) 0 29 (#[.int .i64 0, .int .u64 0, .int .u64 0, .int .u64 0, .int .u64 0, .int .i64 0, .int .i64 0, .int .i64 0, .int .i64 0, .int .i64 0, .int .i64 0]) (#[.int .i64 (kb : Int), uv jb.b.v, uv jb.b.m, uv jb.lo, uv jb.hi, sv jb.sl, sv jb.sh, .int .i64 b.slot, .int .i64 b.id, .int .i64 b.low, .int .i64 b.high] : Array Value) _ hp hv hL1 (size_re _ _ _ _ _ _ _ _ _ _ _) (by simp) (fun i h1 h2 => free2_l h1 (by simpa using h2)) (by simp [Value.oneCell'])
    refine ⟨w', hrun, (hI _).2 ⟨hbel _ _ hb (by first | omega | (simp; omega)), hL0.same (hoth _ (by first | (simp; done) | (simp; omega) | (simp [*]; done) | (simp only [ne_eq]; constructor <;> omega))), hL', (hoth _ (by first | (simp; done) | (simp; omega) | (simp [*]; done) | (simp only [ne_eq]; constructor <;> omega))).trans m0, (hoth _ (by first | (simp; done) | (simp; omega) | (simp [*]; done) | (simp only [ne_eq]; constructor <;> omega))).trans m1, (hoth _ (by first | (simp; done) | (simp; omega) | (simp [*]; done) | (simp only [ne_eq]; constructor <;> omega))).trans m2⟩, (hD _ _).2 ?_, fun j hj => (hD _ _).2 ?_⟩
    · exact ⟨fun e => absurd e (by decide), fun _ => hH⟩
    · have d := (hD _ _).1 hj; exact ⟨fun e => (d.1 e).same (hoth _ (by first | (simp; done) | (simp; omega) | (simp [*]; done) | (simp only [ne_eq]; constructor <;> omega))), fun _ => hH⟩
  refine wp_region_mixP I D (fun k => k == 2 || k == 3) (by kernel_rfl) (by kernel_rfl) (by kernel_rfl) hI0 hIg hDg hDt ?_
  have hne_I : Nonempty (In I) := ⟨⟨_, hI0⟩⟩
  clear hIg hDg hDt hI0
  repeat (first | (refine wpMixP_part rfl rfl 29 (.tmp 4) rfl (ga) 0 rfl 29 #[.int .i64 (ka : Int), uv ja.b.v, uv ja.b.m, uv ja.lo, uv ja.hi, sv ja.sl, sv ja.sh, .int .i64 a.slot, .int .i64 a.id, .int .i64 a.low, .int .i64 a.high] #[.int .i64 (ka : Int), uv ja.b.v, uv ja.b.m, uv ja.lo, uv ja.hi, sv ja.sl, sv ja.sh, .int .i64 a.slot, .int .i64 a.id, .int .i64 a.low, .int .i64 a.high] _ iBa Try.underlying29 rfl (size_re _ _ _ _ _ _ _ _ _ _ _) (part_self _) ?_) | (refine wpMixP_part rfl rfl 29 (.tmp 5) rfl (gb) 0 rfl 29 #[.int .i64 (kb : Int), uv jb.b.v, uv jb.b.m, uv jb.lo, uv jb.hi, sv jb.sl, sv jb.sh, .int .i64 b.slot, .int .i64 b.id, .int .i64 b.low, .int .i64 b.high] #[.int .i64 (kb : Int), uv jb.b.v, uv jb.b.m, uv jb.lo, uv jb.hi, sv jb.sl, sv jb.sh, .int .i64 b.slot, .int .i64 b.id, .int .i64 b.low, .int .i64 b.high] _ iBb Try.underlying29 rfl (size_re _ _ _ _ _ _ _ _ _ _ _) (part_self _) ?_) | ((with_reducible refine wpMixP_step (fun K hK => ?_)); go_simp; first | ((with_reducible refine hK _ ?_); clear hK K) | (rw [if_neg (by decide)]; (with_reducible refine hK _ ?_); clear hK K) | (refine ⟨⟨rfl, fun g => ?_⟩, hK _ ?_⟩; (exact hS2 g rfl rfl rfl); clear hK K) | (refine ⟨⟨rfl, fun g => ?_⟩, hK _ ?_⟩; (exact hS3 g rfl rfl rfl); clear hK K)))
  refine wpMixP_nil ?_
  intro w12 hIw hDw
  clear hB hS2 hS3 iBp iBa iBb ca0 ca1 ca2 ca3 ca4 ca5 ca6 ca7 ca8 ca9 ca10 cb0 cb1 cb2 cb3 cb4 cb5 cb6 cb7 cb8 cb9 cb10
  obtain ⟨hB, hL0, hL1, Bp, Ba, Bb⟩ := (hI _).1 hIw
  have hBb := hL0.close1 (((hD _ _).1 (hDw 2 (by decide))).1 rfl) (by simp)
  have Br : Blk w12 (w.heap.size + 1) 29 #[.int .i64 (ka : Int), uv ja.b.v, uv ja.b.m, uv ja.lo, uv ja.hi, sv ja.sl, sv ja.sh, .int .i64 a.slot, .int .i64 a.id, .int .i64 a.low, .int .i64 a.high] := by simpa [setL] using hBb
  clear hBb hL0
  have hBb := hL1.close1 (((hD _ _).1 (hDw 3 (by decide))).2 rfl) (by simp)
  have Bq : Blk w12 (w.heap.size + 1 + 1) 29 #[.int .i64 (kb : Int), uv jb.b.v, uv jb.b.m, uv jb.lo, uv jb.hi, sv jb.sl, sv jb.sh, .int .i64 b.slot, .int .i64 b.id, .int .i64 b.low, .int .i64 b.high] := by simpa [setL] using hBb
  clear hBb hL1
  clear hne_I hIw hDw hI hD I D lp lr lq la lb
  have fp := Bp.frozen; have lp := Bp.lt
  have cr0 : w12.cell? ⟨w.heap.size + 1, 0, none⟩ = some (.int .i64 (ka : Int)) := Br.cell 0
  have cr1 : w12.cell? ⟨w.heap.size + 1, 1, none⟩ = some (uv ja.b.v) := Br.cell 1
  have cr2 : w12.cell? ⟨w.heap.size + 1, 2, none⟩ = some (uv ja.b.m) := Br.cell 2
  have cr3 : w12.cell? ⟨w.heap.size + 1, 3, none⟩ = some (uv ja.lo) := Br.cell 3
  have cr4 : w12.cell? ⟨w.heap.size + 1, 4, none⟩ = some (uv ja.hi) := Br.cell 4
  have cr5 : w12.cell? ⟨w.heap.size + 1, 5, none⟩ = some (sv ja.sl) := Br.cell 5
  have cr6 : w12.cell? ⟨w.heap.size + 1, 6, none⟩ = some (sv ja.sh) := Br.cell 6
  have cr7 : w12.cell? ⟨w.heap.size + 1, 7, none⟩ = some (.int .i64 a.slot) := Br.cell 7
  have cr8 : w12.cell? ⟨w.heap.size + 1, 8, none⟩ = some (.int .i64 a.id) := Br.cell 8
  have cr9 : w12.cell? ⟨w.heap.size + 1, 9, none⟩ = some (.int .i64 a.low) := Br.cell 9
  have cr10 : w12.cell? ⟨w.heap.size + 1, 10, none⟩ = some (.int .i64 a.high) := Br.cell 10
  have fr := Br.frozen; have lr := Br.lt
  have cq0 : w12.cell? ⟨w.heap.size + 1 + 1, 0, none⟩ = some (.int .i64 (kb : Int)) := Bq.cell 0
  have cq1 : w12.cell? ⟨w.heap.size + 1 + 1, 1, none⟩ = some (uv jb.b.v) := Bq.cell 1
  have cq2 : w12.cell? ⟨w.heap.size + 1 + 1, 2, none⟩ = some (uv jb.b.m) := Bq.cell 2
  have cq3 : w12.cell? ⟨w.heap.size + 1 + 1, 3, none⟩ = some (uv jb.lo) := Bq.cell 3
  have cq4 : w12.cell? ⟨w.heap.size + 1 + 1, 4, none⟩ = some (uv jb.hi) := Bq.cell 4
  have cq5 : w12.cell? ⟨w.heap.size + 1 + 1, 5, none⟩ = some (sv jb.sl) := Bq.cell 5
  have cq6 : w12.cell? ⟨w.heap.size + 1 + 1, 6, none⟩ = some (sv jb.sh) := Bq.cell 6
  have cq7 : w12.cell? ⟨w.heap.size + 1 + 1, 7, none⟩ = some (.int .i64 b.slot) := Bq.cell 7
  have cq8 : w12.cell? ⟨w.heap.size + 1 + 1, 8, none⟩ = some (.int .i64 b.id) := Bq.cell 8
  have cq9 : w12.cell? ⟨w.heap.size + 1 + 1, 9, none⟩ = some (.int .i64 b.low) := Bq.cell 9
  have cq10 : w12.cell? ⟨w.heap.size + 1 + 1, 10, none⟩ = some (.int .i64 b.high) := Bq.cell 10
  have fq := Bq.frozen; have lq := Bq.lt
  have ca0 : w12.cell? ⟨ga, 0, none⟩ = some (.int .i64 (ka : Int)) := Ba.cell 0
  have ca1 : w12.cell? ⟨ga, 1, none⟩ = some (uv ja.b.v) := Ba.cell 1
  have ca2 : w12.cell? ⟨ga, 2, none⟩ = some (uv ja.b.m) := Ba.cell 2
  have ca3 : w12.cell? ⟨ga, 3, none⟩ = some (uv ja.lo) := Ba.cell 3
  have ca4 : w12.cell? ⟨ga, 4, none⟩ = some (uv ja.hi) := Ba.cell 4
  have ca5 : w12.cell? ⟨ga, 5, none⟩ = some (sv ja.sl) := Ba.cell 5
  have ca6 : w12.cell? ⟨ga, 6, none⟩ = some (sv ja.sh) := Ba.cell 6
  have ca7 : w12.cell? ⟨ga, 7, none⟩ = some (.int .i64 a.slot) := Ba.cell 7
  have ca8 : w12.cell? ⟨ga, 8, none⟩ = some (.int .i64 a.id) := Ba.cell 8
  have ca9 : w12.cell? ⟨ga, 9, none⟩ = some (.int .i64 a.low) := Ba.cell 9
  have ca10 : w12.cell? ⟨ga, 10, none⟩ = some (.int .i64 a.high) := Ba.cell 10
  have fa := Ba.frozen; have la := Ba.lt
  have cb0 : w12.cell? ⟨gb, 0, none⟩ = some (.int .i64 (kb : Int)) := Bb.cell 0
  have cb1 : w12.cell? ⟨gb, 1, none⟩ = some (uv jb.b.v) := Bb.cell 1
  have cb2 : w12.cell? ⟨gb, 2, none⟩ = some (uv jb.b.m) := Bb.cell 2
  have cb3 : w12.cell? ⟨gb, 3, none⟩ = some (uv jb.lo) := Bb.cell 3
  have cb4 : w12.cell? ⟨gb, 4, none⟩ = some (uv jb.hi) := Bb.cell 4
  have cb5 : w12.cell? ⟨gb, 5, none⟩ = some (sv jb.sl) := Bb.cell 5
  have cb6 : w12.cell? ⟨gb, 6, none⟩ = some (sv jb.sh) := Bb.cell 6
  have cb7 : w12.cell? ⟨gb, 7, none⟩ = some (.int .i64 b.slot) := Bb.cell 7
  have cb8 : w12.cell? ⟨gb, 8, none⟩ = some (.int .i64 b.id) := Bb.cell 8
  have cb9 : w12.cell? ⟨gb, 9, none⟩ = some (.int .i64 b.low) := Bb.cell 9
  have cb10 : w12.cell? ⟨gb, 10, none⟩ = some (.int .i64 b.high) := Bb.cell 10
  have fb := Bb.frozen; have lb := Bb.lt
  go_wp2
  exact bodyPost_ret (v := .tuple #[.agg #[.int .i64 (ka : Int), uv ja.b.v, uv ja.b.m, uv ja.lo, uv ja.hi, sv ja.sl, sv ja.sh, .int .i64 a.slot, .int .i64 a.id, .int .i64 a.low, .int .i64 a.high], .agg #[.int .i64 (kb : Int), uv jb.b.v, uv jb.b.m, uv jb.lo, uv jb.hi, sv jb.sl, sv jb.sh, .int .i64 b.slot, .int .i64 b.id, .int .i64 b.low, .int .i64 b.high]]) (by simp [results, Try.results30, go_sem, cr0, cr1, cr2, cr3, cr4, cr5, cr6, cr7, cr8, cr9, cr10, cq0, cq1, cq2, cq3, cq4, cq5, cq6, cq7, cq8, cq9, cq10, lr, lq]) rfl ⟨rfl, by repeat (first | (with_reducible exact hB) | (with_reducible refine Bl_set ?_ (by first | omega | (simp; done) | (simp; omega)) _) | with_reducible apply Bl_alloc)⟩
end Go.Proofs.Ytmghpoagpiljhab
