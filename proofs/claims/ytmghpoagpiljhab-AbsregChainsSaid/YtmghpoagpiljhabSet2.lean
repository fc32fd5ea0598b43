/- The walk of absreg's Settle. -/
import Derived.Test.YtmghpoagpiljhabSet
set_option linter.unusedSimpArgs false
set_option linter.unusedVariables false
namespace Go.Proofs.Ytmghpoagpiljhab
namespace PlainAbs
theorem stR_kept (s : St) (id : Int) (cell : Bool) : ∀ j, (stR s id cell j).kept = s.kept
  | 0 => rfl
  | j + 1 => stR_kept s id cell j
theorem upd_upd {α : Type} (f : Nat → α) (i : Nat) (x y : α) : upd (upd f i x) i y = upd f i y := by
  funext j; unfold upd; by_cases h : j = i <;> simp [h]
end PlainAbs
open Go.RowKit
open PlainTnum (N)
open PlainScalar (Rng)
open PlainAbs (Rg St zr zs upd Im)
theorem ld6 {j k : Nat} (hj : j < 8) (hk : k < 8) : wrap64 ((j : Int) * 8) = ((8 * j : Nat) : Int) ∧ wrap64 (((8 * j : Nat) : Int) + (k : Int)) = ((8 * j + k : Nat) : Int) ∧ ((8 * j + k : Nat) : Int) < 64 ∧ 8 * j + k < 64 := by
  refine ⟨?_, ?_, ?_, ?_⟩ <;> first | omega | (rw [IntWalk.wrap64_in _ (by constructor <;> omega)]; omega)
set_option maxRecDepth 100000 in
set_option maxHeartbeats 3200000 in
theorem settle_s (s : St) (id : Int) (cell : Bool) (w : World) : Calls Try.prog 33 #[.agg (stv s), .int .i64 id, .bool cell] w fun e w' => e = .returned (.agg (stv (PlainAbs.settleS s id cell))) ∧ Below w.heap.size w w' := by
  obtain ⟨F, e1⟩ : ∃ F, F = PlainAbs.stR s id cell := ⟨_, rfl⟩
  obtain ⟨G, e2⟩ : ∃ G, G = PlainAbs.stK s id cell := ⟨_, rfl⟩
  rw [show PlainAbs.settleS s id cell = G 8 by rw [e2]; rfl]
  have X0 := Lib.hid (show F 0 = s by rw [e1]; rfl)
  have X1 := Lib.hid (show ∀ j, F (j + 1) = { F j with r := upd (F j).r j (PlainAbs.setl (s.r j) id cell) } from fun j => by rw [e1]; rfl)
  have XK := Lib.hid (show (F 11).kept = s.kept by rw [e1]; exact PlainAbs.stR_kept s id cell 11)
  have Y0 := Lib.hid (show G 0 = F 11 by rw [e2, e1]; rfl)
  have Y1 := Lib.hid (show ∀ j, G (j + 1) = if ((PlainAbs.setl (s.kept j) id cell).kind == 1) = true then PlainAbs.mark { G j with kept := upd (G j).kept j zr } (8 * j) true 8 else { G j with kept := upd (G j).kept j (PlainAbs.setl (s.kept j) id cell) } from fun j => by rw [e2]; rfl)
  clear e1 e2
  have hz := zero_st
  go_enter Try.func33, Try.ntmps33
  go_upto_region 1 with fail
  obtain ⟨gs, hgs⟩ : ∃ g, g = w.heap.size := ⟨_, rfl⟩
  obtain ⟨gr, hgr⟩ : ∃ g, g = w.heap.size + 1 := ⟨_, rfl⟩
  have Bs : Blk ((w.alloc (.cells (stv s) 34)).alloc (.cells (stv zs) 34)) (w.heap.size) 34 (stv s) := ((Blk.new w 34 (stv s))).alloc _
  have Br : Blk ((w.alloc (.cells (stv s) 34)).alloc (.cells (stv zs) 34)) (w.heap.size + 1) 34 (stv zs) := (by simpa using Blk.new (w.alloc (.cells (stv s) 34)) 34 (stv zs) : Blk _ (w.heap.size + 1) 34 (stv zs))
  have hB : Below w.heap.size w ((w.alloc (.cells (stv s) 34)).alloc (.cells (stv zs) 34)) := (Bl_alloc (Bl_alloc (Bl_refl w) _) _)
  clear hgs
  clear gs
  clear hgr
  clear gr
  generalize ((w.alloc (.cells (stv s) 34)).alloc (.cells (stv zs) 34)) = w1 at *
  have fs := Bs.frozen; have ls := Bs.lt
  have fr := Br.frozen; have lr := Br.lt
  clear hz
  go_wp2_with (refine wpList_load_part rfl 30 (.tmp 12) rfl (w.heap.size) 0 rfl 34 (stv s) (rsA s) _ Bs Try.underlying30 rfl (size_rs s) part_get ?_)
  clear  fs ls
  clear  fr lr
  go_loopg [14] 11 (fun m' i wr => ∃ j : Nat, j ≤ 11 ∧ m' + j = 11 ∧ i = .int .i64 (j : Int) ∧ Below w.heap.size w wr ∧ Blk wr (w.heap.size) 34 (stv (F j)) ∧ Blk wr (w.heap.size + 1) 34 (stv zs))
  case atStart => exact ⟨0, Nat.zero_le _, rfl, rfl, hB, by rw [X0.out]; exact Bs, Br⟩
  case round =>
    clear hB Bs Br
    obtain ⟨j, hj, hgk, rfl, hB, Bs, Br⟩ := hrel
    obtain ⟨wo, rfl⟩ : ∃ z : World, z = wr := ⟨_, rfl⟩
    have fs := Bs.frozen; have ls := Bs.lt
    have fr := Br.frozen; have lr := Br.lt
    by_cases hq : j < 11
    · have HJ := Lib.hid hq; have HG := Lib.hid hgk; clear hj hgk
      have hq1 : (j : Int) < 11 := ld5 hq
      obtain ⟨a, ha⟩ : ∃ a, a = s.r j := ⟨_, rfl⟩
      have hix := fun w => idx_r s w j hq; rw [← ha] at hix
      obtain ⟨X, hX⟩ : ∃ X, X = PlainAbs.setl a id cell := ⟨_, rfl⟩
      have k_s : ∀ w : World, Calls Try.prog 59 #[gv a, .int .i64 id, .bool cell] w fun e w' => e = .returned (gv X) ∧ Below w.heap.size w w' := fun w => by rw [hX]; exact asettled_c a id cell w
      have HX := Lib.hid (show PlainAbs.setl (s.r j) id cell = X by rw [hX, ha]); clear ha hX
      go_upto_region 4 with fail
      clear hix
      clear  fs ls
      clear  fr lr
      have Bq := Blk.new wo 29 #[.int .i64 a.kind, uv a.r.b.v, uv a.r.b.m, uv a.r.lo, uv a.r.hi, sv a.r.sl, sv a.r.sh, .int .i64 a.slot, .int .i64 a.id, .int .i64 a.low, .int .i64 a.high]
      have hgq := hB.size
      have hnsq := Nat.ne_of_lt Bs.lt; have hltsq := Bs.lt
      have hnrq := Nat.ne_of_lt Br.lt; have hltrq := Br.lt
      replace Bs : Blk (wo.alloc (.cells #[.int .i64 a.kind, uv a.r.b.v, uv a.r.b.m, uv a.r.lo, uv a.r.hi, sv a.r.sl, sv a.r.sh, .int .i64 a.slot, .int .i64 a.id, .int .i64 a.low, .int .i64 a.high] 29)) (w.heap.size) 34 (stv (F j)) := Bs.alloc _
      replace Br : Blk (wo.alloc (.cells #[.int .i64 a.kind, uv a.r.b.v, uv a.r.b.m, uv a.r.lo, uv a.r.hi, sv a.r.sl, sv a.r.sh, .int .i64 a.slot, .int .i64 a.id, .int .i64 a.low, .int .i64 a.high] 29)) (w.heap.size + 1) 34 (stv zs) := Br.alloc _
      replace hB : Below w.heap.size w (wo.alloc (.cells #[.int .i64 a.kind, uv a.r.b.v, uv a.r.b.m, uv a.r.lo, uv a.r.hi, sv a.r.sl, sv a.r.sh, .int .i64 a.slot, .int .i64 a.id, .int .i64 a.low, .int .i64 a.high] 29)) := Bl_alloc hB _
      generalize (wo.alloc (.cells #[.int .i64 a.kind, uv a.r.b.v, uv a.r.b.m, uv a.r.lo, uv a.r.hi, sv a.r.sl, sv a.r.sh, .int .i64 a.slot, .int .i64 a.id, .int .i64 a.low, .int .i64 a.high] 29)) = w2 at *
      generalize wo.heap.size = gq at *
      have fs := Bs.frozen; have ls := Bs.lt
      have fr := Br.frozen; have lr := Br.lt
      have cq0 : w2.cell? ⟨gq, 0, none⟩ = some (.int .i64 a.kind) := Bq.cell 0
      have cq1 : w2.cell? ⟨gq, 1, none⟩ = some (uv a.r.b.v) := Bq.cell 1
      have cq2 : w2.cell? ⟨gq, 2, none⟩ = some (uv a.r.b.m) := Bq.cell 2
      have cq3 : w2.cell? ⟨gq, 3, none⟩ = some (uv a.r.lo) := Bq.cell 3
      have cq4 : w2.cell? ⟨gq, 4, none⟩ = some (uv a.r.hi) := Bq.cell 4
      have cq5 : w2.cell? ⟨gq, 5, none⟩ = some (sv a.r.sl) := Bq.cell 5
      have cq6 : w2.cell? ⟨gq, 6, none⟩ = some (sv a.r.sh) := Bq.cell 6
      have cq7 : w2.cell? ⟨gq, 7, none⟩ = some (.int .i64 a.slot) := Bq.cell 7
      have cq8 : w2.cell? ⟨gq, 8, none⟩ = some (.int .i64 a.id) := Bq.cell 8
      have cq9 : w2.cell? ⟨gq, 9, none⟩ = some (.int .i64 a.low) := Bq.cell 9
      have cq10 : w2.cell? ⟨gq, 10, none⟩ = some (.int .i64 a.high) := Bq.cell 10
      have fq := Bq.frozen; have lq := Bq.lt
      go_wp2_with fail
      refine (k_s _).mono ?_
      rintro e w3 ⟨rfl, hb⟩
      clear  fs ls
      clear  fr lr
      clear cq0 cq1 cq2 cq3 cq4 cq5 cq6 cq7 cq8 cq9 cq10 fq lq
      replace Bs := (Bs).next hb
      replace Br := (Br).next hb
      replace Bq := (Bq).next hb
      replace hB : Below w.heap.size w w3 := by repeat (first | exact hB | (refine Bl_set ?_ (by first | omega | (simp; omega)) _) | apply Bl_alloc | (refine Bl_trans ?_ hb))
      clear hb
      have fs := Bs.frozen; have ls := Bs.lt
      have fr := Br.frozen; have lr := Br.lt
      have cq0 : w3.cell? ⟨gq, 0, none⟩ = some (.int .i64 a.kind) := Bq.cell 0
      have cq1 : w3.cell? ⟨gq, 1, none⟩ = some (uv a.r.b.v) := Bq.cell 1
      have cq2 : w3.cell? ⟨gq, 2, none⟩ = some (uv a.r.b.m) := Bq.cell 2
      have cq3 : w3.cell? ⟨gq, 3, none⟩ = some (uv a.r.lo) := Bq.cell 3
      have cq4 : w3.cell? ⟨gq, 4, none⟩ = some (uv a.r.hi) := Bq.cell 4
      have cq5 : w3.cell? ⟨gq, 5, none⟩ = some (sv a.r.sl) := Bq.cell 5
      have cq6 : w3.cell? ⟨gq, 6, none⟩ = some (sv a.r.sh) := Bq.cell 6
      have cq7 : w3.cell? ⟨gq, 7, none⟩ = some (.int .i64 a.slot) := Bq.cell 7
      have cq8 : w3.cell? ⟨gq, 8, none⟩ = some (.int .i64 a.id) := Bq.cell 8
      have cq9 : w3.cell? ⟨gq, 9, none⟩ = some (.int .i64 a.low) := Bq.cell 9
      have cq10 : w3.cell? ⟨gq, 10, none⟩ = some (.int .i64 a.high) := Bq.cell 10
      have fq := Bq.frozen; have lq := Bq.lt
      clear  fs ls
      clear  fr lr
      clear cq0 cq1 cq2 cq3 cq4 cq5 cq6 cq7 cq8 cq9 cq10 fq lq
      clear Bq k_s
      have fs := Bs.frozen; have ls := Bs.lt
      have fr := Br.frozen; have lr := Br.lt
      have HF := Lib.hid (show F (j + 1) = { F j with r := upd (F j).r j X } by rw [X1.out j, HX.out])
      go_wp2_with (refine wpList_store_part rfl 29 (.tmp 24) (.tmp 22) rfl (w.heap.size) (j * 11) _ rfl rfl 34 (stv (F j)) Bs (by kernel_rfl) (by rw [stv_size]; simp; try omega) (gl_one X) ?_)
      intro w4 hS
      clear  fs ls
      clear  fr lr
      replace Bs : Blk w4 (w.heap.size) 34 (stv (F (j + 1))) := by rw [HF.out]; rw [← set_r (F j) (k := j) hq X]; exact hS.blk
      replace Br := hS.far (by first | (simp; done) | (simp; omega) | (simp [*]; done) | (simp only [ne_eq]; constructor <;> omega)) Br
      replace hB := hS.bel hB (by first | omega | (simp; omega))
      clear hS
      have fs := Bs.frozen; have ls := Bs.lt
      have fr := Br.frozen; have lr := Br.lt
      clear hq1 hq
      go_wp2_with fail
      clear  fs ls
      clear  fr lr
      go_roundg (10 - j)
      case measure => exact ld1 HG.out HJ.out
      case rel => exact ⟨j + 1, HJ.out, ld2 HJ.out, (by first | rfl | (rw [ld4 HJ.out (by decide)]; done) | (simp; done) | go_num), hB, Bs, Br⟩
    · obtain rfl := ld3 hj hq
      clear hq hj hgk X0 X1
      go_wp2_with (refine wpList_load_part rfl 32 (.tmp 26) rfl (w.heap.size) 185 rfl 34 (stv (F 11)) (ksA (F 11)) _ Bs Try.underlying32 rfl (size_ks (F 11)) part_get ?_)
      clear  fs ls
      clear  fr lr
      go_loopg [28] 8 (fun m' i wr => ∃ j : Nat, j ≤ 8 ∧ m' + j = 8 ∧ i = .int .i64 (j : Int) ∧ Below w.heap.size w wr ∧ Blk wr (w.heap.size) 34 (stv (G j)) ∧ Blk wr (w.heap.size + 1) 34 (stv zs))
      case atStart => exact ⟨0, Nat.zero_le _, rfl, rfl, hB, by rw [Y0.out]; exact Bs, Br⟩
      case round =>
        clear hB Bs Br
        obtain ⟨jk, hj, hgk, rfl, hB, Bs, Br⟩ := hrel
        obtain ⟨wok, rfl⟩ : ∃ z : World, z = wr := ⟨_, rfl⟩
        have fs := Bs.frozen; have ls := Bs.lt
        have fr := Br.frozen; have lr := Br.lt
        by_cases hq : jk < 8
        · have HJk := Lib.hid hq; have HGk := Lib.hid hgk; clear hj hgk
          have hq1 : (jk : Int) < 8 := ld5 hq
          obtain ⟨a, ha⟩ : ∃ a, a = s.kept jk := ⟨_, rfl⟩
          have hix := fun w => (show (Instr.index 32 (.agg (ksA (F 11))) (.int .i64 (jk : Int))).run Try.prog w = .ok (gv (s.kept jk)) w from by have h := idx_k (F 11) w jk hq; rw [XK.out] at h; exact h); rw [← ha] at hix
          obtain ⟨X, hX⟩ : ∃ X, X = PlainAbs.setl a id cell := ⟨_, rfl⟩
          have k_s : ∀ w : World, Calls Try.prog 59 #[gv a, .int .i64 id, .bool cell] w fun e w' => e = .returned (gv X) ∧ Below w.heap.size w w' := fun w => by rw [hX]; exact asettled_c a id cell w
          have HX := Lib.hid (show PlainAbs.setl (s.kept jk) id cell = X by rw [hX, ha]); clear ha hX
          go_upto_region 9 with fail
          clear hix
          clear  fs ls
          clear  fr lr
          have Bqk := Blk.new wok 29 #[.int .i64 a.kind, uv a.r.b.v, uv a.r.b.m, uv a.r.lo, uv a.r.hi, sv a.r.sl, sv a.r.sh, .int .i64 a.slot, .int .i64 a.id, .int .i64 a.low, .int .i64 a.high]
          have hgqk := hB.size
          have hnsqk := Nat.ne_of_lt Bs.lt; have hltsqk := Bs.lt
          have hnrqk := Nat.ne_of_lt Br.lt; have hltrqk := Br.lt
          replace Bs : Blk (wok.alloc (.cells #[.int .i64 a.kind, uv a.r.b.v, uv a.r.b.m, uv a.r.lo, uv a.r.hi, sv a.r.sl, sv a.r.sh, .int .i64 a.slot, .int .i64 a.id, .int .i64 a.low, .int .i64 a.high] 29)) (w.heap.size) 34 (stv (G jk)) := Bs.alloc _
          replace Br : Blk (wok.alloc (.cells #[.int .i64 a.kind, uv a.r.b.v, uv a.r.b.m, uv a.r.lo, uv a.r.hi, sv a.r.sl, sv a.r.sh, .int .i64 a.slot, .int .i64 a.id, .int .i64 a.low, .int .i64 a.high] 29)) (w.heap.size + 1) 34 (stv zs) := Br.alloc _
          replace hB : Below w.heap.size w (wok.alloc (.cells #[.int .i64 a.kind, uv a.r.b.v, uv a.r.b.m, uv a.r.lo, uv a.r.hi, sv a.r.sl, sv a.r.sh, .int .i64 a.slot, .int .i64 a.id, .int .i64 a.low, .int .i64 a.high] 29)) := Bl_alloc hB _
          generalize (wok.alloc (.cells #[.int .i64 a.kind, uv a.r.b.v, uv a.r.b.m, uv a.r.lo, uv a.r.hi, sv a.r.sl, sv a.r.sh, .int .i64 a.slot, .int .i64 a.id, .int .i64 a.low, .int .i64 a.high] 29)) = w2 at *
          generalize wok.heap.size = gqk at *
          have fs := Bs.frozen; have ls := Bs.lt
          have fr := Br.frozen; have lr := Br.lt
          have cqk0 : w2.cell? ⟨gqk, 0, none⟩ = some (.int .i64 a.kind) := Bqk.cell 0
          have cqk1 : w2.cell? ⟨gqk, 1, none⟩ = some (uv a.r.b.v) := Bqk.cell 1
          have cqk2 : w2.cell? ⟨gqk, 2, none⟩ = some (uv a.r.b.m) := Bqk.cell 2
          have cqk3 : w2.cell? ⟨gqk, 3, none⟩ = some (uv a.r.lo) := Bqk.cell 3
          have cqk4 : w2.cell? ⟨gqk, 4, none⟩ = some (uv a.r.hi) := Bqk.cell 4
          have cqk5 : w2.cell? ⟨gqk, 5, none⟩ = some (sv a.r.sl) := Bqk.cell 5
          have cqk6 : w2.cell? ⟨gqk, 6, none⟩ = some (sv a.r.sh) := Bqk.cell 6
          have cqk7 : w2.cell? ⟨gqk, 7, none⟩ = some (.int .i64 a.slot) := Bqk.cell 7
          have cqk8 : w2.cell? ⟨gqk, 8, none⟩ = some (.int .i64 a.id) := Bqk.cell 8
          have cqk9 : w2.cell? ⟨gqk, 9, none⟩ = some (.int .i64 a.low) := Bqk.cell 9
          have cqk10 : w2.cell? ⟨gqk, 10, none⟩ = some (.int .i64 a.high) := Bqk.cell 10
          have fqk := Bqk.frozen; have lqk := Bqk.lt
          go_wp2_with fail
          refine (k_s _).mono ?_
          rintro e w3 ⟨rfl, hb⟩
          clear  fs ls
          clear  fr lr
          clear cqk0 cqk1 cqk2 cqk3 cqk4 cqk5 cqk6 cqk7 cqk8 cqk9 cqk10 fqk lqk
          replace Bs := (Bs).next hb
          replace Br := (Br).next hb
          replace Bqk := (Bqk).next hb
          replace hB : Below w.heap.size w w3 := by repeat (first | exact hB | (refine Bl_set ?_ (by first | omega | (simp; omega)) _) | apply Bl_alloc | (refine Bl_trans ?_ hb))
          clear hb
          have fs := Bs.frozen; have ls := Bs.lt
          have fr := Br.frozen; have lr := Br.lt
          have cqk0 : w3.cell? ⟨gqk, 0, none⟩ = some (.int .i64 a.kind) := Bqk.cell 0
          have cqk1 : w3.cell? ⟨gqk, 1, none⟩ = some (uv a.r.b.v) := Bqk.cell 1
          have cqk2 : w3.cell? ⟨gqk, 2, none⟩ = some (uv a.r.b.m) := Bqk.cell 2
          have cqk3 : w3.cell? ⟨gqk, 3, none⟩ = some (uv a.r.lo) := Bqk.cell 3
          have cqk4 : w3.cell? ⟨gqk, 4, none⟩ = some (uv a.r.hi) := Bqk.cell 4
          have cqk5 : w3.cell? ⟨gqk, 5, none⟩ = some (sv a.r.sl) := Bqk.cell 5
          have cqk6 : w3.cell? ⟨gqk, 6, none⟩ = some (sv a.r.sh) := Bqk.cell 6
          have cqk7 : w3.cell? ⟨gqk, 7, none⟩ = some (.int .i64 a.slot) := Bqk.cell 7
          have cqk8 : w3.cell? ⟨gqk, 8, none⟩ = some (.int .i64 a.id) := Bqk.cell 8
          have cqk9 : w3.cell? ⟨gqk, 9, none⟩ = some (.int .i64 a.low) := Bqk.cell 9
          have cqk10 : w3.cell? ⟨gqk, 10, none⟩ = some (.int .i64 a.high) := Bqk.cell 10
          have fqk := Bqk.frozen; have lqk := Bqk.lt
          clear  fs ls
          clear  fr lr
          clear cqk0 cqk1 cqk2 cqk3 cqk4 cqk5 cqk6 cqk7 cqk8 cqk9 cqk10 fqk lqk
          clear Bqk k_s
          have fs := Bs.frozen; have ls := Bs.lt
          have fr := Br.frozen; have lr := Br.lt
          have HGJ := Lib.hid (Y1.out jk); rw [HX.out] at HGJ
          go_wp2_with (refine wpList_store_part rfl 29 (.tmp 38) (.tmp 36) rfl (w.heap.size) (185 + jk * 11) _ rfl rfl 34 (stv (G jk)) Bs (by kernel_rfl) (by rw [stv_size]; simp; try omega) (gl_one X) ?_)
          obtain ⟨t, e_t⟩ : ∃ t, t = { G jk with kept := upd (G jk).kept jk X } := ⟨_, rfl⟩
          intro w4 hS
          clear  fs ls
          clear  fr lr
          replace Bs : Blk w4 (w.heap.size) 34 (stv t) := by rw [e_t]; rw [← set_kept (G jk) hq X]; exact hS.blk
          replace Br := hS.far (by first | (simp; done) | (simp; omega) | (simp [*]; done) | (simp only [ne_eq]; constructor <;> omega)) Br
          replace hB := hS.bel hB (by first | omega | (simp; omega))
          clear hS
          have fs := Bs.frozen; have ls := Bs.lt
          have fr := Br.frozen; have lr := Br.lt
          have ck : w4.cell? ⟨w.heap.size, 185 + jk * 11, none⟩ = some (.int .i64 X.kind) := by have h := Bs.cell (185 + jk * 11 + 0); rw [stv_get t (by omega), kept_at t hq (by omega), e_t] at h; simp only [upd, if_true] at h; exact h
          have HT := Lib.hid e_t; clear e_t
          have HQ := Lib.hid hq; clear hq
          cases hk : (X.kind == 1)
          · have HN := Lib.hid (show G (jk + 1) = t by rw [HGJ.out, HT.out, if_neg (by rw [hk]; decide)])
            go_wp2_with fail
            clear ck
            clear  fs ls
            clear  fr lr
            go_roundg (7 - jk)
            case measure => exact ld1 HGk.out HJk.out
            case rel => exact ⟨jk + 1, HJk.out, ld2 HJk.out, (by first | rfl | (rw [ld4 HJk.out (by decide)]; done) | (simp; done) | go_num), hB, by rw [HN.out]; exact Bs, Br⟩
          · obtain ⟨u, e_u⟩ : ∃ u, u = { t with kept := upd t.kept jk zr } := ⟨_, rfl⟩
            have HN := Lib.hid (show G (jk + 1) = PlainAbs.mark u (8 * jk) true 8 by rw [HGJ.out, if_pos hk, e_u, HT.out]; simp only [PlainAbs.upd_upd])
            go_upto_region 11 with fail
            clear ck hk
            go_wp2_with (refine wpList_store_part rfl 29 (.tmp 48) (.tmp 46) rfl (w.heap.size) (185 + jk * 11) _ rfl rfl 34 (stv t) Bs (by kernel_rfl) (by have := HQ.out; rw [stv_size]; simp; try omega) (gl_one zr) ?_)
            intro w5 hS
            clear  fs ls
            clear  fr lr
            replace Bs : Blk w5 (w.heap.size) 34 (stv u) := by rw [e_u]; rw [← set_kept t HQ.out zr]; exact hS.blk
            replace Br := hS.far (by first | (simp; done) | (simp; omega) | (simp [*]; done) | (simp only [ne_eq]; constructor <;> omega)) Br
            replace hB := hS.bel hB (by first | omega | (simp; omega))
            clear hS
            have fs := Bs.frozen; have ls := Bs.lt
            have fr := Br.frozen; have lr := Br.lt
            clear e_u
            go_wp2_with fail
            clear  fs ls
            clear  fr lr
            obtain ⟨f, hf⟩ : ∃ f, f = 8 * jk := ⟨_, rfl⟩
            have HFF := Lib.hid hf; rw [← hf] at HN; clear hf hq1
            go_loopg [49] 8 (fun m' i wr => ∃ j : Nat, j ≤ 8 ∧ m' + j = 8 ∧ i = .int .i64 (j : Int) ∧ Below w.heap.size w wr ∧ Blk wr (w.heap.size) 34 (stv (PlainAbs.mark u f true j)) ∧ Blk wr (w.heap.size + 1) 34 (stv zs))
            case atStart => exact ⟨0, Nat.zero_le _, rfl, rfl, hB, Bs, Br⟩
            case round =>
              clear hB Bs Br
              obtain ⟨jm, hj, hgk, rfl, hB, Bs, Br⟩ := hrel
              obtain ⟨wom, rfl⟩ : ∃ z : World, z = wr := ⟨_, rfl⟩
              have fs := Bs.frozen; have ls := Bs.lt
              have fr := Br.frozen; have lr := Br.lt
              by_cases hq : jm < 8
              · obtain ⟨m1, m2, m3, m4⟩ := ld6 HQ.out hq; rw [← HFF.out] at m1 m2 m3 m4
                have hq1 : (jm : Int) < 8 := ld5 hq
                have HJm := Lib.hid hq; have HGm := Lib.hid hgk; clear hj hgk hq
                have M4 := Lib.hid m4; have hsz := hB.size
                have cw : wom.cell? ⟨w.heap.size, 121 + (f + jm), none⟩ = some (.bool ((PlainAbs.mark u f true jm).what (f + jm))) := by rw [Bs.cell, stv_get _ (by have := M4.out; omega), what_at _ M4.out]
                go_upto_region 16 with fail
                clear cw
                clear  fs ls
                clear  fr lr
                clear m1 m2 m3 m4 hq1
                replace Bs : Blk (wom.setCell ⟨w.heap.size, 121 + (f + jm), none⟩ (.bool true)) (w.heap.size) 34 (stv (PlainAbs.mark u f true (jm + 1))) := by show Blk _ _ _ (stv { PlainAbs.mark u f true jm with what := upd (PlainAbs.mark u f true jm).what (f + jm) true }); rw [← set_what (PlainAbs.mark u f true jm) M4.out true]; exact Bs.set_ (121 + (f + jm)) _
                replace Br : Blk (wom.setCell ⟨w.heap.size, 121 + (f + jm), none⟩ (.bool true)) (w.heap.size + 1) 34 (stv zs) := Br.far (by first | (simp; done) | (simp; omega) | (simp [*]; done) | (simp only [ne_eq]; constructor <;> omega)) _
                replace hB : Below w.heap.size w (wom.setCell ⟨w.heap.size, 121 + (f + jm), none⟩ (.bool true)) := Bl_set hB (by first | omega | (simp; done) | (simp; omega)) _
                generalize (wom.setCell ⟨w.heap.size, 121 + (f + jm), none⟩ (.bool true)) = w9 at *
                go_wp2_with fail
                go_roundg (7 - jm)
                case measure => exact ld1 HGm.out HJm.out
                case rel => exact ⟨jm + 1, HJm.out, ld2 HJm.out, (by first | rfl | (rw [ld4 HJm.out (by decide)]; done) | (simp; done) | go_num), hB, Bs, Br⟩
              · obtain rfl := ld3 hj hq
                clear hj hq hgk
                go_wp2_with fail
                clear  fs ls
                clear  fr lr
                go_roundg (7 - jk)
                case measure => exact ld1 HGk.out HJk.out
                case rel => exact ⟨jk + 1, HJk.out, ld2 HJk.out, (by first | rfl | (rw [ld4 HJk.out (by decide)]; done) | (simp; done) | go_num), hB, by rw [HN.out]; exact Bs, Br⟩
        · obtain rfl := ld3 hj hq
          clear hq hj hgk Y0 Y1 XK
          go_upto_region 18 with fail
          go_wp2_with (first | (refine wpList_load_whole rfl 34 (.tmp 3) rfl (w.heap.size) rfl 34 (stv (G 8)) _ Bs Try.underlying34 rfl (size_st (G 8)) ?_) | (refine wpList_store_whole rfl 34 (.tmp 6) (.tmp 60) rfl (w.heap.size + 1) (stv (G 8)) rfl rfl 34 (stv zs) Br (size_st (G 8)) (by rw [stv_size, stv_size]) (stv_one (G 8)) ?_))
          intro w2 hS
          clear  fs ls
          clear  fr lr
          replace Bs := hS.far (by first | (simp; done) | (simp; omega) | (simp [*]; done) | (simp only [ne_eq]; constructor <;> omega)) Bs
          replace Br : Blk w2 (w.heap.size + 1) 34 (stv (G 8)) := hS.blk
          replace hB := hS.bel hB (by first | omega | (simp; omega))
          clear hS
          have fs := Bs.frozen; have ls := Bs.lt
          have fr := Br.frozen; have lr := Br.lt
          go_wp2_with fail
          exact bodyPost_ret (v := .agg (stv (G 8))) (results_cell_row Try.results33 _ _ (w.heap.size + 1) 34 (stv (G 8)) (0, 0) _ rfl Br Try.underlying34 rfl (size_st _)) rfl ⟨rfl, hB⟩
end Go.Proofs.Ytmghpoagpiljhab
