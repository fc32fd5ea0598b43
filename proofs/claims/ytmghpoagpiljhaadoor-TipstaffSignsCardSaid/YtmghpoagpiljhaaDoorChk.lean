/- The library's Chunk: its iterator, at a signature's bytes. -/
import Derived.Test.YtmghpoagpiljhaaDoorRev
import Derived.RangeFuncNested
import Derived.RangeFuncBound
import Derived.RangeFuncCalls
import Derived.RangeFuncLeaves
import Derived.Shelf.Abstract
import Derived.Shelf.RegionOpen
import Derived.WalkKit
import Derived.OwnWalkIn
import Derived.TacticsInMore
import Derived.LoopNIn
import Derived.LoopIn
set_option linter.unusedSimpArgs false
set_option linter.unusedVariables false
namespace Go.Proofs.YtmghpoagpiljhaaDoor
open Go.RowKit Go.Shelf
attribute [local go_sem] Oper.semAt_some
/-- The first k parts. -/
def upto (k : Nat) : List (Fin 32) := (List.finRange 32).take k
theorem upto_succ {k : Nat} (h : k < 32) : upto (k + 1) = upto k ++ [⟨k, h⟩] := by
  unfold upto
  rw [List.take_succ_eq_append_getElem (by simpa using h)]
  simp
theorem upto_len {k : Nat} (h : k ≤ 32) : (upto k).length = k := by unfold upto; rw [List.length_take, List.length_finRange]; omega
/-- What a round keeps. -/
def KpC (n₀ Bs Bn : Nat) (W W' : World) : Prop := Below n₀ W W' ∧ W'.heap[Bs]? = W.heap[Bs]? ∧ W'.heap[Bn]? = W.heap[Bn]?
def encC (g : Nat) (x : Fin 32) : Array Value := #[Value.slice (some ⟨g, 64 * x.1, none⟩) 64 64]
set_option maxRecDepth 100000 in
set_option maxHeartbeats 2000000 in
theorem chunk_in (n : Nat) (hn : 1 ≤ n) (l Bs Bn n₀ g cap : Nat) (hcap : 2048 ≤ cap) (J Jx : List (Fin 32) → World → Prop)
    (hY : ∀ pre x W, J pre W → pre.length < 32 → YieldAt Fence.wide (n - 1) Tryd.prog l (encC g x) W fun e W' =>
      (e = .returned (.bool true) ∧ J (pre ++ [x]) W' ∧ KpC n₀ Bs Bn W W') ∨ (e = .returned (.bool false) ∧ Jx (pre ++ [x]) W'))
    (hJd : ∀ pre W, J pre W → J pre W.drew)
    (W : World) (hBs : W.cell? ⟨Bs, 0, none⟩ = some (.slice (some ⟨g, 0, none⟩) 2048 cap)) (hBn : W.cell? ⟨Bn, 0, none⟩ = some (.int .i64 64)) (h0 : J [] W) :
    CallsIn Fence.wide n Tryd.prog 74 #[.func (.yield l) #[] #[], .pointer (some ⟨Bs, 0, none⟩), .pointer (some ⟨Bn, 0, none⟩)] W fun e W' => (∃ v, e = .returned v) ∧
      ((∃ ys, ys = upto 32 ∧ J ys W') ∨ (∃ pre, (∃ k, k ≤ 32 ∧ pre = upto k) ∧ Jx pre W')) := by
  refine callsIn_of_wp Tryd.func74 rfl trivial ?_ rfl
  simp only [Tryd.ntmps74, List.size_toArray, List.length_cons, List.length_nil, Nat.reduceAdd, Nat.reduceSub, Array.replicate_succ, Array.replicate_zero, List.push_toArray, List.append_toArray, List.nil_append, List.cons_append]
  gi_wp2
  gi_loopw [4] (fun i wr => ∃ k : Nat, k ≤ 32 ∧ i = .int .i64 ((64 * k : Nat) : Int) ∧ J (upto k) wr ∧ wr.cell? ⟨Bs, 0, none⟩ = some (.slice (some ⟨g, 0, none⟩) 2048 cap) ∧ wr.cell? ⟨Bn, 0, none⟩ = some (.int .i64 64))
    (fun i _ => 2048 - (intOf i).toNat)
  case atStart => exact ⟨0, Nat.zero_le _, rfl, h0, hBs, hBn⟩
  case round =>
    clear hBs hBn h0
    obtain ⟨k, hk, rfl, hJs, hBs, hBn⟩ := hrel
    obtain ⟨m, hm⟩ : ∃ m, m = 64 * k := ⟨_, rfl⟩
    rw [← hm]
    by_cases hlt : k < 32
    · have h1 : (m : Int) < 2048 := by omega
      have h2 : m + 64 ≤ 2048 := by omega
      obtain ⟨q, hq⟩ : ∃ q, 2048 - m = q := ⟨_, rfl⟩
      have HK := Lib.hid hlt; have HM := Lib.hid hm; have HJ := Lib.hid hJs; clear hm hJs hk hlt
      gi_wp2
      have hq0 : (0 : Int) ≤ (q : Int) := by omega
      have hq1 : (64 : Int) ≤ (q : Int) := by omega
      have hJ2 := hJd _ _ HJ.out
      obtain ⟨fn, tmps, assign, body, hy, hR⟩ := hY (upto k) ⟨k, HK.out⟩ wr.drew hJ2 (by rw [upto_len (Nat.le_of_lt HK.out)]; exact HK.out)
      have hy2 : (Instr.yield l #[Value.slice (some ⟨g, m, none⟩) 64 64]).run Tryd.prog wr.drew = .ok (.round l fn tmps assign body) wr.drew := by rw [HM.out]; exact hy
      clear hy
      have hm2 : (m : Int) ≤ 2048 := by omega
      have hcm : ¬ cap = m := by omega
      have hq64 : min (64 : Int) (q : Int) = 64 := by omega
      refine wpIn_wide.2 (wp_region_N (fun w' => w'.cell? ⟨Bs, 0, none⟩ = some (.slice (some ⟨g, 0, none⟩) 2048 cap) ∧ w'.cell? ⟨Bn, 0, none⟩ = some (.int .i64 64)) (fun j => decide (j ≤ 5)) (by kernel_rfl) ?_)
      have hS : wr.drew.cell? ⟨Bs, 0, none⟩ = some (.slice (some ⟨g, 0, none⟩) 2048 cap) ∧ wr.drew.cell? ⟨Bn, 0, none⟩ = some (.int .i64 64) := ⟨hBs, hBn⟩
      refine wpAnyN_take 2 (some 15) (Value.int .i64 (m : Int)) rfl rfl (by kernel_rfl) (by kernel_rfl) (by kernel_rfl) (by kernel_rfl) (fun _ _ _ h => h) rfl (fun w' hw' => by obtain ⟨hcell, hcell1⟩ := hw'; go_simp <;> omega) hS ?_
      simp only [Act.put, List.setIfInBounds_toArray, List.set_cons_zero, List.set_cons_succ]
      refine wpAnyN_take 0 (some 13) (Value.int .i64 64) rfl rfl (by kernel_rfl) (by kernel_rfl) (by kernel_rfl) (by kernel_rfl) (fun _ _ _ h => h) rfl (fun w' hw' => by obtain ⟨hcell, hcell1⟩ := hw'; go_simp) hS ?_
      simp only [Act.put, List.setIfInBounds_toArray, List.set_cons_zero, List.set_cons_succ]
      refine wpAnyN_take 1 (some 14) (Value.slice (some ⟨g, 0, none⟩) 2048 cap) rfl rfl (by kernel_rfl) (by kernel_rfl) (by kernel_rfl) (by kernel_rfl) (fun _ _ _ h => h) rfl (fun w' hw' => by obtain ⟨hcell, hcell1⟩ := hw'; go_simp) hS ?_
      simp only [Act.put, List.setIfInBounds_toArray, List.set_cons_zero, List.set_cons_succ]
      refine wpAnyN_take 3 (some 16) (Value.slice (some ⟨g, m, none⟩) q (cap - m)) rfl rfl (by kernel_rfl) (by kernel_rfl) (by kernel_rfl) (by kernel_rfl) (fun _ _ _ h => h) rfl (fun w' hw' => by obtain ⟨hcell, hcell1⟩ := hw'; go_simp <;> omega) hS ?_
      simp only [Act.put, List.setIfInBounds_toArray, List.set_cons_zero, List.set_cons_succ]
      refine wpAnyN_take 4 (some 17) (Value.int .i64 (q : Int)) rfl rfl (by kernel_rfl) (by kernel_rfl) (by kernel_rfl) (by kernel_rfl) (fun _ _ _ h => h) rfl (fun w' hw' => by obtain ⟨hcell, hcell1⟩ := hw'; go_simp <;> omega) hS ?_
      simp only [Act.put, List.setIfInBounds_toArray, List.set_cons_zero, List.set_cons_succ]
      refine wpAnyN_take 5 (some 18) (Value.int .i64 64) rfl rfl (by kernel_rfl) (by kernel_rfl) (by kernel_rfl) (by kernel_rfl) (fun _ _ _ h => h) rfl (fun w' hw' => by obtain ⟨hcell, hcell1⟩ := hw'; go_simp <;> omega) hS ?_
      simp only [Act.put, List.setIfInBounds_toArray, List.set_cons_zero, List.set_cons_succ]
      refine wpAnyN_take 6 (some 5) (Value.int .i64 64) rfl rfl (by kernel_rfl) (by kernel_rfl) (by kernel_rfl) (by kernel_rfl) (fun _ _ _ h => h) rfl (fun w' hw' => by obtain ⟨hcell, hcell1⟩ := hw'; go_simp <;> omega) hS ?_
      simp only [Act.put, List.setIfInBounds_toArray, List.set_cons_zero, List.set_cons_succ]
      refine wpAnyN_done (by kernel_rfl) ?_
      have h3 : wrap64 ((m : Int) + 64) = ((m + 64 : Nat) : Int) := by rw [IntWalk.wrap64_in _ (by constructor <;> omega)]; omega
      have h4 : m + 64 - m = 64 := by omega
      gi_wp2
      refine hR.mono ?_
      rintro e W3 (⟨rfl, hJ3, hk3⟩ | ⟨rfl, hJx3⟩)
      · have hBs3 : W3.cell? ⟨Bs, 0, none⟩ = some (.slice (some ⟨g, 0, none⟩) 2048 cap) := (World.cell?_of_block (w := wr.drew) hk3.2.1).trans hBs
        have hBn3 : W3.cell? ⟨Bn, 0, none⟩ = some (.int .i64 64) := (World.cell?_of_block (w := wr.drew) hk3.2.2).trans hBn
        gi_wp2
        go_roundw
        case rel => exact ⟨k + 1, HK.out, by rw [HM.out]; first | rfl | go_num | (congr 1; omega), by rw [upto_succ HK.out]; exact hJ3, hBs3, hBn3⟩
        case measure => simp [intOf]; omega
      · gi_wp2
        refine bodyPost_ret (results_none rfl _ _ _) rfl ?_
        exact ⟨⟨_, rfl⟩, .inr ⟨_, ⟨k + 1, HK.out, (upto_succ HK.out).symm⟩, hJx3⟩⟩
    · obtain rfl : k = 32 := by omega
      obtain rfl : m = 2048 := by omega
      gi_wp2
      go_end0
      first | exact ⟨⟨_, rfl⟩, .inl ⟨_, rfl, hJs⟩⟩ | exact ⟨⟨_, rfl⟩, .inl hJs⟩
theorem chunk_stops (n : Nat) (hn : 1 ≤ n) (Bs Bn n₀ g cap : Nat) (hcap : 2048 ≤ cap) (w : World) (h1 : Bs < w.heap.size) (h2 : Bn < w.heap.size)
    (hBs : w.cell? ⟨Bs, 0, none⟩ = some (.slice (some ⟨g, 0, none⟩) 2048 cap)) (hBn : w.cell? ⟨Bn, 0, none⟩ = some (.int .i64 64)) :
    SeqStopsK Fence.wide n Tryd.prog 74 #[.pointer (some ⟨Bs, 0, none⟩), .pointer (some ⟨Bn, 0, none⟩)] (encC g) (KpC n₀ Bs Bn) (fun ys => ys = upto 32) (fun pre => ∃ k, k ≤ 32 ∧ pre = upto k) 32 w := fun l J Jx W hW hJ _ hY h0 =>
  chunk_in n hn l Bs Bn n₀ g cap hcap J Jx hY (fun pre W1 h => hJ pre W1 W1.drew none h ⟨rfl, rfl, rfl, Nat.le_refl _, fun _ _ _ => rfl⟩ (fun r e => by cases e)) W
    ((hW.cell (p := ⟨Bs, 0, none⟩) h1).trans hBs) ((hW.cell (p := ⟨Bn, 0, none⟩) h2).trans hBn) h0
theorem KpC.t {n₀ Bs Bn : Nat} {A B C : World} (h : KpC n₀ Bs Bn A B) (k : KpC n₀ Bs Bn B C) : KpC n₀ Bs Bn A C := ⟨h.1.trans k.1, k.2.1.trans h.2.1, k.2.2.trans h.2.2⟩
theorem KpC.b {n₀ Bs Bn : Nat} {w : World} (hn : n₀ ≤ w.heap.size) (h1 : Bs < w.heap.size) (h2 : Bn < w.heap.size) (W : World) (l : Nat) (o o' : Obj) (hl : w.heap.size ≤ l) (h : W.heap[l]? = some o) (e1 : o.isCells = false) (e2 : o.isWalk = false) : KpC n₀ Bs Bn W (W.putObj l o') :=
  ⟨belowK_b hn W l o o' hl h e1 e2, World.putObj_heap_other (by omega), World.putObj_heap_other (by omega)⟩
set_option maxRecDepth 100000 in
set_option maxHeartbeats 400000 in
theorem chunk_c (a : Option Addr) (n cap : Nat) (w : World) : Calls Tryd.prog 52 #[.slice a n cap, .int .i64 64] w fun e w' => e = .returned (.func (.func 74) #[] #[.pointer (some ⟨w.heap.size, 0, none⟩), .pointer (some ⟨w.heap.size + 1, 0, none⟩)]) ∧
    w' = (w.alloc (.cells #[.slice a n cap] 22)).alloc (.cells #[.int .i64 64] 3) := by
  go_enter Tryd.func52, Tryd.ntmps52
  go_wp2_with fail
  go_ret
  exact ⟨rfl, rfl⟩
end Go.Proofs.YtmghpoagpiljhaaDoor
