/- The walk's own words for 64 bits: a number is T of a BitVec 64 (or S of one, with a sign); what the operations make of them. -/
import Derived.Test.YtmghpoagpiljhaaDoorRows
import Derived.WalkKit
import Derived.WalkSpells
import Derived.WalkLawsBesides
import Derived.Lib.Hide
import Derived.Deep.QuietTactic
import Derived.BigQuiet
import Derived.Deep.RegionWith
import Derived.StillTailTactics
import Derived.Deep.LoopGhost
import Derived.Laws.OwnMore
import Derived.Deep.Draws
import Derived.Laws.Rows
namespace Go.Proofs.YtmghpoagpiljhaaDoor
open Go.RowKit

abbrev W := BitVec 64
/-- A number without a sign. -/
def T (x : W) : Int := (x.toNat : Int)
/-- A number with a sign. -/
def S (x : W) : Int := x.toInt
theorem T_lo (x : W) : 0 ≤ T x := Int.natCast_nonneg _
theorem T_hi (x : W) : T x ≤ 18446744073709551615 := by have := x.isLt; unfold T; omega
theorem T_inj {x y : W} (h : T x = T y) : x = y := BitVec.eq_of_toNat_eq (by unfold T at h; omega)
theorem S_inj {x y : W} (h : S x = S y) : x = y := BitVec.eq_of_toInt_eq h
theorem ofInt_T (x : W) : BitVec.ofInt 64 (T x) = x := by
  unfold T
  rw [BitVec.ofInt_natCast, BitVec.ofNat_toNat, BitVec.setWidth_eq]
theorem ofInt_S (x : W) : BitVec.ofInt 64 (S x) = x := BitVec.ofInt_toInt
theorem wrap_u (e : Int) : IntKind.u64.wrap e = T (BitVec.ofInt 64 e) := by
  unfold T
  rw [IntKind.wrap_u64, BitVec.toNat_ofInt]
  omega
theorem wrap_i (e : Int) : IntKind.i64.wrap e = S (BitVec.ofInt 64 e) := by
  unfold S
  rw [IntKind.wrap_i64, BitVec.toInt_ofInt, Int.bmod_def]
  split <;> omega
theorem w64 (e : Int) : wrap64 e = S (BitVec.ofInt 64 e) := by rw [← wrap_i, IntWalk.i64_left]

/-! ### no sign -/
@[go_sem] theorem u_add (x y : W) : IntKind.u64.wrap (T x + T y) = T (x + y) := by rw [wrap_u, BitVec.ofInt_add, ofInt_T, ofInt_T]
@[go_sem] theorem u_sub (x y : W) : IntKind.u64.wrap (T x - T y) = T (x - y) := by rw [Int.sub_eq_add_neg, wrap_u, BitVec.ofInt_add, BitVec.ofInt_neg, ofInt_T, ofInt_T, BitVec.sub_eq_add_neg]
@[go_sem] theorem u_mul (x y : W) : IntKind.u64.wrap (T x * T y) = T (x * y) := by rw [wrap_u, BitVec.ofInt_mul, ofInt_T, ofInt_T]
@[go_sem] theorem u_neg (x : W) : IntKind.u64.wrap (-T x) = T (-x) := by rw [wrap_u, BitVec.ofInt_neg, ofInt_T]
@[go_sem] theorem u_neg0 (x : W) : IntKind.u64.wrap (0 - T x) = T (-x) := by rw [Int.zero_sub, u_neg]
@[go_sem] theorem u_up (x : W) : IntKind.u64.wrap (T x + 1) = T (x + 1#64) := by rw [wrap_u, BitVec.ofInt_add, ofInt_T]; rfl
@[go_sem] theorem u_down (x : W) : IntKind.u64.wrap (T x - 1) = T (x - 1#64) := by rw [Int.sub_eq_add_neg, wrap_u, BitVec.ofInt_add, BitVec.ofInt_neg, ofInt_T, BitVec.sub_eq_add_neg]; rfl
theorem back_u (x : W) : IntKind.u64.wrap (x.toNat : Int) = T x := by
  rw [wrap_u, BitVec.ofInt_natCast, BitVec.ofNat_toNat, BitVec.setWidth_eq]
theorem bits_and (a b : Int) : bits .and .u64 a b = T (BitVec.ofInt 64 a &&& BitVec.ofInt 64 b) := back_u _
theorem bits_or (a b : Int) : bits .or .u64 a b = T (BitVec.ofInt 64 a ||| BitVec.ofInt 64 b) := back_u _
theorem bits_xor (a b : Int) : bits .xor .u64 a b = T (BitVec.ofInt 64 a ^^^ BitVec.ofInt 64 b) := back_u _
theorem bits_andNot (a b : Int) : bits .andNot .u64 a b = T (BitVec.ofInt 64 a &&& ~~~BitVec.ofInt 64 b) := back_u _
@[go_sem] theorem u_and (x y : W) : bits .and .u64 (T x) (T y) = T (x &&& y) := by rw [bits_and, ofInt_T, ofInt_T]
@[go_sem] theorem u_or (x y : W) : bits .or .u64 (T x) (T y) = T (x ||| y) := by rw [bits_or, ofInt_T, ofInt_T]
@[go_sem] theorem u_xor (x y : W) : bits .xor .u64 (T x) (T y) = T (x ^^^ y) := by rw [bits_xor, ofInt_T, ofInt_T]
@[go_sem] theorem u_andNot (x y : W) : bits .andNot .u64 (T x) (T y) = T (x &&& ~~~y) := by rw [bits_andNot, ofInt_T, ofInt_T]
theorem lit_T (n : Nat) (h : n < 18446744073709551616) : (n : Int) = T (BitVec.ofNat 64 n) := by
  unfold T
  rw [BitVec.toNat_ofNat, Nat.mod_eq_of_lt h]
@[go_sem] theorem u_and1 (x : W) : bits .and .u64 (T x) 1 = T (x &&& 1#64) := by rw [bits_and, ofInt_T]; rfl
@[go_sem] theorem u_not (x : W) : bits .xor .u64 18446744073709551615 (T x) = T (~~~x) := by
  rw [bits_xor, ofInt_T]
  have e : BitVec.ofInt 64 18446744073709551615 = BitVec.allOnes 64 := by decide
  rw [e, BitVec.allOnes_xor]
@[go_sem] theorem u_shl (x : W) (k : Nat) : IntKind.u64.wrap (T x * 2 ^ min k 64) = T (x <<< k) := by
  rw [IntKind.wrap_u64]
  unfold T
  rw [BitVec.toNat_shiftLeft, Nat.shiftLeft_eq]
  by_cases h : k ≤ 64
  · rw [Nat.min_eq_left h]
    have e : ((x.toNat : Int) * 2 ^ k) = ((x.toNat * 2 ^ k : Nat) : Int) := by rw [Int.natCast_mul, Int.natCast_pow]; rfl
    rw [e]
    generalize x.toNat * 2 ^ k = y
    omega
  · rw [Nat.min_eq_right (by omega)]
    have e1 : x.toNat * 2 ^ k % 2 ^ 64 = 0 := by
      rw [show k = 64 + (k - 64) by omega, Nat.pow_add, ← Nat.mul_assoc, Nat.mul_right_comm]
      exact Nat.mul_mod_left _ _
    rw [e1]
    omega
@[go_sem] theorem u_shr (x : W) (k : Nat) : T x / 2 ^ min k 64 = T (x >>> k) := by
  unfold T
  rw [BitVec.toNat_ushiftRight, Nat.shiftRight_eq_div_pow]
  by_cases h : k ≤ 64
  · rw [Nat.min_eq_left h]
    have e : ((2 : Int) ^ k) = ((2 ^ k : Nat) : Int) := by rw [Int.natCast_pow]; rfl
    rw [e]
    exact (Int.natCast_ediv _ _).symm
  · rw [Nat.min_eq_right (by omega)]
    have hx := x.isLt
    have e1 : x.toNat / 2 ^ k = 0 := Nat.div_eq_of_lt (Nat.lt_of_lt_of_le hx (Nat.pow_le_pow_right (by omega) (by omega)))
    rw [e1]
    omega
@[go_sem] theorem u_fshr (x : W) (k : Nat) : (T x).fdiv (2 ^ min k 64) = T (x >>> k) := by
  rw [← u_shr, Int.fdiv_eq_ediv_of_nonneg]
  exact Int.le_of_lt (Int.pow_pos (by decide))
theorem by_int (k : Int) : wrap64 ((IntKind.u64.wrap k).tmod 64) = k % 64 := by
  have h0 : 0 ≤ IntKind.u64.wrap k := by rw [wrap_u]; exact T_lo _
  rw [IntKind.wrap_u64, Int.tmod_eq_emod_of_nonneg (by omega), IntWalk.wrap64_in _ (by omega)]
  omega
/-- How far a shift goes. -/
def byN (k : Int) : Nat := (k % 64).toNat
theorem byN_int (k : Int) : k % 64 = (byN k : Int) := by unfold byN; omega
theorem byN_lt (k : Int) : byN k < 64 := by unfold byN; omega
@[go_sem] theorem u_and255 (x : W) : bits .and .u64 (T x) 255 = T (x &&& 255#64) := by rw [bits_and, ofInt_T]; rfl
@[go_sem] theorem u_and65535 (x : W) : bits .and .u64 (T x) 65535 = T (x &&& 65535#64) := by rw [bits_and, ofInt_T]; rfl
@[go_sem] theorem u_and32 (x : W) : bits .and .u64 (T x) 4294967295 = T (x &&& 4294967295#64) := by rw [bits_and, ofInt_T]; rfl
@[go_sem] theorem u64_signed : IntKind.u64.signed = false := rfl
@[go_sem] theorem u_not' (x : W) : bits .xor .u64 IntKind.u64.max (T x) = T (~~~x) := u_not x
theorem T_eq (x y : W) : (T x = T y) = (x = y) := propext ⟨T_inj, fun h => by rw [h]⟩
theorem T_lt (x y : W) : (T x < T y) = (x.toNat < y.toNat) := by unfold T; exact propext (by omega)
theorem T_le (x y : W) : (T x ≤ T y) = (x.toNat ≤ y.toNat) := by unfold T; exact propext (by omega)
theorem T_beq (x y : W) : (T x == T y) = (x == y) := by
  rw [Bool.eq_iff_iff, beq_iff_eq, beq_iff_eq, T_eq]
theorem T_beq0 (x : W) : (T x == 0) = (x == 0#64) := by
  rw [← T_beq]; rfl
theorem T_bne0 (x : W) : (T x != 0) = (x != 0#64) := by
  unfold bne; rw [T_beq0]
theorem T_bne (x y : W) : (T x != T y) = (x != y) := by
  unfold bne; rw [T_beq]
theorem T_beq1 (x : W) : (T x == 1) = (x == 1#64) := by
  rw [← T_beq]; rfl
/-- What the walk uses of a call that makes memory: all old cells, all old marks read as before. -/
theorem bcell {W w1 : World} (hb : Below W.heap.size W w1) : (∀ b o, b < W.heap.size → w1.cell? ⟨b, o, none⟩ = W.cell? ⟨b, o, none⟩) ∧ (∀ b o, b < W.heap.size → w1.frozen? ⟨b, o, none⟩ = W.frozen? ⟨b, o, none⟩) :=
  ⟨fun b o h => hb.cell (p := ⟨b, o, none⟩) h, fun b o h => hb.frozen (p := ⟨b, o, none⟩) h⟩
theorem Bl_refl (w : World) : Below w.heap.size w w := Below.refl _ _
theorem Bl_alloc {w w' : World} (h : Below w.heap.size w w') (o : Obj) : Below w.heap.size w (w'.alloc o) := h.alloc h.size o
theorem Bl_drew {w w' : World} (h : Below w.heap.size w w') : Below w.heap.size w w'.drew := h.drew
theorem Bl_drewN {w w' : World} (h : Below w.heap.size w w') (n : Nat) : Below w.heap.size w (w'.drewN n) := ⟨h.os, h.tape, h.output, h.size, h.block⟩
theorem Bl_set {w w' : World} (h : Below w.heap.size w w') {p : Addr} (hp : w.heap.size ≤ p.block) (v : Value) : Below w.heap.size w (w'.setCell p v) := h.setCell hp v
theorem Bl_trans {w w' w'' : World} (h : Below w.heap.size w w') (h' : Below w'.heap.size w' w'') : Below w.heap.size w w'' := h.trans (h'.mono h.size)
/-- Block g is just the cells cs of element type t, none frozen. -/
def Blk (w : World) (g : Nat) (t : TypeId) (cs : Array Value) : Prop := w.heap[g]? = some (.cells cs t (0, 0))
section
variable {w w' : World} {g : Nat} {t : TypeId} {cs : Array Value}
theorem Blk.lt (h : Blk w g t cs) : g < w.heap.size := by
  rcases Nat.lt_or_ge g w.heap.size with hlt | hge
  · exact hlt
  · unfold Blk at h; rw [Array.getElem?_eq_none hge] at h; cases h
theorem Blk.cell (h : Blk w g t cs) (i : Nat) : w.cell? ⟨g, i, none⟩ = cs[i]? := cell_of_row w g i cs t (0, 0) h
theorem Blk.frozen (h : Blk w g t cs) (i : Nat) : w.frozen? ⟨g, i, none⟩ = false := by
  unfold Blk at h
  simp [World.frozen?, h]
theorem Blk.new (w : World) (t : TypeId) (cs : Array Value) : Blk (w.alloc (.cells cs t)) w.heap.size t cs := heap_alloc_new w _
theorem Blk.drew (h : Blk w g t cs) : Blk w.drew g t cs := h
theorem Blk.drewN (h : Blk w g t cs) (n : Nat) : Blk (w.drewN n) g t cs := h
theorem Blk.alloc (h : Blk w g t cs) (o : Obj) : Blk (w.alloc o) g t cs := (Below.heap_alloc w o g h.lt).trans h
theorem Blk.set_ (h : Blk w g t cs) (i : Nat) (u : Value) : Blk (w.setCell ⟨g, i, none⟩ u) g t (cs.setIfInBounds i u) := by
  unfold Blk at h ⊢
  simp [World.setCell, Array.getElem?_modify, h]
theorem Blk.far (h : Blk w g t cs) {p : Addr} (hp : g ≠ p.block) (u : Value) : Blk (w.setCell p u) g t cs := (Below.heap_setCell w p u g hp).trans h
theorem Blk.far2 (h : Blk w g t cs) {p q : Addr} (hp : g ≠ p.block ∧ g ≠ q.block) (u v : Value) : Blk ((w.setCell p u).setCell q v) g t cs := (h.far hp.1 u).far hp.2 v
theorem Blk.below {B : Nat} (h : Blk w g t cs) (hb : Below B w w') (hg : g < B) : Blk w' g t cs := (hb.block g hg).trans h
theorem Blk.set2 {x0 x1 : Value} (h : Blk w g t #[x0, x1]) (y0 y1 : Value) : Blk ((w.setCell ⟨g, 0, none⟩ y0).setCell ⟨g, 1, none⟩ y1) g t #[y0, y1] := (h.set_ 0 y0).set_ 1 y1
theorem Blk.next (h : Blk w g t cs) (hb : Below w.heap.size w w') : Blk w' g t cs := h.below hb h.lt
end
end Go.Proofs.YtmghpoagpiljhaaDoor
