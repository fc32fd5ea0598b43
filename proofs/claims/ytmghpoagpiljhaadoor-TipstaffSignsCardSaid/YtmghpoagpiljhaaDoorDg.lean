/- The walks of package digest, first part: rotations, the words of a block. -/
import Derived.Test.YtmghpoagpiljhaaDoorB32
import Derived.Test.YtmghpoagpiljhaaDoorSha2
set_option linter.unusedSimpArgs false
set_option linter.unusedVariables false
namespace Go.Proofs.YtmghpoagpiljhaaDoor
open Go.RowKit
theorem rot_all : ∀ n : Nat, n < 32 → 0 < n → bits .and .u64 (IntKind.u64.wrap (-(n : Int))) 31 = ((32 - n : Nat) : Int) := by decide +kernel
theorem shl_mod (x : BitVec 32) (k : Nat) (h : k ≤ 32) : T3 x * 2 ^ k % 4294967296 = T3 (x <<< k) := by
  rw [← u3_shl, IntKind.wrap_u32, Nat.min_eq_left h]
theorem shr_div (x : BitVec 32) (k : Nat) (h : k ≤ 32) : T3 x / 2 ^ k = T3 (x >>> k) := by
  rw [← u3_shr, Nat.min_eq_left h]
theorem rot_val (x : BitVec 32) (n : Nat) (h0 : 0 < n) (h1 : n < 32) : bits .or .u32 (T3 x * 2 ^ (32 - n) % 4294967296) (T3 x / 2 ^ (32 - (32 - n))) = T3 (PlainSha.rr x n) := by
  rw [shl_mod _ _ (by omega), shr_div _ _ (by omega), u3_or, show 32 - (32 - n) = n by omega]
  rfl
theorem rot_c (x : BitVec 32) (n : Nat) (h0 : 0 < n) (h1 : n < 32) (w : World) : Calls Tryd.prog 73 #[wv x, .int .i64 (-(n : Int))] w fun e w' => e = .returned (wv (PlainSha.rr x n)) ∧ w' = w := by
  have hs := rot_all n h1 h0
  go_enter Tryd.func73, Tryd.ntmps73
  go_wp2
  go_ret
  exact ⟨by rw [rot_val x n h0 h1]; rfl, rfl⟩
theorem neg_n (n : Nat) (h : n < 32) : wrap64 (-(n : Int)) = -(n : Int) := by rw [IntWalk.wrap64_in _ (by constructor <;> omega)]
theorem drot_c (x : BitVec 32) (n : Nat) (h0 : 0 < n) (h1 : n < 32) (w : World) : Calls Tryd.prog 48 #[wv x, .int .i64 (n : Int)] w fun e w' => e = .returned (wv (PlainSha.rr x n)) ∧ w' = w := by
  have hn := neg_n n h1
  go_enter Tryd.func48, Tryd.ntmps48
  go_wp2_with fail
  refine (rot_c x n h0 h1 _).mono ?_
  rintro e w' ⟨rfl, rfl⟩
  go_wp2
  go_ret
  exact ⟨rfl, rfl⟩
/-! ### rows of words and of bytes -/
def upd3 (f : Nat → BitVec 32) (i : Nat) (v : BitVec 32) : Nat → BitVec 32 := fun j => if j = i then v else f j
def wvs (n : Nat) (f : Nat → BitVec 32) : Array Value := Array.ofFn (n := n) fun i => wv (f i)
theorem wvs_size (n : Nat) (f : Nat → BitVec 32) : (wvs n f).size = n := by simp [wvs]
theorem wvs_get {n : Nat} (f : Nat → BitVec 32) {i : Nat} (h : i < n) : (wvs n f)[i]? = some (wv (f i)) := by simp [wvs, h]
theorem wvs_one (n : Nat) (f : Nat → BitVec 32) : (wvs n f).all (·.oneCell') = true := by
  rw [Array.all_eq_true_iff_forall_mem]
  intro v hv
  obtain ⟨i, hi, rfl⟩ := Array.mem_iff_getElem.1 hv
  simp [wvs]
  rfl
theorem wvs_ext {n : Nat} {f g : Nat → BitVec 32} (h : ∀ i, i < n → f i = g i) : wvs n f = wvs n g := by
  apply Array.ext_getElem?
  intro i
  by_cases hi : i < n
  · rw [wvs_get f hi, wvs_get g hi, h i hi]
  · rw [Array.getElem?_eq_none (by rw [wvs_size]; omega), Array.getElem?_eq_none (by rw [wvs_size]; omega)]
theorem wvs_set {n : Nat} (f : Nat → BitVec 32) {i : Nat} (hi : i < n) (v : BitVec 32) : (wvs n f).setIfInBounds i (wv v) = wvs n (upd3 f i v) := by
  apply Array.ext_getElem?
  intro j
  rw [Array.getElem?_setIfInBounds]
  by_cases e : i = j
  · subst e
    rw [if_pos rfl, if_pos (by rw [wvs_size]; exact hi), wvs_get _ hi]
    simp [upd3]
  · rw [if_neg e]
    by_cases hj : j < n
    · rw [wvs_get _ hj, wvs_get _ hj]; simp [upd3, Ne.symm e]
    · rw [Array.getElem?_eq_none (by rw [wvs_size]; omega), Array.getElem?_eq_none (by rw [wvs_size]; omega)]
def bvs (l : List (BitVec 8)) : List Value := l.map fun c => bv c
end Go.Proofs.YtmghpoagpiljhaaDoor
