/- The walk of registry's Find, with one entry. -/
import Derived.Test.YtmghpoagpiljhaaDoorVer
set_option linter.unusedSimpArgs false
set_option linter.unusedVariables false
namespace Go.Proofs.YtmghpoagpiljhaaDoor
open Go.RowKit
open PlainSha (secret leafT out sum allTo keyT)
theorem secret_len (s : BitVec 8) (i b : Nat) : (secret s i b).length = 32 := PlainSha.out_length _
theorem leafT_len (l : List (BitVec 8)) : (leafT l).length = 32 := PlainSha.out_length _
theorem sigT_len (s : BitVec 8) (l : List (BitVec 8)) : ∀ n, (sigT s l n).length = 64 * n
  | 0 => rfl
  | n + 1 => by
    show (sigT s l n ++ (secret s n (bitN l n) ++ leafT (secret s n (1 - bitN l n)))).length = _
    rw [List.length_append, List.length_append, sigT_len s l n, secret_len, leafT_len]; omega
theorem getD_l {a b : List (BitVec 8)} {i : Nat} (h : i < a.length) : (a ++ b).getD i 0 = a.getD i 0 := by
  rw [List.getD_eq_getElem?_getD, List.getD_eq_getElem?_getD, List.getElem?_append_left h]
theorem getD_r {a b : List (BitVec 8)} {i n : Nat} (h : a.length = n) : (a ++ b).getD (n + i) 0 = b.getD i 0 := by
  rw [List.getD_eq_getElem?_getD, List.getD_eq_getElem?_getD, List.getElem?_append_right (by omega)]
  congr 2; omega
theorem sigT_A (s : BitVec 8) (l : List (BitVec 8)) (x j : Nat) (hj : j < 32) : ∀ n, x < n → (sigT s l n).getD (64 * x + j) 0 = (secret s x (bitN l x)).getD j 0
  | 0, h => absurd h (by omega)
  | n + 1, h => by
    show (sigT s l n ++ (secret s n (bitN l n) ++ leafT (secret s n (1 - bitN l n)))).getD _ 0 = _
    by_cases e : x = n
    · subst e
      rw [getD_r (sigT_len s l x), getD_l (by rw [secret_len]; exact hj)]
    · rw [getD_l (by rw [sigT_len]; omega)]
      exact sigT_A s l x j hj n (by omega)
theorem sigT_B (s : BitVec 8) (l : List (BitVec 8)) (x j : Nat) (hj : j < 32) : ∀ n, x < n → (sigT s l n).getD (64 * x + 32 + j) 0 = (leafT (secret s x (1 - bitN l x))).getD j 0
  | 0, h => absurd h (by omega)
  | n + 1, h => by
    show (sigT s l n ++ (secret s n (bitN l n) ++ leafT (secret s n (1 - bitN l n)))).getD _ 0 = _
    by_cases e : x = n
    · subst e
      rw [Nat.add_assoc, getD_r (sigT_len s l x), getD_r (secret_len s x _)]
    · rw [getD_l (by rw [sigT_len]; omega)]
      exact sigT_B s l x j hj n (by omega)
/-- A signature is verified. -/
theorem verify_sig (k l : List (BitVec 8)) (hk : k.length = 32) (o : BitVec 8) (g cap : Nat) (hcap : 2048 ≤ cap) (w : World) (hT : Tabs w) (hc : ∀ j, j < 2048 → w.cell? ⟨g, j, none⟩ = some (bv ((sigT o l 32).getD j 0))) :
    Calls Tryd.prog 30 #[.agg (b32 k), .agg (b32 l), .slice (some ⟨g, 0, none⟩) 2048 cap] w fun e w' => e = .returned (.int .i64 (if keyT o = k then 0 else 129)) ∧ Below w.heap.size w w' := by
  have h := verify_c k l hk (fun x => secret o x (bitN l x)) (fun x => leafT (secret o x (1 - bitN l x))) (fun x => secret_len _ _ _) (fun x => leafT_len _) g cap hcap w hT
    (fun x j hx hj => by rw [hc _ (by omega), sigT_A o l x j hj 32 hx]) (fun x j hx hj => by rw [hc _ (by omega), sigT_B o l x j hj 32 hx])
  rw [verT_key o l 32 (Nat.le_refl _)] at h
  exact h
theorem wpList_row_g {P : Program} {ops : Array Oper} {Q : Exit → Act → World → Prop} {rest : List Oper} {o : Oper} {a : Act} {w : World} (v : Value) (hw : Region.wanted o (yielded ops a.tmps) = true)
    (hex : (execOp a.eval o).run P w = .ok (.value v) w) (h : wpList P ops Q rest (a.put o.dst v) w) : wpList P ops Q (o :: rest) a w := by
  unfold wpList
  rw [if_pos hw]
  exact .inl (by unfold Oper.wp; rw [hex]; exact h)
end Go.Proofs.YtmghpoagpiljhaaDoor
