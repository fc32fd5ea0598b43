/- The walk of the law TipstaffSigns. -/
import Derived.Test.YtmghpoagpiljhaaDoorFnd3
import Derived.Test.YtmghpoagpiljhaaDoorCut
import Derived.Test.YtmghpoagpiljhaaDoorDg7
set_option linter.unusedSimpArgs false
set_option linter.unusedVariables false
namespace Go.Proofs.YtmghpoagpiljhaaDoor
open Go.RowKit
open PlainSha (secret leafT out sum allTo keyT)
/-- What stands once the key is in the registry. -/
structure St (w : World) (L : List (BitVec 8)) (gs r ge ce : Nat) (cs : Array Value) (k : List (BitVec 8)) (b : Bool) (W : World) : Prop where
  low : Below w.heap.size w W
  sum : Blk W gs 23 (b32 L)
  reg : Reg1 W r ge ce cs k b
theorem St.next {w W W' : World} {L k : List (BitVec 8)} {gs r ge ce : Nat} {cs : Array Value} {b : Bool} (h : St w L gs r ge ce cs k b W) (hb : Below W.heap.size W W') : St w L gs r ge ce cs k b W' := ⟨Bl_trans h.low hb, h.sum.next hb, h.reg.next hb⟩
theorem T1_ne {a b : BitVec 8} (h : a ≠ b) : ¬ T1 a = T1 b := fun e => h (by unfold T1 at e; exact BitVec.eq_of_toNat_eq (by omega))
theorem new1_at (w : World) (c : BitVec 8) : (w.alloc (.cells #[bv c] 5)).cell? ⟨w.heap.size, 0, none⟩ = some (bv c) := (Blk.new w 5 #[bv c]).cell 0
set_option maxRecDepth 100000 in
set_option maxHeartbeats 1600000 in
theorem walk_TipstaffSigns (ao : Option Addr) (n cap : Nat) (t : List (BitVec 8)) (x y : BitVec 8) (w : World) (hT : Tabs w) (hb : Bytes w ao n cap t) : Calls Tryd.prog 3 #[.slice ao n cap, bv x, bv y] w fun e w' => e = .returned (.bool true) ∧ Below w.heap.size w w' := by
  have HT := Lib.hid (show ∀ w', Below w.heap.size w w' → Tabs w' from fun w' b => hT.next b)
  have KC := Lib.hid (cut_c ao n cap t w hb); clear hT hb
  go_enter Tryd.func3, Tryd.ntmps3
  go_wp2_with fail
  refine KC.out.mono ?_
  rintro e w1 ⟨g1, k1, c1, l1, rfl, hB, hk1, hl1, hc1⟩
  clear KC
  have KS := Lib.hid (sum_c l1 k1 hl1 (by omega) g1 0 c1 w1 (HT.out _ hB) (fun j hj => by rw [Nat.zero_add]; exact hc1 j hj))
  clear hc1
  go_wp2_with fail
  refine KS.out.mono ?_
  rintro e w2 ⟨rfl, hb2⟩
  replace hB := Bl_trans hB hb2; clear hb2 KS hl1
  obtain ⟨L, hL⟩ : ∃ L, L = out (sum l1) := ⟨_, rfl⟩
  have hLl : L.length = 32 := by rw [hL]; exact PlainSha.out_length _
  rw [← hL]; clear hL
  have hi := b32_info L
  go_wp2_with (refine wpList_store_whole rfl 23 (.tmp 7) (.tmp 18) rfl w2.heap.size (b32 L) rfl rfl 23 _ (Blk.new w2 _ _) hi (by unfold b32; rw [bws_size]; rfl) (bws_one _ _) ?_)
  intro w3 hS
  have hS3 := hS.blk
  have hgs : w.heap.size ≤ w2.heap.size := hB.size
  replace hB : Below w.heap.size w w3 := hS.bel (Bl_alloc hB _) hgs
  clear hS
  generalize w2.heap.size = gs at *
  have HB3 := Lib.hid hB; clear hB
  have KN := Lib.hid (new_c w3)
  go_wp2_with fail
  refine KN.out.mono ?_
  rintro e w4 ⟨rfl, rfl⟩
  clear KN
  have hr4 : Reg0 (w3.alloc (.cells #[.slice none 0 0] 60)) w3.heap.size := Blk.new w3 _ _
  have hS4 := hS3.alloc (.cells #[.slice none 0 0] 60)
  have hB4 : Below w.heap.size w (w3.alloc (.cells #[.slice none 0 0] 60)) := Bl_alloc HB3.out _
  have hgr : w.heap.size ≤ w3.heap.size := HB3.out.size
  have hgsr : gs ≠ w3.heap.size := Nat.ne_of_lt hS3.lt
  generalize (w3.alloc (.cells #[.slice none 0 0] 60)) = w4 at *
  generalize w3.heap.size = r at *
  clear hS3 HB3
  have KT := Lib.hid (stands_c w4 (HT.out _ hB4))
  go_wp2_with fail
  refine KT.out.mono ?_
  rintro e w5 ⟨rfl, hb⟩
  have hr5 := hr4.next hb; have hS5 := hS4.next hb; have hB5 := Bl_trans hB4 hb
  clear KT hb hr4 hS4 hB4
  go_wp2_with fail
  -- REST
  have h6 := Bl_alloc (Bl_refl w5) (.cells #[bv x] 5)
  have KK := Lib.hid (key_c x w5.heap.size 0 1 (w5.alloc (.cells #[bv x] 5)) (HT.out _ (Bl_trans hB5 h6)) (new1_at w5 x))
  refine KK.out.mono ?_
  rintro e w7 ⟨rfl, hb⟩
  have h7 := Bl_trans h6 hb
  have hr7 := hr5.next h7; have hS7 := hS5.next h7; have hB7 := Bl_trans hB5 h7
  clear KK hb h6 h7 hr5 hS5 hB5
  obtain ⟨k, hk⟩ : ∃ k, k = keyT x := ⟨_, rfl⟩
  have hkl : k.length = 32 := by rw [hk]; exact PlainSha.out_length _
  rw [← hk]
  have KA := Lib.hid (add_c k hkl r w7 hr7)
  have HKX := Lib.hid hk; clear hk
  go_wp2_with fail
  refine KA.out.mono ?_
  rintro e w8 ⟨rfl, hbut, ge, ce, cs, hreg, hge⟩
  have HS8 := Lib.hid (show St w L gs r ge ce cs k false w8 from ⟨hbut.bel hB7 hgr hB7.size, hbut.far hgsr hS7, hreg⟩)
  have HGE := Lib.hid (Nat.le_trans hB7.size hge)
  have HNE := Lib.hid (show gs ≠ ge from Nat.ne_of_lt (Nat.lt_of_lt_of_le hS7.lt hge))
  clear KA hbut hreg hge hr7 hS7 hB7
  by_cases hyx : y = x
  · have hxy := hyx.symm; clear hyx; subst hxy
    have HS0 := HS8; clear HS8
    go_upto_region 9 with fail
    have hx := Bl_alloc (Bl_refl w8) (.cells #[bv x] 5)
    have S9 := HS0.out.next hx
    have Bs := S9.sum; have hi9 := b32_info L
    have KG := Lib.hid (sign_c x L w8.heap.size 0 1 (w8.alloc (.cells #[bv x] 5)) (HT.out _ S9.low) (new1_at w8 x))
    obtain ⟨M, hM⟩ : ∃ M, M = b32 L := ⟨_, rfl⟩
    rw [← hM] at Bs hi9 KG; have HM := Lib.hid hM; clear hM
    go_wp2_with (first | (refine wpList_load_whole rfl 23 (.tmp 7) rfl gs rfl 23 M _ Bs Tryd.underlying23 rfl hi9 ?_))
    refine KG.out.mono ?_
    rintro e w9 ⟨gz, cz, rfl, hb9, _, _, hnz, hcz, _⟩
    have HS9 := Lib.hid (S9.next hb9); clear S9 hb9 KG hx Bs
    have KF := Lib.hid (find_live_c k L hkl x r ge ce gz cz hnz cs w9 HS9.out.reg (HT.out _ HS9.out.low) hcz)
    rw [if_pos HKX.out.symm, ← HM.out] at KF
    have Bs := HS9.out.sum; rw [← HM.out] at Bs
    clear hcz
    go_wp2_with (first | (refine wpList_load_whole rfl 23 (.tmp 7) rfl gs rfl 23 M _ Bs Tryd.underlying23 rfl hi9 ?_))
    refine KF.out.mono ?_
    rintro e w10 ⟨rfl, hb10⟩
    have HS10 := Lib.hid (HS9.out.next hb10); clear hb10 KF Bs
    go_wp2_with fail
    have h11 := Bl_alloc (Bl_refl w10) (.cells #[bv x] 5)
    have KK := Lib.hid (key_c x w10.heap.size 0 1 (w10.alloc (.cells #[bv x] 5)) (HT.out _ (HS10.out.next h11).low) (new1_at w10 x))
    rw [← HKX.out] at KK
    refine KK.out.mono ?_
    rintro e w11 ⟨rfl, hb⟩
    have HS11 := Lib.hid ((HS10.out.next h11).next hb); clear h11 hb KK
    have KH := Lib.hid (has_c k false hkl r ge ce cs w11 HS11.out.reg)
    go_wp2_with fail
    refine KH.out.mono ?_
    rintro e w12 ⟨rfl, hb⟩
    have HS12 := Lib.hid (HS11.out.next hb); clear hb KH
    have KP := Lib.hid (spend_c k r ge ce cs w12 HS12.out.reg)
    go_wp2_with fail
    refine KP.out.mono ?_
    rintro e w13 ⟨rfl, hbut, cs2, hreg2⟩
    have HS13 := Lib.hid (show St w L gs r ge ce cs2 k true w13 from ⟨hbut.bel HS12.out.low HGE.out HS12.out.low.size, hbut.far HNE.out HS12.out.sum, hreg2⟩)
    clear hbut hreg2 KP
    have KQ := Lib.hid (find_spent_c k M M r ge ce gz cz cs2 w13 HS13.out.reg)
    have Bs := HS13.out.sum; rw [← HM.out] at Bs
    go_wp2_with (first | (refine wpList_load_whole rfl 23 (.tmp 7) rfl gs rfl 23 M _ Bs Tryd.underlying23 rfl hi9 ?_))
    refine KQ.out.mono ?_
    rintro e w14 ⟨rfl, hb⟩
    have HS14 := Lib.hid (HS13.out.next hb); clear hb KQ Bs
    go_wp2_with fail
    have h15 := Bl_alloc (Bl_refl w14) (.cells #[bv x] 5)
    have KK := Lib.hid (key_c x w14.heap.size 0 1 (w14.alloc (.cells #[bv x] 5)) (HT.out _ (HS14.out.next h15).low) (new1_at w14 x))
    rw [← HKX.out] at KK
    refine KK.out.mono ?_
    rintro e w15 ⟨rfl, hb⟩
    have HS15 := Lib.hid ((HS14.out.next h15).next hb); clear h15 hb KK
    have KH := Lib.hid (has_c k true hkl r ge ce cs2 w15 HS15.out.reg)
    go_wp2_with fail
    refine KH.out.mono ?_
    rintro e w16 ⟨rfl, hb⟩
    have HS16 := Lib.hid (HS15.out.next hb); clear hb KH
    have KL := Lib.hid (len_c k true r ge ce cs2 w16 HS16.out.reg)
    go_wp2_with fail
    refine KL.out.mono ?_
    rintro e w17 ⟨rfl, hb⟩
    have HB17 := Lib.hid (HS16.out.next hb).low; clear hb KL
    go_wp2_with fail
    go_ret
    exact ⟨rfl, HB17.out⟩
  · have hne := T1_ne hyx; have HYX := Lib.hid hyx; clear hyx
    go_upto_region 6 with fail
    obtain ⟨M, hM⟩ : ∃ M, M = b32 L := ⟨_, rfl⟩
    have hi9 := b32_info L
    rw [← hM] at hi9
    have hd : Below w8.heap.size w8 w8.drew := (Bl_refl w8).drew
    have HSd := Lib.hid (HS8.out.next hd); clear hd
    refine wp_region_N (fun w' => Blk w' gs 23 M) (fun _ => true) (by kernel_rfl) ?_
    generalize w8.drew = wd at *
    have Bs := HSd.out.sum; rw [← hM] at Bs; have HM := Lib.hid hM; clear hM
    refine wpAnyN_take 0 (some 34) (Value.pointer (some ⟨r, 0, none⟩)) rfl rfl (by kernel_rfl) (by kernel_rfl) (by kernel_rfl) (by kernel_rfl) (fun _ _ _ h => h) rfl (fun w' hw' => by go_simp) Bs ?_
    simp only [Act.put, List.setIfInBounds_toArray, List.set_cons_zero, List.set_cons_succ]
    refine wpAnyN_take 1 (some 35) (.agg M) rfl rfl (by kernel_rfl) (by kernel_rfl) (by kernel_rfl) (by kernel_rfl) (fun _ _ _ h => h) rfl (fun w' hw' => exec_row 23 (.tmp 7) rfl gs 0 rfl 23 M M _ hw' Tryd.underlying23 rfl hi9 (row_self M)) Bs ?_
    simp only [Act.put, List.setIfInBounds_toArray, List.set_cons_zero, List.set_cons_succ]
    refine wpAnyN_take 2 (some 36) (bv y) rfl rfl (by kernel_rfl) (by kernel_rfl) (by kernel_rfl) (by kernel_rfl) (fun _ _ _ h => h) rfl (fun w' hw' => by go_simp) Bs ?_
    simp only [Act.put, List.setIfInBounds_toArray, List.set_cons_zero, List.set_cons_succ]
    refine wpAnyN_take 4 (some 38) (.agg M) rfl rfl (by kernel_rfl) (by kernel_rfl) (by kernel_rfl) (by kernel_rfl) (fun _ _ _ h => h) rfl (fun w' hw' => exec_row 23 (.tmp 7) rfl gs 0 rfl 23 M M _ hw' Tryd.underlying23 rfl hi9 (row_self M)) Bs ?_
    simp only [Act.put, List.setIfInBounds_toArray, List.set_cons_zero, List.set_cons_succ]
    refine wpAnyN_one 3 rfl (by kernel_rfl) ?_
    simp only [List.getElem_toArray, List.getElem_cons_succ, List.getElem_cons_zero]
    go_wp2_with fail
    have hx := Bl_alloc (Bl_refl wd) (.cells #[bv y] 5)
    have S9 := HSd.out.next hx; clear hx
    replace Bs := S9.sum; rw [← HM.out] at Bs
    refine ⟨fun _ => Bs, ?_⟩
    have KG := Lib.hid (sign_c y L wd.heap.size 0 1 (wd.alloc (.cells #[bv y] 5)) (HT.out _ S9.low) (new1_at wd y))
    rw [← HM.out] at KG
    refine wpAnyN_one 5 rfl (by kernel_rfl) ?_
    simp only [List.getElem_toArray, List.getElem_cons_succ, List.getElem_cons_zero]
    go_wp2_with fail
    refine KG.out.mono ?_
    rintro e w9 ⟨gz, cz, rfl, hb9, _, _, hnz, hcz, _⟩
    have HS9 := Lib.hid (S9.next hb9); clear S9 hb9 KG
    replace Bs := HS9.out.sum; rw [← HM.out] at Bs
    go_wp2_with fail
    refine ⟨fun _ => Bs, ?_⟩
    have KF := Lib.hid (find_live_c k L hkl y r ge ce gz cz hnz cs w9 HS9.out.reg (HT.out _ HS9.out.low) hcz)
    rw [if_neg (show ¬ keyT y = k from fun e => PlainSha.keyT_apart HYX.out (e.trans HKX.out)), ← HM.out] at KF
    clear hcz
    refine wpAnyN_one 6 rfl (by kernel_rfl) ?_
    simp only [List.getElem_toArray, List.getElem_cons_succ, List.getElem_cons_zero]
    go_wp2_with fail
    refine KF.out.mono ?_
    rintro e w10 ⟨rfl, hb10⟩
    have HS10 := Lib.hid (HS9.out.next hb10); clear hb10 KF
    replace Bs := HS10.out.sum; rw [← HM.out] at Bs
    go_wp2_with fail
    refine ⟨fun _ => Bs, ?_⟩
    refine wpAnyN_one 7 rfl (by kernel_rfl) ?_
    simp only [List.getElem_toArray, List.getElem_cons_succ, List.getElem_cons_zero]
    go_wp2_with fail
    refine ⟨fun _ => Bs, ?_⟩
    refine wpAnyN_take 8 (some 41) (Value.int .i64 0) rfl rfl (by kernel_rfl) (by kernel_rfl) (by kernel_rfl) (by kernel_rfl) (fun _ _ _ h => h) rfl (fun w' hw' => by go_simp) Bs ?_
    simp only [Act.put, List.setIfInBounds_toArray, List.set_cons_zero, List.set_cons_succ]
    refine wpAnyN_take 9 (some 42) (Value.int .i64 129) rfl rfl (by kernel_rfl) (by kernel_rfl) (by kernel_rfl) (by kernel_rfl) (fun _ _ _ h => h) rfl (fun w' hw' => by go_simp) Bs ?_
    simp only [Act.put, List.setIfInBounds_toArray, List.set_cons_zero, List.set_cons_succ]
    refine wpAnyN_one 10 rfl (by kernel_rfl) ?_
    simp only [List.getElem_toArray, List.getElem_cons_succ, List.getElem_cons_zero]
    go_wp2_with fail
    refine ⟨fun _ => Bs, ?_⟩
    refine wpAnyN_one 11 rfl (by kernel_rfl) ?_
    simp only [List.getElem_toArray, List.getElem_cons_succ, List.getElem_cons_zero]
    go_wp2_with fail
    refine ⟨fun _ => Bs, wpAnyN_done (by kernel_rfl) ?_⟩
    go_upto_region 9 with fail
    have HS0 := HS10; clear Bs HSd HS8 HS9 HS10 hi9 HM hnz hne
    have hx := Bl_alloc (Bl_refl w10) (.cells #[bv x] 5)
    have S9 := HS0.out.next hx
    have Bs := S9.sum; have hi9 := b32_info L
    have KG := Lib.hid (sign_c x L w10.heap.size 0 1 (w10.alloc (.cells #[bv x] 5)) (HT.out _ S9.low) (new1_at w10 x))
    obtain ⟨M, hM⟩ : ∃ M, M = b32 L := ⟨_, rfl⟩
    rw [← hM] at Bs hi9 KG; have HM := Lib.hid hM; clear hM
    go_wp2_with (first | (refine wpList_load_whole rfl 23 (.tmp 7) rfl gs rfl 23 M _ Bs Tryd.underlying23 rfl hi9 ?_))
    refine KG.out.mono ?_
    rintro e w9 ⟨gz, cz, rfl, hb9, _, _, hnz, hcz, _⟩
    have HS9 := Lib.hid (S9.next hb9); clear S9 hb9 KG hx Bs
    have KF := Lib.hid (find_live_c k L hkl x r ge ce gz cz hnz cs w9 HS9.out.reg (HT.out _ HS9.out.low) hcz)
    rw [if_pos HKX.out.symm, ← HM.out] at KF
    have Bs := HS9.out.sum; rw [← HM.out] at Bs
    clear hcz
    go_wp2_with (first | (refine wpList_load_whole rfl 23 (.tmp 7) rfl gs rfl 23 M _ Bs Tryd.underlying23 rfl hi9 ?_))
    refine KF.out.mono ?_
    rintro e w10 ⟨rfl, hb10⟩
    have HS10 := Lib.hid (HS9.out.next hb10); clear hb10 KF Bs
    go_wp2_with fail
    have h11 := Bl_alloc (Bl_refl w10) (.cells #[bv x] 5)
    have KK := Lib.hid (key_c x w10.heap.size 0 1 (w10.alloc (.cells #[bv x] 5)) (HT.out _ (HS10.out.next h11).low) (new1_at w10 x))
    rw [← HKX.out] at KK
    refine KK.out.mono ?_
    rintro e w11 ⟨rfl, hb⟩
    have HS11 := Lib.hid ((HS10.out.next h11).next hb); clear h11 hb KK
    have KH := Lib.hid (has_c k false hkl r ge ce cs w11 HS11.out.reg)
    go_wp2_with fail
    refine KH.out.mono ?_
    rintro e w12 ⟨rfl, hb⟩
    have HS12 := Lib.hid (HS11.out.next hb); clear hb KH
    have KP := Lib.hid (spend_c k r ge ce cs w12 HS12.out.reg)
    go_wp2_with fail
    refine KP.out.mono ?_
    rintro e w13 ⟨rfl, hbut, cs2, hreg2⟩
    have HS13 := Lib.hid (show St w L gs r ge ce cs2 k true w13 from ⟨hbut.bel HS12.out.low HGE.out HS12.out.low.size, hbut.far HNE.out HS12.out.sum, hreg2⟩)
    clear hbut hreg2 KP
    have KQ := Lib.hid (find_spent_c k M M r ge ce gz cz cs2 w13 HS13.out.reg)
    have Bs := HS13.out.sum; rw [← HM.out] at Bs
    go_wp2_with (first | (refine wpList_load_whole rfl 23 (.tmp 7) rfl gs rfl 23 M _ Bs Tryd.underlying23 rfl hi9 ?_))
    refine KQ.out.mono ?_
    rintro e w14 ⟨rfl, hb⟩
    have HS14 := Lib.hid (HS13.out.next hb); clear hb KQ Bs
    go_wp2_with fail
    have h15 := Bl_alloc (Bl_refl w14) (.cells #[bv x] 5)
    have KK := Lib.hid (key_c x w14.heap.size 0 1 (w14.alloc (.cells #[bv x] 5)) (HT.out _ (HS14.out.next h15).low) (new1_at w14 x))
    rw [← HKX.out] at KK
    refine KK.out.mono ?_
    rintro e w15 ⟨rfl, hb⟩
    have HS15 := Lib.hid ((HS14.out.next h15).next hb); clear h15 hb KK
    have KH := Lib.hid (has_c k true hkl r ge ce cs2 w15 HS15.out.reg)
    go_wp2_with fail
    refine KH.out.mono ?_
    rintro e w16 ⟨rfl, hb⟩
    have HS16 := Lib.hid (HS15.out.next hb); clear hb KH
    have KL := Lib.hid (len_c k true r ge ce cs2 w16 HS16.out.reg)
    go_wp2_with fail
    refine KL.out.mono ?_
    rintro e w17 ⟨rfl, hb⟩
    have HB17 := Lib.hid (HS16.out.next hb).low; clear hb KL
    go_wp2_with fail
    go_ret
    exact ⟨rfl, HB17.out⟩
end Go.Proofs.YtmghpoagpiljhaaDoor
